/- A heap in memory: which comes ahead; a thing laid at a place. -/
import Derived.Test.YtafeopcbfgmjkaaDoorHeapP
import Derived.Test.YtafeopcbfgmjkaaDoorMapU
import Derived.Test.YtafeopcbfgmjkaaDoorReg
import Derived.Test.YtafeopcbfgmjkaaDoorStill
import Derived.BigQuiet
import Derived.Deep.QuietTactic
import Derived.WalkSmall
import Derived.Laws.OwnMore
namespace Go.Proofs.YtafeopcbfgmjkaaDoor
open Go.RowKit Go.Maps

abbrev thV (t : Th) : Value := .agg #[.int .u64 t.d, .int .u64 t.what, .int .i64 t.h]
def thC (t : Th) : List Value := [.int .u64 t.d, .int .u64 t.what, .int .i64 t.h]
theorem thC_len (t : Th) : (thC t).length = 3 := rfl
theorem keyI : Tryd.prog.underlying 3 = some (.int .i64) := Tryd.underlying3
theorem zeroI (w : World) : (zeroValue 3).run Tryd.prog w = .ok (.int .i64 0) w := by kernel_rfl
def ahB (a b : Th) : Bool := decide (ah a b)
theorem ahB_true {a b : Th} (h : ahB a b = true) : ah a b := of_decide_eq_true h
theorem ahB_false {a b : Th} (h : ahB a b = false) : ¬ ah a b := of_decide_eq_false h

set_option maxRecDepth 100000 in
set_option maxHeartbeats 400000 in
theorem ahead_any (a b : Th) (w : World) (h1 : a.d < 18446744073709551616) (h2 : b.d < 18446744073709551616) :
    Calls Tryd.prog 39 #[thV a, thV b] w fun e w' => e = .returned (.bool (ahB a b)) ∧ New w w' := by
  by_cases e1 : a.d < b.d
  · have hr : ahB a b = true := decide_eq_true (.inl e1)
    rw [hr]
    have q1 : (a.d : Int) < (b.d : Int) := by omega
    have q2 : decide (a.d < b.d) = true := by simpa using e1
    clear hr
    go_enter Tryd.func39, Tryd.ntmps39
    go_wp2
    go_ret
    exact ⟨rfl, ((Fr.refl _ _).alloc _).alloc _⟩
  · by_cases e2 : a.d = b.d
    · by_cases e3 : a.h < b.h
      · have hr : ahB a b = true := decide_eq_true (.inr ⟨e2, e3⟩)
        rw [hr, show thV a = .agg #[.int .u64 b.d, .int .u64 a.what, .int .i64 a.h] by unfold thV; rw [e2]]
        have q1 : decide (b.d < b.d) = false := by simp
        have q2 : ((b.d : Int) == (b.d : Int)) = true := by simp
        have q3 : decide (a.h < b.h) = true := by simpa using e3
        have q4 : (a.h : Int) < (b.h : Int) := by omega
        clear hr e1 e2
        go_enter Tryd.func39, Tryd.ntmps39
        go_wp2
        go_ret
        exact ⟨rfl, ((Fr.refl _ _).alloc _).alloc _⟩
      · have hr : ahB a b = false := decide_eq_false (by unfold ah; omega)
        rw [hr, show thV a = .agg #[.int .u64 b.d, .int .u64 a.what, .int .i64 a.h] by unfold thV; rw [e2]]
        have q1 : decide (b.d < b.d) = false := by simp
        have q2 : ((b.d : Int) == (b.d : Int)) = true := by simp
        have q3 : decide (a.h < b.h) = false := by simpa using e3
        have q4 : ¬ (a.h : Int) < (b.h : Int) := by omega
        clear hr e1 e2
        go_enter Tryd.func39, Tryd.ntmps39
        go_wp2
        go_ret
        exact ⟨rfl, ((Fr.refl _ _).alloc _).alloc _⟩
    · have hr : ahB a b = false := decide_eq_false (by unfold ah; omega)
      rw [hr]
      have q1 : decide (a.d < b.d) = false := by simpa using e1
      have q2 : ((a.d : Int) == (b.d : Int)) = false := by rw [beq_eq_false_iff_ne]; omega
      have q4 : ¬ (a.d : Int) < (b.d : Int) := by omega
      clear hr e2
      go_enter Tryd.func39, Tryd.ntmps39
      go_wp2
      go_ret
      exact ⟨rfl, ((Fr.refl _ _).alloc _).alloc _⟩

/-- Block hb is a heap: its things in block g, their places in the map mb. -/
structure HRow (w : World) (hb g mb n cap : Nat) (L : List Th) (last c : Nat) (M : Int → Option Value) : Prop where
  hd : w.heap[hb]? = some (.cells #[.slice (some ⟨g, 0, none⟩) n cap, .map (some mb), .int .i64 last] 82 (0, 0))
  own : w.ownsRow 0 84 3 (.slice (some ⟨g, 0, none⟩) n cap) n (L.flatMap thC)
  map : MapIs Tryd.prog 3 .i64 w mb c M
  fit : ∀ t ∈ L, t.d < 18446744073709551616 ∧ t.what < 18446744073709551616 ∧ 1 ≤ t.h ∧ t.h ≤ last
  few : last ≤ 1000000 ∧ n ≤ 1000000 ∧ c ≤ 1000000

theorem HRow.block {w : World} {hb g mb n cap : Nat} {L : List Th} {last c : Nat} {M : Int → Option Value} (h : HRow w hb g mb n cap L last c M) : ∃ cur, w.heap[g]? = some (.cells cur 84 (0, 0)) := by
  rcases h.own.2 with ⟨h', _⟩ | ⟨g', cap', cur, h', _, hg, _⟩
  · simp at h'
  · simp only [Value.slice.injEq, Option.some.injEq, Addr.mk.injEq, and_true, true_and] at h'
    obtain ⟨rfl, rfl⟩ := h'
    exact ⟨cur, hg⟩
theorem HRow.apart {w : World} {hb g mb n cap : Nat} {L : List Th} {last c : Nat} {M : Int → Option Value} (h : HRow w hb g mb n cap L last c M) : hb ≠ g ∧ mb ≠ hb ∧ mb ≠ g := by
  obtain ⟨cur, hg⟩ := h.block
  refine ⟨?_, h.map.apart h.hd, h.map.apart hg⟩
  rintro rfl
  have := h.hd
  rw [hg, Option.some.injEq, Obj.cells.injEq] at this
  exact absurd this.2.1 (by decide)
theorem HRow.len {w : World} {hb g mb n cap : Nat} {L : List Th} {last c : Nat} {M : Int → Option Value} (h : HRow w hb g mb n cap L last c M) : L.length = n := by
  have := h.own.1
  rw [len_flatMap thC 3 thC_len] at this; omega
theorem HRow.at {w : World} {hb g mb n cap : Nat} {L : List Th} {last c : Nat} {M : Int → Option Value} (h : HRow w hb g mb n cap L last c M) {j : Nat} {t : Th} (hj : L[j]? = some t) :
    w.cell? ⟨g, j * 3, none⟩ = some (.int .u64 t.d) ∧ w.cell? ⟨g, j * 3 + 1, none⟩ = some (.int .u64 t.what) ∧ w.cell? ⟨g, j * 3 + 2, none⟩ = some (.int .i64 t.h) := by
  have hjl : j < n := by rw [← h.len]; exact (List.getElem?_eq_some_iff.1 hj).1
  have k : ∀ i, i < 3 → w.cell? ⟨g, j * 3 + i, none⟩ = (thC t)[i]? := fun i hi => by
    rw [h.own.cellAt _ (by omega), get_flatMap thC 3 thC_len _ _ _ hi, hj]; rfl
  exact ⟨k 0 (by omega), k 1 (by omega), k 2 (by omega)⟩
theorem HRow.keep {w w' : World} {hb g mb n cap : Nat} {L : List Th} {last c : Nat} {M : Int → Option Value} {S : Nat → Prop} (h : HRow w hb g mb n cap L last c M) (f : Fr S w w') (hs : ∀ k, k = hb ∨ k = g ∨ k = mb → ¬ S k) : HRow w' hb g mb n cap L last c M := by
  obtain ⟨cur, hg⟩ := h.block
  refine ⟨by rw [f.block hb (lt_of_block h.hd) (hs _ (.inl rfl))]; exact h.hd, ⟨h.own.1, ?_⟩, h.map.keep f (hs _ (.inr (.inr rfl))), h.fit, h.few⟩
  rcases h.own.2 with ⟨h', _⟩ | ⟨g', cap', cur, h', hb, hg, hr⟩
  · simp at h'
  · have e := h'
    simp only [Value.slice.injEq, Option.some.injEq, Addr.mk.injEq, and_true, true_and] at e
    obtain ⟨rfl, rfl⟩ := e
    exact .inr ⟨g, cap, cur, rfl, hb, by rw [f.block g (lt_of_block hg) (hs _ (.inr (.inl rfl)))]; exact hg, hr⟩
theorem HRow.new {w w' : World} {hb g mb n cap : Nat} {L : List Th} {last c : Nat} {M : Int → Option Value} (h : HRow w hb g mb n cap L last c M) (f : New w w') : HRow w' hb g mb n cap L last c M := h.keep f (fun _ _ => id)

theorem set3 (L : List Th) (i : Nat) (t : Th) (h : i < L.length) : ((((L.flatMap thC).set (i * 3) (.int .u64 t.d)).set (i * 3 + 1) (.int .u64 t.what)).set (i * 3 + 2) (.int .i64 t.h)) = (L.set i t).flatMap thC := by
  apply List.ext_getElem?
  intro o
  have hlen := len_flatMap thC 3 thC_len L
  have hdm := Nat.div_add_mod o 3
  have hm := Nat.mod_lt o (show 0 < 3 by omega)
  generalize hq : o / 3 = q at hdm
  generalize o % 3 = p at hdm hm
  obtain rfl : o = q * 3 + p := by omega
  rw [get_flatMap thC 3 thC_len _ _ _ hm]
  by_cases e : q = i
  · subst e
    rw [List.getElem?_set_self h]
    have hp : p = 0 ∨ p = 1 ∨ p = 2 := by omega
    rcases hp with rfl | rfl | rfl
    · rw [List.getElem?_set_ne (by omega), List.getElem?_set_ne (by omega), Nat.add_zero, List.getElem?_set_self (by omega)]; rfl
    · rw [List.getElem?_set_ne (by omega), List.getElem?_set_self (by rw [List.length_set, hlen]; omega)]; rfl
    · rw [List.getElem?_set_self (by rw [List.length_set, List.length_set, hlen]; omega)]; rfl
  · rw [List.getElem?_set_ne (by omega), List.getElem?_set_ne (by omega), List.getElem?_set_ne (by omega), get_flatMap thC 3 thC_len _ _ _ hm, List.getElem?_set_ne (fun x => e x.symm)]

/-- The world behind the store of a thing. -/
def laid3 (w : World) (g i : Nat) (t : Th) : World := ((w.setCell ⟨g, i * 3, none⟩ (.int .u64 t.d)).setCell ⟨g, i * 3 + 1, none⟩ (.int .u64 t.what)).setCell ⟨g, i * 3 + 2, none⟩ (.int .i64 t.h)
theorem laid3_fr (w : World) (g i : Nat) (t : Th) : Fr (· = g) w (laid3 w g i t) := (((Fr.refl (· = g) w).setCell (fun _ => rfl) _).setCell (fun _ => rfl) _).setCell (fun _ => rfl) _
theorem HRow.laid {w : World} {hb g mb n cap : Nat} {L : List Th} {last c : Nat} {M : Int → Option Value} (h : HRow w hb g mb n cap L last c M) {i : Nat} (hi : i < n) {t : Th} (ht : t.d < 18446744073709551616 ∧ t.what < 18446744073709551616 ∧ 1 ≤ t.h ∧ t.h ≤ last) :
    HRow (laid3 w g i t) hb g mb n cap (L.set i t) last c M := by
  have hap := h.apart
  have hf := laid3_fr w g i t
  refine ⟨by rw [hf.block hb (lt_of_block h.hd) hap.1]; exact h.hd, ?_, h.map.keep hf hap.2.2, fun x hx => ?_, h.few⟩
  · have h3 := (((h.own.stored (i * 3) (.int .u64 t.d)).1.stored (i * 3 + 1) (.int .u64 t.what)).1.stored (i * 3 + 2) (.int .i64 t.h)).1
    rw [set3 L i t (by rw [h.len]; exact hi)] at h3
    exact h3
  · rcases List.mem_or_eq_of_mem_set hx with hx | rfl
    · exact h.fit x hx
    · exact ht

theorem wf_i64 {x : Nat} (h : x ≤ 9223372036854775807) : (Lit.int .i64 (x : Int)).wf = true := by
  simp [Lit.wf, IntKind.min, IntKind.max, IntKind.signed, IntKind.bits]; omega

/-- How many keys there are behind the store of a key. -/
def cntUp (M : Int → Option Value) (h c : Nat) : Nat := if (M (h : Int)).isSome then c else c + 1
def mapUp (M : Int → Option Value) (h i : Nat) : Int → Option Value := fun y => if y = (h : Int) then some (.int .i64 i) else M y
set_option maxRecDepth 100000 in
set_option maxHeartbeats 1000000 in
theorem lay_any (hb g mb n cap : Nat) (L : List Th) (last c : Nat) (M : Int → Option Value) (i : Nat) (t : Th) (w : World) (h : HRow w hb g mb n cap L last c M) (hi : i < n) (ht : t.d < 18446744073709551616 ∧ t.what < 18446744073709551616 ∧ 1 ≤ t.h ∧ t.h ≤ last) (hc : (M (t.h : Int)).isSome = true ∨ c < 1000000) :
    Calls Tryd.prog 37 #[.pointer (some ⟨hb, 0, none⟩), .int .i64 i, thV t] w fun e w' => e = .returned (.tuple #[]) ∧ HRow w' hb g mb n cap (L.set i t) last (cntUp M t.h c) (mapUp M t.h i) ∧ Fr (fun k => k = g ∨ k = mb) w w' := by
  have hap := h.apart
  have hfew := h.few
  have i0 : (0 : Int) ≤ (i : Int) := by omega
  have i1 : (i : Int) < (n : Int) := by omega
  have H := Lib.hid h
  have hd0 := lt_of_block h.hd
  obtain ⟨cur, hgb⟩ := h.block
  have lg := lt_of_block hgb
  obtain ⟨a, ha⟩ : ∃ a, L[i]? = some a := ⟨L[i]'(by rw [h.len]; exact hi), by simp⟩
  obtain ⟨a0, a1, a2⟩ := h.at ha
  have z1 : w.heap.size ≠ hb := by omega
  have z2 : w.heap.size ≠ g := by omega
  clear h hgb ha
  go_enter Tryd.func37, Tryd.ntmps37
  go_wp2_with fail
  obtain ⟨W1, hW1⟩ : ∃ W1, (w.alloc (.cells #[.int .u64 t.d, .int .u64 t.what, .int .i64 t.h] 84)).drew = W1 := ⟨_, rfl⟩
  have f1 : New w W1 := by rw [← hW1]; exact ((Fr.refl _ _).alloc _).drew
  have tb : W1.heap[w.heap.size]? = some (.cells #[.int .u64 t.d, .int .u64 t.what, .int .i64 t.h] 84 (0, 0)) := by rw [← hW1]; exact block_alloc_new _ _
  have h1 := H.out.new f1
  have y0 := cell_of_block h1.hd 0
  have t0 := cell_of_block tb 0
  have t1 := cell_of_block tb 1
  have t2 := cell_of_block tb 2
  have b0 := (f1.cell lg id (i * 3)).trans a0
  have b1 := (f1.cell lg id (i * 3 + 1)).trans a1
  have b2 := (f1.cell lg id (i * 3 + 2)).trans a2
  have bz := h1.own.frozenAt
  have hl1 := lt_of_block h1.hd
  have hl2 := lt_of_block tb
  refine stillTail 7 (by kernel_rfl) (by kernel_rfl) hW1 ?_
  have H1 := Lib.hid h1
  have F1 := Lib.hid f1
  have TB := Lib.hid tb
  clear hW1 h1 f1 tb a0 a1 a2 H
  simp only [List.take_succ_cons, List.take_zero, List.drop_succ_cons, List.drop_zero]
  repeat still_step
  refine wpStill_nil ?_
  go_wp2_with fail
  rw [show ((W1.setCell ⟨g, i * 3, none⟩ (.int .u64 t.d)).setCell ⟨g, i * 3 + 1, none⟩ (.int .u64 t.what)).setCell ⟨g, i * 3 + 2, none⟩ (.int .i64 t.h) = laid3 W1 g i t from rfl]
  obtain ⟨W2, hW2⟩ : ∃ W2, (laid3 W1 g i t).drew = W2 := ⟨_, rfl⟩
  have hf2 : Fr (· = g) W1 W2 := by rw [← hW2]; exact (laid3_fr W1 g i t).drew
  have h2 : HRow W2 hb g mb n cap (L.set i t) last c M := by rw [← hW2]; exact (H1.out.laid hi ht).new ((Fr.refl _ _).drew)
  have d1 := cell_of_block h2.hd 1
  have tb2 := (hf2.block w.heap.size hl2 z2).trans TB.out
  have e0 := cell_of_block tb2 0
  have e2 := cell_of_block tb2 2
  have hl3 := lt_of_block h2.hd
  have hl4 := lt_of_block tb2
  have H2 := Lib.hid h2
  have HF2 := Lib.hid hf2
  refine stillTail 7 (by kernel_rfl) (by kernel_rfl) hW2 ?_
  clear hW2 h2 hf2 tb2 t0 t1 t2 b0 b1 b2 y0 bz H1 TB
  simp only [List.take_succ_cons, List.take_zero, List.drop_succ_cons, List.drop_zero]
  repeat still_step
  refine wpStill_nil ?_
  have HC := Lib.hid hc
  clear hc
  go_wp2_with (at_mapUpdate; go_loud (refine wpList_store_mapIs rfl _ _ _ 79 rfl 3 3 .i64 keyI Tryd.underlying79 mb c M rfl H2.out.map (by unfold maxLen; omega) t.h (.int .i64 i) rfl rfl (wf_i64 (by omega)) ?_; intro w3 hmap hf3))
  go_end0
  have hf4 : Fr (fun k => k = g ∨ k = mb) w w3 := (F1.out.mono (fun _ _ h => h.elim)).trans ((HF2.out.mono (fun _ _ h => .inl h)).trans (hf3.mono (fun _ _ h => .inr h)))
  have hcur := H2.out.keep (S := fun k => False) (w' := W2) (Fr.refl _ _) (fun _ _ => id)
  obtain ⟨cur2, hg2⟩ := hcur.block
  refine ⟨rfl, ⟨?_, ?_, hmap, hcur.fit, ⟨hcur.few.1, hcur.few.2.1, ?_⟩⟩, hf4⟩
  · rw [hf3.block hb (lt_of_block hcur.hd) (fun e => hap.2.1 e.symm)]; exact hcur.hd
  · refine ⟨hcur.own.1, ?_⟩
    rcases hcur.own.2 with ⟨h', _⟩ | ⟨g', cap', cur, h', hb', hg', hr⟩
    · simp at h'
    · have e := h'
      simp only [Value.slice.injEq, Option.some.injEq, Addr.mk.injEq, and_true, true_and] at e
      obtain ⟨rfl, rfl⟩ := e
      exact .inr ⟨g, cap, cur, rfl, hb', by rw [hf3.block g (lt_of_block hg') (fun e => hap.2.2 e.symm)]; exact hg', hr⟩
  · have := HC.out
    unfold cntUp
    split
    · omega
    · rename_i h0; rcases this with h | h
      · exact absurd h h0
      · omega

end Go.Proofs.YtafeopcbfgmjkaaDoor
