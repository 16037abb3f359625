/- The document's queues: finding, the first one, taking out. -/
import Derived.Test.YteeckkkbmlkkiaaDoorWaitF
import Derived.Test.YteeckkkbmlkkiaaDoorDocsB
import Derived.Deep.DeepCutAuto
import Derived.Deep.CutBlock
namespace Go.Proofs.YteeckkkbmlkkiaaDoor
open Go.RowKit

set_option maxRecDepth 100000 in
set_option maxHeartbeats 400000 in
theorem rbucket_any (a n : Nat) (w : World) (h : 1 ≤ n) (hn : n ≤ 9223372036854775807) (ha : a < 18446744073709551616) :
    Calls Tryd.prog 48 #[.int .u64 a, .int .i64 n] w fun e w' => e = .returned (.int .i64 (bucketN a n : Nat)) ∧ w = w' := by
  go_enter Tryd.func48, Tryd.ntmps48
  go_wp2
  go_ret
  exact ⟨ret_int (bucket_spell a n h hn), rfl⟩

def waC (s : Sl) : List Value := [.int .u64 s.id, .int .u64 s.addr, .int .u64 s.mask]
theorem waC_len (s : Sl) : (waC s).length = 3 := rfl
theorem waC_one (L : List Sl) : ∀ u ∈ L.flatMap waC, u.oneCell' = true := by
  intro u hu
  obtain ⟨t, _, hu⟩ := List.mem_flatMap.1 hu
  simp only [waC, List.mem_cons, List.not_mem_nil, or_false] at hu
  rcases hu with rfl | rfl | rfl <;> rfl
theorem rwInfo : (Tryd.prog.info? 102).map (fun i => (i.zero, i.size, i.bytes)) = some (some (.agg #[.int .u64 0, .int .u64 0, .int .u64 0]), 3, 24) := by kernel_rfl
theorem rw_size : (Tryd.prog.info? 102).map (·.size) = some 3 := by kernel_rfl
/-- Block rb is the document's queues. -/
structure DocQ (w : World) (rb : Nat) (v : Value) (L : List Sl) (n : Nat) : Prop where
  hd : w.heap[rb]? = some (.cells #[v, .int .i64 n] 80 (0, 0))
  own : w.ownsRow 0 102 3 v L.length (L.flatMap waC)
  few : 1 ≤ n ∧ n ≤ 64 ∧ L.length ≤ 10000
def dOwn (rb : Nat) (v : Value) (k : Nat) : Prop := k = rb ∨ v.ownBlock = some k
theorem DocQ.keep {w w' : World} {rb : Nat} {v : Value} {L : List Sl} {n : Nat} {T : Nat → Prop} (h : DocQ w rb v L n) (f : Fr T w w') (hs : ∀ k, dOwn rb v k → ¬ T k) : DocQ w' rb v L n :=
  ⟨by rw [f.block rb (lt_of_block h.hd) (hs _ (.inl rfl))]; exact h.hd, own_kept h.own f (fun k hk => hs _ (.inr hk)), h.few⟩
theorem DocQ.new {w w' : World} {rb : Nat} {v : Value} {L : List Sl} {n : Nat} (h : DocQ w rb v L n) (f : New w w') : DocQ w' rb v L n := h.keep f (fun _ _ => id)
theorem DocQ.lt {w : World} {rb : Nat} {v : Value} {L : List Sl} {n : Nat} (h : DocQ w rb v L n) {k : Nat} (hk : dOwn rb v k) : k < w.heap.size := by
  rcases hk with rfl | hk
  · exact lt_of_block h.hd
  · exact (h.own.lt k hk).2
theorem docq_at {w : World} {base N c : Nat} {A : Option Addr} {L : List Sl} (h : w.ownsRow base 102 3 (.slice A N c) N (L.flatMap waC)) {q : Nat} {t : Sl} (ht : L[q]? = some t) :
    ∃ g, A = some ⟨g, 0, none⟩ ∧ g < w.heap.size ∧ w.cell? ⟨g, q * 3, none⟩ = some (.int .u64 t.id) ∧ w.cell? ⟨g, q * 3 + 1, none⟩ = some (.int .u64 t.addr) ∧ w.cell? ⟨g, q * 3 + 2, none⟩ = some (.int .u64 t.mask) := by
  obtain ⟨g, h1, h2, h3⟩ := flat_at waC 3 waC_len h ht (by omega)
  exact ⟨g, h1, h2, h3 0 _ rfl, h3 1 _ rfl, h3 2 _ rfl⟩
theorem docq_end {w w2 : World} {rb N base : Nat} {v v0 v2 : Value} {L L' : List Sl} (h : DocQ w rb v L N) (f : Fr (· = rb) w w2) (hb : w2.heap[rb]? = some (.cells #[v0, .int .i64 N] 80 (0, 0)))
    {n : Nat} (hbase : w.heap.size ≤ base) (hown : w2.ownsRow base 102 3 v2 n (L'.flatMap waC)) (hn : L'.length = n) (hs : L'.length ≤ 10000) :
    DocQ (w2.setCell ⟨rb, 0, none⟩ v2) rb v2 L' N ∧ (∀ k, v2.ownBlock = some k → base ≤ k) ∧ Fr (· = rb) w (w2.setCell ⟨rb, 0, none⟩ v2) := by
  subst hn
  have f3 : Fr (· = rb) w2 (w2.setCell ⟨rb, 0, none⟩ v2) := (Fr.refl (· = rb) w2).setCell (fun _ => rfl) _
  exact ⟨⟨block_setCell hb _, own_kept (hown.mono (Nat.zero_le _)) f3 (own_ne hown hb (by decide)), h.few.1, h.few.2.1, hs⟩, fun k hk => (hown.lt k hk).1, f.trans f3⟩
/-- A place, or none: -1. -/
def placeI (o : Option Nat) : Int := match o with | some q => (q : Int) | none => -1
theorem find_pos {α : Type} {L : List α} {p : α → Bool} {q : Nat} {t : α} (hq : L[q]? = some t) (hp : p t = true) (hno : ∀ j y, j < q → L[j]? = some y → p y = false) : L.findIdx? p = some q ∧ L.find? p = some t := by
  induction L generalizing q with
  | nil => simp at hq
  | cons x r ih =>
    cases q with
    | zero =>
      obtain rfl : x = t := by simpa using hq
      simp [List.findIdx?_cons, hp]
    | succ q =>
      have h0 := hno 0 x (by omega) rfl
      obtain ⟨h1, h2⟩ := ih (by simpa using hq) (fun j y hj hy => hno (j + 1) y (by omega) (by simpa using hy))
      rw [List.findIdx?_cons, List.find?_cons, h0]
      exact ⟨by rw [h1]; rfl, h2⟩
theorem find_nobody {α : Type} {L : List α} {p : α → Bool} (hno : ∀ (j : Nat) (y : α), L[j]? = some y → p y = false) : L.findIdx? p = none ∧ L.find? p = none := by
  have h : ∀ x ∈ L, p x = false := fun x hx => by
    obtain ⟨j, hj⟩ := List.mem_iff_getElem?.1 hx
    exact hno j x hj
  exact ⟨List.findIdx?_eq_none_iff.2 h, List.find?_eq_none.2 (fun x hx => by simp [h x hx])⟩

set_option maxRecDepth 100000 in
set_option maxHeartbeats 2000000 in
theorem rfind_any (rb : Nat) (v : Value) (L : List Sl) (N u : Nat) (w : World) (h : DocQ w rb v L N) :
    Calls Tryd.prog 47 #[.pointer (some ⟨rb, 0, none⟩), .int .u64 u] w fun e w' => e = .returned (.int .i64 (placeI (L.findIdx? fun s => s.id == u))) ∧ w = w' := by
  obtain ⟨h1, h2, h3⟩ := id h
  obtain ⟨ao, cap, rfl, _⟩ := owned_form h2
  have hcap := doc_cap h2
  have c1 : w.cell? ⟨rb, 0, none⟩ = some (.slice ao L.length cap) := cell_of_block h1 0
  have l1 := lt_of_block h1
  obtain ⟨n, hn⟩ : ∃ n, L.length = n := ⟨_, rfl⟩
  rw [hn] at c1 h3 hcap
  have HN := Lib.hid hn
  have HO := Lib.hid h2
  clear h h1 h2 hn
  go_enter Tryd.func47, Tryd.ntmps47
  go_wp2_with fail
  go_loop [5] (fun i => ∃ q : Nat, q ≤ n ∧ i = .int .i64 q ∧ ∀ (j : Nat) (y : Sl), j < q → L[j]? = some y → (y.id == u) = false) (fun i => n - (intOf i).toNat)
  case atStart => exact ⟨0, by omega, rfl, fun j y hj => by omega⟩
  case round =>
    obtain ⟨q, hq, rfl, hno⟩ := hrel
    have HNO := Lib.hid hno
    clear hno
    by_cases hlt : q < n
    · obtain ⟨t, ht⟩ : ∃ t, L[q]? = some t := ⟨L[q]'(by rw [HN.out]; exact hlt), by simp⟩
      obtain ⟨g, rfl, hg, x0, x1, x2⟩ := docq_at HO.out ht
      have HT := Lib.hid ht
      clear ht
      by_cases hu : t.id = u
      · have t1 : ((t.id : Int) == (u : Int)) = true := by rw [hu]; simp
        have HF := Lib.hid (find_pos (p := fun s : Sl => s.id == u) HT.out (by simpa using hu) HNO.out)
        clear hu
        go_wp2
        go_ret
        exact ⟨by rw [HF.out.1]; rfl, rfl⟩
      · have t1 : ((t.id : Int) == (u : Int)) = false := by rw [beq_eq_false_iff_ne]; omega
        go_wp2_with fail
        go_round
        case rel => exact ⟨q + 1, by omega, by go_num, fun j y hj hy => by
          by_cases e : j = q
          · subst e; rw [HT.out] at hy; rw [← Option.some.inj hy]; simpa using hu
          · exact HNO.out j y (by omega) hy⟩
        case measure => simp [intOf]; omega
    · have HF := Lib.hid (find_nobody (p := fun s : Sl => s.id == u) (fun j y hy => HNO.out j y (by have := (List.getElem?_eq_some_iff.1 hy).1; have := HN.out; omega) hy))
      go_wp2
      go_ret
      exact ⟨by rw [HF.out.1]; rfl, rfl⟩

set_option maxRecDepth 100000 in
set_option maxHeartbeats 2000000 in
theorem rfirst_any (rb : Nat) (v : Value) (L : List Sl) (N a m : Nat) (each : Bool) (w : World) (h : DocQ w rb v L N) (hm : m < 18446744073709551616) (hml : ∀ s ∈ L, s.mask < 18446744073709551616) :
    Calls Tryd.prog 45 #[.pointer (some ⟨rb, 0, none⟩), .int .u64 a, .int .u64 m, .bool each] w fun e w' => e = .returned (.int .i64 (placeI (L.findIdx? (fitsB a m each)))) ∧ w = w' := by
  obtain ⟨h1, h2, h3⟩ := id h
  obtain ⟨ao, cap, rfl, _⟩ := owned_form h2
  have hcap := doc_cap h2
  have c1 : w.cell? ⟨rb, 0, none⟩ = some (.slice ao L.length cap) := cell_of_block h1 0
  have l1 := lt_of_block h1
  obtain ⟨n, hn⟩ : ∃ n, L.length = n := ⟨_, rfl⟩
  rw [hn] at c1 h3 hcap
  have HN := Lib.hid hn
  have HO := Lib.hid h2
  have HML := Lib.hid hml
  clear h h1 h2 hn hml
  go_enter Tryd.func45, Tryd.ntmps45
  go_wp2_with fail
  go_loop [9] (fun i => ∃ q : Nat, q ≤ n ∧ i = .int .i64 q ∧ ∀ (j : Nat) (y : Sl), j < q → L[j]? = some y → fitsB a m each y = false) (fun i => n - (intOf i).toNat)
  case atStart => exact ⟨0, by omega, rfl, fun j y hj => by omega⟩
  case round =>
    obtain ⟨q, hq, rfl, hno⟩ := hrel
    have HNO := Lib.hid hno
    clear hno
    by_cases hlt : q < n
    · obtain ⟨t, ht⟩ : ∃ t, L[q]? = some t := ⟨L[q]'(by rw [HN.out]; exact hlt), by simp⟩
      obtain ⟨g, rfl, hg, x0, x1, x2⟩ := docq_at HO.out ht
      have HT := Lib.hid ht
      have htm := HML.out t (List.mem_of_getElem? ht)
      clear ht
      have hstep : fitsB a m each t = false → ∀ (j : Nat) (y : Sl), j < q + 1 → L[j]? = some y → fitsB a m each y = false := fun hu j y hj hy => by
        by_cases e : j = q
        · subst e; rw [HT.out] at hy; rw [← Option.some.inj hy]; exact hu
        · exact HNO.out j y (by omega) hy
      have hyes : fitsB a m each t = true → L.findIdx? (fitsB a m each) = some q := fun hu => (find_pos HT.out hu HNO.out).1
      have HST := Lib.hid hstep
      have HY := Lib.hid hyes
      clear hstep hyes
      by_cases ha : t.addr = a
      · have t1 : ((t.addr : Int) == (a : Int)) = true := by rw [ha]; simp
        have t2 : (t.addr == a) = true := by simpa using ha
        cases each with
        | true =>
          have HF := Lib.hid (HY.out (by unfold fitsB; rw [t2]; rfl))
          clear ha t2
          go_wp2
          go_ret
          exact ⟨by rw [HF.out]; rfl, rfl⟩
        | false =>
          obtain ⟨y, hy⟩ : ∃ y, meetB t.mask m = y := ⟨_, rfl⟩
          have t3 : (bits .and .u64 (t.mask : Int) (m : Int) != 0) = y := hy
          have hfit : fitsB a m false t = y := by unfold fitsB; rw [t2, hy]; rfl
          have HFIT := Lib.hid hfit
          clear ha t2 hy hfit
          cases y with
          | true =>
            have HF := Lib.hid (HY.out HFIT.out)
            go_wp2
            go_ret
            exact ⟨by rw [HF.out]; rfl, rfl⟩
          | false =>
            go_wp2_with fail
            go_round
            case rel => exact ⟨q + 1, by omega, by go_num, HST.out HFIT.out⟩
            case measure => simp [intOf]; omega
      · have t1 : ((t.addr : Int) == (a : Int)) = false := by rw [beq_eq_false_iff_ne]; omega
        have HFIT := Lib.hid (show fitsB a m each t = false by unfold fitsB; rw [show (t.addr == a) = false by simpa using ha]; rfl)
        go_wp2_with fail
        go_round
        case rel => exact ⟨q + 1, by omega, by go_num, HST.out HFIT.out⟩
        case measure => simp [intOf]; omega
    · have HF := Lib.hid (find_nobody (p := fitsB a m each) (fun j y hy => HNO.out j y (by have := (List.getElem?_eq_some_iff.1 hy).1; have := HN.out; omega) hy))
      go_wp2
      go_ret
      exact ⟨by rw [HF.out.1]; rfl, rfl⟩

set_option maxRecDepth 100000 in
set_option maxHeartbeats 2000000 in
theorem rout_ok (rb : Nat) (v : Value) (L : List Sl) (N p : Nat) (s : Sl) (w : World) (h : DocQ w rb v L N) (hp : L[p]? = some s) :
    Calls Tryd.prog 46 #[.pointer (some ⟨rb, 0, none⟩), .int .i64 p] w fun e w' => e = .returned (.agg #[.int .u64 s.id, .int .u64 s.addr, .int .u64 s.mask]) ∧ ∃ v', DocQ w' rb v' (L.take p ++ L.drop (p + 1)) N ∧ (∀ k, v'.ownBlock = some k → w.heap.size ≤ k) ∧ Fr (· = rb) w w' := by
  obtain ⟨h1, h2, h3⟩ := id h
  obtain ⟨ao, cap, rfl, _⟩ := owned_form h2
  have hcap := doc_cap h2
  have c1 : w.cell? ⟨rb, 0, none⟩ = some (.slice ao L.length cap) := cell_of_block h1 0
  have l1 := lt_of_block h1
  obtain ⟨g, rfl, hg, x0, x1, x2⟩ := docq_at h2 hp
  obtain ⟨n, hn⟩ : ∃ n, L.length = n := ⟨_, rfl⟩
  have hpn : p < n := by rw [← hn]; exact (List.getElem?_eq_some_iff.1 hp).1
  rw [hn] at c1 h3 hcap h1
  have HN := Lib.hid hn
  have HO := Lib.hid h2
  have H := Lib.hid h
  have H1 := Lib.hid h1
  clear h h1 h2 hn hp
  go_enter Tryd.func46, Tryd.ntmps46
  go_upto_region 2 with fail
  obtain ⟨W0, hW0⟩ : ∃ W0, (w.alloc (.cells #[.int .u64 0, .int .u64 0, .int .u64 0] 102)).alloc (.cells #[.int .u64 s.id, .int .u64 s.addr, .int .u64 s.mask] 102) = W0 := ⟨_, rfl⟩
  have n0 : New w W0 := by rw [← hW0]; exact ((Fr.refl _ _).alloc _).alloc _
  have ha0 : W0.heap[w.heap.size]? = some (.cells #[.int .u64 0, .int .u64 0, .int .u64 0] 102 (0, 0)) := by rw [← hW0, block_alloc (by rw [World.size_alloc]; omega)]; exact block_alloc_new _ _
  have hb0 : W0.heap[w.heap.size + 1]? = some (.cells #[.int .u64 s.id, .int .u64 s.addr, .int .u64 s.mask] 102 (0, 0)) := by
    rw [← hW0]
    have := block_alloc_new (w.alloc (.cells #[.int .u64 0, .int .u64 0, .int .u64 0] 102)) (.cells #[.int .u64 s.id, .int .u64 s.addr, .int .u64 s.mask] 102)
    rw [World.size_alloc] at this
    exact this
  rw [hW0]
  have hsz0 : w.heap.size + 2 = W0.heap.size := by rw [← hW0, World.size_alloc, World.size_alloc]
  have c2 : W0.cell? ⟨rb, 0, none⟩ = some (.slice (some ⟨g, 0, none⟩) n cap) := (n0.cell l1 id 0).trans c1
  have ho0 := own_kept HO.out n0 (fun _ _ => id)
  have hsrc := fun k => (Src.of_own ho0).drop (k := k) (size := 3) ho0.1
  have hsrt := fun k => (Src.of_own ho0).take (k := k)
  rw [HN.out] at hsrc hsrt
  have HSR := Lib.hid hsrc
  have HST := Lib.hid hsrt
  have hb1 := (n0.block rb l1 id).trans H1.out
  have HB1 := Lib.hid hb1
  have z1 := free_of_block hb1 0
  have HA0 := Lib.hid ha0
  have HB0 := Lib.hid hb0
  have HN0 := Lib.hid n0
  have HLT := Lib.hid (show ((L.take p).flatMap waC).length = p * 3 by rw [len_flatMap waC 3 waC_len, List.length_take, HN.out, Nat.min_eq_left (by omega)])
  have HLD := Lib.hid (show ((L.drop (p + 1)).flatMap waC).length = (n - (p + 1)) * 3 by rw [len_flatMap waC 3 waC_len, List.length_drop, HN.out])
  obtain ⟨i0, hi, hz0, hz1, hz2⟩ := info_parts rwInfo
  have q1 : (p : Int) + 1 ≤ (n : Int) := by omega
  have q2 : (p : Int) ≤ (cap : Int) := by omega
  have q3 : (n : Int) ≤ (cap : Int) := by omega
  have q4 : (p : Int) + 1 ≤ (cap : Int) := by omega
  have hown := World.ownsRow_lit (base := W0.heap.size) (e := 102) (size := 3) W0 #[] 0 (Nat.le_refl _) (Nat.zero_le _) rfl
  have HS1 := Lib.hid (show Src W0 (some ⟨g, 0, none⟩) p cap ((L.take p).flatMap waC) from by rw [← flat_take' waC 3 waC_len]; exact HST.out p (by omega) _)
  clear hW0 n0 ha0 hb0 hb1 ho0 hsrc hsrt c1 x0 x1 x2
  have l0 : rb < W0.heap.size := by omega
  have lg0 : g < W0.heap.size := by omega
  by_cases hc : cap = p + 1
  · have hs2 : Src W0 (some ⟨g, 0, none⟩) 0 0 ((L.drop (p + 1)).flatMap waC) := by
      rw [← flat_drop' waC 3 waC_len]
      refine (HSR.out (p + 1) (by omega) hcap).cast ?_ (by omega) (by omega) rfl
      first | rw [if_pos hc] | (rw [if_neg hc]; simp [Addr.add])
    have HS2 := Lib.hid hs2
    clear hs2
    obtain rfl : n = p + 1 := by omega
    subst hc
    go_upto_region 4 with (first
      | (at_builtin; refine wpList_append_src rfl (.tmp 14) (.tmp 20) 78 rfl W0.heap.size 102 i0 _ 3 24 Tryd.underlying78 hi hz0 hz1 hz2 rfl (by decide) _ _ _ rfl hown (some ⟨g, 0, none⟩) p _ ((L.take p).flatMap waC) rfl HLT.out (HS1.out.keep ((Fr.refl (fun _ => False) _).alloc _) (fun _ _ => id)) (waC_one _) (by unfold maxLen; omega) (by omega) (by simp) ?_; intro v1 w1 hown1 hgrow1; rw [List.nil_append, Nat.zero_add] at hown1; have f1 : Fr (fun k => W0.heap.size ≤ k) W0 w1 := ((Fr.refl _ W0).alloc _).grown hgrow1 (fun k hk _ => by cases hk; exact Nat.le_refl _); have b1 := (f1.block rb l0 (by omega)).trans HB1.out; have l2 := lt_of_block b1; have d1 : w1.cell? ⟨rb, 0, none⟩ = some _ := cell_of_block b1 0; have y1 := free_of_block b1 0; obtain ⟨ao1, cap1, rfl, _⟩ := owned_form hown1; have HO1 := Lib.hid hown1; have F1 := Lib.hid f1; have B1 := Lib.hid b1; clear hgrow1 hown1 f1 b1 hown)
      | (at_builtin; refine wpList_append_src rfl (.tmp 23) (.tmp 30) 78 rfl W0.heap.size 102 i0 _ 3 24 Tryd.underlying78 hi hz0 hz1 hz2 rfl (by decide) _ _ _ rfl HO1.out (some ⟨g, 0, none⟩) 0 0 ((L.drop (p + 1)).flatMap waC) rfl (by have := HLD.out; omega) (HS2.out.keep F1.out (fun ad e hk => by cases e; exact absurd hk (by show ¬ W0.heap.size ≤ g; omega))) (waC_one _) (by unfold maxLen; omega) (by omega) F1.out.size ?_; intro v2 w2 hown2 hgrow2; rw [← List.flatMap_append] at hown2; have f2 : Fr (fun k => W0.heap.size ≤ k) w1 w2 := (Fr.refl _ w1).grown hgrow2 (fun k hk _ => (HO1.out.lt k hk).1); have b2 := (f2.block rb l2 (by omega)).trans B1.out; have l3 := lt_of_block b2; have d2 : w2.cell? ⟨rb, 0, none⟩ = some _ := cell_of_block b2 0; have y2 := free_of_block b2 0; obtain ⟨ao2, cap2, rfl, _⟩ := owned_form hown2; have HO2 := Lib.hid hown2; have F2 := Lib.hid f2; have B2 := Lib.hid b2; clear hgrow2 hown2 f2 b2 d1 y1 l2))
    have hlen : (L.take p ++ L.drop (p + 1)).length = p + 0 := by rw [List.length_append, List.length_take, List.length_drop, HN.out]; omega
    have hend := docq_end H.out ((HN0.out.mono (fun _ _ h => h.elim)).trans ((F1.out.trans F2.out).mono (fun k hk e => absurd e (by omega)))) B2.out (by omega) HO2.out hlen (by rw [hlen]; omega)
    obtain ⟨w3, hw3⟩ : ∃ w3, w2.setCell ⟨rb, 0, none⟩ (.slice ao2 (p + 0) cap2) = w3 := ⟨_, rfl⟩
    have f3 : Fr (· = rb) w2 w3 := by rw [← hw3]; exact (Fr.refl (· = rb) w2).setCell (fun _ => rfl) _
    have ha3 := (f3.block w.heap.size (by have := F1.out.size; have := F2.out.size; omega) (by omega)).trans (((F1.out.trans F2.out).block w.heap.size (by omega) (by omega)).trans HA0.out)
    have hb3 := (f3.block (w.heap.size + 1) (by have := F1.out.size; have := F2.out.size; omega) (by omega)).trans (((F1.out.trans F2.out).block (w.heap.size + 1) (by omega) (by omega)).trans HB0.out)
    rw [hw3] at hend
    try rw [Nat.add_zero] at hw3 hend
    rw [hw3]
    have HA3 := Lib.hid ha3
    have HEND := Lib.hid hend
    have m0 : w3.cell? ⟨w.heap.size + 1, 0, none⟩ = some (.int .u64 s.id) := cell_of_block hb3 0
    have m1 : w3.cell? ⟨w.heap.size + 1, 1, none⟩ = some (.int .u64 s.addr) := cell_of_block hb3 1
    have m2 : w3.cell? ⟨w.heap.size + 1, 2, none⟩ = some (.int .u64 s.mask) := cell_of_block hb3 2
    have k0 : w3.cell? ⟨w.heap.size, 0, none⟩ = some (.int .u64 0) := cell_of_block ha3 0
    have k1 : w3.cell? ⟨w.heap.size, 1, none⟩ = some (.int .u64 0) := cell_of_block ha3 1
    have k2 : w3.cell? ⟨w.heap.size, 2, none⟩ = some (.int .u64 0) := cell_of_block ha3 2
    have z3 := free_of_block ha3
    have z30 := z3 0
    have z31 := z3 1
    have z32 := z3 2
    have hsz3 : w.heap.size + 2 ≤ w3.heap.size := by have := F1.out.size; have := F2.out.size; have := f3.size; omega
    have l4 : w.heap.size < w3.heap.size := by omega
    have l5 : w.heap.size + 1 < w3.heap.size := by omega
    clear hw3 f3 ha3 hb3 hend z3 hlen B2 F2 HO2 d2 y2
    go_wp2_with fail
    have hf4 := block_setCell (block_setCell (block_setCell HA3.out (o := 0) (.int .u64 s.id)) (o := 1) (.int .u64 s.addr)) (o := 2) (.int .u64 s.mask)
    have f4 : Fr (· = w.heap.size) w3 (((w3.setCell ⟨w.heap.size, 0, none⟩ (.int .u64 s.id)).setCell ⟨w.heap.size, 1, none⟩ (.int .u64 s.addr)).setCell ⟨w.heap.size, 2, none⟩ (.int .u64 s.mask)) := (((Fr.refl (· = w.heap.size) w3).setCell (fun _ => rfl) _).setCell (fun _ => rfl) _).setCell (fun _ => rfl) _
    refine bodyPost_ret (ret_cell1 rfl _ _ w.heap.size _ _ _ _ rfl hf4 Tryd.underlying102 rfl rw_size) rfl ?_
    obtain ⟨e1, e2, e3⟩ := HEND.out
    refine ⟨rfl, _, e1.keep f4 (fun k hk e => ?_), fun k hk => by have := e2 k hk; omega, e3.then f4 (fun i hi e => by omega)⟩
    rcases hk with hk | hk
    · omega
    · have := e2 k hk; omega
  · have hs2 : Src W0 (some ⟨g, (p + 1) * 3, none⟩) (n - (p + 1)) (cap - (p + 1)) ((L.drop (p + 1)).flatMap waC) := by
      rw [← flat_drop' waC 3 waC_len]
      refine (HSR.out (p + 1) (by omega) hcap).cast ?_ (by omega) (by omega) rfl
      first | rw [if_pos hc] | (rw [if_neg hc]; simp [Addr.add])
    have HS2 := Lib.hid hs2
    clear hs2
    have q5 : ¬ ((cap : Int) = (p : Int) + 1) := by omega
    go_upto_region 4 with (first
      | (at_builtin; refine wpList_append_src rfl (.tmp 14) (.tmp 20) 78 rfl W0.heap.size 102 i0 _ 3 24 Tryd.underlying78 hi hz0 hz1 hz2 rfl (by decide) _ _ _ rfl hown (some ⟨g, 0, none⟩) p _ ((L.take p).flatMap waC) rfl HLT.out (HS1.out.keep ((Fr.refl (fun _ => False) _).alloc _) (fun _ _ => id)) (waC_one _) (by unfold maxLen; omega) (by omega) (by simp) ?_; intro v1 w1 hown1 hgrow1; rw [List.nil_append, Nat.zero_add] at hown1; have f1 : Fr (fun k => W0.heap.size ≤ k) W0 w1 := ((Fr.refl _ W0).alloc _).grown hgrow1 (fun k hk _ => by cases hk; exact Nat.le_refl _); have b1 := (f1.block rb l0 (by omega)).trans HB1.out; have l2 := lt_of_block b1; have d1 : w1.cell? ⟨rb, 0, none⟩ = some _ := cell_of_block b1 0; have y1 := free_of_block b1 0; obtain ⟨ao1, cap1, rfl, _⟩ := owned_form hown1; have HO1 := Lib.hid hown1; have F1 := Lib.hid f1; have B1 := Lib.hid b1; clear hgrow1 hown1 f1 b1 hown)
      | (at_builtin; refine wpList_append_src rfl (.tmp 23) (.tmp 30) 78 rfl W0.heap.size 102 i0 _ 3 24 Tryd.underlying78 hi hz0 hz1 hz2 rfl (by decide) _ _ _ rfl HO1.out (some ⟨g, (p + 1) * 3, none⟩) (n - (p + 1)) (cap - (p + 1)) ((L.drop (p + 1)).flatMap waC) rfl (by have := HLD.out; omega) (HS2.out.keep F1.out (fun ad e hk => by cases e; exact absurd hk (by show ¬ W0.heap.size ≤ g; omega))) (waC_one _) (by unfold maxLen; omega) (by omega) F1.out.size ?_; intro v2 w2 hown2 hgrow2; rw [← List.flatMap_append] at hown2; have f2 : Fr (fun k => W0.heap.size ≤ k) w1 w2 := (Fr.refl _ w1).grown hgrow2 (fun k hk _ => (HO1.out.lt k hk).1); have b2 := (f2.block rb l2 (by omega)).trans B1.out; have l3 := lt_of_block b2; have d2 : w2.cell? ⟨rb, 0, none⟩ = some _ := cell_of_block b2 0; have y2 := free_of_block b2 0; obtain ⟨ao2, cap2, rfl, _⟩ := owned_form hown2; have HO2 := Lib.hid hown2; have F2 := Lib.hid f2; have B2 := Lib.hid b2; clear hgrow2 hown2 f2 b2 d1 y1 l2))
    have hlen : (L.take p ++ L.drop (p + 1)).length = p + (n - (p + 1)) := by rw [List.length_append, List.length_take, List.length_drop, HN.out]; omega
    have hend := docq_end H.out ((HN0.out.mono (fun _ _ h => h.elim)).trans ((F1.out.trans F2.out).mono (fun k hk e => absurd e (by omega)))) B2.out (by omega) HO2.out hlen (by rw [hlen]; omega)
    obtain ⟨w3, hw3⟩ : ∃ w3, w2.setCell ⟨rb, 0, none⟩ (.slice ao2 (p + (n - (p + 1))) cap2) = w3 := ⟨_, rfl⟩
    have f3 : Fr (· = rb) w2 w3 := by rw [← hw3]; exact (Fr.refl (· = rb) w2).setCell (fun _ => rfl) _
    have ha3 := (f3.block w.heap.size (by have := F1.out.size; have := F2.out.size; omega) (by omega)).trans (((F1.out.trans F2.out).block w.heap.size (by omega) (by omega)).trans HA0.out)
    have hb3 := (f3.block (w.heap.size + 1) (by have := F1.out.size; have := F2.out.size; omega) (by omega)).trans (((F1.out.trans F2.out).block (w.heap.size + 1) (by omega) (by omega)).trans HB0.out)
    rw [hw3] at hend
    try rw [Nat.add_zero] at hw3 hend
    rw [hw3]
    have HA3 := Lib.hid ha3
    have HEND := Lib.hid hend
    have m0 : w3.cell? ⟨w.heap.size + 1, 0, none⟩ = some (.int .u64 s.id) := cell_of_block hb3 0
    have m1 : w3.cell? ⟨w.heap.size + 1, 1, none⟩ = some (.int .u64 s.addr) := cell_of_block hb3 1
    have m2 : w3.cell? ⟨w.heap.size + 1, 2, none⟩ = some (.int .u64 s.mask) := cell_of_block hb3 2
    have k0 : w3.cell? ⟨w.heap.size, 0, none⟩ = some (.int .u64 0) := cell_of_block ha3 0
    have k1 : w3.cell? ⟨w.heap.size, 1, none⟩ = some (.int .u64 0) := cell_of_block ha3 1
    have k2 : w3.cell? ⟨w.heap.size, 2, none⟩ = some (.int .u64 0) := cell_of_block ha3 2
    have z3 := free_of_block ha3
    have z30 := z3 0
    have z31 := z3 1
    have z32 := z3 2
    have hsz3 : w.heap.size + 2 ≤ w3.heap.size := by have := F1.out.size; have := F2.out.size; have := f3.size; omega
    have l4 : w.heap.size < w3.heap.size := by omega
    have l5 : w.heap.size + 1 < w3.heap.size := by omega
    clear hw3 f3 ha3 hb3 hend z3 hlen B2 F2 HO2 d2 y2
    go_wp2_with fail
    have hf4 := block_setCell (block_setCell (block_setCell HA3.out (o := 0) (.int .u64 s.id)) (o := 1) (.int .u64 s.addr)) (o := 2) (.int .u64 s.mask)
    have f4 : Fr (· = w.heap.size) w3 (((w3.setCell ⟨w.heap.size, 0, none⟩ (.int .u64 s.id)).setCell ⟨w.heap.size, 1, none⟩ (.int .u64 s.addr)).setCell ⟨w.heap.size, 2, none⟩ (.int .u64 s.mask)) := (((Fr.refl (· = w.heap.size) w3).setCell (fun _ => rfl) _).setCell (fun _ => rfl) _).setCell (fun _ => rfl) _
    refine bodyPost_ret (ret_cell1 rfl _ _ w.heap.size _ _ _ _ rfl hf4 Tryd.underlying102 rfl rw_size) rfl ?_
    obtain ⟨e1, e2, e3⟩ := HEND.out
    refine ⟨rfl, _, e1.keep f4 (fun k hk e => ?_), fun k hk => by have := e2 k hk; omega, e3.then f4 (fun i hi e => by omega)⟩
    rcases hk with hk | hk
    · omega
    · have := e2 k hk; omega

end Go.Proofs.YteeckkkbmlkkiaaDoor
