/- A heap in memory: one goes down. -/
import Derived.Test.YtafeopcbfgmjkaaDoorHeapB
import Derived.Deep.DeepCutAuto
namespace Go.Proofs.YtafeopcbfgmjkaaDoor
open Go.RowKit Go.Maps

/-- What a round of 'down' knows. -/
structure DnR (w : World) (hb g mb n cap : Nat) (L : List Th) (last c : Nat) (t : Th) (k : Nat) (Lm : List Th) (M : Int → Option Value) (wr : World) : Prop where
  lt : k < n
  row : HRow wr hb g mb n cap Lm last c M
  perm : (Lm.set k t).Perm L
  pl : Pl M (Lm.set k t) k c
  dn : Dn (fn (Lm.set k t)) n k
  tb : wr.heap[w.heap.size]? = some (.cells #[.int .u64 t.d, .int .u64 t.what, .int .i64 t.h] 84 (0, 0))
  fr : Fr (fun k => k = g ∨ k = mb) w wr
theorem down_end {w wr w1 w2 : World} {hb g mb n cap : Nat} {L : List Th} {last c : Nat} {t : Th} {k : Nat} {Lm : List Th} {M : Int → Option Value} (h : DnR w hb g mb n cap L last c t k Lm M wr) (hn : New wr w1)
    (hr : HRow w2 hb g mb n cap (Lm.set k t) last (cntUp M t.h c) (mapUp M t.h k)) (hf : Fr (fun k => k = g ∨ k = mb) w1 w2) (hs : Hs L) (hx : Ch (fn (Lm.set k t)) n k) :
    ∃ L' M', HRow w2 hb g mb n cap L' last n M' ∧ L'.Perm L ∧ Pos M' L' ∧ Hp (fn L') n ∧ Fr (fun k => k = g ∨ k = mb) w w2 := by
  have hkl : k < Lm.length := by rw [h.row.len]; exact h.lt
  have hg : (Lm.set k t)[k]? = some t := getset hkl
  have hc := h.pl.cnt t hg
  rw [List.length_set, h.row.len] at hc
  rw [hc] at hr
  exact ⟨_, _, hr, h.perm, h.pl.done hg (hs.perm h.perm), h.dn.heap hx, h.fr.trans ((hn.mono (fun _ _ h => h.elim)).trans hf)⟩
theorem down_cnt {w wr : World} {hb g mb n cap : Nat} {L : List Th} {last c : Nat} {t : Th} {k : Nat} {Lm : List Th} {M : Int → Option Value} (h : DnR w hb g mb n cap L last c t k Lm M wr) : (M (t.h : Int)).isSome = true ∨ c < 1000000 := by
  have hkl : k < Lm.length := by rw [h.row.len]; exact h.lt
  have hc := h.pl.cnt t (getset hkl)
  rw [List.length_set, h.row.len] at hc
  have := h.row.few
  unfold cntUp at hc
  cases hm : (M (t.h : Int)).isSome with
  | true => exact .inl rfl
  | false => rw [hm] at hc; simp at hc; right; omega
/-- The lesser child changes over with t. -/
theorem down_step {w wr w1 w2 : World} {hb g mb n cap : Nat} {L : List Th} {last c : Nat} {t q : Th} {k p : Nat} {Lm : List Th} {M : Int → Option Value} (h : DnR w hb g mb n cap L last c t k Lm M wr) (hn : New wr w1) (hlt : w.heap.size < wr.heap.size) (hgl : g < w.heap.size ∧ mb < w.heap.size)
    (hs : Hs L) (hq : Lm[p]? = some q) (hp : (p - 1) / 2 = k) (hp0 : 0 < p) (hm : ∀ j, 0 < j → j < n → (j - 1) / 2 = k → ¬ ah (fn (Lm.set k t) j) q) (hah : ah q t)
    (hr : HRow w2 hb g mb n cap (Lm.set k q) last (cntUp M q.h c) (mapUp M q.h k)) (hf : Fr (fun k => k = g ∨ k = mb) w1 w2) :
    DnR w hb g mb n cap L last c t p (Lm.set k q) (mapUp M q.h k) w2 := by
  have hpn : p < n := by rw [← h.row.len]; exact (List.getElem?_eq_some_iff.1 hq).1
  have hkt : (Lm.set k t)[k]? = some t := getset (by rw [h.row.len]; exact h.lt)
  have hkq : (Lm.set k t)[p]? = some q := by rw [List.getElem?_set_ne (by omega)]; exact hq
  obtain ⟨h1, h2⟩ := h.pl.step (hs.perm h.perm) hkt hkq (by omega)
  rw [List.set_set, h2] at h1
  rw [h2] at hr
  have hpm := swap_perm hkt hkq
  have hfn := swap_fn hkt hkq
  rw [List.set_set] at hpm hfn
  have hd := h.dn.step hp0 hpn hp (fun j j0 jn jp => by rw [fn_at hkq]; exact hm j j0 jn jp) (by rw [fn_at hkt, fn_at hkq]; exact hah)
  rw [← hfn] at hd
  have hff := (hn.mono (T := fun k => k = g ∨ k = mb) (fun _ _ h => h.elim)).trans hf
  exact ⟨hpn, hr, hpm.trans h.perm, h1, hd, by rw [hff.block _ hlt (by omega)]; exact h.tb, h.fr.trans hff⟩

set_option maxRecDepth 100000 in
set_option maxHeartbeats 8000000 in
theorem down_any (hb g mb n cap : Nat) (L : List Th) (last c : Nat) (M : Int → Option Value) (i : Nat) (t : Th) (w : World) (h : HRow w hb g mb n cap L last c M) (ht : L[i]? = some t) (hs : Hs L) (hp : Pl M L i c) (hu : Dn (fn L) n i) :
    Calls Tryd.prog 38 #[.pointer (some ⟨hb, 0, none⟩), .int .i64 i] w fun e w' => e = .returned (.tuple #[]) ∧ ∃ L' M', HRow w' hb g mb n cap L' last n M' ∧ L'.Perm L ∧ Pos M' L' ∧ Hp (fn L') n ∧ Fr (fun k => k = g ∨ k = mb) w w' := by
  have hin : i < n := by rw [← h.len]; exact (List.getElem?_eq_some_iff.1 ht).1
  have hfew := h.few
  have hft := h.fit t (List.mem_of_getElem? ht)
  have hap := h.apart
  have c0 := cell_of_block h.hd 0
  rw [show (#[Value.slice (some ⟨g, 0, none⟩) n cap, .map (some mb), .int .i64 last] : Array Value)[0]? = some (.slice (some ⟨g, 0, none⟩) n cap) from rfl] at c0
  have l1 := lt_of_block h.hd
  obtain ⟨a0, a1, a2⟩ := h.at ht
  have i0 : (0 : Int) ≤ (i : Int) := by omega
  have i1 : (i : Int) < (n : Int) := by omega
  have H := Lib.hid h
  have HT := Lib.hid ht
  have HS := Lib.hid hs
  have HP := Lib.hid hp
  have HU := Lib.hid hu
  clear h ht hs hp hu
  go_enter Tryd.func38, Tryd.ntmps38
  go_wp2_with fail
  have hst : DnR w hb g mb n cap L last c t i L M (w.alloc (.cells #[.int .u64 t.d, .int .u64 t.what, .int .i64 t.h] 84)) :=
    ⟨hin, H.out.new ((Fr.refl _ _).alloc _), by rw [set_same HT.out], by rw [set_same HT.out]; exact HP.out, by rw [set_same HT.out]; exact HU.out, block_alloc_new _ _, (Fr.refl _ _).alloc _⟩
  have HST := Lib.hid hst
  have hgl : g < w.heap.size ∧ mb < w.heap.size := by
    obtain ⟨cur, hg⟩ := H.out.block
    exact ⟨lt_of_block hg, H.out.map.lt⟩
  clear hst a0 a1 a2 i0 i1 c0
  go_loopw [1] (fun v wr => ∃ (k : Nat) (Lm : List Th) (Mk : Int → Option Value), v = .int .i64 k ∧ DnR w hb g mb n cap L last c t k Lm Mk wr) (fun v _ => n - (intOf v).toNat)
  case atStart => exact ⟨i, L, M, rfl, HST.out⟩
  case round =>
    clear HST H HP HU
    obtain ⟨k, Lm, Mk, rfl, hr⟩ := hrel
    have HR := Lib.hid hr
    have hk := hr.lt
    have hlen := hr.row.len
    have c0 := cell_of_block hr.row.hd 0
    rw [show (#[Value.slice (some ⟨g, 0, none⟩) n cap, .map (some mb), .int .i64 last] : Array Value)[0]? = some (.slice (some ⟨g, 0, none⟩) n cap) from rfl] at c0
    have t0 := cell_of_block hr.tb 0
    have t1 := cell_of_block hr.tb 1
    have t2 := cell_of_block hr.tb 2
    have lt0 := lt_of_block hr.tb
    have lh := lt_of_block hr.row.hd
    rw [show (#[Value.int .u64 t.d, .int .u64 t.what, .int .i64 t.h] : Array Value)[0]? = some (.int .u64 t.d) from rfl] at t0
    rw [show (#[Value.int .u64 t.d, .int .u64 t.what, .int .i64 t.h] : Array Value)[1]? = some (.int .u64 t.what) from rfl] at t1
    rw [show (#[Value.int .u64 t.d, .int .u64 t.what, .int .i64 t.h] : Array Value)[2]? = some (.int .i64 t.h) from rfl] at t2
    by_cases hj : n ≤ 2 * k + 1
    · have HLA := Lib.hid (lay_any hb g mb n cap Lm last c Mk k t _ hr.row hk hft (down_cnt hr))
      have hnj : ¬ (2 * (k : Int) + 1 < (n : Int)) := by omega
      clear hr
      go_wp2_with fail
      refine HLA.out.mono ?_
      rintro e w2 ⟨rfl, hr2, hf2⟩
      go_wp2
      go_end0
      exact ⟨rfl, down_end HR.out (Fr.refl _ _) hr2 hf2 HS.out (fun j j0 jn jp => by omega)⟩
    · have hnj : 2 * (k : Int) + 1 < (n : Int) := by omega
      obtain ⟨j, hje⟩ : ∃ j, 2 * k + 1 = j := ⟨_, rfl⟩
      obtain ⟨a, ha⟩ : ∃ a, Lm[j]? = some a := ⟨Lm[j]'(by omega), by simp⟩
      have hfa := hr.row.fit a (List.mem_of_getElem? ha)
      obtain ⟨a0, a1, a2⟩ := hr.row.at ha
      have HJ := Lib.hid hje
      have HA := Lib.hid ha
      have j0 : (0 : Int) ≤ (j : Int) := by omega
      have j1 : (j : Int) < (n : Int) := by omega
      clear hr ha
      go_upto_region 3 with fail
      rw [show 2 * (k : Int) + 1 = (j : Int) by omega]
      clear hje hnj
      obtain ⟨x, hx⟩ : ∃ x : Bool, (decide (j + 1 < n) && ahB (fn Lm (j + 1)) a) = x := ⟨_, rfl⟩
      have HX := Lib.hid hx
      clear hx
      go_cut [50] (fun s wx => s = .bool x ∧ New wr wx)
      case first => as_aux_lemma =>
        have e1 : IntKind.i64.wrap ((j : Int) + 1) = ((j + 1 : Nat) : Int) := by rw [IntWalk.i64_in _ (by omega)]; omega
        obtain ⟨m, hm⟩ : ∃ m, j + 1 = m := ⟨_, rfl⟩
        rw [hm] at e1 HX
        by_cases hmn : m < n
        · obtain ⟨b, hb'⟩ : ∃ b, Lm[m]? = some b := ⟨Lm[m]'(by omega), by simp⟩
          have hfb := HR.out.row.fit b (List.mem_of_getElem? hb')
          obtain ⟨b0, b1, b2⟩ := HR.out.row.at hb'
          have HXX := Lib.hid (show ahB b a = x by have := HX.out; rw [decide_eq_true hmn, fn_at hb'] at this; simpa using this)
          have m0 : (0 : Int) ≤ (m : Int) := by omega
          have m1 : (m : Int) < (n : Int) := by omega
          clear hb' hmn HX hm t0 t1 t2
          have lgr := Nat.lt_trans hgl.1 lt0
          refine heldStart (fun W1 => W1.cell? ⟨hb, 0, none⟩ = some (.slice (some ⟨g, 0, none⟩) n cap) ∧ W1.cell? ⟨g, j * 3, none⟩ = some (.int .u64 a.d) ∧ W1.cell? ⟨g, j * 3 + 1, none⟩ = some (.int .u64 a.what) ∧ W1.cell? ⟨g, j * 3 + 2, none⟩ = some (.int .i64 a.h) ∧ W1.cell? ⟨g, m * 3, none⟩ = some (.int .u64 b.d) ∧ W1.cell? ⟨g, m * 3 + 1, none⟩ = some (.int .u64 b.what) ∧ W1.cell? ⟨g, m * 3 + 2, none⟩ = some (.int .i64 b.h)) (by kernel_rfl) ?_
          have hS : (fun W1 : World => W1.cell? ⟨hb, 0, none⟩ = some (.slice (some ⟨g, 0, none⟩) n cap) ∧ W1.cell? ⟨g, j * 3, none⟩ = some (.int .u64 a.d) ∧ W1.cell? ⟨g, j * 3 + 1, none⟩ = some (.int .u64 a.what) ∧ W1.cell? ⟨g, j * 3 + 2, none⟩ = some (.int .i64 a.h) ∧ W1.cell? ⟨g, m * 3, none⟩ = some (.int .u64 b.d) ∧ W1.cell? ⟨g, m * 3 + 1, none⟩ = some (.int .u64 b.what) ∧ W1.cell? ⟨g, m * 3 + 2, none⟩ = some (.int .i64 b.h)) wr.drew := ⟨c0, a0, a1, a2, b0, b1, b2⟩
          refine wpAnyH_take (i := 0) (v := ?_) rfl (by kernel_rfl) (by kernel_rfl) (by kernel_rfl) (fun _ _ _ h => h) (Or.inl ⟨by rfl, ?_⟩) hS ?_
          rotate_left
          · intro w hSw; first | (obtain ⟨s1, s2, s3, s4, s5, s6, s7⟩ := hSw; go_simp; rfl) | (obtain ⟨s1, s2, s3⟩ := hSw; go_simp; rfl) | (obtain ⟨s1, s2⟩ := hSw; go_simp; rfl) | (have s1 := hSw; go_simp; rfl)
          go_simp
          refine wpAnyH_take (i := 1) (v := ?_) rfl (by kernel_rfl) (by kernel_rfl) (by kernel_rfl) (fun _ _ _ h => h) (Or.inl ⟨by rfl, ?_⟩) hS ?_
          rotate_left
          · intro w hSw; first | (obtain ⟨s1, s2, s3, s4, s5, s6, s7⟩ := hSw; go_simp; rfl) | (obtain ⟨s1, s2, s3⟩ := hSw; go_simp; rfl) | (obtain ⟨s1, s2⟩ := hSw; go_simp; rfl) | (have s1 := hSw; go_simp; rfl)
          go_simp
          refine wpAnyH_take (i := 2) (v := ?_) rfl (by kernel_rfl) (by kernel_rfl) (by kernel_rfl) (fun _ _ _ h => h) (Or.inl ⟨by rfl, ?_⟩) hS ?_
          rotate_left
          · intro w hSw; first | (obtain ⟨s1, s2, s3, s4, s5, s6, s7⟩ := hSw; go_simp; rfl) | (obtain ⟨s1, s2, s3⟩ := hSw; go_simp; rfl) | (obtain ⟨s1, s2⟩ := hSw; go_simp; rfl) | (have s1 := hSw; go_simp; rfl)
          go_simp
          refine wpAnyH_take (i := 3) (v := ?_) rfl (by kernel_rfl) (by kernel_rfl) (by kernel_rfl) (fun _ _ _ h => h) (Or.inl ⟨by rfl, ?_⟩) hS ?_
          rotate_left
          · intro w hSw; first | (obtain ⟨s1, s2, s3, s4, s5, s6, s7⟩ := hSw; go_simp; rfl) | (obtain ⟨s1, s2, s3⟩ := hSw; go_simp; rfl) | (obtain ⟨s1, s2⟩ := hSw; go_simp; rfl) | (have s1 := hSw; go_simp; rfl)
          go_simp
          refine wpAnyH_take (i := 4) (v := ?_) rfl (by kernel_rfl) (by kernel_rfl) (by kernel_rfl) (fun _ _ _ h => h) (Or.inl ⟨by rfl, ?_⟩) hS ?_
          rotate_left
          · intro w hSw; first | (obtain ⟨s1, s2, s3, s4, s5, s6, s7⟩ := hSw; go_simp; rfl) | (obtain ⟨s1, s2, s3⟩ := hSw; go_simp; rfl) | (obtain ⟨s1, s2⟩ := hSw; go_simp; rfl) | (have s1 := hSw; go_simp; rfl)
          go_simp
          refine wpAnyH_take (i := 5) (v := ?_) rfl (by kernel_rfl) (by kernel_rfl) (by kernel_rfl) (fun _ _ _ h => h) (Or.inl ⟨by rfl, ?_⟩) hS ?_
          rotate_left
          · intro w hSw; first | (obtain ⟨s1, s2, s3, s4, s5, s6, s7⟩ := hSw; go_simp; rfl) | (obtain ⟨s1, s2, s3⟩ := hSw; go_simp; rfl) | (obtain ⟨s1, s2⟩ := hSw; go_simp; rfl) | (have s1 := hSw; go_simp; rfl)
          go_simp
          refine wpAnyH_take (i := 6) (v := ?_) rfl (by kernel_rfl) (by kernel_rfl) (by kernel_rfl) (fun _ _ _ h => h) (Or.inl ⟨by rfl, ?_⟩) hS ?_
          rotate_left
          · intro w hSw; first | (obtain ⟨s1, s2, s3, s4, s5, s6, s7⟩ := hSw; go_simp; rfl) | (obtain ⟨s1, s2, s3⟩ := hSw; go_simp; rfl) | (obtain ⟨s1, s2⟩ := hSw; go_simp; rfl) | (have s1 := hSw; go_simp; rfl)
          go_simp
          refine wpAnyH_take (i := 7) (v := ?_) rfl (by kernel_rfl) (by kernel_rfl) (by kernel_rfl) (fun _ _ _ h => h) (Or.inl ⟨by rfl, ?_⟩) hS ?_
          rotate_left
          · intro w hSw; first | (obtain ⟨s1, s2, s3, s4, s5, s6, s7⟩ := hSw; go_simp; rfl) | (obtain ⟨s1, s2, s3⟩ := hSw; go_simp; rfl) | (obtain ⟨s1, s2⟩ := hSw; go_simp; rfl) | (have s1 := hSw; go_simp; rfl)
          go_simp
          refine wpAnyH_take (i := 8) (v := ?_) rfl (by kernel_rfl) (by kernel_rfl) (by kernel_rfl) (fun _ _ _ h => h) (Or.inl ⟨by rfl, ?_⟩) hS ?_
          rotate_left
          · intro w hSw; first | (obtain ⟨s1, s2, s3, s4, s5, s6, s7⟩ := hSw; go_simp; rfl) | (obtain ⟨s1, s2, s3⟩ := hSw; go_simp; rfl) | (obtain ⟨s1, s2⟩ := hSw; go_simp; rfl) | (have s1 := hSw; go_simp; rfl)
          go_simp
          refine wpAnyH_take (i := 9) (v := ?_) rfl (by kernel_rfl) (by kernel_rfl) (by kernel_rfl) (fun _ _ _ h => h) (Or.inl ⟨by rfl, ?_⟩) hS ?_
          rotate_left
          · intro w hSw; first | (obtain ⟨s1, s2, s3, s4, s5, s6, s7⟩ := hSw; go_simp; rfl) | (obtain ⟨s1, s2, s3⟩ := hSw; go_simp; rfl) | (obtain ⟨s1, s2⟩ := hSw; go_simp; rfl) | (have s1 := hSw; go_simp; rfl)
          go_simp
          refine wpAnyH_take (i := 10) (v := ?_) rfl (by kernel_rfl) (by kernel_rfl) (by kernel_rfl) (fun _ _ _ h => h) (Or.inl ⟨by rfl, ?_⟩) hS ?_
          rotate_left
          · intro w hSw; first | (obtain ⟨s1, s2, s3, s4, s5, s6, s7⟩ := hSw; go_simp; rfl) | (obtain ⟨s1, s2, s3⟩ := hSw; go_simp; rfl) | (obtain ⟨s1, s2⟩ := hSw; go_simp; rfl) | (have s1 := hSw; go_simp; rfl)
          go_simp
          refine wpAnyH_take (i := 11) (v := ?_) rfl (by kernel_rfl) (by kernel_rfl) (by kernel_rfl) (fun _ _ _ h => h) (Or.inl ⟨by rfl, ?_⟩) hS ?_
          rotate_left
          · intro w hSw; first | (obtain ⟨s1, s2, s3, s4, s5, s6, s7⟩ := hSw; go_simp; rfl) | (obtain ⟨s1, s2, s3⟩ := hSw; go_simp; rfl) | (obtain ⟨s1, s2⟩ := hSw; go_simp; rfl) | (have s1 := hSw; go_simp; rfl)
          go_simp
          refine wpAnyH_take (i := 12) (v := ?_) rfl (by kernel_rfl) (by kernel_rfl) (by kernel_rfl) (fun _ _ _ h => h) (Or.inl ⟨by rfl, ?_⟩) hS ?_
          rotate_left
          · intro w hSw; first | (obtain ⟨s1, s2, s3, s4, s5, s6, s7⟩ := hSw; go_simp; rfl) | (obtain ⟨s1, s2, s3⟩ := hSw; go_simp; rfl) | (obtain ⟨s1, s2⟩ := hSw; go_simp; rfl) | (have s1 := hSw; go_simp; rfl)
          go_simp
          refine wpAnyH_take (i := 13) (v := ?_) rfl (by kernel_rfl) (by kernel_rfl) (by kernel_rfl) (fun _ _ _ h => h) (Or.inl ⟨by rfl, ?_⟩) hS ?_
          rotate_left
          · intro w hSw; first | (obtain ⟨s1, s2, s3, s4, s5, s6, s7⟩ := hSw; go_simp; rfl) | (obtain ⟨s1, s2, s3⟩ := hSw; go_simp; rfl) | (obtain ⟨s1, s2⟩ := hSw; go_simp; rfl) | (have s1 := hSw; go_simp; rfl)
          go_simp
          refine wpAnyH_take (i := 14) (v := ?_) rfl (by kernel_rfl) (by kernel_rfl) (by kernel_rfl) (fun _ _ _ h => h) (Or.inl ⟨by rfl, ?_⟩) hS ?_
          rotate_left
          · intro w hSw; first | (obtain ⟨s1, s2, s3, s4, s5, s6, s7⟩ := hSw; go_simp; rfl) | (obtain ⟨s1, s2, s3⟩ := hSw; go_simp; rfl) | (obtain ⟨s1, s2⟩ := hSw; go_simp; rfl) | (have s1 := hSw; go_simp; rfl)
          go_simp
          refine wpAnyH_take (i := 15) (v := ?_) rfl (by kernel_rfl) (by kernel_rfl) (by kernel_rfl) (fun _ _ _ h => h) (Or.inl ⟨by rfl, ?_⟩) hS ?_
          rotate_left
          · intro w hSw; first | (obtain ⟨s1, s2, s3, s4, s5, s6, s7⟩ := hSw; go_simp; rfl) | (obtain ⟨s1, s2, s3⟩ := hSw; go_simp; rfl) | (obtain ⟨s1, s2⟩ := hSw; go_simp; rfl) | (have s1 := hSw; go_simp; rfl)
          go_simp
          refine wpAnyH_take (i := 16) (v := ?_) rfl (by kernel_rfl) (by kernel_rfl) (by kernel_rfl) (fun _ _ _ h => h) (Or.inl ⟨by rfl, ?_⟩) hS ?_
          rotate_left
          · intro w hSw; first | (obtain ⟨s1, s2, s3, s4, s5, s6, s7⟩ := hSw; go_simp; rfl) | (obtain ⟨s1, s2, s3⟩ := hSw; go_simp; rfl) | (obtain ⟨s1, s2⟩ := hSw; go_simp; rfl) | (have s1 := hSw; go_simp; rfl)
          go_simp
          refine wpAnyH_take (i := 17) (v := ?_) rfl (by kernel_rfl) (by kernel_rfl) (by kernel_rfl) (fun _ _ _ h => h) (Or.inl ⟨by rfl, ?_⟩) hS ?_
          rotate_left
          · intro w hSw; first | (obtain ⟨s1, s2, s3, s4, s5, s6, s7⟩ := hSw; go_simp; rfl) | (obtain ⟨s1, s2, s3⟩ := hSw; go_simp; rfl) | (obtain ⟨s1, s2⟩ := hSw; go_simp; rfl) | (have s1 := hSw; go_simp; rfl)
          go_simp
          refine wpAnyH_take (i := 18) (v := ?_) rfl (by kernel_rfl) (by kernel_rfl) (by kernel_rfl) (fun _ _ _ h => h) (Or.inl ⟨by rfl, ?_⟩) hS ?_
          rotate_left
          · intro w hSw; first | (obtain ⟨s1, s2, s3, s4, s5, s6, s7⟩ := hSw; go_simp; rfl) | (obtain ⟨s1, s2, s3⟩ := hSw; go_simp; rfl) | (obtain ⟨s1, s2⟩ := hSw; go_simp; rfl) | (have s1 := hSw; go_simp; rfl)
          go_simp
          refine wpAnyH_take (i := 19) (v := ?_) rfl (by kernel_rfl) (by kernel_rfl) (by kernel_rfl) (fun _ _ _ h => h) (Or.inl ⟨by rfl, ?_⟩) hS ?_
          rotate_left
          · intro w hSw; first | (obtain ⟨s1, s2, s3, s4, s5, s6, s7⟩ := hSw; go_simp; rfl) | (obtain ⟨s1, s2, s3⟩ := hSw; go_simp; rfl) | (obtain ⟨s1, s2⟩ := hSw; go_simp; rfl) | (have s1 := hSw; go_simp; rfl)
          go_simp
          refine wpAnyH_take (i := 20) (v := ?_) rfl (by kernel_rfl) (by kernel_rfl) (by kernel_rfl) (fun _ _ _ h => h) (Or.inl ⟨by rfl, ?_⟩) hS ?_
          rotate_left
          · intro w hSw; first | (obtain ⟨s1, s2, s3, s4, s5, s6, s7⟩ := hSw; go_simp; rfl) | (obtain ⟨s1, s2, s3⟩ := hSw; go_simp; rfl) | (obtain ⟨s1, s2⟩ := hSw; go_simp; rfl) | (have s1 := hSw; go_simp; rfl)
          go_simp
          refine wpAnyH_take (i := 21) (v := ?_) rfl (by kernel_rfl) (by kernel_rfl) (by kernel_rfl) (fun _ _ _ h => h) (Or.inl ⟨by rfl, ?_⟩) hS ?_
          rotate_left
          · intro w hSw; first | (obtain ⟨s1, s2, s3, s4, s5, s6, s7⟩ := hSw; go_simp; rfl) | (obtain ⟨s1, s2, s3⟩ := hSw; go_simp; rfl) | (obtain ⟨s1, s2⟩ := hSw; go_simp; rfl) | (have s1 := hSw; go_simp; rfl)
          go_simp
          refine wpAnyH_take (i := 22) (v := ?_) rfl (by kernel_rfl) (by kernel_rfl) (by kernel_rfl) (fun _ _ _ h => h) (Or.inl ⟨by rfl, ?_⟩) hS ?_
          rotate_left
          · intro w hSw; first | (obtain ⟨s1, s2, s3, s4, s5, s6, s7⟩ := hSw; go_simp; rfl) | (obtain ⟨s1, s2, s3⟩ := hSw; go_simp; rfl) | (obtain ⟨s1, s2⟩ := hSw; go_simp; rfl) | (have s1 := hSw; go_simp; rfl)
          go_simp
          refine wpAnyH_take (i := 23) (v := ?_) rfl (by kernel_rfl) (by kernel_rfl) (by kernel_rfl) (fun _ _ _ h => h) (Or.inl ⟨by rfl, ?_⟩) hS ?_
          rotate_left
          · intro w hSw; first | (obtain ⟨s1, s2, s3, s4, s5, s6, s7⟩ := hSw; go_simp; rfl) | (obtain ⟨s1, s2, s3⟩ := hSw; go_simp; rfl) | (obtain ⟨s1, s2⟩ := hSw; go_simp; rfl) | (have s1 := hSw; go_simp; rfl)
          go_simp
          clear e1
          refine heldOne (i := 24) (by kernel_rfl) rfl (by rfl) (fun K hK => ?_)
          go_simp
          have hah := fun w => ahead_any b a w hfb.1 hfa.1
          rw [HXX.out] at hah
          refine (hah _).mono ?_
          clear hah
          rintro e w1 ⟨rfl, hn1⟩
          have hfd : New wr w1 := (Fr.refl _ _).drew.trans hn1
          have hS1 : (fun W1 : World => W1.cell? ⟨hb, 0, none⟩ = some (.slice (some ⟨g, 0, none⟩) n cap) ∧ W1.cell? ⟨g, j * 3, none⟩ = some (.int .u64 a.d) ∧ W1.cell? ⟨g, j * 3 + 1, none⟩ = some (.int .u64 a.what) ∧ W1.cell? ⟨g, j * 3 + 2, none⟩ = some (.int .i64 a.h) ∧ W1.cell? ⟨g, m * 3, none⟩ = some (.int .u64 b.d) ∧ W1.cell? ⟨g, m * 3 + 1, none⟩ = some (.int .u64 b.what) ∧ W1.cell? ⟨g, m * 3 + 2, none⟩ = some (.int .i64 b.h)) w1 :=
            ⟨(hfd.cell lh id 0).trans c0, (hfd.cell lgr id _).trans a0, (hfd.cell lgr id _).trans a1, (hfd.cell lgr id _).trans a2, (hfd.cell lgr id _).trans b0, (hfd.cell lgr id _).trans b1, (hfd.cell lgr id _).trans b2⟩
          refine hK.out _ _ hS1 ?_
          have HFD := Lib.hid hfd
          clear hK K hn1 hfd hS c0 a0 a1 a2 b0 b1 b2
          refine wpAnyH_take (i := 25) (v := ?_) rfl (by kernel_rfl) (by kernel_rfl) (by kernel_rfl) (fun _ _ _ h => h) (Or.inl ⟨by rfl, ?_⟩) hS1 ?_
          rotate_left
          · intro w hSw; first | (obtain ⟨s1, s2, s3, s4, s5, s6, s7⟩ := hSw; go_simp; rfl) | (obtain ⟨s1, s2, s3⟩ := hSw; go_simp; rfl) | (obtain ⟨s1, s2⟩ := hSw; go_simp; rfl) | (have s1 := hSw; go_simp; rfl)
          refine wpAnyH_done (by kernel_rfl) ?_ _
          clear hS1
          go_wp2_with fail
          go_meet
          case rel => exact ⟨rfl, HFD.out⟩
        · have HXX := Lib.hid (show x = false by have := HX.out; rw [decide_eq_false hmn] at this; simpa using this.symm)
          have m1 : ¬ ((m : Int) < (n : Int)) := by omega
          clear HX hm t0 t1 t2
          go_quiet (fail)
          go_wp2_with fail
          go_meet
          case rel => exact ⟨by rw [HXX.out], (Fr.refl _ _).drewN nq⟩
      case rest => as_aux_lemma =>
        obtain ⟨rfl, hn1⟩ := hcut
        -- which child is the lesser
        have hpick : ∃ p q, p = (if x then j + 1 else j) ∧ Lm[p]? = some q ∧ (p - 1) / 2 = k ∧ 0 < p ∧ p < n ∧ ∀ jj, 0 < jj → jj < n → (jj - 1) / 2 = k → ¬ ah (fn (Lm.set k t) jj) q := by
          have hX := HX.out
          have hJ := HJ.out
          have hA := HA.out
          have hfn : ∀ jj, jj ≠ k → fn (Lm.set k t) jj = fn Lm jj := fun jj hj => by unfold fn; rw [List.getD_eq_getElem?_getD, List.getElem?_set_ne (fun e => hj e.symm), ← List.getD_eq_getElem?_getD]
          cases x with
          | true =>
            rw [Bool.and_eq_true, decide_eq_true_eq] at hX
            refine ⟨j + 1, fn Lm (j + 1), rfl, at_fn (by omega), by omega, by omega, hX.1, fun jj j0 jn jp => ?_⟩
            rw [hfn jj (by omega)]
            have h2 := ahB_true hX.2
            have hc : jj = j ∨ jj = j + 1 := by omega
            rcases hc with rfl | rfl
            · rw [fn_at hA]; unfold ah at *; omega
            · unfold ah; omega
          | false =>
            refine ⟨j, a, rfl, hA, by omega, by omega, by omega, fun jj j0 jn jp => ?_⟩
            rw [hfn jj (by omega)]
            have hc : jj = j ∨ jj = j + 1 := by omega
            rcases hc with rfl | rfl
            · rw [fn_at hA]; unfold ah; omega
            · rw [decide_eq_true jn, Bool.true_and] at hX
              exact ahB_false hX
        obtain ⟨p, q, hpx, hq, hpk, hp0, hpn, hmin⟩ := hpick
        have hrow := HR.out.row.new hn1
        have hfq := hrow.fit q (List.mem_of_getElem? hq)
        obtain ⟨q0, q1, q2⟩ := hrow.at hq
        have c0' := (hn1.cell lh id 0).trans c0
        have t0' := (hn1.cell lt0 id 0).trans t0
        have t1' := (hn1.cell lt0 id 1).trans t1
        have t2' := (hn1.cell lt0 id 2).trans t2
        have lh' := Nat.lt_of_lt_of_le lh hn1.size
        have lt' := Nat.lt_of_lt_of_le lt0 hn1.size
        have lg' := Nat.lt_trans hgl.1 lt'
        have p0 : (0 : Int) ≤ (p : Int) := by omega
        have p1 : (p : Int) < (n : Int) := by omega
        have HPX := Lib.hid hpx
        have HQ := Lib.hid hq
        have HPK := Lib.hid hpk
        have HMIN := Lib.hid hmin
        have HN1 := Lib.hid hn1
        have HROW := Lib.hid hrow
        clear hpx hq hpk hmin hn1 hrow c0 t0 t1 t2 a0 a1 a2
        cases x
        case false =>
          have ep : (j : Int) = (p : Int) := by have := HPX.out; simp at this; omega
          have HEP := Lib.hid ep
          clear ep
          go_upto_region 5 with fail
          rw [HEP.out]
          refine heldStart (fun W1 => W1.cell? ⟨hb, 0, none⟩ = some (.slice (some ⟨g, 0, none⟩) n cap) ∧ W1.cell? ⟨w.heap.size, 0, none⟩ = some (.int .u64 t.d) ∧ W1.cell? ⟨w.heap.size, 1, none⟩ = some (.int .u64 t.what) ∧ W1.cell? ⟨w.heap.size, 2, none⟩ = some (.int .i64 t.h) ∧ W1.cell? ⟨g, p * 3, none⟩ = some (.int .u64 q.d) ∧ W1.cell? ⟨g, p * 3 + 1, none⟩ = some (.int .u64 q.what) ∧ W1.cell? ⟨g, p * 3 + 2, none⟩ = some (.int .i64 q.h)) (by kernel_rfl) ?_
          have hS : (fun W1 : World => W1.cell? ⟨hb, 0, none⟩ = some (.slice (some ⟨g, 0, none⟩) n cap) ∧ W1.cell? ⟨w.heap.size, 0, none⟩ = some (.int .u64 t.d) ∧ W1.cell? ⟨w.heap.size, 1, none⟩ = some (.int .u64 t.what) ∧ W1.cell? ⟨w.heap.size, 2, none⟩ = some (.int .i64 t.h) ∧ W1.cell? ⟨g, p * 3, none⟩ = some (.int .u64 q.d) ∧ W1.cell? ⟨g, p * 3 + 1, none⟩ = some (.int .u64 q.what) ∧ W1.cell? ⟨g, p * 3 + 2, none⟩ = some (.int .i64 q.h)) wc.drew := ⟨c0', t0', t1', t2', q0, q1, q2⟩
          refine wpAnyH_take (i := 0) (v := ?_) rfl (by kernel_rfl) (by kernel_rfl) (by kernel_rfl) (fun _ _ _ h => h) (Or.inl ⟨by rfl, ?_⟩) hS ?_
          rotate_left
          · intro w hSw; first | (obtain ⟨s1, s2, s3, s4, s5, s6, s7⟩ := hSw; go_simp; rfl) | (obtain ⟨s1, s2, s3⟩ := hSw; go_simp; rfl) | (obtain ⟨s1, s2⟩ := hSw; go_simp; rfl) | (have s1 := hSw; go_simp; rfl)
          go_simp
          refine wpAnyH_take (i := 1) (v := ?_) rfl (by kernel_rfl) (by kernel_rfl) (by kernel_rfl) (fun _ _ _ h => h) (Or.inl ⟨by rfl, ?_⟩) hS ?_
          rotate_left
          · intro w hSw; first | (obtain ⟨s1, s2, s3, s4, s5, s6, s7⟩ := hSw; go_simp; rfl) | (obtain ⟨s1, s2, s3⟩ := hSw; go_simp; rfl) | (obtain ⟨s1, s2⟩ := hSw; go_simp; rfl) | (have s1 := hSw; go_simp; rfl)
          go_simp
          refine wpAnyH_take (i := 2) (v := ?_) rfl (by kernel_rfl) (by kernel_rfl) (by kernel_rfl) (fun _ _ _ h => h) (Or.inl ⟨by rfl, ?_⟩) hS ?_
          rotate_left
          · intro w hSw; first | (obtain ⟨s1, s2, s3, s4, s5, s6, s7⟩ := hSw; go_simp; rfl) | (obtain ⟨s1, s2, s3⟩ := hSw; go_simp; rfl) | (obtain ⟨s1, s2⟩ := hSw; go_simp; rfl) | (have s1 := hSw; go_simp; rfl)
          go_simp
          refine wpAnyH_take (i := 3) (v := ?_) rfl (by kernel_rfl) (by kernel_rfl) (by kernel_rfl) (fun _ _ _ h => h) (Or.inl ⟨by rfl, ?_⟩) hS ?_
          rotate_left
          · intro w hSw; first | (obtain ⟨s1, s2, s3, s4, s5, s6, s7⟩ := hSw; go_simp; rfl) | (obtain ⟨s1, s2, s3⟩ := hSw; go_simp; rfl) | (obtain ⟨s1, s2⟩ := hSw; go_simp; rfl) | (have s1 := hSw; go_simp; rfl)
          go_simp
          refine wpAnyH_take (i := 4) (v := ?_) rfl (by kernel_rfl) (by kernel_rfl) (by kernel_rfl) (fun _ _ _ h => h) (Or.inl ⟨by rfl, ?_⟩) hS ?_
          rotate_left
          · intro w hSw; first | (obtain ⟨s1, s2, s3, s4, s5, s6, s7⟩ := hSw; go_simp; rfl) | (obtain ⟨s1, s2, s3⟩ := hSw; go_simp; rfl) | (obtain ⟨s1, s2⟩ := hSw; go_simp; rfl) | (have s1 := hSw; go_simp; rfl)
          go_simp
          refine wpAnyH_take (i := 5) (v := ?_) rfl (by kernel_rfl) (by kernel_rfl) (by kernel_rfl) (fun _ _ _ h => h) (Or.inl ⟨by rfl, ?_⟩) hS ?_
          rotate_left
          · intro w hSw; first | (obtain ⟨s1, s2, s3, s4, s5, s6, s7⟩ := hSw; go_simp; rfl) | (obtain ⟨s1, s2, s3⟩ := hSw; go_simp; rfl) | (obtain ⟨s1, s2⟩ := hSw; go_simp; rfl) | (have s1 := hSw; go_simp; rfl)
          go_simp
          refine wpAnyH_take (i := 6) (v := ?_) rfl (by kernel_rfl) (by kernel_rfl) (by kernel_rfl) (fun _ _ _ h => h) (Or.inl ⟨by rfl, ?_⟩) hS ?_
          rotate_left
          · intro w hSw; first | (obtain ⟨s1, s2, s3, s4, s5, s6, s7⟩ := hSw; go_simp; rfl) | (obtain ⟨s1, s2, s3⟩ := hSw; go_simp; rfl) | (obtain ⟨s1, s2⟩ := hSw; go_simp; rfl) | (have s1 := hSw; go_simp; rfl)
          go_simp
          refine wpAnyH_take (i := 7) (v := ?_) rfl (by kernel_rfl) (by kernel_rfl) (by kernel_rfl) (fun _ _ _ h => h) (Or.inl ⟨by rfl, ?_⟩) hS ?_
          rotate_left
          · intro w hSw; first | (obtain ⟨s1, s2, s3, s4, s5, s6, s7⟩ := hSw; go_simp; rfl) | (obtain ⟨s1, s2, s3⟩ := hSw; go_simp; rfl) | (obtain ⟨s1, s2⟩ := hSw; go_simp; rfl) | (have s1 := hSw; go_simp; rfl)
          go_simp
          refine heldOne (i := 8) (by kernel_rfl) rfl (by rfl) (fun K hK => ?_)
          go_simp
          have hah := fun w => ahead_any q t w hfq.1 hft.1
          obtain ⟨y, hy⟩ : ∃ y, ahB q t = y := ⟨_, rfl⟩
          rw [hy] at hah
          have HY := Lib.hid hy
          refine (hah _).mono ?_
          clear hah hy
          rintro e w1 ⟨rfl, hn2⟩
          have hfd : New wc w1 := (Fr.refl _ _).drew.trans hn2
          have hS1 : (fun W1 : World => W1.cell? ⟨hb, 0, none⟩ = some (.slice (some ⟨g, 0, none⟩) n cap) ∧ W1.cell? ⟨w.heap.size, 0, none⟩ = some (.int .u64 t.d) ∧ W1.cell? ⟨w.heap.size, 1, none⟩ = some (.int .u64 t.what) ∧ W1.cell? ⟨w.heap.size, 2, none⟩ = some (.int .i64 t.h) ∧ W1.cell? ⟨g, p * 3, none⟩ = some (.int .u64 q.d) ∧ W1.cell? ⟨g, p * 3 + 1, none⟩ = some (.int .u64 q.what) ∧ W1.cell? ⟨g, p * 3 + 2, none⟩ = some (.int .i64 q.h)) w1 :=
            ⟨(hfd.cell lh' id 0).trans c0', (hfd.cell lt' id 0).trans t0', (hfd.cell lt' id 1).trans t1', (hfd.cell lt' id 2).trans t2', (hfd.cell lg' id _).trans q0, (hfd.cell lg' id _).trans q1, (hfd.cell lg' id _).trans q2⟩
          refine hK.out _ _ hS1 ?_
          have HFD := Lib.hid hfd
          clear hK K hn2 hfd hS c0' t0' t1' t2' q0 q1 q2
          refine wpAnyH_take (i := 9) (v := ?_) rfl (by kernel_rfl) (by kernel_rfl) (by kernel_rfl) (fun _ _ _ h => h) (Or.inl ⟨by rfl, ?_⟩) hS1 ?_
          rotate_left
          · intro w hSw; first | (obtain ⟨s1, s2, s3, s4, s5, s6, s7⟩ := hSw; go_simp; rfl) | (obtain ⟨s1, s2, s3⟩ := hSw; go_simp; rfl) | (obtain ⟨s1, s2⟩ := hSw; go_simp; rfl) | (have s1 := hSw; go_simp; rfl)
          refine wpAnyH_done (by kernel_rfl) ?_ _
          obtain ⟨c0, t0, t1, t2, q0, q1, q2⟩ := hS1
          have lt1 := Nat.lt_of_lt_of_le lt' HFD.out.size
          have lh1 := Nat.lt_of_lt_of_le lh' HFD.out.size
          have lg2 := Nat.lt_of_lt_of_le lg' HFD.out.size
          cases y with
          | true =>
            have HLA := Lib.hid (lay_any hb g mb n cap Lm last c Mk k q w1 (HROW.out.new HFD.out) hk hfq (by
              left
              have := HR.out.pl.at' p q (by rw [List.getElem?_set_ne (by have := HPK.out; omega)]; exact HQ.out) (by have := HPK.out; omega)
              rw [this]; rfl))
            go_wp2_with fail
            refine HLA.out.mono ?_
            rintro e w2 ⟨rfl, hr2, hf2⟩
            have HUN := Lib.hid (down_step HR.out (HN1.out.trans HFD.out) lt0 hgl HS.out HQ.out HPK.out hp0 HMIN.out (ahB_true HY.out) hr2 hf2)
            clear hr2 hf2 HLA HY
            go_wp2_with fail
            go_roundw
            case rel => exact ⟨p, _, _, rfl, HUN.out⟩
            case measure => simp [intOf]; have := HPK.out; omega
          | false =>
            have HLA := Lib.hid (lay_any hb g mb n cap Lm last c Mk k t w1 (HROW.out.new HFD.out) hk hft (down_cnt HR.out))
            go_wp2_with fail
            refine HLA.out.mono ?_
            rintro e w2 ⟨rfl, hr2, hf2⟩
            go_wp2
            go_end0
            exact ⟨rfl, down_end HR.out (HN1.out.trans HFD.out) hr2 hf2 HS.out (fun jj j0 jn jp => by
              have h1 := HMIN.out jj j0 jn jp
              have h2 := ahB_false HY.out
              rw [fn_at (show (Lm.set k t)[k]? = some t from getset (by omega))]
              unfold ah at *; omega)⟩
        case true =>
          have ep : (j : Int) + 1 = (p : Int) := by have := HPX.out; simp at this; omega
          have HEP := Lib.hid ep
          clear ep
          go_upto_region 5 with fail
          rw [HEP.out]
          refine heldStart (fun W1 => W1.cell? ⟨hb, 0, none⟩ = some (.slice (some ⟨g, 0, none⟩) n cap) ∧ W1.cell? ⟨w.heap.size, 0, none⟩ = some (.int .u64 t.d) ∧ W1.cell? ⟨w.heap.size, 1, none⟩ = some (.int .u64 t.what) ∧ W1.cell? ⟨w.heap.size, 2, none⟩ = some (.int .i64 t.h) ∧ W1.cell? ⟨g, p * 3, none⟩ = some (.int .u64 q.d) ∧ W1.cell? ⟨g, p * 3 + 1, none⟩ = some (.int .u64 q.what) ∧ W1.cell? ⟨g, p * 3 + 2, none⟩ = some (.int .i64 q.h)) (by kernel_rfl) ?_
          have hS : (fun W1 : World => W1.cell? ⟨hb, 0, none⟩ = some (.slice (some ⟨g, 0, none⟩) n cap) ∧ W1.cell? ⟨w.heap.size, 0, none⟩ = some (.int .u64 t.d) ∧ W1.cell? ⟨w.heap.size, 1, none⟩ = some (.int .u64 t.what) ∧ W1.cell? ⟨w.heap.size, 2, none⟩ = some (.int .i64 t.h) ∧ W1.cell? ⟨g, p * 3, none⟩ = some (.int .u64 q.d) ∧ W1.cell? ⟨g, p * 3 + 1, none⟩ = some (.int .u64 q.what) ∧ W1.cell? ⟨g, p * 3 + 2, none⟩ = some (.int .i64 q.h)) wc.drew := ⟨c0', t0', t1', t2', q0, q1, q2⟩
          refine wpAnyH_take (i := 0) (v := ?_) rfl (by kernel_rfl) (by kernel_rfl) (by kernel_rfl) (fun _ _ _ h => h) (Or.inl ⟨by rfl, ?_⟩) hS ?_
          rotate_left
          · intro w hSw; first | (obtain ⟨s1, s2, s3, s4, s5, s6, s7⟩ := hSw; go_simp; rfl) | (obtain ⟨s1, s2, s3⟩ := hSw; go_simp; rfl) | (obtain ⟨s1, s2⟩ := hSw; go_simp; rfl) | (have s1 := hSw; go_simp; rfl)
          go_simp
          refine wpAnyH_take (i := 1) (v := ?_) rfl (by kernel_rfl) (by kernel_rfl) (by kernel_rfl) (fun _ _ _ h => h) (Or.inl ⟨by rfl, ?_⟩) hS ?_
          rotate_left
          · intro w hSw; first | (obtain ⟨s1, s2, s3, s4, s5, s6, s7⟩ := hSw; go_simp; rfl) | (obtain ⟨s1, s2, s3⟩ := hSw; go_simp; rfl) | (obtain ⟨s1, s2⟩ := hSw; go_simp; rfl) | (have s1 := hSw; go_simp; rfl)
          go_simp
          refine wpAnyH_take (i := 2) (v := ?_) rfl (by kernel_rfl) (by kernel_rfl) (by kernel_rfl) (fun _ _ _ h => h) (Or.inl ⟨by rfl, ?_⟩) hS ?_
          rotate_left
          · intro w hSw; first | (obtain ⟨s1, s2, s3, s4, s5, s6, s7⟩ := hSw; go_simp; rfl) | (obtain ⟨s1, s2, s3⟩ := hSw; go_simp; rfl) | (obtain ⟨s1, s2⟩ := hSw; go_simp; rfl) | (have s1 := hSw; go_simp; rfl)
          go_simp
          refine wpAnyH_take (i := 3) (v := ?_) rfl (by kernel_rfl) (by kernel_rfl) (by kernel_rfl) (fun _ _ _ h => h) (Or.inl ⟨by rfl, ?_⟩) hS ?_
          rotate_left
          · intro w hSw; first | (obtain ⟨s1, s2, s3, s4, s5, s6, s7⟩ := hSw; go_simp; rfl) | (obtain ⟨s1, s2, s3⟩ := hSw; go_simp; rfl) | (obtain ⟨s1, s2⟩ := hSw; go_simp; rfl) | (have s1 := hSw; go_simp; rfl)
          go_simp
          refine wpAnyH_take (i := 4) (v := ?_) rfl (by kernel_rfl) (by kernel_rfl) (by kernel_rfl) (fun _ _ _ h => h) (Or.inl ⟨by rfl, ?_⟩) hS ?_
          rotate_left
          · intro w hSw; first | (obtain ⟨s1, s2, s3, s4, s5, s6, s7⟩ := hSw; go_simp; rfl) | (obtain ⟨s1, s2, s3⟩ := hSw; go_simp; rfl) | (obtain ⟨s1, s2⟩ := hSw; go_simp; rfl) | (have s1 := hSw; go_simp; rfl)
          go_simp
          refine wpAnyH_take (i := 5) (v := ?_) rfl (by kernel_rfl) (by kernel_rfl) (by kernel_rfl) (fun _ _ _ h => h) (Or.inl ⟨by rfl, ?_⟩) hS ?_
          rotate_left
          · intro w hSw; first | (obtain ⟨s1, s2, s3, s4, s5, s6, s7⟩ := hSw; go_simp; rfl) | (obtain ⟨s1, s2, s3⟩ := hSw; go_simp; rfl) | (obtain ⟨s1, s2⟩ := hSw; go_simp; rfl) | (have s1 := hSw; go_simp; rfl)
          go_simp
          refine wpAnyH_take (i := 6) (v := ?_) rfl (by kernel_rfl) (by kernel_rfl) (by kernel_rfl) (fun _ _ _ h => h) (Or.inl ⟨by rfl, ?_⟩) hS ?_
          rotate_left
          · intro w hSw; first | (obtain ⟨s1, s2, s3, s4, s5, s6, s7⟩ := hSw; go_simp; rfl) | (obtain ⟨s1, s2, s3⟩ := hSw; go_simp; rfl) | (obtain ⟨s1, s2⟩ := hSw; go_simp; rfl) | (have s1 := hSw; go_simp; rfl)
          go_simp
          refine wpAnyH_take (i := 7) (v := ?_) rfl (by kernel_rfl) (by kernel_rfl) (by kernel_rfl) (fun _ _ _ h => h) (Or.inl ⟨by rfl, ?_⟩) hS ?_
          rotate_left
          · intro w hSw; first | (obtain ⟨s1, s2, s3, s4, s5, s6, s7⟩ := hSw; go_simp; rfl) | (obtain ⟨s1, s2, s3⟩ := hSw; go_simp; rfl) | (obtain ⟨s1, s2⟩ := hSw; go_simp; rfl) | (have s1 := hSw; go_simp; rfl)
          go_simp
          refine heldOne (i := 8) (by kernel_rfl) rfl (by rfl) (fun K hK => ?_)
          go_simp
          have hah := fun w => ahead_any q t w hfq.1 hft.1
          obtain ⟨y, hy⟩ : ∃ y, ahB q t = y := ⟨_, rfl⟩
          rw [hy] at hah
          have HY := Lib.hid hy
          refine (hah _).mono ?_
          clear hah hy
          rintro e w1 ⟨rfl, hn2⟩
          have hfd : New wc w1 := (Fr.refl _ _).drew.trans hn2
          have hS1 : (fun W1 : World => W1.cell? ⟨hb, 0, none⟩ = some (.slice (some ⟨g, 0, none⟩) n cap) ∧ W1.cell? ⟨w.heap.size, 0, none⟩ = some (.int .u64 t.d) ∧ W1.cell? ⟨w.heap.size, 1, none⟩ = some (.int .u64 t.what) ∧ W1.cell? ⟨w.heap.size, 2, none⟩ = some (.int .i64 t.h) ∧ W1.cell? ⟨g, p * 3, none⟩ = some (.int .u64 q.d) ∧ W1.cell? ⟨g, p * 3 + 1, none⟩ = some (.int .u64 q.what) ∧ W1.cell? ⟨g, p * 3 + 2, none⟩ = some (.int .i64 q.h)) w1 :=
            ⟨(hfd.cell lh' id 0).trans c0', (hfd.cell lt' id 0).trans t0', (hfd.cell lt' id 1).trans t1', (hfd.cell lt' id 2).trans t2', (hfd.cell lg' id _).trans q0, (hfd.cell lg' id _).trans q1, (hfd.cell lg' id _).trans q2⟩
          refine hK.out _ _ hS1 ?_
          have HFD := Lib.hid hfd
          clear hK K hn2 hfd hS c0' t0' t1' t2' q0 q1 q2
          refine wpAnyH_take (i := 9) (v := ?_) rfl (by kernel_rfl) (by kernel_rfl) (by kernel_rfl) (fun _ _ _ h => h) (Or.inl ⟨by rfl, ?_⟩) hS1 ?_
          rotate_left
          · intro w hSw; first | (obtain ⟨s1, s2, s3, s4, s5, s6, s7⟩ := hSw; go_simp; rfl) | (obtain ⟨s1, s2, s3⟩ := hSw; go_simp; rfl) | (obtain ⟨s1, s2⟩ := hSw; go_simp; rfl) | (have s1 := hSw; go_simp; rfl)
          refine wpAnyH_done (by kernel_rfl) ?_ _
          obtain ⟨c0, t0, t1, t2, q0, q1, q2⟩ := hS1
          have lt1 := Nat.lt_of_lt_of_le lt' HFD.out.size
          have lh1 := Nat.lt_of_lt_of_le lh' HFD.out.size
          have lg2 := Nat.lt_of_lt_of_le lg' HFD.out.size
          cases y with
          | true =>
            have HLA := Lib.hid (lay_any hb g mb n cap Lm last c Mk k q w1 (HROW.out.new HFD.out) hk hfq (by
              left
              have := HR.out.pl.at' p q (by rw [List.getElem?_set_ne (by have := HPK.out; omega)]; exact HQ.out) (by have := HPK.out; omega)
              rw [this]; rfl))
            go_wp2_with fail
            refine HLA.out.mono ?_
            rintro e w2 ⟨rfl, hr2, hf2⟩
            have HUN := Lib.hid (down_step HR.out (HN1.out.trans HFD.out) lt0 hgl HS.out HQ.out HPK.out hp0 HMIN.out (ahB_true HY.out) hr2 hf2)
            clear hr2 hf2 HLA HY
            go_wp2_with fail
            go_roundw
            case rel => exact ⟨p, _, _, rfl, HUN.out⟩
            case measure => simp [intOf]; have := HPK.out; omega
          | false =>
            have HLA := Lib.hid (lay_any hb g mb n cap Lm last c Mk k t w1 (HROW.out.new HFD.out) hk hft (down_cnt HR.out))
            go_wp2_with fail
            refine HLA.out.mono ?_
            rintro e w2 ⟨rfl, hr2, hf2⟩
            go_wp2
            go_end0
            exact ⟨rfl, down_end HR.out (HN1.out.trans HFD.out) hr2 hf2 HS.out (fun jj j0 jn jp => by
              have h1 := HMIN.out jj j0 jn jp
              have h2 := ahB_false HY.out
              rw [fn_at (show (Lm.set k t)[k]? = some t from getset (by omega))]
              unfold ah at *; omega)⟩

end Go.Proofs.YtafeopcbfgmjkaaDoor
