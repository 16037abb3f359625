/- Sums are taken back, and so on: the statement's walk. -/
import Derived.Test.YtngpcalgjaglmaaVmJ
namespace Go.Proofs.Ytngpcalgjaglmaa
open Go.RowKit

set_option maxRecDepth 100000 in
set_option maxHeartbeats 4000000 in
theorem one_any (fb : Nat) (v : Value) (F : Fm) (op : Int) (A : Nat) (B C : Int) (V : Nat) (w : World) (h : FmAt w fb 0 v F) (ho : 1 ≤ op ∧ op ≤ 11) (hA : A < 32) (hV : V < 18446744073709551616) (hg : goodV op A B C V 1 = true) :
    Calls Try.prog 13 #[.pointer (some ⟨fb, 0, none⟩), insV op A B C V 0 0] w fun e w' => e = .returned (.bool true) ∧ ∃ v', FmAt w' fb 0 v' ⟨1, F.rs.set A (reckN op V (regN F.rs B) (valN F.rs C V)), F.bk⟩ ∧ Fr (· = fb) w w' := by
  have hl := h.fr.lt
  have c0 := h.fr.pc
  have z0 := h.fr.free
  have H := Lib.hid h
  have HG := Lib.hid hg
  clear h hg
  go_enter Try.func13, Try.ntmps13
  go_wp2_with fail
  obtain ⟨W2, hW2⟩ : ∃ W2, ((w.setCell ⟨fb, 0, none⟩ (.int .i64 0)).alloc (.cells #[.int .i64 op, .int .i64 A, .int .i64 B, .int .i64 C, .int .u64 V, .int .i64 0, .int .i64 0] 24)).alloc (.cells #[.int .i64 op, .int .i64 A, .int .i64 B, .int .i64 C, .int .u64 V, .int .i64 0, .int .i64 0] 24) = W2 := ⟨_, rfl⟩
  have hn2 : New (w.setCell ⟨fb, 0, none⟩ (.int .i64 0)) W2 := by rw [← hW2]; exact ((Fr.refl _ _).alloc _).alloc _
  have hb2 : W2.heap[w.heap.size + 1]? = some (.cells #[.int .i64 op, .int .i64 A, .int .i64 B, .int .i64 C, .int .u64 V, .int .i64 0, .int .i64 0] 24 (0, 0)) := by rw [← hW2]; have := block_alloc_new1 (w.setCell ⟨fb, 0, none⟩ (.int .i64 0)) (.cells #[.int .i64 op, .int .i64 A, .int .i64 B, .int .i64 C, .int .u64 V, .int .i64 0, .int .i64 0] 24) (.cells #[.int .i64 op, .int .i64 A, .int .i64 B, .int .i64 C, .int .u64 V, .int .i64 0, .int .i64 0] 24); simpa using this
  rw [hW2]
  have HF2 := Lib.hid ((H.out.setPc 0).new hn2)
  have HN2 := Lib.hid ((Fr34.set (fb := fb) (o := 0) (w := w) (.int .i64 0) (Nat.le_refl _) (by omega)).fr.trans (hn2.mono (T := (· = fb)) (fun _ _ h => h.elim)))
  have HB2 := Lib.hid hb2
  obtain ⟨cg, hcg⟩ : ∃ cg, w.heap.size + 1 = cg := ⟨_, rfl⟩
  rw [hcg] at HB2 ⊢
  clear hW2 hn2 hb2
  refine (step_reck (fb := fb) (o := 0) (v := v) (cv := .nilIface) (F := ⟨0, F.rs, F.bk⟩) (cg := cg) (co := 0) (n := 1) (cap := 1) (k := 0) (op := op) (A := A) (B := B) (C := C) (V := V) (M := 0) (W := 0) (w := W2) HF2.out (ins_block HB2.out rfl rfl rfl rfl rfl rfl rfl) (by omega) (by omega) hV rfl HG.out ho (by omega)).mono ?_
  rintro e w3 ⟨v', rfl, hfm, h34, _⟩
  have HFM := Lib.hid hfm
  have H34 := Lib.hid (HN2.out.trans h34.fr)
  clear hfm h34
  go_wp2
  go_ret
  exact ⟨rfl, v', HFM.out, H34.out⟩

/-- The instructions of the statement. -/
def rkL (c : Nat) : List (Int × Nat × Int × Int × Nat) := [(3, 3, 1, 2, 0), (4, 3, 3, 2, 0), (7, 4, 1, 2, 0), (7, 4, 4, 2, 0), (11, 5, 1, 2, 0), (11, 6, 2, 1, 0), (10, 7, 1, 2, 0), (5, 8, 1, 2, 0), (6, 9, 1, 2, 0), (8, 10, 1, 2, 0), (8, 11, 1, -1, c), (9, 12, 1, 2, 0)]
def rkC (x : Int × Nat × Int × Int × Nat) : List Value := [.int .i64 x.1, .int .i64 x.2.1, .int .i64 x.2.2.1, .int .i64 x.2.2.2.1, .int .u64 x.2.2.2.2, .int .i64 0, .int .i64 0]
theorem rkC_len (x : Int × Nat × Int × Int × Nat) : (rkC x).length = 7 := rfl
def rkS (rs : List Nat) (x : Int × Nat × Int × Int × Nat) : List Nat := rs.set x.2.1 (reckN x.1 x.2.2.2.2 (regN rs x.2.2.1) (valN rs x.2.2.2.1 x.2.2.2.2))
def rkR (a b c k : Nat) : List Nat := ((rkL c).take k).foldl rkS [0, a, b, 0, 0, 0, 0, 0, 0, 0, 0, 0, 0, 0, 0, 0, 0, 0, 0, 0, 0, 0, 0, 0, 0, 0, 0, 0, 0, 0, 0, 0]
theorem rkR_succ {a b c k : Nat} {x : Int × Nat × Int × Int × Nat} (h : (rkL c)[k]? = some x) : rkR a b c (k + 1) = rkS (rkR a b c k) x := by
  unfold rkR
  rw [List.take_add_one, h]
  simp
theorem rkL_ok (c : Nat) (hb : c < 64) : ∀ x ∈ rkL c, (1 ≤ x.1 ∧ x.1 ≤ 11) ∧ x.2.1 < 32 ∧ x.2.2.2.2 < 64 ∧ goodV x.1 x.2.1 x.2.2.1 x.2.2.2.1 x.2.2.2.2 1 = true := by
  intro x hx
  simp only [rkL, List.mem_cons, List.not_mem_nil, or_false] at hx
  rcases hx with rfl | rfl | rfl | rfl | rfl | rfl | rfl | rfl | rfl | rfl | rfl | rfl
  · exact ⟨by decide, by decide, by decide, by decide⟩
  · exact ⟨by decide, by decide, by decide, by decide⟩
  · exact ⟨by decide, by decide, by decide, by decide⟩
  · exact ⟨by decide, by decide, by decide, by decide⟩
  · exact ⟨by decide, by decide, by decide, by decide⟩
  · exact ⟨by decide, by decide, by decide, by decide⟩
  · exact ⟨by decide, by decide, by decide, by decide⟩
  · exact ⟨by decide, by decide, by decide, by decide⟩
  · exact ⟨by decide, by decide, by decide, by decide⟩
  · exact ⟨by decide, by decide, by decide, by decide⟩
  · refine ⟨⟨by omega, by omega⟩, by show 11 < 32; omega, hb, ?_⟩
    show mayB 8 11 1 (-1) c 0 0 1 true = true
    have h1 : numB 8 1 (-1) c 1 true = true := by unfold numB numP; simp [plc, noC]
    unfold mayB restB
    rw [show fV 8 = true by decide, h1]
    decide
  · exact ⟨by decide, by decide, by decide, by decide⟩

theorem and_or_sum (a b : Nat) : (a &&& b) + (a ||| b) = a + b := by
  induction a using Nat.strongRecOn generalizing b with
  | ind a ih =>
    by_cases h : a = 0
    · subst h; simp
    · have h1 := Nat.and_div_two (a := a) (b := b)
      have h2 := Nat.or_div_two (a := a) (b := b)
      have h3 := ih (a / 2) (by omega) (b / 2)
      have h4 := @Nat.and_mod_two_eq_one a b
      have h5 := @Nat.or_mod_two_eq_one a b
      rw [← h1, ← h2] at h3
      omega
theorem rk_fin (a b c : Nat) (ha : a < 18446744073709551616) (hb : b < 18446744073709551616) (hc : b % 64 = c) : (rkR a b c 12).getD 3 0 = a ∧ (rkR a b c 12).getD 4 0 = a ∧
    (∃ x y z, (rkR a b c 12).getD 5 0 = x ∧ (rkR a b c 12).getD 6 0 = y ∧ (rkR a b c 12).getD 7 0 = z ∧ x + y + z = 1) ∧ (∃ x y, (rkR a b c 12).getD 8 0 = x ∧ (rkR a b c 12).getD 9 0 = y ∧ x + y = a + b) ∧
    (∃ x, (rkR a b c 12).getD 10 0 = x ∧ (rkR a b c 12).getD 11 0 = x) ∧ (rkR a b c 12).getD 12 0 = a / 2 ^ c := by
  have h3 : (rkR a b c 12).getD 3 0 = ((a + b) % 18446744073709551616 + (18446744073709551616 - b)) % 18446744073709551616 := by simp [rkR, rkL, rkS, reckN, regN, valN]
  have h4 : (rkR a b c 12).getD 4 0 = (a ^^^ b) ^^^ b := by simp [rkR, rkL, rkS, reckN, regN, valN]
  have h5 : (rkR a b c 12).getD 5 0 = (decide (a < b)).toNat := by simp [rkR, rkL, rkS, reckN, regN, valN]
  have h6 : (rkR a b c 12).getD 6 0 = (decide (b < a)).toNat := by simp [rkR, rkL, rkS, reckN, regN, valN]
  have h7 : (rkR a b c 12).getD 7 0 = (a == b).toNat := by simp [rkR, rkL, rkS, reckN, regN, valN]
  have h8 : (rkR a b c 12).getD 8 0 = a &&& b := by simp [rkR, rkL, rkS, reckN, regN, valN]
  have h9 : (rkR a b c 12).getD 9 0 = a ||| b := by simp [rkR, rkL, rkS, reckN, regN, valN]
  have h10 : (rkR a b c 12).getD 10 0 = a * 2 ^ (b % 64) % 18446744073709551616 := by simp [rkR, rkL, rkS, reckN, regN, valN]
  have h11 : (rkR a b c 12).getD 11 0 = a * 2 ^ (c % 64) % 18446744073709551616 := by simp [rkR, rkL, rkS, reckN, regN, valN]
  have h12 : (rkR a b c 12).getD 12 0 = a / 2 ^ (b % 64) := by simp [rkR, rkL, rkS, reckN, regN, valN]
  refine ⟨by rw [h3]; omega, by rw [h4, Nat.xor_assoc, Nat.xor_self, Nat.xor_zero], ⟨_, _, _, h5, h6, h7, ?_⟩, ⟨_, _, h8, h9, and_or_sum a b⟩, ⟨_, h10, by rw [h11, ← hc, Nat.mod_mod]⟩, by rw [h12, hc]⟩
  rcases Nat.lt_trichotomy a b with h | h | h
  · rw [decide_eq_true h, decide_eq_false (by omega), show (a == b) = false by rw [beq_eq_false_iff_ne]; omega]; rfl
  · subst h; simp
  · rw [decide_eq_true h, decide_eq_false (by omega), show (a == b) = false by rw [beq_eq_false_iff_ne]; omega]; rfl

set_option maxRecDepth 100000 in
set_option maxHeartbeats 8000000 in
theorem reckons_walk (a b : Nat) (w : World) (ha : a < 18446744073709551616) (hb : b < 18446744073709551616) :
    Calls Try.prog 4 #[.int .u64 a, .int .u64 b] w fun e w' => e = .returned (.bool true) ∧ New w w' := by
  obtain ⟨c, hc⟩ : ∃ c, b % 64 = c := ⟨_, rfl⟩
  have hc64 : c < 64 := by omega
  have tr : (b : Int).tmod 64 = (c : Int) := by rw [← hc]; rfl
  have HC := Lib.hid hc
  clear hc
  go_enter Try.func4, Try.ntmps4
  go_wp2_with fail
  obtain ⟨W1, hW1⟩ : ∃ W1, (w.alloc (.cells (frC 0) 35)).drew = W1 := ⟨_, rfl⟩
  have hf1 : FmAt W1 w.heap.size 0 (.slice none 0 0) ⟨0, padR [] 0, []⟩ := by rw [← hW1]; exact (fm_block (xs := []) (block_alloc_new w (.cells (frC 0) 35))).new (Fr.refl _ _).drew
  have hn1 : New w W1 := by rw [← hW1]; exact ((Fr.refl _ _).alloc _).drew
  unfold frC at hW1
  refine heldStart (fun _ => True) (by kernel_rfl) ?_
  rw [hW1]
  obtain ⟨fb, hfb⟩ : ∃ fb, w.heap.size = fb := ⟨_, rfl⟩
  have hwf : w.heap.size ≤ fb := by omega
  rw [hfb] at hf1 ⊢
  have HF1 := Lib.hid hf1
  have HN1 := Lib.hid hn1
  clear hW1 hf1 hn1 hfb
  refine wpAnyH_take (i := 0) (v := ?_) rfl (by kernel_rfl) (by kernel_rfl) (by kernel_rfl) (fun _ _ _ h => h) (Or.inl ⟨by rfl, ?_⟩) trivial ?_
  rotate_left
  · intro w _; go_simp; rfl
  go_simp
  refine wpAnyH_take (i := 1) (v := ?_) rfl (by kernel_rfl) (by kernel_rfl) (by kernel_rfl) (fun _ _ _ h => h) (Or.inl ⟨by rfl, ?_⟩) trivial ?_
  rotate_left
  · intro w _; go_simp; rfl
  go_simp
  refine wpAnyH_take (i := 2) (v := ?_) rfl (by kernel_rfl) (by kernel_rfl) (by kernel_rfl) (fun _ _ _ h => h) (Or.inl ⟨by rfl, ?_⟩) trivial ?_
  rotate_left
  · intro w _; go_simp; rfl
  go_simp
  refine wpAnyH_take (i := 3) (v := ?_) rfl (by kernel_rfl) (by kernel_rfl) (by kernel_rfl) (fun _ _ _ h => h) (Or.inl ⟨by rfl, ?_⟩) trivial ?_
  rotate_left
  · intro w _; go_simp; rfl
  go_simp
  refine wpAnyH_take (i := 4) (v := ?_) rfl (by kernel_rfl) (by kernel_rfl) (by kernel_rfl) (fun _ _ _ h => h) (Or.inl ⟨by rfl, ?_⟩) trivial ?_
  rotate_left
  · intro w _; go_simp; rfl
  go_simp
  refine wpAnyH_take (i := 5) (v := ?_) rfl (by kernel_rfl) (by kernel_rfl) (by kernel_rfl) (fun _ _ _ h => h) (Or.inl ⟨by rfl, ?_⟩) trivial ?_
  rotate_left
  · intro w _; go_simp; rfl
  go_simp
  refine wpAnyH_take (i := 6) (v := ?_) rfl (by kernel_rfl) (by kernel_rfl) (by kernel_rfl) (fun _ _ _ h => h) (Or.inl ⟨by rfl, ?_⟩) trivial ?_
  rotate_left
  · intro w _; go_simp; rfl
  go_simp
  refine wpAnyH_take (i := 8) (v := ?_) rfl (by kernel_rfl) (by kernel_rfl) (by kernel_rfl) (fun _ _ _ h => h) (Or.inl ⟨by rfl, ?_⟩) trivial ?_
  rotate_left
  · intro w _; go_simp; rfl
  go_simp
  refine wpAnyH_take (i := 9) (v := ?_) rfl (by kernel_rfl) (by kernel_rfl) (by kernel_rfl) (fun _ _ _ h => h) (Or.inl ⟨by rfl, ?_⟩) trivial ?_
  rotate_left
  · intro w _; go_simp; rfl
  go_simp
  refine heldOne (i := 7) (by kernel_rfl) rfl (by rfl) (fun K hK => ?_)
  have ya := HF1.out.fr.regD (j := 1) (by omega)
  rw [show 0 + 1 + 1 = 2 from rfl] at ya
  have yz := HF1.out.fr.free
  go_simp
  have hf2 := HF1.out.setReg (j := 1) (y := a) (by omega) ha
  have f2 := (Fr34.set (fb := fb) (o := 0) (w := W1) (i := 0 + 1 + 1) (.int .u64 (a : Nat)) (by omega) (by omega)).fr
  have hn2 := HN1.out.then f2 (fun i hi e => by omega)
  rw [show 0 + 1 + 1 = 2 from rfl] at hf2 hn2
  have HF2 := Lib.hid hf2
  have HN2 := Lib.hid hn2
  refine hK.out _ _ trivial ?_
  clear hK K ya yz hf2 f2 hn2
  generalize W1.setCell ⟨fb, 2, none⟩ (.int .u64 (a : Nat)) = W2 at HF2 HN2 ⊢
  refine wpAnyH_take (i := 10) (v := ?_) rfl (by kernel_rfl) (by kernel_rfl) (by kernel_rfl) (fun _ _ _ h => h) (Or.inl ⟨by rfl, ?_⟩) trivial ?_
  rotate_left
  · intro w _; go_simp; rfl
  go_simp
  refine heldOne (i := 11) (by kernel_rfl) rfl (by rfl) (fun K hK => ?_)
  have ya := HF2.out.fr.regD (j := 2) (by omega)
  rw [show 0 + 1 + 2 = 3 from rfl] at ya
  have yz := HF2.out.fr.free
  go_simp
  have hf2 := HF2.out.setReg (j := 2) (y := b) (by omega) hb
  have f2 := (Fr34.set (fb := fb) (o := 0) (w := W2) (i := 0 + 1 + 2) (.int .u64 (b : Nat)) (by omega) (by omega)).fr
  have hn2 := HN2.out.then f2 (fun i hi e => by omega)
  rw [show 0 + 1 + 2 = 3 from rfl] at hf2 hn2
  have HF3 := Lib.hid hf2
  have HN3 := Lib.hid hn2
  refine hK.out _ _ trivial ?_
  clear hK K ya yz hf2 f2 hn2
  generalize W2.setCell ⟨fb, 3, none⟩ (.int .u64 (b : Nat)) = W3 at HF3 HN3 ⊢
  skip
  refine wpAnyH_done (by kernel_rfl) ?_ _
  have HF4 := Lib.hid (show FmAt W3 fb 0 (.slice none 0 0) ⟨0, rkR a b c 0, []⟩ from HF3.out)
  clear HF1 HF2 HF3 HN1 HN2
  go_wp2_with fail
  obtain ⟨W4, hW4⟩ : ∃ W4, W3.alloc (.cells #[.int .i64 3, .int .i64 3, .int .i64 1, .int .i64 2, .int .u64 0, .int .i64 0, .int .i64 0, .int .i64 4, .int .i64 3, .int .i64 3, .int .i64 2, .int .u64 0, .int .i64 0, .int .i64 0, .int .i64 7, .int .i64 4, .int .i64 1, .int .i64 2, .int .u64 0, .int .i64 0, .int .i64 0, .int .i64 7, .int .i64 4, .int .i64 4, .int .i64 2, .int .u64 0, .int .i64 0, .int .i64 0, .int .i64 11, .int .i64 5, .int .i64 1, .int .i64 2, .int .u64 0, .int .i64 0, .int .i64 0, .int .i64 11, .int .i64 6, .int .i64 2, .int .i64 1, .int .u64 0, .int .i64 0, .int .i64 0, .int .i64 10, .int .i64 7, .int .i64 1, .int .i64 2, .int .u64 0, .int .i64 0, .int .i64 0, .int .i64 5, .int .i64 8, .int .i64 1, .int .i64 2, .int .u64 0, .int .i64 0, .int .i64 0, .int .i64 6, .int .i64 9, .int .i64 1, .int .i64 2, .int .u64 0, .int .i64 0, .int .i64 0, .int .i64 8, .int .i64 10, .int .i64 1, .int .i64 2, .int .u64 0, .int .i64 0, .int .i64 0, .int .i64 8, .int .i64 11, .int .i64 1, .int .i64 (-1), .int .u64 c, .int .i64 0, .int .i64 0, .int .i64 9, .int .i64 12, .int .i64 1, .int .i64 2, .int .u64 0, .int .i64 0, .int .i64 0] 24) = W4 := ⟨_, rfl⟩
  have hb4 : W4.heap[W3.heap.size]? = some (.cells ((rkL c).flatMap rkC).toArray 24 (0, 0)) := by rw [← hW4]; exact block_alloc_new _ _
  have hn4 : New W3 W4 := by rw [← hW4]; exact (Fr.refl _ _).alloc _
  rw [hW4]
  have hff := HF4.out.fr.lt
  obtain ⟨cg, hcg⟩ : ∃ cg, W3.heap.size = cg := ⟨_, rfl⟩
  rw [hcg] at hb4 hff ⊢
  have hcl := lt_of_block hb4
  have HA4 := Lib.hid (show Arr W4 cg ((rkL c).flatMap rkC) from by have := Arr.of_block hb4; simpa using this)
  have HF5 := Lib.hid (HF4.out.new hn4)
  have HN5 := Lib.hid (HN3.out.trans hn4)
  clear hW4 hb4 hn4 HF4 hcg
  go_loopw [36] (fun i wr => ∃ k : Nat, k ≤ 12 ∧ i = .int .i64 k ∧ (∃ v p, FmAt wr fb 0 v ⟨p, rkR a b c k, []⟩) ∧ Fr (· = fb) W4 wr) (fun i _ => 12 - (intOf i).toNat)
  case atStart => exact ⟨0, by omega, rfl, ⟨_, _, HF5.out⟩, Fr.refl _ _⟩
  case round =>
    obtain ⟨k, hk, rfl, ⟨v, p, hf⟩, hn⟩ := hrel
    have HF := Lib.hid hf
    have HN := Lib.hid hn
    clear hf hn
    by_cases hlt : k < 12
    · obtain ⟨x, hx⟩ : ∃ x, (rkL c)[k]? = some x := ⟨(rkL c)[k]'(by show k < 12; exact hlt), by simp⟩
      obtain ⟨hk1, hk2, hk3, hk4⟩ := rkL_ok c hc64 x (List.mem_of_getElem? hx)
      have HR := Lib.hid (rkR_succ (a := a) (b := b) hx)
      have har := HA4.out.keep HN.out (by omega)
      have hcell := fun (j : Nat) (u : Value) (hu : (rkC x)[j]? = some u) => har.row rkC_len hx j u hu
      obtain ⟨op, A, B, C, V⟩ := x
      have c0 : wr.cell? ⟨cg, k * 7, none⟩ = some (.int .i64 op) := hcell 0 _ rfl
      have c1 : wr.cell? ⟨cg, k * 7 + 1, none⟩ = some (.int .i64 A) := hcell 1 _ rfl
      have c2 : wr.cell? ⟨cg, k * 7 + 2, none⟩ = some (.int .i64 B) := hcell 2 _ rfl
      have c3 : wr.cell? ⟨cg, k * 7 + 3, none⟩ = some (.int .i64 C) := hcell 3 _ rfl
      have c4 : wr.cell? ⟨cg, k * 7 + 4, none⟩ = some (.int .u64 V) := hcell 4 _ rfl
      have c5 : wr.cell? ⟨cg, k * 7 + 5, none⟩ = some (.int .i64 0) := hcell 5 _ rfl
      have c6 : wr.cell? ⟨cg, k * 7 + 6, none⟩ = some (.int .i64 0) := hcell 6 _ rfl
      have hone := fun (w' : World) (f : New wr w') => one_any fb v _ op A B C V w' (HF.out.new f) hk1 hk2 (by have : V < 64 := hk3; omega) hk4
      have HONE := Lib.hid hone
      have q1 : (0 : Int) ≤ (k : Int) := by omega
      have q2 : (k : Int) < 12 := by omega
      clear hx hk1 hk2 hk3 hk4 har hcell hone
      go_wp2_with fail
      refine (HONE.out _ ((Fr.refl _ _).alloc _)).mono ?_
      rintro e w2 ⟨rfl, v', hf', hn'⟩
      have hf2 : FmAt w2 fb 0 v' ⟨1, rkR a b c (k + 1), []⟩ := by rw [HR.out]; exact hf'
      have HF2 := Lib.hid hf2
      have HN2 := Lib.hid ((HN.out.alloc (.cells #[.int .i64 op, .int .i64 A, .int .i64 B, .int .i64 C, .int .u64 V, .int .i64 0, .int .i64 0] 24)).trans hn')
      clear hf2 hf' hn'
      go_wp2
      go_roundw
      case rel => exact ⟨k + 1, by omega, by go_num, ⟨_, _, HF2.out⟩, HN2.out⟩
      case measure => simp [intOf]; omega
    · obtain rfl : k = 12 := by omega
      rw [show ((12 : Nat) : Int) = 12 from rfl]
      obtain ⟨e3, e4, ⟨x5, x6, x7, e5, e6, e7, e567⟩, ⟨x8, x9, e8, e9, e89⟩, ⟨x10, e10, e11⟩, e12⟩ := rk_fin a b c ha hb HC.out
      have hfr := HF.out.fr
      have y3 := hfr.regD (j := 3) (by omega)
      have y4 := hfr.regD (j := 4) (by omega)
      have y5 := hfr.regD (j := 5) (by omega)
      have y6 := hfr.regD (j := 6) (by omega)
      have y7 := hfr.regD (j := 7) (by omega)
      have y8 := hfr.regD (j := 8) (by omega)
      have y9 := hfr.regD (j := 9) (by omega)
      have y10 := hfr.regD (j := 10) (by omega)
      have y11 := hfr.regD (j := 11) (by omega)
      have y12 := hfr.regD (j := 12) (by omega)
      simp only [] at y3 y4 y5 y6 y7 y8 y9 y10 y11 y12
      rw [e3] at y3
      rw [e4] at y4
      rw [e5] at y5
      rw [e6] at y6
      rw [e7] at y7
      rw [e8] at y8
      rw [e9] at y9
      rw [e10] at y10
      rw [e11] at y11
      rw [e12] at y12
      simp only [Nat.zero_add, Nat.reduceAdd] at y3 y4 y5 y6 y7 y8 y9 y10 y11 y12
      have hp : 1 ≤ 2 ^ c ∧ 2 ^ c < 18446744073709551616 := ⟨Nat.one_le_two_pow, by
        have := Nat.pow_lt_pow_right (a := 2) (by omega) hc64
        have e : (2 : Nat) ^ 64 = 18446744073709551616 := by decide
        omega⟩
      have tp : IntKind.u64.wrap ((2 : Int) ^ c) = ((2 ^ c : Nat) : Int) := by rw [show (2 : Int) ^ c = ((2 ^ c : Nat) : Int) by push_cast; rfl]; exact IntWalk.u64_in _ (by omega)
      have tp1 : IntKind.u64.wrap (1 * (2 : Int) ^ c) = ((2 ^ c : Nat) : Int) := by rw [Int.one_mul]; exact tp
      have tq : (a : Int).tdiv ((2 ^ c : Nat) : Int) = ((a / 2 ^ c : Nat) : Int) := rfl
      have tb : a / 2 ^ c < 18446744073709551616 := Nat.lt_of_le_of_lt (Nat.div_le_self _ _) ha
      generalize a / 2 ^ c = x12 at y12 tq tb e12
      generalize 2 ^ c = p2 at hp tp tp1 tq
      obtain ⟨hp1, hp2⟩ := hp
      have tmin : min c 64 = c := by omega
      have tnz : ((p2 : Int) == 0) = false := by rw [beq_eq_false_iff_ne]; omega
      have tnz2 : ¬ (p2 : Int) = 0 := by omega
      have tnz3 : ¬ p2 = 0 := by omega
      have tw12 : IntKind.u64.wrap (x12 : Int) = (x12 : Int) := IntWalk.u64_in _ (by omega)
      have t12 : ((x12 : Int) == (x12 : Int)) = true := by simp
      have tS : IntKind.u64.wrap ((x5 : Int) + (x6 : Int)) = (x5 : Int) + (x6 : Int) := IntWalk.u64_in _ (by omega)
      have tS2 : IntKind.u64.wrap ((x5 : Int) + (x6 : Int) + (x7 : Int)) = 1 := by rw [show (x5 : Int) + (x6 : Int) + (x7 : Int) = 1 by omega]; exact IntWalk.u64_in _ (by omega)
      have t1 : ((a : Int) == (a : Int)) = true := by simp
      have t89 : (x8 : Int) + (x9 : Int) = (a : Int) + (b : Int) := by omega
      have t10 : ((x10 : Int) == (x10 : Int)) = true := by simp
      clear e3 e4 e5 e6 e7 e8 e9 e10 e11 e12 e567 e89 hfr tb
      have tw : (IntKind.u64.wrap ((a : Int) + (b : Int)) == IntKind.u64.wrap ((a : Int) + (b : Int))) = true := by simp
      go_wp2_with fail
      have s0 : (wr.drew.cell? ⟨fb, 4, none⟩ = some (.int .u64 a) ∧ wr.drew.cell? ⟨fb, 5, none⟩ = some (.int .u64 a) ∧ wr.drew.cell? ⟨fb, 6, none⟩ = some (.int .u64 x5) ∧ wr.drew.cell? ⟨fb, 7, none⟩ = some (.int .u64 x6) ∧ wr.drew.cell? ⟨fb, 8, none⟩ = some (.int .u64 x7)) ∧ (wr.drew.cell? ⟨fb, 9, none⟩ = some (.int .u64 x8) ∧ wr.drew.cell? ⟨fb, 10, none⟩ = some (.int .u64 x9) ∧ wr.drew.cell? ⟨fb, 11, none⟩ = some (.int .u64 x10) ∧ wr.drew.cell? ⟨fb, 12, none⟩ = some (.int .u64 x10) ∧ wr.drew.cell? ⟨fb, 13, none⟩ = some (.int .u64 x12)) := ⟨⟨y3, y4, y5, y6, y7⟩, ⟨y8, y9, y10, y11, y12⟩⟩
      refine heldStart (fun wz => (wz.cell? ⟨fb, 4, none⟩ = some (.int .u64 a) ∧ wz.cell? ⟨fb, 5, none⟩ = some (.int .u64 a) ∧ wz.cell? ⟨fb, 6, none⟩ = some (.int .u64 x5) ∧ wz.cell? ⟨fb, 7, none⟩ = some (.int .u64 x6) ∧ wz.cell? ⟨fb, 8, none⟩ = some (.int .u64 x7)) ∧ (wz.cell? ⟨fb, 9, none⟩ = some (.int .u64 x8) ∧ wz.cell? ⟨fb, 10, none⟩ = some (.int .u64 x9) ∧ wz.cell? ⟨fb, 11, none⟩ = some (.int .u64 x10) ∧ wz.cell? ⟨fb, 12, none⟩ = some (.int .u64 x10) ∧ wz.cell? ⟨fb, 13, none⟩ = some (.int .u64 x12))) (by kernel_rfl) ?_
      clear y3 y4 y5 y6 y7 y8 y9 y10 y11 y12
      refine wpAnyH_take (i := 0) (v := ?_) rfl (by kernel_rfl) (by kernel_rfl) (by kernel_rfl) (fun _ _ _ h => h) (Or.inl ⟨by rfl, ?_⟩) s0 ?_
      rotate_left
      · intro w hSw; first | (obtain ⟨s1, s2, s3, s4, s5, s6, s7, s8⟩ := hSw; go_simp; rfl) | (obtain ⟨s1, s2, s3, s4, s5, s6, s7⟩ := hSw; go_simp; rfl) | (obtain ⟨s1, s2, s3⟩ := hSw; go_simp; rfl) | (obtain ⟨s1, s2⟩ := hSw; go_simp; rfl) | (have s1 := hSw; go_simp; rfl)
      go_simp
      refine wpAnyH_take (i := 1) (v := ?_) rfl (by kernel_rfl) (by kernel_rfl) (by kernel_rfl) (fun _ _ _ h => h) (Or.inl ⟨by rfl, ?_⟩) s0 ?_
      rotate_left
      · intro w hSw; first | (obtain ⟨s1, s2, s3, s4, s5, s6, s7, s8⟩ := hSw; go_simp; rfl) | (obtain ⟨s1, s2, s3, s4, s5, s6, s7⟩ := hSw; go_simp; rfl) | (obtain ⟨s1, s2, s3⟩ := hSw; go_simp; rfl) | (obtain ⟨s1, s2⟩ := hSw; go_simp; rfl) | (have s1 := hSw; go_simp; rfl)
      go_simp
      refine wpAnyH_take (i := 2) (v := ?_) rfl (by kernel_rfl) (by kernel_rfl) (by kernel_rfl) (fun _ _ _ h => h) (Or.inl ⟨by rfl, ?_⟩) s0 ?_
      rotate_left
      · intro w hSw; first | (obtain ⟨s1, s2, s3, s4, s5, s6, s7, s8⟩ := hSw; go_simp; rfl) | (obtain ⟨s1, s2, s3, s4, s5, s6, s7⟩ := hSw; go_simp; rfl) | (obtain ⟨s1, s2, s3⟩ := hSw; go_simp; rfl) | (obtain ⟨s1, s2⟩ := hSw; go_simp; rfl) | (have s1 := hSw; go_simp; rfl)
      go_simp
      refine wpAnyH_take (i := 3) (v := ?_) rfl (by kernel_rfl) (by kernel_rfl) (by kernel_rfl) (fun _ _ _ h => h) (Or.inl ⟨by rfl, ?_⟩) s0 ?_
      rotate_left
      · intro w hSw; first | (obtain ⟨s1, s2, s3, s4, s5, s6, s7, s8⟩ := hSw; go_simp; rfl) | (obtain ⟨s1, s2, s3, s4, s5, s6, s7⟩ := hSw; go_simp; rfl) | (obtain ⟨s1, s2, s3⟩ := hSw; go_simp; rfl) | (obtain ⟨s1, s2⟩ := hSw; go_simp; rfl) | (have s1 := hSw; go_simp; rfl)
      go_simp
      refine wpAnyH_take (i := 4) (v := ?_) rfl (by kernel_rfl) (by kernel_rfl) (by kernel_rfl) (fun _ _ _ h => h) (Or.inl ⟨by rfl, ?_⟩) s0 ?_
      rotate_left
      · intro w hSw; first | (obtain ⟨s1, s2, s3, s4, s5, s6, s7, s8⟩ := hSw; go_simp; rfl) | (obtain ⟨s1, s2, s3, s4, s5, s6, s7⟩ := hSw; go_simp; rfl) | (obtain ⟨s1, s2, s3⟩ := hSw; go_simp; rfl) | (obtain ⟨s1, s2⟩ := hSw; go_simp; rfl) | (have s1 := hSw; go_simp; rfl)
      go_simp
      refine wpAnyH_take (i := 5) (v := ?_) rfl (by kernel_rfl) (by kernel_rfl) (by kernel_rfl) (fun _ _ _ h => h) (Or.inl ⟨by rfl, ?_⟩) s0 ?_
      rotate_left
      · intro w hSw; first | (obtain ⟨s1, s2, s3, s4, s5, s6, s7, s8⟩ := hSw; go_simp; rfl) | (obtain ⟨s1, s2, s3, s4, s5, s6, s7⟩ := hSw; go_simp; rfl) | (obtain ⟨s1, s2, s3⟩ := hSw; go_simp; rfl) | (obtain ⟨s1, s2⟩ := hSw; go_simp; rfl) | (have s1 := hSw; go_simp; rfl)
      go_simp
      refine wpAnyH_take (i := 6) (v := ?_) rfl (by kernel_rfl) (by kernel_rfl) (by kernel_rfl) (fun _ _ _ h => h) (Or.inl ⟨by rfl, ?_⟩) s0 ?_
      rotate_left
      · intro w hSw; first | (obtain ⟨s1, s2, s3, s4, s5, s6, s7, s8⟩ := hSw; go_simp; rfl) | (obtain ⟨s1, s2, s3, s4, s5, s6, s7⟩ := hSw; go_simp; rfl) | (obtain ⟨s1, s2, s3⟩ := hSw; go_simp; rfl) | (obtain ⟨s1, s2⟩ := hSw; go_simp; rfl) | (have s1 := hSw; go_simp; rfl)
      go_simp
      refine wpAnyH_take (i := 7) (v := ?_) rfl (by kernel_rfl) (by kernel_rfl) (by kernel_rfl) (fun _ _ _ h => h) (Or.inl ⟨by rfl, ?_⟩) s0 ?_
      rotate_left
      · intro w hSw; first | (obtain ⟨s1, s2, s3, s4, s5, s6, s7, s8⟩ := hSw; go_simp; rfl) | (obtain ⟨s1, s2, s3, s4, s5, s6, s7⟩ := hSw; go_simp; rfl) | (obtain ⟨s1, s2, s3⟩ := hSw; go_simp; rfl) | (obtain ⟨s1, s2⟩ := hSw; go_simp; rfl) | (have s1 := hSw; go_simp; rfl)
      go_simp
      refine wpAnyH_take (i := 8) (v := ?_) rfl (by kernel_rfl) (by kernel_rfl) (by kernel_rfl) (fun _ _ _ h => h) (Or.inl ⟨by rfl, ?_⟩) s0 ?_
      rotate_left
      · intro w hSw; first | (obtain ⟨s1, s2, s3, s4, s5, s6, s7, s8⟩ := hSw; go_simp; rfl) | (obtain ⟨s1, s2, s3, s4, s5, s6, s7⟩ := hSw; go_simp; rfl) | (obtain ⟨s1, s2, s3⟩ := hSw; go_simp; rfl) | (obtain ⟨s1, s2⟩ := hSw; go_simp; rfl) | (have s1 := hSw; go_simp; rfl)
      go_simp
      refine wpAnyH_take (i := 9) (v := ?_) rfl (by kernel_rfl) (by kernel_rfl) (by kernel_rfl) (fun _ _ _ h => h) (Or.inl ⟨by rfl, ?_⟩) s0 ?_
      rotate_left
      · intro w hSw; first | (obtain ⟨s1, s2, s3, s4, s5, s6, s7, s8⟩ := hSw; go_simp; rfl) | (obtain ⟨s1, s2, s3, s4, s5, s6, s7⟩ := hSw; go_simp; rfl) | (obtain ⟨s1, s2, s3⟩ := hSw; go_simp; rfl) | (obtain ⟨s1, s2⟩ := hSw; go_simp; rfl) | (have s1 := hSw; go_simp; rfl)
      go_simp
      refine wpAnyH_take (i := 10) (v := ?_) rfl (by kernel_rfl) (by kernel_rfl) (by kernel_rfl) (fun _ _ _ h => h) (Or.inl ⟨by rfl, ?_⟩) s0 ?_
      rotate_left
      · intro w hSw; first | (obtain ⟨s1, s2, s3, s4, s5, s6, s7, s8⟩ := hSw; go_simp; rfl) | (obtain ⟨s1, s2, s3, s4, s5, s6, s7⟩ := hSw; go_simp; rfl) | (obtain ⟨s1, s2, s3⟩ := hSw; go_simp; rfl) | (obtain ⟨s1, s2⟩ := hSw; go_simp; rfl) | (have s1 := hSw; go_simp; rfl)
      go_simp
      refine wpAnyH_take (i := 11) (v := ?_) rfl (by kernel_rfl) (by kernel_rfl) (by kernel_rfl) (fun _ _ _ h => h) (Or.inl ⟨by rfl, ?_⟩) s0 ?_
      rotate_left
      · intro w hSw; first | (obtain ⟨s1, s2, s3, s4, s5, s6, s7, s8⟩ := hSw; go_simp; rfl) | (obtain ⟨s1, s2, s3, s4, s5, s6, s7⟩ := hSw; go_simp; rfl) | (obtain ⟨s1, s2, s3⟩ := hSw; go_simp; rfl) | (obtain ⟨s1, s2⟩ := hSw; go_simp; rfl) | (have s1 := hSw; go_simp; rfl)
      go_simp
      refine wpAnyH_take (i := 12) (v := ?_) rfl (by kernel_rfl) (by kernel_rfl) (by kernel_rfl) (fun _ _ _ h => h) (Or.inl ⟨by rfl, ?_⟩) s0 ?_
      rotate_left
      · intro w hSw; first | (obtain ⟨s1, s2, s3, s4, s5, s6, s7, s8⟩ := hSw; go_simp; rfl) | (obtain ⟨s1, s2, s3, s4, s5, s6, s7⟩ := hSw; go_simp; rfl) | (obtain ⟨s1, s2, s3⟩ := hSw; go_simp; rfl) | (obtain ⟨s1, s2⟩ := hSw; go_simp; rfl) | (have s1 := hSw; go_simp; rfl)
      go_simp
      refine wpAnyH_take (i := 13) (v := ?_) rfl (by kernel_rfl) (by kernel_rfl) (by kernel_rfl) (fun _ _ _ h => h) (Or.inl ⟨by rfl, ?_⟩) s0 ?_
      rotate_left
      · intro w hSw; first | (obtain ⟨s1, s2, s3, s4, s5, s6, s7, s8⟩ := hSw; go_simp; rfl) | (obtain ⟨s1, s2, s3, s4, s5, s6, s7⟩ := hSw; go_simp; rfl) | (obtain ⟨s1, s2, s3⟩ := hSw; go_simp; rfl) | (obtain ⟨s1, s2⟩ := hSw; go_simp; rfl) | (have s1 := hSw; go_simp; rfl)
      go_simp
      refine wpAnyH_take (i := 14) (v := ?_) rfl (by kernel_rfl) (by kernel_rfl) (by kernel_rfl) (fun _ _ _ h => h) (Or.inl ⟨by rfl, ?_⟩) s0 ?_
      rotate_left
      · intro w hSw; first | (obtain ⟨s1, s2, s3, s4, s5, s6, s7, s8⟩ := hSw; go_simp; rfl) | (obtain ⟨s1, s2, s3, s4, s5, s6, s7⟩ := hSw; go_simp; rfl) | (obtain ⟨s1, s2, s3⟩ := hSw; go_simp; rfl) | (obtain ⟨s1, s2⟩ := hSw; go_simp; rfl) | (have s1 := hSw; go_simp; rfl)
      go_simp
      refine wpAnyH_take (i := 15) (v := ?_) rfl (by kernel_rfl) (by kernel_rfl) (by kernel_rfl) (fun _ _ _ h => h) (Or.inl ⟨by rfl, ?_⟩) s0 ?_
      rotate_left
      · intro w hSw; first | (obtain ⟨s1, s2, s3, s4, s5, s6, s7, s8⟩ := hSw; go_simp; rfl) | (obtain ⟨s1, s2, s3, s4, s5, s6, s7⟩ := hSw; go_simp; rfl) | (obtain ⟨s1, s2, s3⟩ := hSw; go_simp; rfl) | (obtain ⟨s1, s2⟩ := hSw; go_simp; rfl) | (have s1 := hSw; go_simp; rfl)
      go_simp
      refine wpAnyH_take (i := 16) (v := ?_) rfl (by kernel_rfl) (by kernel_rfl) (by kernel_rfl) (fun _ _ _ h => h) (Or.inl ⟨by rfl, ?_⟩) s0 ?_
      rotate_left
      · intro w hSw; first | (obtain ⟨s1, s2, s3, s4, s5, s6, s7, s8⟩ := hSw; go_simp; rfl) | (obtain ⟨s1, s2, s3, s4, s5, s6, s7⟩ := hSw; go_simp; rfl) | (obtain ⟨s1, s2, s3⟩ := hSw; go_simp; rfl) | (obtain ⟨s1, s2⟩ := hSw; go_simp; rfl) | (have s1 := hSw; go_simp; rfl)
      go_simp
      refine wpAnyH_take (i := 17) (v := ?_) rfl (by kernel_rfl) (by kernel_rfl) (by kernel_rfl) (fun _ _ _ h => h) (Or.inl ⟨by rfl, ?_⟩) s0 ?_
      rotate_left
      · intro w hSw; first | (obtain ⟨s1, s2, s3, s4, s5, s6, s7, s8⟩ := hSw; go_simp; rfl) | (obtain ⟨s1, s2, s3, s4, s5, s6, s7⟩ := hSw; go_simp; rfl) | (obtain ⟨s1, s2, s3⟩ := hSw; go_simp; rfl) | (obtain ⟨s1, s2⟩ := hSw; go_simp; rfl) | (have s1 := hSw; go_simp; rfl)
      go_simp
      refine wpAnyH_take (i := 18) (v := ?_) rfl (by kernel_rfl) (by kernel_rfl) (by kernel_rfl) (fun _ _ _ h => h) (Or.inl ⟨by rfl, ?_⟩) s0 ?_
      rotate_left
      · intro w hSw; first | (obtain ⟨s1, s2, s3, s4, s5, s6, s7, s8⟩ := hSw; go_simp; rfl) | (obtain ⟨s1, s2, s3, s4, s5, s6, s7⟩ := hSw; go_simp; rfl) | (obtain ⟨s1, s2, s3⟩ := hSw; go_simp; rfl) | (obtain ⟨s1, s2⟩ := hSw; go_simp; rfl) | (have s1 := hSw; go_simp; rfl)
      go_simp
      refine wpAnyH_take (i := 19) (v := ?_) rfl (by kernel_rfl) (by kernel_rfl) (by kernel_rfl) (fun _ _ _ h => h) (Or.inl ⟨by rfl, ?_⟩) s0 ?_
      rotate_left
      · intro w hSw; first | (obtain ⟨s1, s2, s3, s4, s5, s6, s7, s8⟩ := hSw; go_simp; rfl) | (obtain ⟨s1, s2, s3, s4, s5, s6, s7⟩ := hSw; go_simp; rfl) | (obtain ⟨s1, s2, s3⟩ := hSw; go_simp; rfl) | (obtain ⟨s1, s2⟩ := hSw; go_simp; rfl) | (have s1 := hSw; go_simp; rfl)
      go_simp
      refine wpAnyH_take (i := 20) (v := ?_) rfl (by kernel_rfl) (by kernel_rfl) (by kernel_rfl) (fun _ _ _ h => h) (Or.inl ⟨by rfl, ?_⟩) s0 ?_
      rotate_left
      · intro w hSw; first | (obtain ⟨s1, s2, s3, s4, s5, s6, s7, s8⟩ := hSw; go_simp; rfl) | (obtain ⟨s1, s2, s3, s4, s5, s6, s7⟩ := hSw; go_simp; rfl) | (obtain ⟨s1, s2, s3⟩ := hSw; go_simp; rfl) | (obtain ⟨s1, s2⟩ := hSw; go_simp; rfl) | (have s1 := hSw; go_simp; rfl)
      go_simp
      refine wpAnyH_take (i := 21) (v := ?_) rfl (by kernel_rfl) (by kernel_rfl) (by kernel_rfl) (fun _ _ _ h => h) (Or.inl ⟨by rfl, ?_⟩) s0 ?_
      rotate_left
      · intro w hSw; first | (obtain ⟨s1, s2, s3, s4, s5, s6, s7, s8⟩ := hSw; go_simp; rfl) | (obtain ⟨s1, s2, s3, s4, s5, s6, s7⟩ := hSw; go_simp; rfl) | (obtain ⟨s1, s2, s3⟩ := hSw; go_simp; rfl) | (obtain ⟨s1, s2⟩ := hSw; go_simp; rfl) | (have s1 := hSw; go_simp; rfl)
      go_simp
      refine wpAnyH_take (i := 22) (v := ?_) rfl (by kernel_rfl) (by kernel_rfl) (by kernel_rfl) (fun _ _ _ h => h) (Or.inl ⟨by rfl, ?_⟩) s0 ?_
      rotate_left
      · intro w hSw; first | (obtain ⟨s1, s2, s3, s4, s5, s6, s7, s8⟩ := hSw; go_simp; rfl) | (obtain ⟨s1, s2, s3, s4, s5, s6, s7⟩ := hSw; go_simp; rfl) | (obtain ⟨s1, s2, s3⟩ := hSw; go_simp; rfl) | (obtain ⟨s1, s2⟩ := hSw; go_simp; rfl) | (have s1 := hSw; go_simp; rfl)
      go_simp
      refine wpAnyH_take (i := 23) (v := ?_) rfl (by kernel_rfl) (by kernel_rfl) (by kernel_rfl) (fun _ _ _ h => h) (Or.inl ⟨by rfl, ?_⟩) s0 ?_
      rotate_left
      · intro w hSw; first | (obtain ⟨s1, s2, s3, s4, s5, s6, s7, s8⟩ := hSw; go_simp; rfl) | (obtain ⟨s1, s2, s3, s4, s5, s6, s7⟩ := hSw; go_simp; rfl) | (obtain ⟨s1, s2, s3⟩ := hSw; go_simp; rfl) | (obtain ⟨s1, s2⟩ := hSw; go_simp; rfl) | (have s1 := hSw; go_simp; rfl)
      go_simp
      refine wpAnyH_take (i := 24) (v := ?_) rfl (by kernel_rfl) (by kernel_rfl) (by kernel_rfl) (fun _ _ _ h => h) (Or.inl ⟨by rfl, ?_⟩) s0 ?_
      rotate_left
      · intro w hSw; first | (obtain ⟨s1, s2, s3, s4, s5, s6, s7, s8⟩ := hSw; go_simp; rfl) | (obtain ⟨s1, s2, s3, s4, s5, s6, s7⟩ := hSw; go_simp; rfl) | (obtain ⟨s1, s2, s3⟩ := hSw; go_simp; rfl) | (obtain ⟨s1, s2⟩ := hSw; go_simp; rfl) | (have s1 := hSw; go_simp; rfl)
      go_simp
      refine wpAnyH_take (i := 25) (v := ?_) rfl (by kernel_rfl) (by kernel_rfl) (by kernel_rfl) (fun _ _ _ h => h) (Or.inl ⟨by rfl, ?_⟩) s0 ?_
      rotate_left
      · intro w hSw; first | (obtain ⟨s1, s2, s3, s4, s5, s6, s7, s8⟩ := hSw; go_simp; rfl) | (obtain ⟨s1, s2, s3, s4, s5, s6, s7⟩ := hSw; go_simp; rfl) | (obtain ⟨s1, s2, s3⟩ := hSw; go_simp; rfl) | (obtain ⟨s1, s2⟩ := hSw; go_simp; rfl) | (have s1 := hSw; go_simp; rfl)
      go_simp
      refine wpAnyH_take (i := 26) (v := ?_) rfl (by kernel_rfl) (by kernel_rfl) (by kernel_rfl) (fun _ _ _ h => h) (Or.inl ⟨by rfl, ?_⟩) s0 ?_
      rotate_left
      · intro w hSw; first | (obtain ⟨s1, s2, s3, s4, s5, s6, s7, s8⟩ := hSw; go_simp; rfl) | (obtain ⟨s1, s2, s3, s4, s5, s6, s7⟩ := hSw; go_simp; rfl) | (obtain ⟨s1, s2, s3⟩ := hSw; go_simp; rfl) | (obtain ⟨s1, s2⟩ := hSw; go_simp; rfl) | (have s1 := hSw; go_simp; rfl)
      go_simp
      refine wpAnyH_take (i := 27) (v := ?_) rfl (by kernel_rfl) (by kernel_rfl) (by kernel_rfl) (fun _ _ _ h => h) (Or.inl ⟨by rfl, ?_⟩) s0 ?_
      rotate_left
      · intro w hSw; first | (obtain ⟨s1, s2, s3, s4, s5, s6, s7, s8⟩ := hSw; go_simp; rfl) | (obtain ⟨s1, s2, s3, s4, s5, s6, s7⟩ := hSw; go_simp; rfl) | (obtain ⟨s1, s2, s3⟩ := hSw; go_simp; rfl) | (obtain ⟨s1, s2⟩ := hSw; go_simp; rfl) | (have s1 := hSw; go_simp; rfl)
      go_simp
      refine wpAnyH_take (i := 28) (v := ?_) rfl (by kernel_rfl) (by kernel_rfl) (by kernel_rfl) (fun _ _ _ h => h) (Or.inl ⟨by rfl, ?_⟩) s0 ?_
      rotate_left
      · intro w hSw; first | (obtain ⟨s1, s2, s3, s4, s5, s6, s7, s8⟩ := hSw; go_simp; rfl) | (obtain ⟨s1, s2, s3, s4, s5, s6, s7⟩ := hSw; go_simp; rfl) | (obtain ⟨s1, s2, s3⟩ := hSw; go_simp; rfl) | (obtain ⟨s1, s2⟩ := hSw; go_simp; rfl) | (have s1 := hSw; go_simp; rfl)
      go_simp
      refine wpAnyH_take (i := 29) (v := ?_) rfl (by kernel_rfl) (by kernel_rfl) (by kernel_rfl) (fun _ _ _ h => h) (Or.inl ⟨by rfl, ?_⟩) s0 ?_
      rotate_left
      · intro w hSw; first | (obtain ⟨s1, s2, s3, s4, s5, s6, s7, s8⟩ := hSw; go_simp; rfl) | (obtain ⟨s1, s2, s3, s4, s5, s6, s7⟩ := hSw; go_simp; rfl) | (obtain ⟨s1, s2, s3⟩ := hSw; go_simp; rfl) | (obtain ⟨s1, s2⟩ := hSw; go_simp; rfl) | (have s1 := hSw; go_simp; rfl)
      go_simp
      refine wpAnyH_take (i := 30) (v := ?_) rfl (by kernel_rfl) (by kernel_rfl) (by kernel_rfl) (fun _ _ _ h => h) (Or.inl ⟨by rfl, ?_⟩) s0 ?_
      rotate_left
      · intro w hSw; first | (obtain ⟨s1, s2, s3, s4, s5, s6, s7, s8⟩ := hSw; go_simp; rfl) | (obtain ⟨s1, s2, s3, s4, s5, s6, s7⟩ := hSw; go_simp; rfl) | (obtain ⟨s1, s2, s3⟩ := hSw; go_simp; rfl) | (obtain ⟨s1, s2⟩ := hSw; go_simp; rfl) | (have s1 := hSw; go_simp; rfl)
      go_simp
      refine wpAnyH_take (i := 31) (v := ?_) rfl (by kernel_rfl) (by kernel_rfl) (by kernel_rfl) (fun _ _ _ h => h) (Or.inl ⟨by rfl, ?_⟩) s0 ?_
      rotate_left
      · intro w hSw; first | (obtain ⟨s1, s2, s3, s4, s5, s6, s7, s8⟩ := hSw; go_simp; rfl) | (obtain ⟨s1, s2, s3, s4, s5, s6, s7⟩ := hSw; go_simp; rfl) | (obtain ⟨s1, s2, s3⟩ := hSw; go_simp; rfl) | (obtain ⟨s1, s2⟩ := hSw; go_simp; rfl) | (have s1 := hSw; go_simp; rfl)
      go_simp
      refine wpAnyH_take (i := 32) (v := ?_) rfl (by kernel_rfl) (by kernel_rfl) (by kernel_rfl) (fun _ _ _ h => h) (Or.inl ⟨by rfl, ?_⟩) s0 ?_
      rotate_left
      · intro w hSw; first | (obtain ⟨s1, s2, s3, s4, s5, s6, s7, s8⟩ := hSw; go_simp; rfl) | (obtain ⟨s1, s2, s3, s4, s5, s6, s7⟩ := hSw; go_simp; rfl) | (obtain ⟨s1, s2, s3⟩ := hSw; go_simp; rfl) | (obtain ⟨s1, s2⟩ := hSw; go_simp; rfl) | (have s1 := hSw; go_simp; rfl)
      go_simp
      refine wpAnyH_take (i := 33) (v := ?_) rfl (by kernel_rfl) (by kernel_rfl) (by kernel_rfl) (fun _ _ _ h => h) (Or.inl ⟨by rfl, ?_⟩) s0 ?_
      rotate_left
      · intro w hSw; first | (obtain ⟨s1, s2, s3, s4, s5, s6, s7, s8⟩ := hSw; go_simp; rfl) | (obtain ⟨s1, s2, s3, s4, s5, s6, s7⟩ := hSw; go_simp; rfl) | (obtain ⟨s1, s2, s3⟩ := hSw; go_simp; rfl) | (obtain ⟨s1, s2⟩ := hSw; go_simp; rfl) | (have s1 := hSw; go_simp; rfl)
      go_simp
      refine wpAnyH_take (i := 34) (v := ?_) rfl (by kernel_rfl) (by kernel_rfl) (by kernel_rfl) (fun _ _ _ h => h) (Or.inl ⟨by rfl, ?_⟩) s0 ?_
      rotate_left
      · intro w hSw; first | (obtain ⟨s1, s2, s3, s4, s5, s6, s7, s8⟩ := hSw; go_simp; rfl) | (obtain ⟨s1, s2, s3, s4, s5, s6, s7⟩ := hSw; go_simp; rfl) | (obtain ⟨s1, s2, s3⟩ := hSw; go_simp; rfl) | (obtain ⟨s1, s2⟩ := hSw; go_simp; rfl) | (have s1 := hSw; go_simp; rfl)
      go_simp
      refine wpAnyH_take (i := 35) (v := ?_) rfl (by kernel_rfl) (by kernel_rfl) (by kernel_rfl) (fun _ _ _ h => h) (Or.inl ⟨by rfl, ?_⟩) s0 ?_
      rotate_left
      · intro w hSw; first | (obtain ⟨s1, s2, s3, s4, s5, s6, s7, s8⟩ := hSw; go_simp; rfl) | (obtain ⟨s1, s2, s3, s4, s5, s6, s7⟩ := hSw; go_simp; rfl) | (obtain ⟨s1, s2, s3⟩ := hSw; go_simp; rfl) | (obtain ⟨s1, s2⟩ := hSw; go_simp; rfl) | (have s1 := hSw; go_simp; rfl)
      go_simp
      refine wpAnyH_take (i := 36) (v := ?_) rfl (by kernel_rfl) (by kernel_rfl) (by kernel_rfl) (fun _ _ _ h => h) (Or.inl ⟨by rfl, ?_⟩) s0 ?_
      rotate_left
      · intro w hSw; first | (obtain ⟨s1, s2, s3, s4, s5, s6, s7, s8⟩ := hSw; go_simp; rfl) | (obtain ⟨s1, s2, s3, s4, s5, s6, s7⟩ := hSw; go_simp; rfl) | (obtain ⟨s1, s2, s3⟩ := hSw; go_simp; rfl) | (obtain ⟨s1, s2⟩ := hSw; go_simp; rfl) | (have s1 := hSw; go_simp; rfl)
      go_simp
      refine wpAnyH_take (i := 37) (v := ?_) rfl (by kernel_rfl) (by kernel_rfl) (by kernel_rfl) (fun _ _ _ h => h) (Or.inl ⟨by rfl, ?_⟩) s0 ?_
      rotate_left
      · intro w hSw; first | (obtain ⟨s1, s2, s3, s4, s5, s6, s7, s8⟩ := hSw; go_simp; rfl) | (obtain ⟨s1, s2, s3, s4, s5, s6, s7⟩ := hSw; go_simp; rfl) | (obtain ⟨s1, s2, s3⟩ := hSw; go_simp; rfl) | (obtain ⟨s1, s2⟩ := hSw; go_simp; rfl) | (have s1 := hSw; go_simp; rfl)
      go_simp
      refine wpAnyH_take (i := 38) (v := ?_) rfl (by kernel_rfl) (by kernel_rfl) (by kernel_rfl) (fun _ _ _ h => h) (Or.inl ⟨by rfl, ?_⟩) s0 ?_
      rotate_left
      · intro w hSw; first | (obtain ⟨s1, s2, s3, s4, s5, s6, s7, s8⟩ := hSw; go_simp; rfl) | (obtain ⟨s1, s2, s3, s4, s5, s6, s7⟩ := hSw; go_simp; rfl) | (obtain ⟨s1, s2, s3⟩ := hSw; go_simp; rfl) | (obtain ⟨s1, s2⟩ := hSw; go_simp; rfl) | (have s1 := hSw; go_simp; rfl)
      go_simp
      refine wpAnyH_take (i := 39) (v := ?_) rfl (by kernel_rfl) (by kernel_rfl) (by kernel_rfl) (fun _ _ _ h => h) (Or.inl ⟨by rfl, ?_⟩) s0 ?_
      rotate_left
      · intro w hSw; first | (obtain ⟨s1, s2, s3, s4, s5, s6, s7, s8⟩ := hSw; go_simp; rfl) | (obtain ⟨s1, s2, s3, s4, s5, s6, s7⟩ := hSw; go_simp; rfl) | (obtain ⟨s1, s2, s3⟩ := hSw; go_simp; rfl) | (obtain ⟨s1, s2⟩ := hSw; go_simp; rfl) | (have s1 := hSw; go_simp; rfl)
      go_simp
      refine wpAnyH_take (i := 40) (v := ?_) rfl (by kernel_rfl) (by kernel_rfl) (by kernel_rfl) (fun _ _ _ h => h) (Or.inl ⟨by rfl, ?_⟩) s0 ?_
      rotate_left
      · intro w hSw; first | (obtain ⟨s1, s2, s3, s4, s5, s6, s7, s8⟩ := hSw; go_simp; rfl) | (obtain ⟨s1, s2, s3, s4, s5, s6, s7⟩ := hSw; go_simp; rfl) | (obtain ⟨s1, s2, s3⟩ := hSw; go_simp; rfl) | (obtain ⟨s1, s2⟩ := hSw; go_simp; rfl) | (have s1 := hSw; go_simp; rfl)
      go_simp
      refine wpAnyH_take (i := 41) (v := ?_) rfl (by kernel_rfl) (by kernel_rfl) (by kernel_rfl) (fun _ _ _ h => h) (Or.inl ⟨by rfl, ?_⟩) s0 ?_
      rotate_left
      · intro w hSw; first | (obtain ⟨s1, s2, s3, s4, s5, s6, s7, s8⟩ := hSw; go_simp; rfl) | (obtain ⟨s1, s2, s3, s4, s5, s6, s7⟩ := hSw; go_simp; rfl) | (obtain ⟨s1, s2, s3⟩ := hSw; go_simp; rfl) | (obtain ⟨s1, s2⟩ := hSw; go_simp; rfl) | (have s1 := hSw; go_simp; rfl)
      go_simp
      refine wpAnyH_take (i := 42) (v := ?_) rfl (by kernel_rfl) (by kernel_rfl) (by kernel_rfl) (fun _ _ _ h => h) (Or.inl ⟨by rfl, ?_⟩) s0 ?_
      rotate_left
      · intro w hSw; first | (obtain ⟨s1, s2, s3, s4, s5, s6, s7, s8⟩ := hSw; go_simp; rfl) | (obtain ⟨s1, s2, s3, s4, s5, s6, s7⟩ := hSw; go_simp; rfl) | (obtain ⟨s1, s2, s3⟩ := hSw; go_simp; rfl) | (obtain ⟨s1, s2⟩ := hSw; go_simp; rfl) | (have s1 := hSw; go_simp; rfl)
      go_simp
      refine wpAnyH_take (i := 43) (v := ?_) rfl (by kernel_rfl) (by kernel_rfl) (by kernel_rfl) (fun _ _ _ h => h) (Or.inl ⟨by rfl, ?_⟩) s0 ?_
      rotate_left
      · intro w hSw; first | (obtain ⟨s1, s2, s3, s4, s5, s6, s7, s8⟩ := hSw; go_simp; rfl) | (obtain ⟨s1, s2, s3, s4, s5, s6, s7⟩ := hSw; go_simp; rfl) | (obtain ⟨s1, s2, s3⟩ := hSw; go_simp; rfl) | (obtain ⟨s1, s2⟩ := hSw; go_simp; rfl) | (have s1 := hSw; go_simp; rfl)
      go_simp
      refine wpAnyH_take (i := 44) (v := ?_) rfl (by kernel_rfl) (by kernel_rfl) (by kernel_rfl) (fun _ _ _ h => h) (Or.inl ⟨by rfl, ?_⟩) s0 ?_
      rotate_left
      · intro w hSw; first | (obtain ⟨s1, s2, s3, s4, s5, s6, s7, s8⟩ := hSw; go_simp; rfl) | (obtain ⟨s1, s2, s3, s4, s5, s6, s7⟩ := hSw; go_simp; rfl) | (obtain ⟨s1, s2, s3⟩ := hSw; go_simp; rfl) | (obtain ⟨s1, s2⟩ := hSw; go_simp; rfl) | (have s1 := hSw; go_simp; rfl)
      go_simp
      refine wpAnyH_take (i := 45) (v := ?_) rfl (by kernel_rfl) (by kernel_rfl) (by kernel_rfl) (fun _ _ _ h => h) (Or.inl ⟨by rfl, ?_⟩) s0 ?_
      rotate_left
      · intro w hSw; first | (obtain ⟨s1, s2, s3, s4, s5, s6, s7, s8⟩ := hSw; go_simp; rfl) | (obtain ⟨s1, s2, s3, s4, s5, s6, s7⟩ := hSw; go_simp; rfl) | (obtain ⟨s1, s2, s3⟩ := hSw; go_simp; rfl) | (obtain ⟨s1, s2⟩ := hSw; go_simp; rfl) | (have s1 := hSw; go_simp; rfl)
      go_simp
      refine wpAnyH_take (i := 46) (v := ?_) rfl (by kernel_rfl) (by kernel_rfl) (by kernel_rfl) (fun _ _ _ h => h) (Or.inl ⟨by rfl, ?_⟩) s0 ?_
      rotate_left
      · intro w hSw; first | (obtain ⟨s1, s2, s3, s4, s5, s6, s7, s8⟩ := hSw; go_simp; rfl) | (obtain ⟨s1, s2, s3, s4, s5, s6, s7⟩ := hSw; go_simp; rfl) | (obtain ⟨s1, s2, s3⟩ := hSw; go_simp; rfl) | (obtain ⟨s1, s2⟩ := hSw; go_simp; rfl) | (have s1 := hSw; go_simp; rfl)
      go_simp
      refine wpAnyH_take (i := 47) (v := ?_) rfl (by kernel_rfl) (by kernel_rfl) (by kernel_rfl) (fun _ _ _ h => h) (Or.inl ⟨by rfl, ?_⟩) s0 ?_
      rotate_left
      · intro w hSw; first | (obtain ⟨s1, s2, s3, s4, s5, s6, s7, s8⟩ := hSw; go_simp; rfl) | (obtain ⟨s1, s2, s3, s4, s5, s6, s7⟩ := hSw; go_simp; rfl) | (obtain ⟨s1, s2, s3⟩ := hSw; go_simp; rfl) | (obtain ⟨s1, s2⟩ := hSw; go_simp; rfl) | (have s1 := hSw; go_simp; rfl)
      go_simp
      refine wpAnyH_take (i := 48) (v := ?_) rfl (by kernel_rfl) (by kernel_rfl) (by kernel_rfl) (fun _ _ _ h => h) (Or.inl ⟨by rfl, ?_⟩) s0 ?_
      rotate_left
      · intro w hSw; first | (obtain ⟨s1, s2, s3, s4, s5, s6, s7, s8⟩ := hSw; go_simp; rfl) | (obtain ⟨s1, s2, s3, s4, s5, s6, s7⟩ := hSw; go_simp; rfl) | (obtain ⟨s1, s2, s3⟩ := hSw; go_simp; rfl) | (obtain ⟨s1, s2⟩ := hSw; go_simp; rfl) | (have s1 := hSw; go_simp; rfl)
      go_simp
      refine wpAnyH_take (i := 49) (v := ?_) rfl (by kernel_rfl) (by kernel_rfl) (by kernel_rfl) (fun _ _ _ h => h) (Or.inl ⟨by rfl, ?_⟩) s0 ?_
      rotate_left
      · intro w hSw; first | (obtain ⟨s1, s2, s3, s4, s5, s6, s7, s8⟩ := hSw; go_simp; rfl) | (obtain ⟨s1, s2, s3, s4, s5, s6, s7⟩ := hSw; go_simp; rfl) | (obtain ⟨s1, s2, s3⟩ := hSw; go_simp; rfl) | (obtain ⟨s1, s2⟩ := hSw; go_simp; rfl) | (have s1 := hSw; go_simp; rfl)
      go_simp
      refine wpAnyH_take (i := 50) (v := ?_) rfl (by kernel_rfl) (by kernel_rfl) (by kernel_rfl) (fun _ _ _ h => h) (Or.inl ⟨by rfl, ?_⟩) s0 ?_
      rotate_left
      · intro w hSw; first | (obtain ⟨s1, s2, s3, s4, s5, s6, s7, s8⟩ := hSw; go_simp; rfl) | (obtain ⟨s1, s2, s3, s4, s5, s6, s7⟩ := hSw; go_simp; rfl) | (obtain ⟨s1, s2, s3⟩ := hSw; go_simp; rfl) | (obtain ⟨s1, s2⟩ := hSw; go_simp; rfl) | (have s1 := hSw; go_simp; rfl)
      go_simp
      refine wpAnyH_take (i := 51) (v := ?_) rfl (by kernel_rfl) (by kernel_rfl) (by kernel_rfl) (fun _ _ _ h => h) (Or.inl ⟨by rfl, ?_⟩) s0 ?_
      rotate_left
      · intro w hSw; first | (obtain ⟨s1, s2, s3, s4, s5, s6, s7, s8⟩ := hSw; go_simp; rfl) | (obtain ⟨s1, s2, s3, s4, s5, s6, s7⟩ := hSw; go_simp; rfl) | (obtain ⟨s1, s2, s3⟩ := hSw; go_simp; rfl) | (obtain ⟨s1, s2⟩ := hSw; go_simp; rfl) | (have s1 := hSw; go_simp; rfl)
      go_simp
      refine wpAnyH_take (i := 52) (v := ?_) rfl (by kernel_rfl) (by kernel_rfl) (by kernel_rfl) (fun _ _ _ h => h) (Or.inl ⟨by rfl, ?_⟩) s0 ?_
      rotate_left
      · intro w hSw; first | (obtain ⟨s1, s2, s3, s4, s5, s6, s7, s8⟩ := hSw; go_simp; rfl) | (obtain ⟨s1, s2, s3, s4, s5, s6, s7⟩ := hSw; go_simp; rfl) | (obtain ⟨s1, s2, s3⟩ := hSw; go_simp; rfl) | (obtain ⟨s1, s2⟩ := hSw; go_simp; rfl) | (have s1 := hSw; go_simp; rfl)
      go_simp
      refine wpAnyH_take (i := 53) (v := ?_) rfl (by kernel_rfl) (by kernel_rfl) (by kernel_rfl) (fun _ _ _ h => h) (Or.inl ⟨by rfl, ?_⟩) s0 ?_
      rotate_left
      · intro w hSw; first | (obtain ⟨s1, s2, s3, s4, s5, s6, s7, s8⟩ := hSw; go_simp; rfl) | (obtain ⟨s1, s2, s3, s4, s5, s6, s7⟩ := hSw; go_simp; rfl) | (obtain ⟨s1, s2, s3⟩ := hSw; go_simp; rfl) | (obtain ⟨s1, s2⟩ := hSw; go_simp; rfl) | (have s1 := hSw; go_simp; rfl)
      go_simp
      refine wpAnyH_take (i := 54) (v := ?_) rfl (by kernel_rfl) (by kernel_rfl) (by kernel_rfl) (fun _ _ _ h => h) (Or.inl ⟨by rfl, ?_⟩) s0 ?_
      rotate_left
      · intro w hSw; first | (obtain ⟨s1, s2, s3, s4, s5, s6, s7, s8⟩ := hSw; go_simp; rfl) | (obtain ⟨s1, s2, s3, s4, s5, s6, s7⟩ := hSw; go_simp; rfl) | (obtain ⟨s1, s2, s3⟩ := hSw; go_simp; rfl) | (obtain ⟨s1, s2⟩ := hSw; go_simp; rfl) | (have s1 := hSw; go_simp; rfl)
      go_simp
      refine wpAnyH_take (i := 55) (v := ?_) rfl (by kernel_rfl) (by kernel_rfl) (by kernel_rfl) (fun _ _ _ h => h) (Or.inl ⟨by rfl, ?_⟩) s0 ?_
      rotate_left
      · intro w hSw; first | (obtain ⟨s1, s2, s3, s4, s5, s6, s7, s8⟩ := hSw; go_simp; rfl) | (obtain ⟨s1, s2, s3, s4, s5, s6, s7⟩ := hSw; go_simp; rfl) | (obtain ⟨s1, s2, s3⟩ := hSw; go_simp; rfl) | (obtain ⟨s1, s2⟩ := hSw; go_simp; rfl) | (have s1 := hSw; go_simp; rfl)
      go_simp
      refine wpAnyH_take (i := 56) (v := ?_) rfl (by kernel_rfl) (by kernel_rfl) (by kernel_rfl) (fun _ _ _ h => h) (Or.inl ⟨by rfl, ?_⟩) s0 ?_
      rotate_left
      · intro w hSw; first | (obtain ⟨s1, s2, s3, s4, s5, s6, s7, s8⟩ := hSw; go_simp; rfl) | (obtain ⟨s1, s2, s3, s4, s5, s6, s7⟩ := hSw; go_simp; rfl) | (obtain ⟨s1, s2, s3⟩ := hSw; go_simp; rfl) | (obtain ⟨s1, s2⟩ := hSw; go_simp; rfl) | (have s1 := hSw; go_simp; rfl)
      go_simp
      refine wpAnyH_take (i := 57) (v := ?_) rfl (by kernel_rfl) (by kernel_rfl) (by kernel_rfl) (fun _ _ _ h => h) (Or.inl ⟨by rfl, ?_⟩) s0 ?_
      rotate_left
      · intro w hSw; first | (obtain ⟨s1, s2, s3, s4, s5, s6, s7, s8⟩ := hSw; go_simp; rfl) | (obtain ⟨s1, s2, s3, s4, s5, s6, s7⟩ := hSw; go_simp; rfl) | (obtain ⟨s1, s2, s3⟩ := hSw; go_simp; rfl) | (obtain ⟨s1, s2⟩ := hSw; go_simp; rfl) | (have s1 := hSw; go_simp; rfl)
      go_simp
      refine wpAnyH_take (i := 58) (v := ?_) rfl (by kernel_rfl) (by kernel_rfl) (by kernel_rfl) (fun _ _ _ h => h) (Or.inl ⟨by rfl, ?_⟩) s0 ?_
      rotate_left
      · intro w hSw; first | (obtain ⟨s1, s2, s3, s4, s5, s6, s7, s8⟩ := hSw; go_simp; rfl) | (obtain ⟨s1, s2, s3, s4, s5, s6, s7⟩ := hSw; go_simp; rfl) | (obtain ⟨s1, s2, s3⟩ := hSw; go_simp; rfl) | (obtain ⟨s1, s2⟩ := hSw; go_simp; rfl) | (have s1 := hSw; go_simp; rfl)
      go_simp
      refine wpAnyH_take (i := 59) (v := ?_) rfl (by kernel_rfl) (by kernel_rfl) (by kernel_rfl) (fun _ _ _ h => h) (Or.inl ⟨by rfl, ?_⟩) s0 ?_
      rotate_left
      · intro w hSw; first | (obtain ⟨s1, s2, s3, s4, s5, s6, s7, s8⟩ := hSw; go_simp; rfl) | (obtain ⟨s1, s2, s3, s4, s5, s6, s7⟩ := hSw; go_simp; rfl) | (obtain ⟨s1, s2, s3⟩ := hSw; go_simp; rfl) | (obtain ⟨s1, s2⟩ := hSw; go_simp; rfl) | (have s1 := hSw; go_simp; rfl)
      go_simp
      refine wpAnyH_take (i := 60) (v := ?_) rfl (by kernel_rfl) (by kernel_rfl) (by kernel_rfl) (fun _ _ _ h => h) (Or.inl ⟨by rfl, ?_⟩) s0 ?_
      rotate_left
      · intro w hSw; first | (obtain ⟨s1, s2, s3, s4, s5, s6, s7, s8⟩ := hSw; go_simp; rfl) | (obtain ⟨s1, s2, s3, s4, s5, s6, s7⟩ := hSw; go_simp; rfl) | (obtain ⟨s1, s2, s3⟩ := hSw; go_simp; rfl) | (obtain ⟨s1, s2⟩ := hSw; go_simp; rfl) | (have s1 := hSw; go_simp; rfl)
      go_simp
      refine wpAnyH_take (i := 61) (v := ?_) rfl (by kernel_rfl) (by kernel_rfl) (by kernel_rfl) (fun _ _ _ h => h) (Or.inl ⟨by rfl, ?_⟩) s0 ?_
      rotate_left
      · intro w hSw; first | (obtain ⟨s1, s2, s3, s4, s5, s6, s7, s8⟩ := hSw; go_simp; rfl) | (obtain ⟨s1, s2, s3, s4, s5, s6, s7⟩ := hSw; go_simp; rfl) | (obtain ⟨s1, s2, s3⟩ := hSw; go_simp; rfl) | (obtain ⟨s1, s2⟩ := hSw; go_simp; rfl) | (have s1 := hSw; go_simp; rfl)
      go_simp
      refine wpAnyH_take (i := 62) (v := ?_) rfl (by kernel_rfl) (by kernel_rfl) (by kernel_rfl) (fun _ _ _ h => h) (Or.inl ⟨by rfl, ?_⟩) s0 ?_
      rotate_left
      · intro w hSw; first | (obtain ⟨s1, s2, s3, s4, s5, s6, s7, s8⟩ := hSw; go_simp; rfl) | (obtain ⟨s1, s2, s3, s4, s5, s6, s7⟩ := hSw; go_simp; rfl) | (obtain ⟨s1, s2, s3⟩ := hSw; go_simp; rfl) | (obtain ⟨s1, s2⟩ := hSw; go_simp; rfl) | (have s1 := hSw; go_simp; rfl)
      go_simp
      refine wpAnyH_take (i := 63) (v := ?_) rfl (by kernel_rfl) (by kernel_rfl) (by kernel_rfl) (fun _ _ _ h => h) (Or.inl ⟨by rfl, ?_⟩) s0 ?_
      rotate_left
      · intro w hSw; first | (obtain ⟨s1, s2, s3, s4, s5, s6, s7, s8⟩ := hSw; go_simp; rfl) | (obtain ⟨s1, s2, s3, s4, s5, s6, s7⟩ := hSw; go_simp; rfl) | (obtain ⟨s1, s2, s3⟩ := hSw; go_simp; rfl) | (obtain ⟨s1, s2⟩ := hSw; go_simp; rfl) | (have s1 := hSw; go_simp; rfl)
      go_simp
      refine wpAnyH_take (i := 64) (v := ?_) rfl (by kernel_rfl) (by kernel_rfl) (by kernel_rfl) (fun _ _ _ h => h) (Or.inl ⟨by rfl, ?_⟩) s0 ?_
      rotate_left
      · intro w hSw; first | (obtain ⟨s1, s2, s3, s4, s5, s6, s7, s8⟩ := hSw; go_simp; rfl) | (obtain ⟨s1, s2, s3, s4, s5, s6, s7⟩ := hSw; go_simp; rfl) | (obtain ⟨s1, s2, s3⟩ := hSw; go_simp; rfl) | (obtain ⟨s1, s2⟩ := hSw; go_simp; rfl) | (have s1 := hSw; go_simp; rfl)
      go_simp
      refine wpAnyH_take (i := 65) (v := ?_) rfl (by kernel_rfl) (by kernel_rfl) (by kernel_rfl) (fun _ _ _ h => h) (Or.inl ⟨by rfl, ?_⟩) s0 ?_
      rotate_left
      · intro w hSw; first | (obtain ⟨s1, s2, s3, s4, s5, s6, s7, s8⟩ := hSw; go_simp; rfl) | (obtain ⟨s1, s2, s3, s4, s5, s6, s7⟩ := hSw; go_simp; rfl) | (obtain ⟨s1, s2, s3⟩ := hSw; go_simp; rfl) | (obtain ⟨s1, s2⟩ := hSw; go_simp; rfl) | (have s1 := hSw; go_simp; rfl)
      go_simp
      refine wpAnyH_take (i := 66) (v := ?_) rfl (by kernel_rfl) (by kernel_rfl) (by kernel_rfl) (fun _ _ _ h => h) (Or.inl ⟨by rfl, ?_⟩) s0 ?_
      rotate_left
      · intro w hSw; first | (obtain ⟨s1, s2, s3, s4, s5, s6, s7, s8⟩ := hSw; go_simp; rfl) | (obtain ⟨s1, s2, s3, s4, s5, s6, s7⟩ := hSw; go_simp; rfl) | (obtain ⟨s1, s2, s3⟩ := hSw; go_simp; rfl) | (obtain ⟨s1, s2⟩ := hSw; go_simp; rfl) | (have s1 := hSw; go_simp; rfl)
      go_simp
      refine wpAnyH_take (i := 67) (v := ?_) rfl (by kernel_rfl) (by kernel_rfl) (by kernel_rfl) (fun _ _ _ h => h) (Or.inl ⟨by rfl, ?_⟩) s0 ?_
      rotate_left
      · intro w hSw; first | (obtain ⟨s1, s2, s3, s4, s5, s6, s7, s8⟩ := hSw; go_simp; rfl) | (obtain ⟨s1, s2, s3, s4, s5, s6, s7⟩ := hSw; go_simp; rfl) | (obtain ⟨s1, s2, s3⟩ := hSw; go_simp; rfl) | (obtain ⟨s1, s2⟩ := hSw; go_simp; rfl) | (have s1 := hSw; go_simp; rfl)
      go_simp
      refine wpAnyH_take (i := 68) (v := ?_) rfl (by kernel_rfl) (by kernel_rfl) (by kernel_rfl) (fun _ _ _ h => h) (Or.inl ⟨by rfl, ?_⟩) s0 ?_
      rotate_left
      · intro w hSw; first | (obtain ⟨s1, s2, s3, s4, s5, s6, s7, s8⟩ := hSw; go_simp; rfl) | (obtain ⟨s1, s2, s3, s4, s5, s6, s7⟩ := hSw; go_simp; rfl) | (obtain ⟨s1, s2, s3⟩ := hSw; go_simp; rfl) | (obtain ⟨s1, s2⟩ := hSw; go_simp; rfl) | (have s1 := hSw; go_simp; rfl)
      go_simp
      refine wpAnyH_take (i := 69) (v := ?_) rfl (by kernel_rfl) (by kernel_rfl) (by kernel_rfl) (fun _ _ _ h => h) (Or.inl ⟨by rfl, ?_⟩) s0 ?_
      rotate_left
      · intro w hSw; first | (obtain ⟨s1, s2, s3, s4, s5, s6, s7, s8⟩ := hSw; go_simp; rfl) | (obtain ⟨s1, s2, s3, s4, s5, s6, s7⟩ := hSw; go_simp; rfl) | (obtain ⟨s1, s2, s3⟩ := hSw; go_simp; rfl) | (obtain ⟨s1, s2⟩ := hSw; go_simp; rfl) | (have s1 := hSw; go_simp; rfl)
      go_simp
      refine wpAnyH_take (i := 70) (v := ?_) rfl (by kernel_rfl) (by kernel_rfl) (by kernel_rfl) (fun _ _ _ h => h) (Or.inl ⟨by rfl, ?_⟩) s0 ?_
      rotate_left
      · intro w hSw; first | (obtain ⟨s1, s2, s3, s4, s5, s6, s7, s8⟩ := hSw; go_simp; rfl) | (obtain ⟨s1, s2, s3, s4, s5, s6, s7⟩ := hSw; go_simp; rfl) | (obtain ⟨s1, s2, s3⟩ := hSw; go_simp; rfl) | (obtain ⟨s1, s2⟩ := hSw; go_simp; rfl) | (have s1 := hSw; go_simp; rfl)
      go_simp
      refine wpAnyH_take (i := 71) (v := ?_) rfl (by kernel_rfl) (by kernel_rfl) (by kernel_rfl) (fun _ _ _ h => h) (Or.inl ⟨by rfl, ?_⟩) s0 ?_
      rotate_left
      · intro w hSw; first | (obtain ⟨s1, s2, s3, s4, s5, s6, s7, s8⟩ := hSw; go_simp; rfl) | (obtain ⟨s1, s2, s3, s4, s5, s6, s7⟩ := hSw; go_simp; rfl) | (obtain ⟨s1, s2, s3⟩ := hSw; go_simp; rfl) | (obtain ⟨s1, s2⟩ := hSw; go_simp; rfl) | (have s1 := hSw; go_simp; rfl)
      go_simp
      refine wpAnyH_take (i := 72) (v := ?_) rfl (by kernel_rfl) (by kernel_rfl) (by kernel_rfl) (fun _ _ _ h => h) (Or.inl ⟨by rfl, ?_⟩) s0 ?_
      rotate_left
      · intro w hSw; first | (obtain ⟨s1, s2, s3, s4, s5, s6, s7, s8⟩ := hSw; go_simp; rfl) | (obtain ⟨s1, s2, s3, s4, s5, s6, s7⟩ := hSw; go_simp; rfl) | (obtain ⟨s1, s2, s3⟩ := hSw; go_simp; rfl) | (obtain ⟨s1, s2⟩ := hSw; go_simp; rfl) | (have s1 := hSw; go_simp; rfl)
      go_simp
      refine wpAnyH_take (i := 73) (v := ?_) rfl (by kernel_rfl) (by kernel_rfl) (by kernel_rfl) (fun _ _ _ h => h) (Or.inl ⟨by rfl, ?_⟩) s0 ?_
      rotate_left
      · intro w hSw; first | (obtain ⟨s1, s2, s3, s4, s5, s6, s7, s8⟩ := hSw; go_simp; rfl) | (obtain ⟨s1, s2, s3, s4, s5, s6, s7⟩ := hSw; go_simp; rfl) | (obtain ⟨s1, s2, s3⟩ := hSw; go_simp; rfl) | (obtain ⟨s1, s2⟩ := hSw; go_simp; rfl) | (have s1 := hSw; go_simp; rfl)
      go_simp
      refine wpAnyH_take (i := 74) (v := ?_) rfl (by kernel_rfl) (by kernel_rfl) (by kernel_rfl) (fun _ _ _ h => h) (Or.inl ⟨by rfl, ?_⟩) s0 ?_
      rotate_left
      · intro w hSw; first | (obtain ⟨s1, s2, s3, s4, s5, s6, s7, s8⟩ := hSw; go_simp; rfl) | (obtain ⟨s1, s2, s3, s4, s5, s6, s7⟩ := hSw; go_simp; rfl) | (obtain ⟨s1, s2, s3⟩ := hSw; go_simp; rfl) | (obtain ⟨s1, s2⟩ := hSw; go_simp; rfl) | (have s1 := hSw; go_simp; rfl)
      go_simp
      refine wpAnyH_take (i := 75) (v := ?_) rfl (by kernel_rfl) (by kernel_rfl) (by kernel_rfl) (fun _ _ _ h => h) (Or.inl ⟨by rfl, ?_⟩) s0 ?_
      rotate_left
      · intro w hSw; first | (obtain ⟨s1, s2, s3, s4, s5, s6, s7, s8⟩ := hSw; go_simp; rfl) | (obtain ⟨s1, s2, s3, s4, s5, s6, s7⟩ := hSw; go_simp; rfl) | (obtain ⟨s1, s2, s3⟩ := hSw; go_simp; rfl) | (obtain ⟨s1, s2⟩ := hSw; go_simp; rfl) | (have s1 := hSw; go_simp; rfl)
      go_simp
      refine wpAnyH_take (i := 76) (v := ?_) rfl (by kernel_rfl) (by kernel_rfl) (by kernel_rfl) (fun _ _ _ h => h) (Or.inl ⟨by rfl, ?_⟩) s0 ?_
      rotate_left
      · intro w hSw; first | (obtain ⟨s1, s2, s3, s4, s5, s6, s7, s8⟩ := hSw; go_simp; rfl) | (obtain ⟨s1, s2, s3, s4, s5, s6, s7⟩ := hSw; go_simp; rfl) | (obtain ⟨s1, s2, s3⟩ := hSw; go_simp; rfl) | (obtain ⟨s1, s2⟩ := hSw; go_simp; rfl) | (have s1 := hSw; go_simp; rfl)
      go_simp
      refine wpAnyH_take (i := 77) (v := ?_) rfl (by kernel_rfl) (by kernel_rfl) (by kernel_rfl) (fun _ _ _ h => h) (Or.inl ⟨by rfl, ?_⟩) s0 ?_
      rotate_left
      · intro w hSw; first | (obtain ⟨s1, s2, s3, s4, s5, s6, s7, s8⟩ := hSw; go_simp; rfl) | (obtain ⟨s1, s2, s3, s4, s5, s6, s7⟩ := hSw; go_simp; rfl) | (obtain ⟨s1, s2, s3⟩ := hSw; go_simp; rfl) | (obtain ⟨s1, s2⟩ := hSw; go_simp; rfl) | (have s1 := hSw; go_simp; rfl)
      go_simp
      refine wpAnyH_take (i := 78) (v := ?_) rfl (by kernel_rfl) (by kernel_rfl) (by kernel_rfl) (fun _ _ _ h => h) (Or.inl ⟨by rfl, ?_⟩) s0 ?_
      rotate_left
      · intro w hSw; first | (obtain ⟨s1, s2, s3, s4, s5, s6, s7, s8⟩ := hSw; go_simp; rfl) | (obtain ⟨s1, s2, s3, s4, s5, s6, s7⟩ := hSw; go_simp; rfl) | (obtain ⟨s1, s2, s3⟩ := hSw; go_simp; rfl) | (obtain ⟨s1, s2⟩ := hSw; go_simp; rfl) | (have s1 := hSw; go_simp; rfl)
      go_simp
      refine wpAnyH_take (i := 79) (v := ?_) rfl (by kernel_rfl) (by kernel_rfl) (by kernel_rfl) (fun _ _ _ h => h) (Or.inl ⟨by rfl, ?_⟩) s0 ?_
      rotate_left
      · intro w hSw; first | (obtain ⟨s1, s2, s3, s4, s5, s6, s7, s8⟩ := hSw; go_simp; rfl) | (obtain ⟨s1, s2, s3, s4, s5, s6, s7⟩ := hSw; go_simp; rfl) | (obtain ⟨s1, s2, s3⟩ := hSw; go_simp; rfl) | (obtain ⟨s1, s2⟩ := hSw; go_simp; rfl) | (have s1 := hSw; go_simp; rfl)
      go_simp
      refine heldOne (i := 80) (by kernel_rfl) rfl (by rfl) (fun K hK => ?_)
      go_simp
      have n0 : New wr wr.drew := (Fr.refl _ _).drew
      refine (awake_any _).mono ?_
      rintro e w6 ⟨rfl, hn6⟩
      have hl : fb < wr.drew.heap.size := HF.out.fr.lt
      have s6 : (w6.cell? ⟨fb, 4, none⟩ = some (.int .u64 a) ∧ w6.cell? ⟨fb, 5, none⟩ = some (.int .u64 a) ∧ w6.cell? ⟨fb, 6, none⟩ = some (.int .u64 x5) ∧ w6.cell? ⟨fb, 7, none⟩ = some (.int .u64 x6) ∧ w6.cell? ⟨fb, 8, none⟩ = some (.int .u64 x7)) ∧ (w6.cell? ⟨fb, 9, none⟩ = some (.int .u64 x8) ∧ w6.cell? ⟨fb, 10, none⟩ = some (.int .u64 x9) ∧ w6.cell? ⟨fb, 11, none⟩ = some (.int .u64 x10) ∧ w6.cell? ⟨fb, 12, none⟩ = some (.int .u64 x10) ∧ w6.cell? ⟨fb, 13, none⟩ = some (.int .u64 x12)) := by
        simp only [hn6.cell hl id]; exact s0
      refine hK.out _ _ s6 ?_
      clear hK K s0
      refine wpAnyH_take (i := 81) (v := ?_) rfl (by kernel_rfl) (by kernel_rfl) (by kernel_rfl) (fun _ _ _ h => h) (Or.inl ⟨by rfl, ?_⟩) s6 ?_
      rotate_left
      · intro w hSw; first | (obtain ⟨s1, s2, s3, s4, s5, s6, s7, s8⟩ := hSw; go_simp; rfl) | (obtain ⟨s1, s2, s3, s4, s5, s6, s7⟩ := hSw; go_simp; rfl) | (obtain ⟨s1, s2, s3⟩ := hSw; go_simp; rfl) | (obtain ⟨s1, s2⟩ := hSw; go_simp; rfl) | (have s1 := hSw; go_simp; rfl)
      go_simp
      refine wpAnyH_take (i := 82) (v := ?_) rfl (by kernel_rfl) (by kernel_rfl) (by kernel_rfl) (fun _ _ _ h => h) (Or.inl ⟨by rfl, ?_⟩) s6 ?_
      rotate_left
      · intro w hSw; first | (obtain ⟨s1, s2, s3, s4, s5, s6, s7, s8⟩ := hSw; go_simp; rfl) | (obtain ⟨s1, s2, s3, s4, s5, s6, s7⟩ := hSw; go_simp; rfl) | (obtain ⟨s1, s2, s3⟩ := hSw; go_simp; rfl) | (obtain ⟨s1, s2⟩ := hSw; go_simp; rfl) | (have s1 := hSw; go_simp; rfl)
      go_simp
      refine wpAnyH_done (by kernel_rfl) ?_ _
      clear s6
      go_wp2
      go_ret
      exact ⟨rfl, (HN5.out.then HN.out (fun i hi e => by omega)).trans (n0.trans hn6)⟩

end Go.Proofs.Ytngpcalgjaglmaa
