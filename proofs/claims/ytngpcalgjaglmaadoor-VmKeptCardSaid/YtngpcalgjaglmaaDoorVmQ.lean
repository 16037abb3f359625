/- The document's step: what it reckons. -/
import Derived.Test.YtngpcalgjaglmaaDoorVmP
import Derived.Test.YtngpcalgjaglmaaDoorVmF
namespace Go.Proofs.YtngpcalgjaglmaaDoor
open Go.RowKit
section
variable (fb o : Nat) (v cv : Value) (F : Fm) (cg co n cap k : Nat) (A B C : Int) (V : Nat) (M W : Int) (w : World)

set_option maxRecDepth 100000 in
set_option maxHeartbeats 8000000 in
theorem rstep_1 (a : Nat) (ha : a < 32) (h : FmAt w fb o v F) (hi : InsAt w cg co k 1 a B C V M W) (hk : k < n) (hn : n ≤ 1000000) (hV : V < 18446744073709551616) (hpc : F.pc = k) (hg : goodV 1 a B C V n = true) :
    Calls Tryd.prog 11 #[.pointer (some ⟨fb, o, none⟩), .slice (some ⟨cg, co, none⟩) n cap, cv] w fun e w' => RStepped w fb o v (0, reckF 1 a B C V F) e w' := by
  have c0 := h.fr.pc
  have hl := h.fr.lt
  rw [hpc] at c0
  unfold goodV at hg
  rw [show ((1 : Int) != 22) = true from rfl] at hg
  have HRT := Lib.hid (fun w' => right_any 1 a B C 0 0 V n true w' hV (by omega))
  rw [hg] at HRT
  have HI := Lib.hid hi
  obtain ⟨_, x0, x1, x2, x3, x4, x5, x6⟩ := hi
  have q1 : (0 : Int) ≤ (k : Int) := by omega
  have q2 : (k : Int) < (n : Int) := by omega
  have tk : IntKind.i64.wrap ((k : Int) + 1) = (k : Int) + 1 := IntWalk.i64_in _ (by omega)
  have H := Lib.hid h
  have HPC := Lib.hid hpc
  have q3 : (0 : Int) ≤ (a : Int) := by omega
  have q4 : (a : Int) < 32 := by omega
  have HE := Lib.hid (show reckF 1 a B C V F = ⟨(k : Int) + 1, F.rs.set a V, F.bk⟩ by unfold reckF; rw [hpc]; rfl)
  clear h hg hpc
  go_enter Tryd.func11, Tryd.ntmps11
  go_wp2_with fail
  obtain ⟨W0, hW0⟩ : ∃ W0, (w.alloc (.cells #[.int .i64 1, .int .i64 a, .int .i64 B, .int .i64 C, .int .u64 V, .int .i64 M, .int .i64 W] 52)).alloc (.cells #[.int .i64 1, .int .i64 a, .int .i64 B, .int .i64 C, .int .u64 V, .int .i64 0, .int .i64 0] 52) = W0 := ⟨_, rfl⟩
  have hn0 : New w W0 := by rw [← hW0]; exact ((Fr.refl _ _).alloc _).alloc _
  have hb0 : W0.heap[w.heap.size]? = some (.cells #[.int .i64 1, .int .i64 a, .int .i64 B, .int .i64 C, .int .u64 V, .int .i64 M, .int .i64 W] 52 (0, 0)) := by rw [← hW0, block_alloc (by simp)]; exact block_alloc_new _ _
  rw [hW0]
  obtain ⟨xb, hxb⟩ : ∃ xb, w.heap.size = xb := ⟨_, rfl⟩
  have hxf : fb < xb := by omega
  rw [hxb] at hb0 ⊢
  refine (HRT.out _).mono ?_
  rintro e w1 ⟨rfl, hn1⟩
  have hb1 := (hn1.block xb (lt_of_block hb0) id).trans hb0
  have HB1 := Lib.hid hb1
  have HN1 := Lib.hid (hn0.trans hn1)
  have hx1 := lt_of_block hb1
  obtain ⟨y0, y1, y2, y3, y4, y5, y6⟩ := box_cells hb1
  have d0 := (HN1.out.cell hl id o).trans c0
  have zf : ∀ i, w1.frozen? ⟨fb, i, none⟩ = false := fun i => (HN1.out.frozen hl id i).trans (H.out.fr.free i)
  clear hW0 hn0 hb0 hn1 hb1 c0 x0 x1 x2 x3 x4 x5 x6 HRT HI
  go_wp2_with fail
  have n2 : New w1 w1.drew := (Fr.refl _ _).drew
  have HB2 := Lib.hid ((n2.block xb hx1 id).trans HB1.out)
  have HN2 := Lib.hid (HN1.out.trans n2)
  refine heldStart (fun wz => wz.cell? ⟨xb, 0, none⟩ = some (.int .i64 1) ∧ wz.cell? ⟨xb, 1, none⟩ = some (.int .i64 a) ∧ wz.cell? ⟨xb, 2, none⟩ = some (.int .i64 B) ∧ wz.cell? ⟨xb, 3, none⟩ = some (.int .i64 C) ∧ wz.cell? ⟨xb, 4, none⟩ = some (.int .u64 V) ∧ wz.cell? ⟨xb, 5, none⟩ = some (.int .i64 M) ∧ wz.cell? ⟨xb, 6, none⟩ = some (.int .i64 W)) (by kernel_rfl) ?_
  generalize w1.drew = w2 at n2 HB2 HN2 ⊢
  have s2 := box_cells HB2.out
  clear d0 zf y0 y1 y2 y3 y4 y5 y6 n2
  refine wpAnyH_take (i := 0) (v := ?_) rfl (by kernel_rfl) (by kernel_rfl) (by kernel_rfl) (fun _ _ _ h => h) (Or.inl ⟨by rfl, ?_⟩) s2 ?_
  rotate_left
  · intro w hSw; first | (obtain ⟨s1, s2, s3, s4, s5, s6, s7, s8⟩ := hSw; go_simp; rfl) | (obtain ⟨s1, s2, s3, s4, s5, s6, s7⟩ := hSw; go_simp; rfl) | (obtain ⟨s1, s2, s3⟩ := hSw; go_simp; rfl) | (obtain ⟨s1, s2⟩ := hSw; go_simp; rfl) | (have s1 := hSw; go_simp; rfl)
  go_simp
  refine wpAnyH_take (i := 1) (v := ?_) rfl (by kernel_rfl) (by kernel_rfl) (by kernel_rfl) (fun _ _ _ h => h) (Or.inl ⟨by rfl, ?_⟩) s2 ?_
  rotate_left
  · intro w hSw; first | (obtain ⟨s1, s2, s3, s4, s5, s6, s7, s8⟩ := hSw; go_simp; rfl) | (obtain ⟨s1, s2, s3, s4, s5, s6, s7⟩ := hSw; go_simp; rfl) | (obtain ⟨s1, s2, s3⟩ := hSw; go_simp; rfl) | (obtain ⟨s1, s2⟩ := hSw; go_simp; rfl) | (have s1 := hSw; go_simp; rfl)
  go_simp
  refine wpAnyH_take (i := 2) (v := ?_) rfl (by kernel_rfl) (by kernel_rfl) (by kernel_rfl) (fun _ _ _ h => h) (Or.inl ⟨by rfl, ?_⟩) s2 ?_
  rotate_left
  · intro w hSw; first | (obtain ⟨s1, s2, s3, s4, s5, s6, s7, s8⟩ := hSw; go_simp; rfl) | (obtain ⟨s1, s2, s3, s4, s5, s6, s7⟩ := hSw; go_simp; rfl) | (obtain ⟨s1, s2, s3⟩ := hSw; go_simp; rfl) | (obtain ⟨s1, s2⟩ := hSw; go_simp; rfl) | (have s1 := hSw; go_simp; rfl)
  go_simp
  refine wpAnyH_take (i := 3) (v := ?_) rfl (by kernel_rfl) (by kernel_rfl) (by kernel_rfl) (fun _ _ _ h => h) (Or.inl ⟨by rfl, ?_⟩) s2 ?_
  rotate_left
  · intro w hSw; first | (obtain ⟨s1, s2, s3, s4, s5, s6, s7, s8⟩ := hSw; go_simp; rfl) | (obtain ⟨s1, s2, s3, s4, s5, s6, s7⟩ := hSw; go_simp; rfl) | (obtain ⟨s1, s2, s3⟩ := hSw; go_simp; rfl) | (obtain ⟨s1, s2⟩ := hSw; go_simp; rfl) | (have s1 := hSw; go_simp; rfl)
  go_simp
  refine wpAnyH_take (i := 4) (v := ?_) rfl (by kernel_rfl) (by kernel_rfl) (by kernel_rfl) (fun _ _ _ h => h) (Or.inl ⟨by rfl, ?_⟩) s2 ?_
  rotate_left
  · intro w hSw; first | (obtain ⟨s1, s2, s3, s4, s5, s6, s7, s8⟩ := hSw; go_simp; rfl) | (obtain ⟨s1, s2, s3, s4, s5, s6, s7⟩ := hSw; go_simp; rfl) | (obtain ⟨s1, s2, s3⟩ := hSw; go_simp; rfl) | (obtain ⟨s1, s2⟩ := hSw; go_simp; rfl) | (have s1 := hSw; go_simp; rfl)
  go_simp
  refine wpAnyH_take (i := 5) (v := ?_) rfl (by kernel_rfl) (by kernel_rfl) (by kernel_rfl) (fun _ _ _ h => h) (Or.inl ⟨by rfl, ?_⟩) s2 ?_
  rotate_left
  · intro w hSw; first | (obtain ⟨s1, s2, s3, s4, s5, s6, s7, s8⟩ := hSw; go_simp; rfl) | (obtain ⟨s1, s2, s3, s4, s5, s6, s7⟩ := hSw; go_simp; rfl) | (obtain ⟨s1, s2, s3⟩ := hSw; go_simp; rfl) | (obtain ⟨s1, s2⟩ := hSw; go_simp; rfl) | (have s1 := hSw; go_simp; rfl)
  go_simp
  refine wpAnyH_take (i := 6) (v := ?_) rfl (by kernel_rfl) (by kernel_rfl) (by kernel_rfl) (fun _ _ _ h => h) (Or.inl ⟨by rfl, ?_⟩) s2 ?_
  rotate_left
  · intro w hSw; first | (obtain ⟨s1, s2, s3, s4, s5, s6, s7, s8⟩ := hSw; go_simp; rfl) | (obtain ⟨s1, s2, s3, s4, s5, s6, s7⟩ := hSw; go_simp; rfl) | (obtain ⟨s1, s2, s3⟩ := hSw; go_simp; rfl) | (obtain ⟨s1, s2⟩ := hSw; go_simp; rfl) | (have s1 := hSw; go_simp; rfl)
  go_simp
  refine wpAnyH_take (i := 7) (v := ?_) rfl (by kernel_rfl) (by kernel_rfl) (by kernel_rfl) (fun _ _ _ h => h) (Or.inl ⟨by rfl, ?_⟩) s2 ?_
  rotate_left
  · intro w hSw; first | (obtain ⟨s1, s2, s3, s4, s5, s6, s7, s8⟩ := hSw; go_simp; rfl) | (obtain ⟨s1, s2, s3, s4, s5, s6, s7⟩ := hSw; go_simp; rfl) | (obtain ⟨s1, s2, s3⟩ := hSw; go_simp; rfl) | (obtain ⟨s1, s2⟩ := hSw; go_simp; rfl) | (have s1 := hSw; go_simp; rfl)
  go_simp
  have HNS := HN2
  have HBS := HB2
  refine heldOne (i := 8) (by kernel_rfl) rfl (by rfl) (fun K hK => ?_)
  have HH := Lib.hid (H.out.new HNS.out)
  have ya := HH.out.fr.regD ha
  have yz := HH.out.fr.free
  go_simp
  have hs5 := HH.out.setReg ha hV
  have hb5 : (w2.setCell ⟨fb, o + 1 + a, none⟩ (.int .u64 (V : Nat))).heap[xb]? = _ := (block_setCell_ne (by omega) _).trans HBS.out
  have HS5 := Lib.hid hs5
  have HB5 := Lib.hid hb5
  have HF5 := Lib.hid ((Fr34.new hl HNS.out).trans (Fr34.set (fb := fb) (o := o) (i := o + 1 + a) (.int .u64 (V : Nat)) (by omega) (by omega)))
  refine hK.out _ _ (box_cells hb5) ?_
  clear hK K ya yz hs5 hb5
  refine wpAnyH_done (by kernel_rfl) ?_ _
  generalize w2.setCell ⟨fb, o + 1 + a, none⟩ (.int .u64 (V : Nat)) = w5 at HS5 HB5 HF5 ⊢
  have e0 : w5.cell? ⟨fb, o, none⟩ = some (.int .i64 k) := by rw [← HPC.out]; exact HS5.out.fr.pc
  have zf : ∀ i, w5.frozen? ⟨fb, i, none⟩ = false := HS5.out.fr.free
  go_wp2
  go_ret2
  rw [HE.out]
  exact ⟨_, rfl, HS5.out.setPc _, HF5.out.trans (Fr34.set _ (Nat.le_refl _) (by omega)), fun k hk => .inl hk⟩

set_option maxRecDepth 100000 in
set_option maxHeartbeats 8000000 in
theorem rstep_2 (a b : Nat) (ha : a < 32) (hb : b < 32) (hB : B = b) (h : FmAt w fb o v F) (hi : InsAt w cg co k 2 a B C V M W) (hk : k < n) (hn : n ≤ 1000000) (hV : V < 18446744073709551616) (hpc : F.pc = k) (hg : goodV 2 a B C V n = true) :
    Calls Tryd.prog 11 #[.pointer (some ⟨fb, o, none⟩), .slice (some ⟨cg, co, none⟩) n cap, cv] w fun e w' => RStepped w fb o v (0, reckF 2 a B C V F) e w' := by
  subst hB
  have c0 := h.fr.pc
  have hl := h.fr.lt
  rw [hpc] at c0
  unfold goodV at hg
  rw [show ((2 : Int) != 22) = true from rfl] at hg
  have HRT := Lib.hid (fun w' => right_any 2 a b C 0 0 V n true w' hV (by omega))
  rw [hg] at HRT
  have HI := Lib.hid hi
  obtain ⟨_, x0, x1, x2, x3, x4, x5, x6⟩ := hi
  have q1 : (0 : Int) ≤ (k : Int) := by omega
  have q2 : (k : Int) < (n : Int) := by omega
  have tk : IntKind.i64.wrap ((k : Int) + 1) = (k : Int) + 1 := IntWalk.i64_in _ (by omega)
  have H := Lib.hid h
  have HPC := Lib.hid hpc
  have q3 : (0 : Int) ≤ (a : Int) := by omega
  have q4 : (a : Int) < 32 := by omega
  obtain ⟨X, hX⟩ : ∃ X, F.rs.getD b 0 = X := ⟨_, rfl⟩
  have hXf := getD_fit h.fr.fits b
  have cb := h.fr.regD hb
  rw [hX] at hXf cb
  have HE := Lib.hid (show reckF 2 a b C V F = ⟨(k : Int) + 1, F.rs.set a X, F.bk⟩ by
    unfold reckF
    rw [hpc, show regN F.rs (b : Int) = X by unfold regN; rw [if_pos ⟨by omega, by omega⟩]; exact hX]
    rfl)
  have q5 : (0 : Int) ≤ (b : Int) := by omega
  have q6 : (b : Int) < 32 := by omega
  clear h hg hpc hX
  go_enter Tryd.func11, Tryd.ntmps11
  go_wp2_with fail
  obtain ⟨W0, hW0⟩ : ∃ W0, (w.alloc (.cells #[.int .i64 2, .int .i64 a, .int .i64 b, .int .i64 C, .int .u64 V, .int .i64 M, .int .i64 W] 52)).alloc (.cells #[.int .i64 2, .int .i64 a, .int .i64 b, .int .i64 C, .int .u64 V, .int .i64 0, .int .i64 0] 52) = W0 := ⟨_, rfl⟩
  have hn0 : New w W0 := by rw [← hW0]; exact ((Fr.refl _ _).alloc _).alloc _
  have hb0 : W0.heap[w.heap.size]? = some (.cells #[.int .i64 2, .int .i64 a, .int .i64 b, .int .i64 C, .int .u64 V, .int .i64 M, .int .i64 W] 52 (0, 0)) := by rw [← hW0, block_alloc (by simp)]; exact block_alloc_new _ _
  rw [hW0]
  obtain ⟨xb, hxb⟩ : ∃ xb, w.heap.size = xb := ⟨_, rfl⟩
  have hxf : fb < xb := by omega
  rw [hxb] at hb0 ⊢
  refine (HRT.out _).mono ?_
  rintro e w1 ⟨rfl, hn1⟩
  have hb1 := (hn1.block xb (lt_of_block hb0) id).trans hb0
  have HB1 := Lib.hid hb1
  have HN1 := Lib.hid (hn0.trans hn1)
  have hx1 := lt_of_block hb1
  obtain ⟨y0, y1, y2, y3, y4, y5, y6⟩ := box_cells hb1
  have d0 := (HN1.out.cell hl id o).trans c0
  have zf : ∀ i, w1.frozen? ⟨fb, i, none⟩ = false := fun i => (HN1.out.frozen hl id i).trans (H.out.fr.free i)
  clear hW0 hn0 hb0 hn1 hb1 c0 x0 x1 x2 x3 x4 x5 x6 HRT HI
  go_wp2_with fail
  have n2 : New w1 w1.drew := (Fr.refl _ _).drew
  have HB2 := Lib.hid ((n2.block xb hx1 id).trans HB1.out)
  have HN2 := Lib.hid (HN1.out.trans n2)
  refine heldStart (fun wz => wz.cell? ⟨xb, 0, none⟩ = some (.int .i64 2) ∧ wz.cell? ⟨xb, 1, none⟩ = some (.int .i64 a) ∧ wz.cell? ⟨xb, 2, none⟩ = some (.int .i64 b) ∧ wz.cell? ⟨xb, 3, none⟩ = some (.int .i64 C) ∧ wz.cell? ⟨xb, 4, none⟩ = some (.int .u64 V) ∧ wz.cell? ⟨xb, 5, none⟩ = some (.int .i64 M) ∧ wz.cell? ⟨xb, 6, none⟩ = some (.int .i64 W)) (by kernel_rfl) ?_
  generalize w1.drew = w2 at n2 HB2 HN2 ⊢
  have s2 := box_cells HB2.out
  clear d0 zf y0 y1 y2 y3 y4 y5 y6 n2
  refine wpAnyH_take (i := 0) (v := ?_) rfl (by kernel_rfl) (by kernel_rfl) (by kernel_rfl) (fun _ _ _ h => h) (Or.inl ⟨by rfl, ?_⟩) s2 ?_
  rotate_left
  · intro w hSw; first | (obtain ⟨s1, s2, s3, s4, s5, s6, s7, s8⟩ := hSw; go_simp; rfl) | (obtain ⟨s1, s2, s3, s4, s5, s6, s7⟩ := hSw; go_simp; rfl) | (obtain ⟨s1, s2, s3⟩ := hSw; go_simp; rfl) | (obtain ⟨s1, s2⟩ := hSw; go_simp; rfl) | (have s1 := hSw; go_simp; rfl)
  go_simp
  refine wpAnyH_take (i := 1) (v := ?_) rfl (by kernel_rfl) (by kernel_rfl) (by kernel_rfl) (fun _ _ _ h => h) (Or.inl ⟨by rfl, ?_⟩) s2 ?_
  rotate_left
  · intro w hSw; first | (obtain ⟨s1, s2, s3, s4, s5, s6, s7, s8⟩ := hSw; go_simp; rfl) | (obtain ⟨s1, s2, s3, s4, s5, s6, s7⟩ := hSw; go_simp; rfl) | (obtain ⟨s1, s2, s3⟩ := hSw; go_simp; rfl) | (obtain ⟨s1, s2⟩ := hSw; go_simp; rfl) | (have s1 := hSw; go_simp; rfl)
  go_simp
  refine wpAnyH_take (i := 2) (v := ?_) rfl (by kernel_rfl) (by kernel_rfl) (by kernel_rfl) (fun _ _ _ h => h) (Or.inl ⟨by rfl, ?_⟩) s2 ?_
  rotate_left
  · intro w hSw; first | (obtain ⟨s1, s2, s3, s4, s5, s6, s7, s8⟩ := hSw; go_simp; rfl) | (obtain ⟨s1, s2, s3, s4, s5, s6, s7⟩ := hSw; go_simp; rfl) | (obtain ⟨s1, s2, s3⟩ := hSw; go_simp; rfl) | (obtain ⟨s1, s2⟩ := hSw; go_simp; rfl) | (have s1 := hSw; go_simp; rfl)
  go_simp
  refine wpAnyH_take (i := 3) (v := ?_) rfl (by kernel_rfl) (by kernel_rfl) (by kernel_rfl) (fun _ _ _ h => h) (Or.inl ⟨by rfl, ?_⟩) s2 ?_
  rotate_left
  · intro w hSw; first | (obtain ⟨s1, s2, s3, s4, s5, s6, s7, s8⟩ := hSw; go_simp; rfl) | (obtain ⟨s1, s2, s3, s4, s5, s6, s7⟩ := hSw; go_simp; rfl) | (obtain ⟨s1, s2, s3⟩ := hSw; go_simp; rfl) | (obtain ⟨s1, s2⟩ := hSw; go_simp; rfl) | (have s1 := hSw; go_simp; rfl)
  go_simp
  refine wpAnyH_take (i := 4) (v := ?_) rfl (by kernel_rfl) (by kernel_rfl) (by kernel_rfl) (fun _ _ _ h => h) (Or.inl ⟨by rfl, ?_⟩) s2 ?_
  rotate_left
  · intro w hSw; first | (obtain ⟨s1, s2, s3, s4, s5, s6, s7, s8⟩ := hSw; go_simp; rfl) | (obtain ⟨s1, s2, s3, s4, s5, s6, s7⟩ := hSw; go_simp; rfl) | (obtain ⟨s1, s2, s3⟩ := hSw; go_simp; rfl) | (obtain ⟨s1, s2⟩ := hSw; go_simp; rfl) | (have s1 := hSw; go_simp; rfl)
  go_simp
  refine wpAnyH_take (i := 5) (v := ?_) rfl (by kernel_rfl) (by kernel_rfl) (by kernel_rfl) (fun _ _ _ h => h) (Or.inl ⟨by rfl, ?_⟩) s2 ?_
  rotate_left
  · intro w hSw; first | (obtain ⟨s1, s2, s3, s4, s5, s6, s7, s8⟩ := hSw; go_simp; rfl) | (obtain ⟨s1, s2, s3, s4, s5, s6, s7⟩ := hSw; go_simp; rfl) | (obtain ⟨s1, s2, s3⟩ := hSw; go_simp; rfl) | (obtain ⟨s1, s2⟩ := hSw; go_simp; rfl) | (have s1 := hSw; go_simp; rfl)
  go_simp
  refine wpAnyH_take (i := 6) (v := ?_) rfl (by kernel_rfl) (by kernel_rfl) (by kernel_rfl) (fun _ _ _ h => h) (Or.inl ⟨by rfl, ?_⟩) s2 ?_
  rotate_left
  · intro w hSw; first | (obtain ⟨s1, s2, s3, s4, s5, s6, s7, s8⟩ := hSw; go_simp; rfl) | (obtain ⟨s1, s2, s3, s4, s5, s6, s7⟩ := hSw; go_simp; rfl) | (obtain ⟨s1, s2, s3⟩ := hSw; go_simp; rfl) | (obtain ⟨s1, s2⟩ := hSw; go_simp; rfl) | (have s1 := hSw; go_simp; rfl)
  go_simp
  refine wpAnyH_take (i := 7) (v := ?_) rfl (by kernel_rfl) (by kernel_rfl) (by kernel_rfl) (fun _ _ _ h => h) (Or.inl ⟨by rfl, ?_⟩) s2 ?_
  rotate_left
  · intro w hSw; first | (obtain ⟨s1, s2, s3, s4, s5, s6, s7, s8⟩ := hSw; go_simp; rfl) | (obtain ⟨s1, s2, s3, s4, s5, s6, s7⟩ := hSw; go_simp; rfl) | (obtain ⟨s1, s2, s3⟩ := hSw; go_simp; rfl) | (obtain ⟨s1, s2⟩ := hSw; go_simp; rfl) | (have s1 := hSw; go_simp; rfl)
  go_simp
  refine wpAnyH_take (i := 8) (v := ?_) rfl (by kernel_rfl) (by kernel_rfl) (by kernel_rfl) (fun _ _ _ h => h) (Or.inl ⟨by rfl, ?_⟩) s2 ?_
  rotate_left
  · intro w hSw; first | (obtain ⟨s1, s2, s3, s4, s5, s6, s7, s8⟩ := hSw; go_simp; rfl) | (obtain ⟨s1, s2, s3, s4, s5, s6, s7⟩ := hSw; go_simp; rfl) | (obtain ⟨s1, s2, s3⟩ := hSw; go_simp; rfl) | (obtain ⟨s1, s2⟩ := hSw; go_simp; rfl) | (have s1 := hSw; go_simp; rfl)
  go_simp
  refine wpAnyH_take (i := 10) (v := ?_) rfl (by kernel_rfl) (by kernel_rfl) (by kernel_rfl) (fun _ _ _ h => h) (Or.inl ⟨by rfl, ?_⟩) s2 ?_
  rotate_left
  · intro w hSw; first | (obtain ⟨s1, s2, s3, s4, s5, s6, s7, s8⟩ := hSw; go_simp; rfl) | (obtain ⟨s1, s2, s3, s4, s5, s6, s7⟩ := hSw; go_simp; rfl) | (obtain ⟨s1, s2, s3⟩ := hSw; go_simp; rfl) | (obtain ⟨s1, s2⟩ := hSw; go_simp; rfl) | (have s1 := hSw; go_simp; rfl)
  go_simp
  refine wpAnyH_take (i := 11) (v := ?_) rfl (by kernel_rfl) (by kernel_rfl) (by kernel_rfl) (fun _ _ _ h => h) (Or.inl ⟨by rfl, ?_⟩) s2 ?_
  rotate_left
  · intro w hSw; first | (obtain ⟨s1, s2, s3, s4, s5, s6, s7, s8⟩ := hSw; go_simp; rfl) | (obtain ⟨s1, s2, s3, s4, s5, s6, s7⟩ := hSw; go_simp; rfl) | (obtain ⟨s1, s2, s3⟩ := hSw; go_simp; rfl) | (obtain ⟨s1, s2⟩ := hSw; go_simp; rfl) | (have s1 := hSw; go_simp; rfl)
  go_simp
  refine heldOne (i := 9) (by kernel_rfl) rfl (by rfl) (fun K hK => ?_)
  have yb := (HN2.out.cell hl id _).trans cb
  go_simp
  refine hK.out _ _ s2 ?_
  clear hK K yb
  refine wpAnyH_take (i := 12) (v := ?_) rfl (by kernel_rfl) (by kernel_rfl) (by kernel_rfl) (fun _ _ _ h => h) (Or.inl ⟨by rfl, ?_⟩) s2 ?_
  rotate_left
  · intro w hSw; first | (obtain ⟨s1, s2, s3, s4, s5, s6, s7, s8⟩ := hSw; go_simp; rfl) | (obtain ⟨s1, s2, s3, s4, s5, s6, s7⟩ := hSw; go_simp; rfl) | (obtain ⟨s1, s2, s3⟩ := hSw; go_simp; rfl) | (obtain ⟨s1, s2⟩ := hSw; go_simp; rfl) | (have s1 := hSw; go_simp; rfl)
  go_simp
  have HNS := HN2
  have HBS := HB2
  refine heldOne (i := 13) (by kernel_rfl) rfl (by rfl) (fun K hK => ?_)
  have HH := Lib.hid (H.out.new HNS.out)
  have ya := HH.out.fr.regD ha
  have yz := HH.out.fr.free
  go_simp
  have hs5 := HH.out.setReg ha hXf
  have hb5 : (w2.setCell ⟨fb, o + 1 + a, none⟩ (.int .u64 (X : Nat))).heap[xb]? = _ := (block_setCell_ne (by omega) _).trans HBS.out
  have HS5 := Lib.hid hs5
  have HB5 := Lib.hid hb5
  have HF5 := Lib.hid ((Fr34.new hl HNS.out).trans (Fr34.set (fb := fb) (o := o) (i := o + 1 + a) (.int .u64 (X : Nat)) (by omega) (by omega)))
  refine hK.out _ _ (box_cells hb5) ?_
  clear hK K ya yz hs5 hb5
  refine wpAnyH_done (by kernel_rfl) ?_ _
  generalize w2.setCell ⟨fb, o + 1 + a, none⟩ (.int .u64 (X : Nat)) = w5 at HS5 HB5 HF5 ⊢
  have e0 : w5.cell? ⟨fb, o, none⟩ = some (.int .i64 k) := by rw [← HPC.out]; exact HS5.out.fr.pc
  have zf : ∀ i, w5.frozen? ⟨fb, i, none⟩ = false := HS5.out.fr.free
  go_wp2
  go_ret2
  rw [HE.out]
  exact ⟨_, rfl, HS5.out.setPc _, HF5.out.trans (Fr34.set _ (Nat.le_refl _) (by omega)), fun k hk => .inl hk⟩

set_option maxRecDepth 100000 in
set_option maxHeartbeats 8000000 in
theorem rstep_3 (a b : Nat) (ha : a < 32) (hb : b < 32) (hB : B = b) (h : FmAt w fb o v F) (hi : InsAt w cg co k 3 a B C V M W) (hk : k < n) (hn : n ≤ 1000000) (hV : V < 18446744073709551616) (hpc : F.pc = k) (hg : goodV 3 a B C V n = true) :
    Calls Tryd.prog 11 #[.pointer (some ⟨fb, o, none⟩), .slice (some ⟨cg, co, none⟩) n cap, cv] w fun e w' => RStepped w fb o v (0, reckF 3 a B C V F) e w' := by
  subst hB
  have c0 := h.fr.pc
  have hl := h.fr.lt
  rw [hpc] at c0
  unfold goodV at hg
  rw [show ((3 : Int) != 22) = true from rfl] at hg
  have HRT := Lib.hid (fun w' => right_any 3 a b C 0 0 V n true w' hV (by omega))
  rw [hg] at HRT
  have HI := Lib.hid hi
  obtain ⟨_, x0, x1, x2, x3, x4, x5, x6⟩ := hi
  have q1 : (0 : Int) ≤ (k : Int) := by omega
  have q2 : (k : Int) < (n : Int) := by omega
  have tk : IntKind.i64.wrap ((k : Int) + 1) = (k : Int) + 1 := IntWalk.i64_in _ (by omega)
  have H := Lib.hid h
  have HPC := Lib.hid hpc
  have q3 : (0 : Int) ≤ (a : Int) := by omega
  have q4 : (a : Int) < 32 := by omega
  obtain ⟨X, hX⟩ : ∃ X, F.rs.getD b 0 = X := ⟨_, rfl⟩
  have hXf := getD_fit h.fr.fits b
  have cb := h.fr.regD hb
  have hc := valN_fit h.fr.fits C hV
  rw [hX] at hXf cb
  have HVV := Lib.hid (fun w' (f : New w w') => rvalue_any fb o F.pc F.rs v 3 a b C V M W w' (h.fr.new f))
  have hE : reckF 3 a b C V F = ⟨(k : Int) + 1, F.rs.set a (reckN 3 V X (valN F.rs C V)), F.bk⟩ := by
    unfold reckF
    rw [hpc, show regN F.rs (b : Int) = X by unfold regN; rw [if_pos ⟨by omega, by omega⟩]; exact hX]
  have HE := Lib.hid hE
  have hR := reckN_fit 3 hV hXf hc
  have HK := Lib.hid (fun w' => rreckon_any 3 V _ _ w' (by omega) hXf hc)
  generalize valN F.rs C V = Y at HVV HE hR HK hc
  generalize reckN 3 V X Y = R at HE hR HK
  have q5 : (0 : Int) ≤ (b : Int) := by omega
  have q6 : (b : Int) < 32 := by omega
  clear h hg hpc hX hE
  go_enter Tryd.func11, Tryd.ntmps11
  go_wp2_with fail
  obtain ⟨W0, hW0⟩ : ∃ W0, (w.alloc (.cells #[.int .i64 3, .int .i64 a, .int .i64 b, .int .i64 C, .int .u64 V, .int .i64 M, .int .i64 W] 52)).alloc (.cells #[.int .i64 3, .int .i64 a, .int .i64 b, .int .i64 C, .int .u64 V, .int .i64 0, .int .i64 0] 52) = W0 := ⟨_, rfl⟩
  have hn0 : New w W0 := by rw [← hW0]; exact ((Fr.refl _ _).alloc _).alloc _
  have hb0 : W0.heap[w.heap.size]? = some (.cells #[.int .i64 3, .int .i64 a, .int .i64 b, .int .i64 C, .int .u64 V, .int .i64 M, .int .i64 W] 52 (0, 0)) := by rw [← hW0, block_alloc (by simp)]; exact block_alloc_new _ _
  rw [hW0]
  obtain ⟨xb, hxb⟩ : ∃ xb, w.heap.size = xb := ⟨_, rfl⟩
  have hxf : fb < xb := by omega
  rw [hxb] at hb0 ⊢
  refine (HRT.out _).mono ?_
  rintro e w1 ⟨rfl, hn1⟩
  have hb1 := (hn1.block xb (lt_of_block hb0) id).trans hb0
  have HB1 := Lib.hid hb1
  have HN1 := Lib.hid (hn0.trans hn1)
  have hx1 := lt_of_block hb1
  obtain ⟨y0, y1, y2, y3, y4, y5, y6⟩ := box_cells hb1
  have d0 := (HN1.out.cell hl id o).trans c0
  have zf : ∀ i, w1.frozen? ⟨fb, i, none⟩ = false := fun i => (HN1.out.frozen hl id i).trans (H.out.fr.free i)
  clear hW0 hn0 hb0 hn1 hb1 c0 x0 x1 x2 x3 x4 x5 x6 HRT HI
  go_wp2_with fail
  have n2 : New w1 w1.drew := (Fr.refl _ _).drew
  have HB2 := Lib.hid ((n2.block xb hx1 id).trans HB1.out)
  have HN2 := Lib.hid (HN1.out.trans n2)
  refine heldStart (fun wz => wz.cell? ⟨xb, 0, none⟩ = some (.int .i64 3) ∧ wz.cell? ⟨xb, 1, none⟩ = some (.int .i64 a) ∧ wz.cell? ⟨xb, 2, none⟩ = some (.int .i64 b) ∧ wz.cell? ⟨xb, 3, none⟩ = some (.int .i64 C) ∧ wz.cell? ⟨xb, 4, none⟩ = some (.int .u64 V) ∧ wz.cell? ⟨xb, 5, none⟩ = some (.int .i64 M) ∧ wz.cell? ⟨xb, 6, none⟩ = some (.int .i64 W)) (by kernel_rfl) ?_
  generalize w1.drew = w2 at n2 HB2 HN2 ⊢
  have s2 := box_cells HB2.out
  clear d0 zf y0 y1 y2 y3 y4 y5 y6 n2
  refine wpAnyH_take (i := 0) (v := ?_) rfl (by kernel_rfl) (by kernel_rfl) (by kernel_rfl) (fun _ _ _ h => h) (Or.inl ⟨by rfl, ?_⟩) s2 ?_
  rotate_left
  · intro w hSw; first | (obtain ⟨s1, s2, s3, s4, s5, s6, s7, s8⟩ := hSw; go_simp; rfl) | (obtain ⟨s1, s2, s3, s4, s5, s6, s7⟩ := hSw; go_simp; rfl) | (obtain ⟨s1, s2, s3⟩ := hSw; go_simp; rfl) | (obtain ⟨s1, s2⟩ := hSw; go_simp; rfl) | (have s1 := hSw; go_simp; rfl)
  go_simp
  refine wpAnyH_take (i := 1) (v := ?_) rfl (by kernel_rfl) (by kernel_rfl) (by kernel_rfl) (fun _ _ _ h => h) (Or.inl ⟨by rfl, ?_⟩) s2 ?_
  rotate_left
  · intro w hSw; first | (obtain ⟨s1, s2, s3, s4, s5, s6, s7, s8⟩ := hSw; go_simp; rfl) | (obtain ⟨s1, s2, s3, s4, s5, s6, s7⟩ := hSw; go_simp; rfl) | (obtain ⟨s1, s2, s3⟩ := hSw; go_simp; rfl) | (obtain ⟨s1, s2⟩ := hSw; go_simp; rfl) | (have s1 := hSw; go_simp; rfl)
  go_simp
  refine wpAnyH_take (i := 2) (v := ?_) rfl (by kernel_rfl) (by kernel_rfl) (by kernel_rfl) (fun _ _ _ h => h) (Or.inl ⟨by rfl, ?_⟩) s2 ?_
  rotate_left
  · intro w hSw; first | (obtain ⟨s1, s2, s3, s4, s5, s6, s7, s8⟩ := hSw; go_simp; rfl) | (obtain ⟨s1, s2, s3, s4, s5, s6, s7⟩ := hSw; go_simp; rfl) | (obtain ⟨s1, s2, s3⟩ := hSw; go_simp; rfl) | (obtain ⟨s1, s2⟩ := hSw; go_simp; rfl) | (have s1 := hSw; go_simp; rfl)
  go_simp
  refine wpAnyH_take (i := 3) (v := ?_) rfl (by kernel_rfl) (by kernel_rfl) (by kernel_rfl) (fun _ _ _ h => h) (Or.inl ⟨by rfl, ?_⟩) s2 ?_
  rotate_left
  · intro w hSw; first | (obtain ⟨s1, s2, s3, s4, s5, s6, s7, s8⟩ := hSw; go_simp; rfl) | (obtain ⟨s1, s2, s3, s4, s5, s6, s7⟩ := hSw; go_simp; rfl) | (obtain ⟨s1, s2, s3⟩ := hSw; go_simp; rfl) | (obtain ⟨s1, s2⟩ := hSw; go_simp; rfl) | (have s1 := hSw; go_simp; rfl)
  go_simp
  refine wpAnyH_take (i := 4) (v := ?_) rfl (by kernel_rfl) (by kernel_rfl) (by kernel_rfl) (fun _ _ _ h => h) (Or.inl ⟨by rfl, ?_⟩) s2 ?_
  rotate_left
  · intro w hSw; first | (obtain ⟨s1, s2, s3, s4, s5, s6, s7, s8⟩ := hSw; go_simp; rfl) | (obtain ⟨s1, s2, s3, s4, s5, s6, s7⟩ := hSw; go_simp; rfl) | (obtain ⟨s1, s2, s3⟩ := hSw; go_simp; rfl) | (obtain ⟨s1, s2⟩ := hSw; go_simp; rfl) | (have s1 := hSw; go_simp; rfl)
  go_simp
  refine wpAnyH_take (i := 5) (v := ?_) rfl (by kernel_rfl) (by kernel_rfl) (by kernel_rfl) (fun _ _ _ h => h) (Or.inl ⟨by rfl, ?_⟩) s2 ?_
  rotate_left
  · intro w hSw; first | (obtain ⟨s1, s2, s3, s4, s5, s6, s7, s8⟩ := hSw; go_simp; rfl) | (obtain ⟨s1, s2, s3, s4, s5, s6, s7⟩ := hSw; go_simp; rfl) | (obtain ⟨s1, s2, s3⟩ := hSw; go_simp; rfl) | (obtain ⟨s1, s2⟩ := hSw; go_simp; rfl) | (have s1 := hSw; go_simp; rfl)
  go_simp
  refine wpAnyH_take (i := 6) (v := ?_) rfl (by kernel_rfl) (by kernel_rfl) (by kernel_rfl) (fun _ _ _ h => h) (Or.inl ⟨by rfl, ?_⟩) s2 ?_
  rotate_left
  · intro w hSw; first | (obtain ⟨s1, s2, s3, s4, s5, s6, s7, s8⟩ := hSw; go_simp; rfl) | (obtain ⟨s1, s2, s3, s4, s5, s6, s7⟩ := hSw; go_simp; rfl) | (obtain ⟨s1, s2, s3⟩ := hSw; go_simp; rfl) | (obtain ⟨s1, s2⟩ := hSw; go_simp; rfl) | (have s1 := hSw; go_simp; rfl)
  go_simp
  refine wpAnyH_take (i := 7) (v := ?_) rfl (by kernel_rfl) (by kernel_rfl) (by kernel_rfl) (fun _ _ _ h => h) (Or.inl ⟨by rfl, ?_⟩) s2 ?_
  rotate_left
  · intro w hSw; first | (obtain ⟨s1, s2, s3, s4, s5, s6, s7, s8⟩ := hSw; go_simp; rfl) | (obtain ⟨s1, s2, s3, s4, s5, s6, s7⟩ := hSw; go_simp; rfl) | (obtain ⟨s1, s2, s3⟩ := hSw; go_simp; rfl) | (obtain ⟨s1, s2⟩ := hSw; go_simp; rfl) | (have s1 := hSw; go_simp; rfl)
  go_simp
  refine wpAnyH_take (i := 8) (v := ?_) rfl (by kernel_rfl) (by kernel_rfl) (by kernel_rfl) (fun _ _ _ h => h) (Or.inl ⟨by rfl, ?_⟩) s2 ?_
  rotate_left
  · intro w hSw; first | (obtain ⟨s1, s2, s3, s4, s5, s6, s7, s8⟩ := hSw; go_simp; rfl) | (obtain ⟨s1, s2, s3, s4, s5, s6, s7⟩ := hSw; go_simp; rfl) | (obtain ⟨s1, s2, s3⟩ := hSw; go_simp; rfl) | (obtain ⟨s1, s2⟩ := hSw; go_simp; rfl) | (have s1 := hSw; go_simp; rfl)
  go_simp
  refine wpAnyH_take (i := 9) (v := ?_) rfl (by kernel_rfl) (by kernel_rfl) (by kernel_rfl) (fun _ _ _ h => h) (Or.inl ⟨by rfl, ?_⟩) s2 ?_
  rotate_left
  · intro w hSw; first | (obtain ⟨s1, s2, s3, s4, s5, s6, s7, s8⟩ := hSw; go_simp; rfl) | (obtain ⟨s1, s2, s3, s4, s5, s6, s7⟩ := hSw; go_simp; rfl) | (obtain ⟨s1, s2, s3⟩ := hSw; go_simp; rfl) | (obtain ⟨s1, s2⟩ := hSw; go_simp; rfl) | (have s1 := hSw; go_simp; rfl)
  go_simp
  refine wpAnyH_take (i := 10) (v := ?_) rfl (by kernel_rfl) (by kernel_rfl) (by kernel_rfl) (fun _ _ _ h => h) (Or.inl ⟨by rfl, ?_⟩) s2 ?_
  rotate_left
  · intro w hSw; first | (obtain ⟨s1, s2, s3, s4, s5, s6, s7, s8⟩ := hSw; go_simp; rfl) | (obtain ⟨s1, s2, s3, s4, s5, s6, s7⟩ := hSw; go_simp; rfl) | (obtain ⟨s1, s2, s3⟩ := hSw; go_simp; rfl) | (obtain ⟨s1, s2⟩ := hSw; go_simp; rfl) | (have s1 := hSw; go_simp; rfl)
  go_simp
  refine wpAnyH_take (i := 12) (v := ?_) rfl (by kernel_rfl) (by kernel_rfl) (by kernel_rfl) (fun _ _ _ h => h) (Or.inl ⟨by rfl, ?_⟩) s2 ?_
  rotate_left
  · intro w hSw; first | (obtain ⟨s1, s2, s3, s4, s5, s6, s7, s8⟩ := hSw; go_simp; rfl) | (obtain ⟨s1, s2, s3, s4, s5, s6, s7⟩ := hSw; go_simp; rfl) | (obtain ⟨s1, s2, s3⟩ := hSw; go_simp; rfl) | (obtain ⟨s1, s2⟩ := hSw; go_simp; rfl) | (have s1 := hSw; go_simp; rfl)
  go_simp
  refine wpAnyH_take (i := 13) (v := ?_) rfl (by kernel_rfl) (by kernel_rfl) (by kernel_rfl) (fun _ _ _ h => h) (Or.inl ⟨by rfl, ?_⟩) s2 ?_
  rotate_left
  · intro w hSw; first | (obtain ⟨s1, s2, s3, s4, s5, s6, s7, s8⟩ := hSw; go_simp; rfl) | (obtain ⟨s1, s2, s3, s4, s5, s6, s7⟩ := hSw; go_simp; rfl) | (obtain ⟨s1, s2, s3⟩ := hSw; go_simp; rfl) | (obtain ⟨s1, s2⟩ := hSw; go_simp; rfl) | (have s1 := hSw; go_simp; rfl)
  go_simp
  refine wpAnyH_take (i := 16) (v := ?_) rfl (by kernel_rfl) (by kernel_rfl) (by kernel_rfl) (fun _ _ _ h => h) (Or.inl ⟨by rfl, ?_⟩) s2 ?_
  rotate_left
  · intro w hSw; first | (obtain ⟨s1, s2, s3, s4, s5, s6, s7, s8⟩ := hSw; go_simp; rfl) | (obtain ⟨s1, s2, s3, s4, s5, s6, s7⟩ := hSw; go_simp; rfl) | (obtain ⟨s1, s2, s3⟩ := hSw; go_simp; rfl) | (obtain ⟨s1, s2⟩ := hSw; go_simp; rfl) | (have s1 := hSw; go_simp; rfl)
  go_simp
  refine wpAnyH_take (i := 17) (v := ?_) rfl (by kernel_rfl) (by kernel_rfl) (by kernel_rfl) (fun _ _ _ h => h) (Or.inl ⟨by rfl, ?_⟩) s2 ?_
  rotate_left
  · intro w hSw; first | (obtain ⟨s1, s2, s3, s4, s5, s6, s7, s8⟩ := hSw; go_simp; rfl) | (obtain ⟨s1, s2, s3, s4, s5, s6, s7⟩ := hSw; go_simp; rfl) | (obtain ⟨s1, s2, s3⟩ := hSw; go_simp; rfl) | (obtain ⟨s1, s2⟩ := hSw; go_simp; rfl) | (have s1 := hSw; go_simp; rfl)
  go_simp
  refine heldEither (i := 11) (j := 14) (by kernel_rfl) rfl rfl (by rfl) (by rfl) (fun K hK => ?_) (fun K hK => ?_)
  · have yb := (HN2.out.cell hl id _).trans cb
    go_simp
    refine hK.out _ _ s2 ?_
    clear hK K yb
    refine heldOne (i := 14) (by kernel_rfl) rfl (by rfl) (fun K hK => ?_)
    go_simp
    refine (HVV.out w2 HN2.out).mono ?_
    rintro e w4 ⟨rfl, hn4⟩
    have hb4 := (hn4.block xb (lt_of_block HB2.out) id).trans HB2.out
    have HN4 := Lib.hid (HN2.out.trans hn4)
    have HB4 := Lib.hid hb4
    have s4 := box_cells hb4
    refine hK.out _ _ s4 ?_
    clear hK K hn4 hb4
    refine heldOne (i := 15) (by kernel_rfl) rfl (by rfl) (fun K hK => ?_)
    go_simp
    refine (HK.out w4).mono ?_
    rintro e w' ⟨rfl, rfl⟩
    refine hK.out _ _ s4 ?_
    clear hK K
    refine wpAnyH_take (i := 18) (v := ?_) rfl (by kernel_rfl) (by kernel_rfl) (by kernel_rfl) (fun _ _ _ h => h) (Or.inl ⟨by rfl, ?_⟩) s4 ?_
    rotate_left
    · intro w hSw; first | (obtain ⟨s1, s2, s3, s4, s5, s6, s7, s8⟩ := hSw; go_simp; rfl) | (obtain ⟨s1, s2, s3, s4, s5, s6, s7⟩ := hSw; go_simp; rfl) | (obtain ⟨s1, s2, s3⟩ := hSw; go_simp; rfl) | (obtain ⟨s1, s2⟩ := hSw; go_simp; rfl) | (have s1 := hSw; go_simp; rfl)
    go_simp
    have HNS := HN4
    have HBS := HB4
    refine heldOne (i := 19) (by kernel_rfl) rfl (by rfl) (fun K hK => ?_)
    have HH := Lib.hid (H.out.new HNS.out)
    have ya := HH.out.fr.regD ha
    have yz := HH.out.fr.free
    go_simp
    have hs5 := HH.out.setReg ha hR
    have hb5 : (w4.setCell ⟨fb, o + 1 + a, none⟩ (.int .u64 (R : Nat))).heap[xb]? = _ := (block_setCell_ne (by omega) _).trans HBS.out
    have HS5 := Lib.hid hs5
    have HB5 := Lib.hid hb5
    have HF5 := Lib.hid ((Fr34.new hl HNS.out).trans (Fr34.set (fb := fb) (o := o) (i := o + 1 + a) (.int .u64 (R : Nat)) (by omega) (by omega)))
    refine hK.out _ _ (box_cells hb5) ?_
    clear hK K ya yz hs5 hb5
    refine wpAnyH_done (by kernel_rfl) ?_ _
    generalize w4.setCell ⟨fb, o + 1 + a, none⟩ (.int .u64 (R : Nat)) = w5 at HS5 HB5 HF5 ⊢
    have e0 : w5.cell? ⟨fb, o, none⟩ = some (.int .i64 k) := by rw [← HPC.out]; exact HS5.out.fr.pc
    have zf : ∀ i, w5.frozen? ⟨fb, i, none⟩ = false := HS5.out.fr.free
    go_wp2
    go_ret2
    rw [HE.out]
    exact ⟨_, rfl, HS5.out.setPc _, HF5.out.trans (Fr34.set _ (Nat.le_refl _) (by omega)), fun k hk => .inl hk⟩
  · go_simp
    refine (HVV.out w2 HN2.out).mono ?_
    rintro e w4 ⟨rfl, hn4⟩
    have hb4 := (hn4.block xb (lt_of_block HB2.out) id).trans HB2.out
    have HN4 := Lib.hid (HN2.out.trans hn4)
    have HB4 := Lib.hid hb4
    have s4 := box_cells hb4
    refine hK.out _ _ s4 ?_
    clear hK K hn4 hb4 s2
    refine heldOne (i := 11) (by kernel_rfl) rfl (by rfl) (fun K hK => ?_)
    have yb := (HN4.out.cell hl id _).trans cb
    go_simp
    refine hK.out _ _ s4 ?_
    clear hK K yb
    refine heldOne (i := 15) (by kernel_rfl) rfl (by rfl) (fun K hK => ?_)
    go_simp
    refine (HK.out w4).mono ?_
    rintro e w' ⟨rfl, rfl⟩
    refine hK.out _ _ s4 ?_
    clear hK K
    refine wpAnyH_take (i := 18) (v := ?_) rfl (by kernel_rfl) (by kernel_rfl) (by kernel_rfl) (fun _ _ _ h => h) (Or.inl ⟨by rfl, ?_⟩) s4 ?_
    rotate_left
    · intro w hSw; first | (obtain ⟨s1, s2, s3, s4, s5, s6, s7, s8⟩ := hSw; go_simp; rfl) | (obtain ⟨s1, s2, s3, s4, s5, s6, s7⟩ := hSw; go_simp; rfl) | (obtain ⟨s1, s2, s3⟩ := hSw; go_simp; rfl) | (obtain ⟨s1, s2⟩ := hSw; go_simp; rfl) | (have s1 := hSw; go_simp; rfl)
    go_simp
    have HNS := HN4
    have HBS := HB4
    refine heldOne (i := 19) (by kernel_rfl) rfl (by rfl) (fun K hK => ?_)
    have HH := Lib.hid (H.out.new HNS.out)
    have ya := HH.out.fr.regD ha
    have yz := HH.out.fr.free
    go_simp
    have hs5 := HH.out.setReg ha hR
    have hb5 : (w4.setCell ⟨fb, o + 1 + a, none⟩ (.int .u64 (R : Nat))).heap[xb]? = _ := (block_setCell_ne (by omega) _).trans HBS.out
    have HS5 := Lib.hid hs5
    have HB5 := Lib.hid hb5
    have HF5 := Lib.hid ((Fr34.new hl HNS.out).trans (Fr34.set (fb := fb) (o := o) (i := o + 1 + a) (.int .u64 (R : Nat)) (by omega) (by omega)))
    refine hK.out _ _ (box_cells hb5) ?_
    clear hK K ya yz hs5 hb5
    refine wpAnyH_done (by kernel_rfl) ?_ _
    generalize w4.setCell ⟨fb, o + 1 + a, none⟩ (.int .u64 (R : Nat)) = w5 at HS5 HB5 HF5 ⊢
    have e0 : w5.cell? ⟨fb, o, none⟩ = some (.int .i64 k) := by rw [← HPC.out]; exact HS5.out.fr.pc
    have zf : ∀ i, w5.frozen? ⟨fb, i, none⟩ = false := HS5.out.fr.free
    go_wp2
    go_ret2
    rw [HE.out]
    exact ⟨_, rfl, HS5.out.setPc _, HF5.out.trans (Fr34.set _ (Nat.le_refl _) (by omega)), fun k hk => .inl hk⟩

set_option maxRecDepth 100000 in
set_option maxHeartbeats 8000000 in
theorem rstep_4 (a b : Nat) (ha : a < 32) (hb : b < 32) (hB : B = b) (h : FmAt w fb o v F) (hi : InsAt w cg co k 4 a B C V M W) (hk : k < n) (hn : n ≤ 1000000) (hV : V < 18446744073709551616) (hpc : F.pc = k) (hg : goodV 4 a B C V n = true) :
    Calls Tryd.prog 11 #[.pointer (some ⟨fb, o, none⟩), .slice (some ⟨cg, co, none⟩) n cap, cv] w fun e w' => RStepped w fb o v (0, reckF 4 a B C V F) e w' := by
  subst hB
  have c0 := h.fr.pc
  have hl := h.fr.lt
  rw [hpc] at c0
  unfold goodV at hg
  rw [show ((4 : Int) != 22) = true from rfl] at hg
  have HRT := Lib.hid (fun w' => right_any 4 a b C 0 0 V n true w' hV (by omega))
  rw [hg] at HRT
  have HI := Lib.hid hi
  obtain ⟨_, x0, x1, x2, x3, x4, x5, x6⟩ := hi
  have q1 : (0 : Int) ≤ (k : Int) := by omega
  have q2 : (k : Int) < (n : Int) := by omega
  have tk : IntKind.i64.wrap ((k : Int) + 1) = (k : Int) + 1 := IntWalk.i64_in _ (by omega)
  have H := Lib.hid h
  have HPC := Lib.hid hpc
  have q3 : (0 : Int) ≤ (a : Int) := by omega
  have q4 : (a : Int) < 32 := by omega
  obtain ⟨X, hX⟩ : ∃ X, F.rs.getD b 0 = X := ⟨_, rfl⟩
  have hXf := getD_fit h.fr.fits b
  have cb := h.fr.regD hb
  have hc := valN_fit h.fr.fits C hV
  rw [hX] at hXf cb
  have HVV := Lib.hid (fun w' (f : New w w') => rvalue_any fb o F.pc F.rs v 4 a b C V M W w' (h.fr.new f))
  have hE : reckF 4 a b C V F = ⟨(k : Int) + 1, F.rs.set a (reckN 4 V X (valN F.rs C V)), F.bk⟩ := by
    unfold reckF
    rw [hpc, show regN F.rs (b : Int) = X by unfold regN; rw [if_pos ⟨by omega, by omega⟩]; exact hX]
  have HE := Lib.hid hE
  have hR := reckN_fit 4 hV hXf hc
  have HK := Lib.hid (fun w' => rreckon_any 4 V _ _ w' (by omega) hXf hc)
  generalize valN F.rs C V = Y at HVV HE hR HK hc
  generalize reckN 4 V X Y = R at HE hR HK
  have q5 : (0 : Int) ≤ (b : Int) := by omega
  have q6 : (b : Int) < 32 := by omega
  clear h hg hpc hX hE
  go_enter Tryd.func11, Tryd.ntmps11
  go_wp2_with fail
  obtain ⟨W0, hW0⟩ : ∃ W0, (w.alloc (.cells #[.int .i64 4, .int .i64 a, .int .i64 b, .int .i64 C, .int .u64 V, .int .i64 M, .int .i64 W] 52)).alloc (.cells #[.int .i64 4, .int .i64 a, .int .i64 b, .int .i64 C, .int .u64 V, .int .i64 0, .int .i64 0] 52) = W0 := ⟨_, rfl⟩
  have hn0 : New w W0 := by rw [← hW0]; exact ((Fr.refl _ _).alloc _).alloc _
  have hb0 : W0.heap[w.heap.size]? = some (.cells #[.int .i64 4, .int .i64 a, .int .i64 b, .int .i64 C, .int .u64 V, .int .i64 M, .int .i64 W] 52 (0, 0)) := by rw [← hW0, block_alloc (by simp)]; exact block_alloc_new _ _
  rw [hW0]
  obtain ⟨xb, hxb⟩ : ∃ xb, w.heap.size = xb := ⟨_, rfl⟩
  have hxf : fb < xb := by omega
  rw [hxb] at hb0 ⊢
  refine (HRT.out _).mono ?_
  rintro e w1 ⟨rfl, hn1⟩
  have hb1 := (hn1.block xb (lt_of_block hb0) id).trans hb0
  have HB1 := Lib.hid hb1
  have HN1 := Lib.hid (hn0.trans hn1)
  have hx1 := lt_of_block hb1
  obtain ⟨y0, y1, y2, y3, y4, y5, y6⟩ := box_cells hb1
  have d0 := (HN1.out.cell hl id o).trans c0
  have zf : ∀ i, w1.frozen? ⟨fb, i, none⟩ = false := fun i => (HN1.out.frozen hl id i).trans (H.out.fr.free i)
  clear hW0 hn0 hb0 hn1 hb1 c0 x0 x1 x2 x3 x4 x5 x6 HRT HI
  go_wp2_with fail
  have n2 : New w1 w1.drew := (Fr.refl _ _).drew
  have HB2 := Lib.hid ((n2.block xb hx1 id).trans HB1.out)
  have HN2 := Lib.hid (HN1.out.trans n2)
  refine heldStart (fun wz => wz.cell? ⟨xb, 0, none⟩ = some (.int .i64 4) ∧ wz.cell? ⟨xb, 1, none⟩ = some (.int .i64 a) ∧ wz.cell? ⟨xb, 2, none⟩ = some (.int .i64 b) ∧ wz.cell? ⟨xb, 3, none⟩ = some (.int .i64 C) ∧ wz.cell? ⟨xb, 4, none⟩ = some (.int .u64 V) ∧ wz.cell? ⟨xb, 5, none⟩ = some (.int .i64 M) ∧ wz.cell? ⟨xb, 6, none⟩ = some (.int .i64 W)) (by kernel_rfl) ?_
  generalize w1.drew = w2 at n2 HB2 HN2 ⊢
  have s2 := box_cells HB2.out
  clear d0 zf y0 y1 y2 y3 y4 y5 y6 n2
  refine wpAnyH_take (i := 0) (v := ?_) rfl (by kernel_rfl) (by kernel_rfl) (by kernel_rfl) (fun _ _ _ h => h) (Or.inl ⟨by rfl, ?_⟩) s2 ?_
  rotate_left
  · intro w hSw; first | (obtain ⟨s1, s2, s3, s4, s5, s6, s7, s8⟩ := hSw; go_simp; rfl) | (obtain ⟨s1, s2, s3, s4, s5, s6, s7⟩ := hSw; go_simp; rfl) | (obtain ⟨s1, s2, s3⟩ := hSw; go_simp; rfl) | (obtain ⟨s1, s2⟩ := hSw; go_simp; rfl) | (have s1 := hSw; go_simp; rfl)
  go_simp
  refine wpAnyH_take (i := 1) (v := ?_) rfl (by kernel_rfl) (by kernel_rfl) (by kernel_rfl) (fun _ _ _ h => h) (Or.inl ⟨by rfl, ?_⟩) s2 ?_
  rotate_left
  · intro w hSw; first | (obtain ⟨s1, s2, s3, s4, s5, s6, s7, s8⟩ := hSw; go_simp; rfl) | (obtain ⟨s1, s2, s3, s4, s5, s6, s7⟩ := hSw; go_simp; rfl) | (obtain ⟨s1, s2, s3⟩ := hSw; go_simp; rfl) | (obtain ⟨s1, s2⟩ := hSw; go_simp; rfl) | (have s1 := hSw; go_simp; rfl)
  go_simp
  refine wpAnyH_take (i := 2) (v := ?_) rfl (by kernel_rfl) (by kernel_rfl) (by kernel_rfl) (fun _ _ _ h => h) (Or.inl ⟨by rfl, ?_⟩) s2 ?_
  rotate_left
  · intro w hSw; first | (obtain ⟨s1, s2, s3, s4, s5, s6, s7, s8⟩ := hSw; go_simp; rfl) | (obtain ⟨s1, s2, s3, s4, s5, s6, s7⟩ := hSw; go_simp; rfl) | (obtain ⟨s1, s2, s3⟩ := hSw; go_simp; rfl) | (obtain ⟨s1, s2⟩ := hSw; go_simp; rfl) | (have s1 := hSw; go_simp; rfl)
  go_simp
  refine wpAnyH_take (i := 3) (v := ?_) rfl (by kernel_rfl) (by kernel_rfl) (by kernel_rfl) (fun _ _ _ h => h) (Or.inl ⟨by rfl, ?_⟩) s2 ?_
  rotate_left
  · intro w hSw; first | (obtain ⟨s1, s2, s3, s4, s5, s6, s7, s8⟩ := hSw; go_simp; rfl) | (obtain ⟨s1, s2, s3, s4, s5, s6, s7⟩ := hSw; go_simp; rfl) | (obtain ⟨s1, s2, s3⟩ := hSw; go_simp; rfl) | (obtain ⟨s1, s2⟩ := hSw; go_simp; rfl) | (have s1 := hSw; go_simp; rfl)
  go_simp
  refine wpAnyH_take (i := 4) (v := ?_) rfl (by kernel_rfl) (by kernel_rfl) (by kernel_rfl) (fun _ _ _ h => h) (Or.inl ⟨by rfl, ?_⟩) s2 ?_
  rotate_left
  · intro w hSw; first | (obtain ⟨s1, s2, s3, s4, s5, s6, s7, s8⟩ := hSw; go_simp; rfl) | (obtain ⟨s1, s2, s3, s4, s5, s6, s7⟩ := hSw; go_simp; rfl) | (obtain ⟨s1, s2, s3⟩ := hSw; go_simp; rfl) | (obtain ⟨s1, s2⟩ := hSw; go_simp; rfl) | (have s1 := hSw; go_simp; rfl)
  go_simp
  refine wpAnyH_take (i := 5) (v := ?_) rfl (by kernel_rfl) (by kernel_rfl) (by kernel_rfl) (fun _ _ _ h => h) (Or.inl ⟨by rfl, ?_⟩) s2 ?_
  rotate_left
  · intro w hSw; first | (obtain ⟨s1, s2, s3, s4, s5, s6, s7, s8⟩ := hSw; go_simp; rfl) | (obtain ⟨s1, s2, s3, s4, s5, s6, s7⟩ := hSw; go_simp; rfl) | (obtain ⟨s1, s2, s3⟩ := hSw; go_simp; rfl) | (obtain ⟨s1, s2⟩ := hSw; go_simp; rfl) | (have s1 := hSw; go_simp; rfl)
  go_simp
  refine wpAnyH_take (i := 6) (v := ?_) rfl (by kernel_rfl) (by kernel_rfl) (by kernel_rfl) (fun _ _ _ h => h) (Or.inl ⟨by rfl, ?_⟩) s2 ?_
  rotate_left
  · intro w hSw; first | (obtain ⟨s1, s2, s3, s4, s5, s6, s7, s8⟩ := hSw; go_simp; rfl) | (obtain ⟨s1, s2, s3, s4, s5, s6, s7⟩ := hSw; go_simp; rfl) | (obtain ⟨s1, s2, s3⟩ := hSw; go_simp; rfl) | (obtain ⟨s1, s2⟩ := hSw; go_simp; rfl) | (have s1 := hSw; go_simp; rfl)
  go_simp
  refine wpAnyH_take (i := 7) (v := ?_) rfl (by kernel_rfl) (by kernel_rfl) (by kernel_rfl) (fun _ _ _ h => h) (Or.inl ⟨by rfl, ?_⟩) s2 ?_
  rotate_left
  · intro w hSw; first | (obtain ⟨s1, s2, s3, s4, s5, s6, s7, s8⟩ := hSw; go_simp; rfl) | (obtain ⟨s1, s2, s3, s4, s5, s6, s7⟩ := hSw; go_simp; rfl) | (obtain ⟨s1, s2, s3⟩ := hSw; go_simp; rfl) | (obtain ⟨s1, s2⟩ := hSw; go_simp; rfl) | (have s1 := hSw; go_simp; rfl)
  go_simp
  refine wpAnyH_take (i := 8) (v := ?_) rfl (by kernel_rfl) (by kernel_rfl) (by kernel_rfl) (fun _ _ _ h => h) (Or.inl ⟨by rfl, ?_⟩) s2 ?_
  rotate_left
  · intro w hSw; first | (obtain ⟨s1, s2, s3, s4, s5, s6, s7, s8⟩ := hSw; go_simp; rfl) | (obtain ⟨s1, s2, s3, s4, s5, s6, s7⟩ := hSw; go_simp; rfl) | (obtain ⟨s1, s2, s3⟩ := hSw; go_simp; rfl) | (obtain ⟨s1, s2⟩ := hSw; go_simp; rfl) | (have s1 := hSw; go_simp; rfl)
  go_simp
  refine wpAnyH_take (i := 9) (v := ?_) rfl (by kernel_rfl) (by kernel_rfl) (by kernel_rfl) (fun _ _ _ h => h) (Or.inl ⟨by rfl, ?_⟩) s2 ?_
  rotate_left
  · intro w hSw; first | (obtain ⟨s1, s2, s3, s4, s5, s6, s7, s8⟩ := hSw; go_simp; rfl) | (obtain ⟨s1, s2, s3, s4, s5, s6, s7⟩ := hSw; go_simp; rfl) | (obtain ⟨s1, s2, s3⟩ := hSw; go_simp; rfl) | (obtain ⟨s1, s2⟩ := hSw; go_simp; rfl) | (have s1 := hSw; go_simp; rfl)
  go_simp
  refine wpAnyH_take (i := 10) (v := ?_) rfl (by kernel_rfl) (by kernel_rfl) (by kernel_rfl) (fun _ _ _ h => h) (Or.inl ⟨by rfl, ?_⟩) s2 ?_
  rotate_left
  · intro w hSw; first | (obtain ⟨s1, s2, s3, s4, s5, s6, s7, s8⟩ := hSw; go_simp; rfl) | (obtain ⟨s1, s2, s3, s4, s5, s6, s7⟩ := hSw; go_simp; rfl) | (obtain ⟨s1, s2, s3⟩ := hSw; go_simp; rfl) | (obtain ⟨s1, s2⟩ := hSw; go_simp; rfl) | (have s1 := hSw; go_simp; rfl)
  go_simp
  refine wpAnyH_take (i := 12) (v := ?_) rfl (by kernel_rfl) (by kernel_rfl) (by kernel_rfl) (fun _ _ _ h => h) (Or.inl ⟨by rfl, ?_⟩) s2 ?_
  rotate_left
  · intro w hSw; first | (obtain ⟨s1, s2, s3, s4, s5, s6, s7, s8⟩ := hSw; go_simp; rfl) | (obtain ⟨s1, s2, s3, s4, s5, s6, s7⟩ := hSw; go_simp; rfl) | (obtain ⟨s1, s2, s3⟩ := hSw; go_simp; rfl) | (obtain ⟨s1, s2⟩ := hSw; go_simp; rfl) | (have s1 := hSw; go_simp; rfl)
  go_simp
  refine wpAnyH_take (i := 13) (v := ?_) rfl (by kernel_rfl) (by kernel_rfl) (by kernel_rfl) (fun _ _ _ h => h) (Or.inl ⟨by rfl, ?_⟩) s2 ?_
  rotate_left
  · intro w hSw; first | (obtain ⟨s1, s2, s3, s4, s5, s6, s7, s8⟩ := hSw; go_simp; rfl) | (obtain ⟨s1, s2, s3, s4, s5, s6, s7⟩ := hSw; go_simp; rfl) | (obtain ⟨s1, s2, s3⟩ := hSw; go_simp; rfl) | (obtain ⟨s1, s2⟩ := hSw; go_simp; rfl) | (have s1 := hSw; go_simp; rfl)
  go_simp
  refine wpAnyH_take (i := 16) (v := ?_) rfl (by kernel_rfl) (by kernel_rfl) (by kernel_rfl) (fun _ _ _ h => h) (Or.inl ⟨by rfl, ?_⟩) s2 ?_
  rotate_left
  · intro w hSw; first | (obtain ⟨s1, s2, s3, s4, s5, s6, s7, s8⟩ := hSw; go_simp; rfl) | (obtain ⟨s1, s2, s3, s4, s5, s6, s7⟩ := hSw; go_simp; rfl) | (obtain ⟨s1, s2, s3⟩ := hSw; go_simp; rfl) | (obtain ⟨s1, s2⟩ := hSw; go_simp; rfl) | (have s1 := hSw; go_simp; rfl)
  go_simp
  refine wpAnyH_take (i := 17) (v := ?_) rfl (by kernel_rfl) (by kernel_rfl) (by kernel_rfl) (fun _ _ _ h => h) (Or.inl ⟨by rfl, ?_⟩) s2 ?_
  rotate_left
  · intro w hSw; first | (obtain ⟨s1, s2, s3, s4, s5, s6, s7, s8⟩ := hSw; go_simp; rfl) | (obtain ⟨s1, s2, s3, s4, s5, s6, s7⟩ := hSw; go_simp; rfl) | (obtain ⟨s1, s2, s3⟩ := hSw; go_simp; rfl) | (obtain ⟨s1, s2⟩ := hSw; go_simp; rfl) | (have s1 := hSw; go_simp; rfl)
  go_simp
  refine heldEither (i := 11) (j := 14) (by kernel_rfl) rfl rfl (by rfl) (by rfl) (fun K hK => ?_) (fun K hK => ?_)
  · have yb := (HN2.out.cell hl id _).trans cb
    go_simp
    refine hK.out _ _ s2 ?_
    clear hK K yb
    refine heldOne (i := 14) (by kernel_rfl) rfl (by rfl) (fun K hK => ?_)
    go_simp
    refine (HVV.out w2 HN2.out).mono ?_
    rintro e w4 ⟨rfl, hn4⟩
    have hb4 := (hn4.block xb (lt_of_block HB2.out) id).trans HB2.out
    have HN4 := Lib.hid (HN2.out.trans hn4)
    have HB4 := Lib.hid hb4
    have s4 := box_cells hb4
    refine hK.out _ _ s4 ?_
    clear hK K hn4 hb4
    refine heldOne (i := 15) (by kernel_rfl) rfl (by rfl) (fun K hK => ?_)
    go_simp
    refine (HK.out w4).mono ?_
    rintro e w' ⟨rfl, rfl⟩
    refine hK.out _ _ s4 ?_
    clear hK K
    refine wpAnyH_take (i := 18) (v := ?_) rfl (by kernel_rfl) (by kernel_rfl) (by kernel_rfl) (fun _ _ _ h => h) (Or.inl ⟨by rfl, ?_⟩) s4 ?_
    rotate_left
    · intro w hSw; first | (obtain ⟨s1, s2, s3, s4, s5, s6, s7, s8⟩ := hSw; go_simp; rfl) | (obtain ⟨s1, s2, s3, s4, s5, s6, s7⟩ := hSw; go_simp; rfl) | (obtain ⟨s1, s2, s3⟩ := hSw; go_simp; rfl) | (obtain ⟨s1, s2⟩ := hSw; go_simp; rfl) | (have s1 := hSw; go_simp; rfl)
    go_simp
    have HNS := HN4
    have HBS := HB4
    refine heldOne (i := 19) (by kernel_rfl) rfl (by rfl) (fun K hK => ?_)
    have HH := Lib.hid (H.out.new HNS.out)
    have ya := HH.out.fr.regD ha
    have yz := HH.out.fr.free
    go_simp
    have hs5 := HH.out.setReg ha hR
    have hb5 : (w4.setCell ⟨fb, o + 1 + a, none⟩ (.int .u64 (R : Nat))).heap[xb]? = _ := (block_setCell_ne (by omega) _).trans HBS.out
    have HS5 := Lib.hid hs5
    have HB5 := Lib.hid hb5
    have HF5 := Lib.hid ((Fr34.new hl HNS.out).trans (Fr34.set (fb := fb) (o := o) (i := o + 1 + a) (.int .u64 (R : Nat)) (by omega) (by omega)))
    refine hK.out _ _ (box_cells hb5) ?_
    clear hK K ya yz hs5 hb5
    refine wpAnyH_done (by kernel_rfl) ?_ _
    generalize w4.setCell ⟨fb, o + 1 + a, none⟩ (.int .u64 (R : Nat)) = w5 at HS5 HB5 HF5 ⊢
    have e0 : w5.cell? ⟨fb, o, none⟩ = some (.int .i64 k) := by rw [← HPC.out]; exact HS5.out.fr.pc
    have zf : ∀ i, w5.frozen? ⟨fb, i, none⟩ = false := HS5.out.fr.free
    go_wp2
    go_ret2
    rw [HE.out]
    exact ⟨_, rfl, HS5.out.setPc _, HF5.out.trans (Fr34.set _ (Nat.le_refl _) (by omega)), fun k hk => .inl hk⟩
  · go_simp
    refine (HVV.out w2 HN2.out).mono ?_
    rintro e w4 ⟨rfl, hn4⟩
    have hb4 := (hn4.block xb (lt_of_block HB2.out) id).trans HB2.out
    have HN4 := Lib.hid (HN2.out.trans hn4)
    have HB4 := Lib.hid hb4
    have s4 := box_cells hb4
    refine hK.out _ _ s4 ?_
    clear hK K hn4 hb4 s2
    refine heldOne (i := 11) (by kernel_rfl) rfl (by rfl) (fun K hK => ?_)
    have yb := (HN4.out.cell hl id _).trans cb
    go_simp
    refine hK.out _ _ s4 ?_
    clear hK K yb
    refine heldOne (i := 15) (by kernel_rfl) rfl (by rfl) (fun K hK => ?_)
    go_simp
    refine (HK.out w4).mono ?_
    rintro e w' ⟨rfl, rfl⟩
    refine hK.out _ _ s4 ?_
    clear hK K
    refine wpAnyH_take (i := 18) (v := ?_) rfl (by kernel_rfl) (by kernel_rfl) (by kernel_rfl) (fun _ _ _ h => h) (Or.inl ⟨by rfl, ?_⟩) s4 ?_
    rotate_left
    · intro w hSw; first | (obtain ⟨s1, s2, s3, s4, s5, s6, s7, s8⟩ := hSw; go_simp; rfl) | (obtain ⟨s1, s2, s3, s4, s5, s6, s7⟩ := hSw; go_simp; rfl) | (obtain ⟨s1, s2, s3⟩ := hSw; go_simp; rfl) | (obtain ⟨s1, s2⟩ := hSw; go_simp; rfl) | (have s1 := hSw; go_simp; rfl)
    go_simp
    have HNS := HN4
    have HBS := HB4
    refine heldOne (i := 19) (by kernel_rfl) rfl (by rfl) (fun K hK => ?_)
    have HH := Lib.hid (H.out.new HNS.out)
    have ya := HH.out.fr.regD ha
    have yz := HH.out.fr.free
    go_simp
    have hs5 := HH.out.setReg ha hR
    have hb5 : (w4.setCell ⟨fb, o + 1 + a, none⟩ (.int .u64 (R : Nat))).heap[xb]? = _ := (block_setCell_ne (by omega) _).trans HBS.out
    have HS5 := Lib.hid hs5
    have HB5 := Lib.hid hb5
    have HF5 := Lib.hid ((Fr34.new hl HNS.out).trans (Fr34.set (fb := fb) (o := o) (i := o + 1 + a) (.int .u64 (R : Nat)) (by omega) (by omega)))
    refine hK.out _ _ (box_cells hb5) ?_
    clear hK K ya yz hs5 hb5
    refine wpAnyH_done (by kernel_rfl) ?_ _
    generalize w4.setCell ⟨fb, o + 1 + a, none⟩ (.int .u64 (R : Nat)) = w5 at HS5 HB5 HF5 ⊢
    have e0 : w5.cell? ⟨fb, o, none⟩ = some (.int .i64 k) := by rw [← HPC.out]; exact HS5.out.fr.pc
    have zf : ∀ i, w5.frozen? ⟨fb, i, none⟩ = false := HS5.out.fr.free
    go_wp2
    go_ret2
    rw [HE.out]
    exact ⟨_, rfl, HS5.out.setPc _, HF5.out.trans (Fr34.set _ (Nat.le_refl _) (by omega)), fun k hk => .inl hk⟩

set_option maxRecDepth 100000 in
set_option maxHeartbeats 8000000 in
theorem rstep_5 (a b : Nat) (ha : a < 32) (hb : b < 32) (hB : B = b) (h : FmAt w fb o v F) (hi : InsAt w cg co k 5 a B C V M W) (hk : k < n) (hn : n ≤ 1000000) (hV : V < 18446744073709551616) (hpc : F.pc = k) (hg : goodV 5 a B C V n = true) :
    Calls Tryd.prog 11 #[.pointer (some ⟨fb, o, none⟩), .slice (some ⟨cg, co, none⟩) n cap, cv] w fun e w' => RStepped w fb o v (0, reckF 5 a B C V F) e w' := by
  subst hB
  have c0 := h.fr.pc
  have hl := h.fr.lt
  rw [hpc] at c0
  unfold goodV at hg
  rw [show ((5 : Int) != 22) = true from rfl] at hg
  have HRT := Lib.hid (fun w' => right_any 5 a b C 0 0 V n true w' hV (by omega))
  rw [hg] at HRT
  have HI := Lib.hid hi
  obtain ⟨_, x0, x1, x2, x3, x4, x5, x6⟩ := hi
  have q1 : (0 : Int) ≤ (k : Int) := by omega
  have q2 : (k : Int) < (n : Int) := by omega
  have tk : IntKind.i64.wrap ((k : Int) + 1) = (k : Int) + 1 := IntWalk.i64_in _ (by omega)
  have H := Lib.hid h
  have HPC := Lib.hid hpc
  have q3 : (0 : Int) ≤ (a : Int) := by omega
  have q4 : (a : Int) < 32 := by omega
  obtain ⟨X, hX⟩ : ∃ X, F.rs.getD b 0 = X := ⟨_, rfl⟩
  have hXf := getD_fit h.fr.fits b
  have cb := h.fr.regD hb
  have hc := valN_fit h.fr.fits C hV
  rw [hX] at hXf cb
  have HVV := Lib.hid (fun w' (f : New w w') => rvalue_any fb o F.pc F.rs v 5 a b C V M W w' (h.fr.new f))
  have hE : reckF 5 a b C V F = ⟨(k : Int) + 1, F.rs.set a (reckN 5 V X (valN F.rs C V)), F.bk⟩ := by
    unfold reckF
    rw [hpc, show regN F.rs (b : Int) = X by unfold regN; rw [if_pos ⟨by omega, by omega⟩]; exact hX]
  have HE := Lib.hid hE
  have hR := reckN_fit 5 hV hXf hc
  have HK := Lib.hid (fun w' => rreckon_any 5 V _ _ w' (by omega) hXf hc)
  generalize valN F.rs C V = Y at HVV HE hR HK hc
  generalize reckN 5 V X Y = R at HE hR HK
  have q5 : (0 : Int) ≤ (b : Int) := by omega
  have q6 : (b : Int) < 32 := by omega
  clear h hg hpc hX hE
  go_enter Tryd.func11, Tryd.ntmps11
  go_wp2_with fail
  obtain ⟨W0, hW0⟩ : ∃ W0, (w.alloc (.cells #[.int .i64 5, .int .i64 a, .int .i64 b, .int .i64 C, .int .u64 V, .int .i64 M, .int .i64 W] 52)).alloc (.cells #[.int .i64 5, .int .i64 a, .int .i64 b, .int .i64 C, .int .u64 V, .int .i64 0, .int .i64 0] 52) = W0 := ⟨_, rfl⟩
  have hn0 : New w W0 := by rw [← hW0]; exact ((Fr.refl _ _).alloc _).alloc _
  have hb0 : W0.heap[w.heap.size]? = some (.cells #[.int .i64 5, .int .i64 a, .int .i64 b, .int .i64 C, .int .u64 V, .int .i64 M, .int .i64 W] 52 (0, 0)) := by rw [← hW0, block_alloc (by simp)]; exact block_alloc_new _ _
  rw [hW0]
  obtain ⟨xb, hxb⟩ : ∃ xb, w.heap.size = xb := ⟨_, rfl⟩
  have hxf : fb < xb := by omega
  rw [hxb] at hb0 ⊢
  refine (HRT.out _).mono ?_
  rintro e w1 ⟨rfl, hn1⟩
  have hb1 := (hn1.block xb (lt_of_block hb0) id).trans hb0
  have HB1 := Lib.hid hb1
  have HN1 := Lib.hid (hn0.trans hn1)
  have hx1 := lt_of_block hb1
  obtain ⟨y0, y1, y2, y3, y4, y5, y6⟩ := box_cells hb1
  have d0 := (HN1.out.cell hl id o).trans c0
  have zf : ∀ i, w1.frozen? ⟨fb, i, none⟩ = false := fun i => (HN1.out.frozen hl id i).trans (H.out.fr.free i)
  clear hW0 hn0 hb0 hn1 hb1 c0 x0 x1 x2 x3 x4 x5 x6 HRT HI
  go_wp2_with fail
  have n2 : New w1 w1.drew := (Fr.refl _ _).drew
  have HB2 := Lib.hid ((n2.block xb hx1 id).trans HB1.out)
  have HN2 := Lib.hid (HN1.out.trans n2)
  refine heldStart (fun wz => wz.cell? ⟨xb, 0, none⟩ = some (.int .i64 5) ∧ wz.cell? ⟨xb, 1, none⟩ = some (.int .i64 a) ∧ wz.cell? ⟨xb, 2, none⟩ = some (.int .i64 b) ∧ wz.cell? ⟨xb, 3, none⟩ = some (.int .i64 C) ∧ wz.cell? ⟨xb, 4, none⟩ = some (.int .u64 V) ∧ wz.cell? ⟨xb, 5, none⟩ = some (.int .i64 M) ∧ wz.cell? ⟨xb, 6, none⟩ = some (.int .i64 W)) (by kernel_rfl) ?_
  generalize w1.drew = w2 at n2 HB2 HN2 ⊢
  have s2 := box_cells HB2.out
  clear d0 zf y0 y1 y2 y3 y4 y5 y6 n2
  refine wpAnyH_take (i := 0) (v := ?_) rfl (by kernel_rfl) (by kernel_rfl) (by kernel_rfl) (fun _ _ _ h => h) (Or.inl ⟨by rfl, ?_⟩) s2 ?_
  rotate_left
  · intro w hSw; first | (obtain ⟨s1, s2, s3, s4, s5, s6, s7, s8⟩ := hSw; go_simp; rfl) | (obtain ⟨s1, s2, s3, s4, s5, s6, s7⟩ := hSw; go_simp; rfl) | (obtain ⟨s1, s2, s3⟩ := hSw; go_simp; rfl) | (obtain ⟨s1, s2⟩ := hSw; go_simp; rfl) | (have s1 := hSw; go_simp; rfl)
  go_simp
  refine wpAnyH_take (i := 1) (v := ?_) rfl (by kernel_rfl) (by kernel_rfl) (by kernel_rfl) (fun _ _ _ h => h) (Or.inl ⟨by rfl, ?_⟩) s2 ?_
  rotate_left
  · intro w hSw; first | (obtain ⟨s1, s2, s3, s4, s5, s6, s7, s8⟩ := hSw; go_simp; rfl) | (obtain ⟨s1, s2, s3, s4, s5, s6, s7⟩ := hSw; go_simp; rfl) | (obtain ⟨s1, s2, s3⟩ := hSw; go_simp; rfl) | (obtain ⟨s1, s2⟩ := hSw; go_simp; rfl) | (have s1 := hSw; go_simp; rfl)
  go_simp
  refine wpAnyH_take (i := 2) (v := ?_) rfl (by kernel_rfl) (by kernel_rfl) (by kernel_rfl) (fun _ _ _ h => h) (Or.inl ⟨by rfl, ?_⟩) s2 ?_
  rotate_left
  · intro w hSw; first | (obtain ⟨s1, s2, s3, s4, s5, s6, s7, s8⟩ := hSw; go_simp; rfl) | (obtain ⟨s1, s2, s3, s4, s5, s6, s7⟩ := hSw; go_simp; rfl) | (obtain ⟨s1, s2, s3⟩ := hSw; go_simp; rfl) | (obtain ⟨s1, s2⟩ := hSw; go_simp; rfl) | (have s1 := hSw; go_simp; rfl)
  go_simp
  refine wpAnyH_take (i := 3) (v := ?_) rfl (by kernel_rfl) (by kernel_rfl) (by kernel_rfl) (fun _ _ _ h => h) (Or.inl ⟨by rfl, ?_⟩) s2 ?_
  rotate_left
  · intro w hSw; first | (obtain ⟨s1, s2, s3, s4, s5, s6, s7, s8⟩ := hSw; go_simp; rfl) | (obtain ⟨s1, s2, s3, s4, s5, s6, s7⟩ := hSw; go_simp; rfl) | (obtain ⟨s1, s2, s3⟩ := hSw; go_simp; rfl) | (obtain ⟨s1, s2⟩ := hSw; go_simp; rfl) | (have s1 := hSw; go_simp; rfl)
  go_simp
  refine wpAnyH_take (i := 4) (v := ?_) rfl (by kernel_rfl) (by kernel_rfl) (by kernel_rfl) (fun _ _ _ h => h) (Or.inl ⟨by rfl, ?_⟩) s2 ?_
  rotate_left
  · intro w hSw; first | (obtain ⟨s1, s2, s3, s4, s5, s6, s7, s8⟩ := hSw; go_simp; rfl) | (obtain ⟨s1, s2, s3, s4, s5, s6, s7⟩ := hSw; go_simp; rfl) | (obtain ⟨s1, s2, s3⟩ := hSw; go_simp; rfl) | (obtain ⟨s1, s2⟩ := hSw; go_simp; rfl) | (have s1 := hSw; go_simp; rfl)
  go_simp
  refine wpAnyH_take (i := 5) (v := ?_) rfl (by kernel_rfl) (by kernel_rfl) (by kernel_rfl) (fun _ _ _ h => h) (Or.inl ⟨by rfl, ?_⟩) s2 ?_
  rotate_left
  · intro w hSw; first | (obtain ⟨s1, s2, s3, s4, s5, s6, s7, s8⟩ := hSw; go_simp; rfl) | (obtain ⟨s1, s2, s3, s4, s5, s6, s7⟩ := hSw; go_simp; rfl) | (obtain ⟨s1, s2, s3⟩ := hSw; go_simp; rfl) | (obtain ⟨s1, s2⟩ := hSw; go_simp; rfl) | (have s1 := hSw; go_simp; rfl)
  go_simp
  refine wpAnyH_take (i := 6) (v := ?_) rfl (by kernel_rfl) (by kernel_rfl) (by kernel_rfl) (fun _ _ _ h => h) (Or.inl ⟨by rfl, ?_⟩) s2 ?_
  rotate_left
  · intro w hSw; first | (obtain ⟨s1, s2, s3, s4, s5, s6, s7, s8⟩ := hSw; go_simp; rfl) | (obtain ⟨s1, s2, s3, s4, s5, s6, s7⟩ := hSw; go_simp; rfl) | (obtain ⟨s1, s2, s3⟩ := hSw; go_simp; rfl) | (obtain ⟨s1, s2⟩ := hSw; go_simp; rfl) | (have s1 := hSw; go_simp; rfl)
  go_simp
  refine wpAnyH_take (i := 7) (v := ?_) rfl (by kernel_rfl) (by kernel_rfl) (by kernel_rfl) (fun _ _ _ h => h) (Or.inl ⟨by rfl, ?_⟩) s2 ?_
  rotate_left
  · intro w hSw; first | (obtain ⟨s1, s2, s3, s4, s5, s6, s7, s8⟩ := hSw; go_simp; rfl) | (obtain ⟨s1, s2, s3, s4, s5, s6, s7⟩ := hSw; go_simp; rfl) | (obtain ⟨s1, s2, s3⟩ := hSw; go_simp; rfl) | (obtain ⟨s1, s2⟩ := hSw; go_simp; rfl) | (have s1 := hSw; go_simp; rfl)
  go_simp
  refine wpAnyH_take (i := 8) (v := ?_) rfl (by kernel_rfl) (by kernel_rfl) (by kernel_rfl) (fun _ _ _ h => h) (Or.inl ⟨by rfl, ?_⟩) s2 ?_
  rotate_left
  · intro w hSw; first | (obtain ⟨s1, s2, s3, s4, s5, s6, s7, s8⟩ := hSw; go_simp; rfl) | (obtain ⟨s1, s2, s3, s4, s5, s6, s7⟩ := hSw; go_simp; rfl) | (obtain ⟨s1, s2, s3⟩ := hSw; go_simp; rfl) | (obtain ⟨s1, s2⟩ := hSw; go_simp; rfl) | (have s1 := hSw; go_simp; rfl)
  go_simp
  refine wpAnyH_take (i := 9) (v := ?_) rfl (by kernel_rfl) (by kernel_rfl) (by kernel_rfl) (fun _ _ _ h => h) (Or.inl ⟨by rfl, ?_⟩) s2 ?_
  rotate_left
  · intro w hSw; first | (obtain ⟨s1, s2, s3, s4, s5, s6, s7, s8⟩ := hSw; go_simp; rfl) | (obtain ⟨s1, s2, s3, s4, s5, s6, s7⟩ := hSw; go_simp; rfl) | (obtain ⟨s1, s2, s3⟩ := hSw; go_simp; rfl) | (obtain ⟨s1, s2⟩ := hSw; go_simp; rfl) | (have s1 := hSw; go_simp; rfl)
  go_simp
  refine wpAnyH_take (i := 10) (v := ?_) rfl (by kernel_rfl) (by kernel_rfl) (by kernel_rfl) (fun _ _ _ h => h) (Or.inl ⟨by rfl, ?_⟩) s2 ?_
  rotate_left
  · intro w hSw; first | (obtain ⟨s1, s2, s3, s4, s5, s6, s7, s8⟩ := hSw; go_simp; rfl) | (obtain ⟨s1, s2, s3, s4, s5, s6, s7⟩ := hSw; go_simp; rfl) | (obtain ⟨s1, s2, s3⟩ := hSw; go_simp; rfl) | (obtain ⟨s1, s2⟩ := hSw; go_simp; rfl) | (have s1 := hSw; go_simp; rfl)
  go_simp
  refine wpAnyH_take (i := 12) (v := ?_) rfl (by kernel_rfl) (by kernel_rfl) (by kernel_rfl) (fun _ _ _ h => h) (Or.inl ⟨by rfl, ?_⟩) s2 ?_
  rotate_left
  · intro w hSw; first | (obtain ⟨s1, s2, s3, s4, s5, s6, s7, s8⟩ := hSw; go_simp; rfl) | (obtain ⟨s1, s2, s3, s4, s5, s6, s7⟩ := hSw; go_simp; rfl) | (obtain ⟨s1, s2, s3⟩ := hSw; go_simp; rfl) | (obtain ⟨s1, s2⟩ := hSw; go_simp; rfl) | (have s1 := hSw; go_simp; rfl)
  go_simp
  refine wpAnyH_take (i := 13) (v := ?_) rfl (by kernel_rfl) (by kernel_rfl) (by kernel_rfl) (fun _ _ _ h => h) (Or.inl ⟨by rfl, ?_⟩) s2 ?_
  rotate_left
  · intro w hSw; first | (obtain ⟨s1, s2, s3, s4, s5, s6, s7, s8⟩ := hSw; go_simp; rfl) | (obtain ⟨s1, s2, s3, s4, s5, s6, s7⟩ := hSw; go_simp; rfl) | (obtain ⟨s1, s2, s3⟩ := hSw; go_simp; rfl) | (obtain ⟨s1, s2⟩ := hSw; go_simp; rfl) | (have s1 := hSw; go_simp; rfl)
  go_simp
  refine wpAnyH_take (i := 16) (v := ?_) rfl (by kernel_rfl) (by kernel_rfl) (by kernel_rfl) (fun _ _ _ h => h) (Or.inl ⟨by rfl, ?_⟩) s2 ?_
  rotate_left
  · intro w hSw; first | (obtain ⟨s1, s2, s3, s4, s5, s6, s7, s8⟩ := hSw; go_simp; rfl) | (obtain ⟨s1, s2, s3, s4, s5, s6, s7⟩ := hSw; go_simp; rfl) | (obtain ⟨s1, s2, s3⟩ := hSw; go_simp; rfl) | (obtain ⟨s1, s2⟩ := hSw; go_simp; rfl) | (have s1 := hSw; go_simp; rfl)
  go_simp
  refine wpAnyH_take (i := 17) (v := ?_) rfl (by kernel_rfl) (by kernel_rfl) (by kernel_rfl) (fun _ _ _ h => h) (Or.inl ⟨by rfl, ?_⟩) s2 ?_
  rotate_left
  · intro w hSw; first | (obtain ⟨s1, s2, s3, s4, s5, s6, s7, s8⟩ := hSw; go_simp; rfl) | (obtain ⟨s1, s2, s3, s4, s5, s6, s7⟩ := hSw; go_simp; rfl) | (obtain ⟨s1, s2, s3⟩ := hSw; go_simp; rfl) | (obtain ⟨s1, s2⟩ := hSw; go_simp; rfl) | (have s1 := hSw; go_simp; rfl)
  go_simp
  refine heldEither (i := 11) (j := 14) (by kernel_rfl) rfl rfl (by rfl) (by rfl) (fun K hK => ?_) (fun K hK => ?_)
  · have yb := (HN2.out.cell hl id _).trans cb
    go_simp
    refine hK.out _ _ s2 ?_
    clear hK K yb
    refine heldOne (i := 14) (by kernel_rfl) rfl (by rfl) (fun K hK => ?_)
    go_simp
    refine (HVV.out w2 HN2.out).mono ?_
    rintro e w4 ⟨rfl, hn4⟩
    have hb4 := (hn4.block xb (lt_of_block HB2.out) id).trans HB2.out
    have HN4 := Lib.hid (HN2.out.trans hn4)
    have HB4 := Lib.hid hb4
    have s4 := box_cells hb4
    refine hK.out _ _ s4 ?_
    clear hK K hn4 hb4
    refine heldOne (i := 15) (by kernel_rfl) rfl (by rfl) (fun K hK => ?_)
    go_simp
    refine (HK.out w4).mono ?_
    rintro e w' ⟨rfl, rfl⟩
    refine hK.out _ _ s4 ?_
    clear hK K
    refine wpAnyH_take (i := 18) (v := ?_) rfl (by kernel_rfl) (by kernel_rfl) (by kernel_rfl) (fun _ _ _ h => h) (Or.inl ⟨by rfl, ?_⟩) s4 ?_
    rotate_left
    · intro w hSw; first | (obtain ⟨s1, s2, s3, s4, s5, s6, s7, s8⟩ := hSw; go_simp; rfl) | (obtain ⟨s1, s2, s3, s4, s5, s6, s7⟩ := hSw; go_simp; rfl) | (obtain ⟨s1, s2, s3⟩ := hSw; go_simp; rfl) | (obtain ⟨s1, s2⟩ := hSw; go_simp; rfl) | (have s1 := hSw; go_simp; rfl)
    go_simp
    have HNS := HN4
    have HBS := HB4
    refine heldOne (i := 19) (by kernel_rfl) rfl (by rfl) (fun K hK => ?_)
    have HH := Lib.hid (H.out.new HNS.out)
    have ya := HH.out.fr.regD ha
    have yz := HH.out.fr.free
    go_simp
    have hs5 := HH.out.setReg ha hR
    have hb5 : (w4.setCell ⟨fb, o + 1 + a, none⟩ (.int .u64 (R : Nat))).heap[xb]? = _ := (block_setCell_ne (by omega) _).trans HBS.out
    have HS5 := Lib.hid hs5
    have HB5 := Lib.hid hb5
    have HF5 := Lib.hid ((Fr34.new hl HNS.out).trans (Fr34.set (fb := fb) (o := o) (i := o + 1 + a) (.int .u64 (R : Nat)) (by omega) (by omega)))
    refine hK.out _ _ (box_cells hb5) ?_
    clear hK K ya yz hs5 hb5
    refine wpAnyH_done (by kernel_rfl) ?_ _
    generalize w4.setCell ⟨fb, o + 1 + a, none⟩ (.int .u64 (R : Nat)) = w5 at HS5 HB5 HF5 ⊢
    have e0 : w5.cell? ⟨fb, o, none⟩ = some (.int .i64 k) := by rw [← HPC.out]; exact HS5.out.fr.pc
    have zf : ∀ i, w5.frozen? ⟨fb, i, none⟩ = false := HS5.out.fr.free
    go_wp2
    go_ret2
    rw [HE.out]
    exact ⟨_, rfl, HS5.out.setPc _, HF5.out.trans (Fr34.set _ (Nat.le_refl _) (by omega)), fun k hk => .inl hk⟩
  · go_simp
    refine (HVV.out w2 HN2.out).mono ?_
    rintro e w4 ⟨rfl, hn4⟩
    have hb4 := (hn4.block xb (lt_of_block HB2.out) id).trans HB2.out
    have HN4 := Lib.hid (HN2.out.trans hn4)
    have HB4 := Lib.hid hb4
    have s4 := box_cells hb4
    refine hK.out _ _ s4 ?_
    clear hK K hn4 hb4 s2
    refine heldOne (i := 11) (by kernel_rfl) rfl (by rfl) (fun K hK => ?_)
    have yb := (HN4.out.cell hl id _).trans cb
    go_simp
    refine hK.out _ _ s4 ?_
    clear hK K yb
    refine heldOne (i := 15) (by kernel_rfl) rfl (by rfl) (fun K hK => ?_)
    go_simp
    refine (HK.out w4).mono ?_
    rintro e w' ⟨rfl, rfl⟩
    refine hK.out _ _ s4 ?_
    clear hK K
    refine wpAnyH_take (i := 18) (v := ?_) rfl (by kernel_rfl) (by kernel_rfl) (by kernel_rfl) (fun _ _ _ h => h) (Or.inl ⟨by rfl, ?_⟩) s4 ?_
    rotate_left
    · intro w hSw; first | (obtain ⟨s1, s2, s3, s4, s5, s6, s7, s8⟩ := hSw; go_simp; rfl) | (obtain ⟨s1, s2, s3, s4, s5, s6, s7⟩ := hSw; go_simp; rfl) | (obtain ⟨s1, s2, s3⟩ := hSw; go_simp; rfl) | (obtain ⟨s1, s2⟩ := hSw; go_simp; rfl) | (have s1 := hSw; go_simp; rfl)
    go_simp
    have HNS := HN4
    have HBS := HB4
    refine heldOne (i := 19) (by kernel_rfl) rfl (by rfl) (fun K hK => ?_)
    have HH := Lib.hid (H.out.new HNS.out)
    have ya := HH.out.fr.regD ha
    have yz := HH.out.fr.free
    go_simp
    have hs5 := HH.out.setReg ha hR
    have hb5 : (w4.setCell ⟨fb, o + 1 + a, none⟩ (.int .u64 (R : Nat))).heap[xb]? = _ := (block_setCell_ne (by omega) _).trans HBS.out
    have HS5 := Lib.hid hs5
    have HB5 := Lib.hid hb5
    have HF5 := Lib.hid ((Fr34.new hl HNS.out).trans (Fr34.set (fb := fb) (o := o) (i := o + 1 + a) (.int .u64 (R : Nat)) (by omega) (by omega)))
    refine hK.out _ _ (box_cells hb5) ?_
    clear hK K ya yz hs5 hb5
    refine wpAnyH_done (by kernel_rfl) ?_ _
    generalize w4.setCell ⟨fb, o + 1 + a, none⟩ (.int .u64 (R : Nat)) = w5 at HS5 HB5 HF5 ⊢
    have e0 : w5.cell? ⟨fb, o, none⟩ = some (.int .i64 k) := by rw [← HPC.out]; exact HS5.out.fr.pc
    have zf : ∀ i, w5.frozen? ⟨fb, i, none⟩ = false := HS5.out.fr.free
    go_wp2
    go_ret2
    rw [HE.out]
    exact ⟨_, rfl, HS5.out.setPc _, HF5.out.trans (Fr34.set _ (Nat.le_refl _) (by omega)), fun k hk => .inl hk⟩

set_option maxRecDepth 100000 in
set_option maxHeartbeats 8000000 in
theorem rstep_6 (a b : Nat) (ha : a < 32) (hb : b < 32) (hB : B = b) (h : FmAt w fb o v F) (hi : InsAt w cg co k 6 a B C V M W) (hk : k < n) (hn : n ≤ 1000000) (hV : V < 18446744073709551616) (hpc : F.pc = k) (hg : goodV 6 a B C V n = true) :
    Calls Tryd.prog 11 #[.pointer (some ⟨fb, o, none⟩), .slice (some ⟨cg, co, none⟩) n cap, cv] w fun e w' => RStepped w fb o v (0, reckF 6 a B C V F) e w' := by
  subst hB
  have c0 := h.fr.pc
  have hl := h.fr.lt
  rw [hpc] at c0
  unfold goodV at hg
  rw [show ((6 : Int) != 22) = true from rfl] at hg
  have HRT := Lib.hid (fun w' => right_any 6 a b C 0 0 V n true w' hV (by omega))
  rw [hg] at HRT
  have HI := Lib.hid hi
  obtain ⟨_, x0, x1, x2, x3, x4, x5, x6⟩ := hi
  have q1 : (0 : Int) ≤ (k : Int) := by omega
  have q2 : (k : Int) < (n : Int) := by omega
  have tk : IntKind.i64.wrap ((k : Int) + 1) = (k : Int) + 1 := IntWalk.i64_in _ (by omega)
  have H := Lib.hid h
  have HPC := Lib.hid hpc
  have q3 : (0 : Int) ≤ (a : Int) := by omega
  have q4 : (a : Int) < 32 := by omega
  obtain ⟨X, hX⟩ : ∃ X, F.rs.getD b 0 = X := ⟨_, rfl⟩
  have hXf := getD_fit h.fr.fits b
  have cb := h.fr.regD hb
  have hc := valN_fit h.fr.fits C hV
  rw [hX] at hXf cb
  have HVV := Lib.hid (fun w' (f : New w w') => rvalue_any fb o F.pc F.rs v 6 a b C V M W w' (h.fr.new f))
  have hE : reckF 6 a b C V F = ⟨(k : Int) + 1, F.rs.set a (reckN 6 V X (valN F.rs C V)), F.bk⟩ := by
    unfold reckF
    rw [hpc, show regN F.rs (b : Int) = X by unfold regN; rw [if_pos ⟨by omega, by omega⟩]; exact hX]
  have HE := Lib.hid hE
  have hR := reckN_fit 6 hV hXf hc
  have HK := Lib.hid (fun w' => rreckon_any 6 V _ _ w' (by omega) hXf hc)
  generalize valN F.rs C V = Y at HVV HE hR HK hc
  generalize reckN 6 V X Y = R at HE hR HK
  have q5 : (0 : Int) ≤ (b : Int) := by omega
  have q6 : (b : Int) < 32 := by omega
  clear h hg hpc hX hE
  go_enter Tryd.func11, Tryd.ntmps11
  go_wp2_with fail
  obtain ⟨W0, hW0⟩ : ∃ W0, (w.alloc (.cells #[.int .i64 6, .int .i64 a, .int .i64 b, .int .i64 C, .int .u64 V, .int .i64 M, .int .i64 W] 52)).alloc (.cells #[.int .i64 6, .int .i64 a, .int .i64 b, .int .i64 C, .int .u64 V, .int .i64 0, .int .i64 0] 52) = W0 := ⟨_, rfl⟩
  have hn0 : New w W0 := by rw [← hW0]; exact ((Fr.refl _ _).alloc _).alloc _
  have hb0 : W0.heap[w.heap.size]? = some (.cells #[.int .i64 6, .int .i64 a, .int .i64 b, .int .i64 C, .int .u64 V, .int .i64 M, .int .i64 W] 52 (0, 0)) := by rw [← hW0, block_alloc (by simp)]; exact block_alloc_new _ _
  rw [hW0]
  obtain ⟨xb, hxb⟩ : ∃ xb, w.heap.size = xb := ⟨_, rfl⟩
  have hxf : fb < xb := by omega
  rw [hxb] at hb0 ⊢
  refine (HRT.out _).mono ?_
  rintro e w1 ⟨rfl, hn1⟩
  have hb1 := (hn1.block xb (lt_of_block hb0) id).trans hb0
  have HB1 := Lib.hid hb1
  have HN1 := Lib.hid (hn0.trans hn1)
  have hx1 := lt_of_block hb1
  obtain ⟨y0, y1, y2, y3, y4, y5, y6⟩ := box_cells hb1
  have d0 := (HN1.out.cell hl id o).trans c0
  have zf : ∀ i, w1.frozen? ⟨fb, i, none⟩ = false := fun i => (HN1.out.frozen hl id i).trans (H.out.fr.free i)
  clear hW0 hn0 hb0 hn1 hb1 c0 x0 x1 x2 x3 x4 x5 x6 HRT HI
  go_wp2_with fail
  have n2 : New w1 w1.drew := (Fr.refl _ _).drew
  have HB2 := Lib.hid ((n2.block xb hx1 id).trans HB1.out)
  have HN2 := Lib.hid (HN1.out.trans n2)
  refine heldStart (fun wz => wz.cell? ⟨xb, 0, none⟩ = some (.int .i64 6) ∧ wz.cell? ⟨xb, 1, none⟩ = some (.int .i64 a) ∧ wz.cell? ⟨xb, 2, none⟩ = some (.int .i64 b) ∧ wz.cell? ⟨xb, 3, none⟩ = some (.int .i64 C) ∧ wz.cell? ⟨xb, 4, none⟩ = some (.int .u64 V) ∧ wz.cell? ⟨xb, 5, none⟩ = some (.int .i64 M) ∧ wz.cell? ⟨xb, 6, none⟩ = some (.int .i64 W)) (by kernel_rfl) ?_
  generalize w1.drew = w2 at n2 HB2 HN2 ⊢
  have s2 := box_cells HB2.out
  clear d0 zf y0 y1 y2 y3 y4 y5 y6 n2
  refine wpAnyH_take (i := 0) (v := ?_) rfl (by kernel_rfl) (by kernel_rfl) (by kernel_rfl) (fun _ _ _ h => h) (Or.inl ⟨by rfl, ?_⟩) s2 ?_
  rotate_left
  · intro w hSw; first | (obtain ⟨s1, s2, s3, s4, s5, s6, s7, s8⟩ := hSw; go_simp; rfl) | (obtain ⟨s1, s2, s3, s4, s5, s6, s7⟩ := hSw; go_simp; rfl) | (obtain ⟨s1, s2, s3⟩ := hSw; go_simp; rfl) | (obtain ⟨s1, s2⟩ := hSw; go_simp; rfl) | (have s1 := hSw; go_simp; rfl)
  go_simp
  refine wpAnyH_take (i := 1) (v := ?_) rfl (by kernel_rfl) (by kernel_rfl) (by kernel_rfl) (fun _ _ _ h => h) (Or.inl ⟨by rfl, ?_⟩) s2 ?_
  rotate_left
  · intro w hSw; first | (obtain ⟨s1, s2, s3, s4, s5, s6, s7, s8⟩ := hSw; go_simp; rfl) | (obtain ⟨s1, s2, s3, s4, s5, s6, s7⟩ := hSw; go_simp; rfl) | (obtain ⟨s1, s2, s3⟩ := hSw; go_simp; rfl) | (obtain ⟨s1, s2⟩ := hSw; go_simp; rfl) | (have s1 := hSw; go_simp; rfl)
  go_simp
  refine wpAnyH_take (i := 2) (v := ?_) rfl (by kernel_rfl) (by kernel_rfl) (by kernel_rfl) (fun _ _ _ h => h) (Or.inl ⟨by rfl, ?_⟩) s2 ?_
  rotate_left
  · intro w hSw; first | (obtain ⟨s1, s2, s3, s4, s5, s6, s7, s8⟩ := hSw; go_simp; rfl) | (obtain ⟨s1, s2, s3, s4, s5, s6, s7⟩ := hSw; go_simp; rfl) | (obtain ⟨s1, s2, s3⟩ := hSw; go_simp; rfl) | (obtain ⟨s1, s2⟩ := hSw; go_simp; rfl) | (have s1 := hSw; go_simp; rfl)
  go_simp
  refine wpAnyH_take (i := 3) (v := ?_) rfl (by kernel_rfl) (by kernel_rfl) (by kernel_rfl) (fun _ _ _ h => h) (Or.inl ⟨by rfl, ?_⟩) s2 ?_
  rotate_left
  · intro w hSw; first | (obtain ⟨s1, s2, s3, s4, s5, s6, s7, s8⟩ := hSw; go_simp; rfl) | (obtain ⟨s1, s2, s3, s4, s5, s6, s7⟩ := hSw; go_simp; rfl) | (obtain ⟨s1, s2, s3⟩ := hSw; go_simp; rfl) | (obtain ⟨s1, s2⟩ := hSw; go_simp; rfl) | (have s1 := hSw; go_simp; rfl)
  go_simp
  refine wpAnyH_take (i := 4) (v := ?_) rfl (by kernel_rfl) (by kernel_rfl) (by kernel_rfl) (fun _ _ _ h => h) (Or.inl ⟨by rfl, ?_⟩) s2 ?_
  rotate_left
  · intro w hSw; first | (obtain ⟨s1, s2, s3, s4, s5, s6, s7, s8⟩ := hSw; go_simp; rfl) | (obtain ⟨s1, s2, s3, s4, s5, s6, s7⟩ := hSw; go_simp; rfl) | (obtain ⟨s1, s2, s3⟩ := hSw; go_simp; rfl) | (obtain ⟨s1, s2⟩ := hSw; go_simp; rfl) | (have s1 := hSw; go_simp; rfl)
  go_simp
  refine wpAnyH_take (i := 5) (v := ?_) rfl (by kernel_rfl) (by kernel_rfl) (by kernel_rfl) (fun _ _ _ h => h) (Or.inl ⟨by rfl, ?_⟩) s2 ?_
  rotate_left
  · intro w hSw; first | (obtain ⟨s1, s2, s3, s4, s5, s6, s7, s8⟩ := hSw; go_simp; rfl) | (obtain ⟨s1, s2, s3, s4, s5, s6, s7⟩ := hSw; go_simp; rfl) | (obtain ⟨s1, s2, s3⟩ := hSw; go_simp; rfl) | (obtain ⟨s1, s2⟩ := hSw; go_simp; rfl) | (have s1 := hSw; go_simp; rfl)
  go_simp
  refine wpAnyH_take (i := 6) (v := ?_) rfl (by kernel_rfl) (by kernel_rfl) (by kernel_rfl) (fun _ _ _ h => h) (Or.inl ⟨by rfl, ?_⟩) s2 ?_
  rotate_left
  · intro w hSw; first | (obtain ⟨s1, s2, s3, s4, s5, s6, s7, s8⟩ := hSw; go_simp; rfl) | (obtain ⟨s1, s2, s3, s4, s5, s6, s7⟩ := hSw; go_simp; rfl) | (obtain ⟨s1, s2, s3⟩ := hSw; go_simp; rfl) | (obtain ⟨s1, s2⟩ := hSw; go_simp; rfl) | (have s1 := hSw; go_simp; rfl)
  go_simp
  refine wpAnyH_take (i := 7) (v := ?_) rfl (by kernel_rfl) (by kernel_rfl) (by kernel_rfl) (fun _ _ _ h => h) (Or.inl ⟨by rfl, ?_⟩) s2 ?_
  rotate_left
  · intro w hSw; first | (obtain ⟨s1, s2, s3, s4, s5, s6, s7, s8⟩ := hSw; go_simp; rfl) | (obtain ⟨s1, s2, s3, s4, s5, s6, s7⟩ := hSw; go_simp; rfl) | (obtain ⟨s1, s2, s3⟩ := hSw; go_simp; rfl) | (obtain ⟨s1, s2⟩ := hSw; go_simp; rfl) | (have s1 := hSw; go_simp; rfl)
  go_simp
  refine wpAnyH_take (i := 8) (v := ?_) rfl (by kernel_rfl) (by kernel_rfl) (by kernel_rfl) (fun _ _ _ h => h) (Or.inl ⟨by rfl, ?_⟩) s2 ?_
  rotate_left
  · intro w hSw; first | (obtain ⟨s1, s2, s3, s4, s5, s6, s7, s8⟩ := hSw; go_simp; rfl) | (obtain ⟨s1, s2, s3, s4, s5, s6, s7⟩ := hSw; go_simp; rfl) | (obtain ⟨s1, s2, s3⟩ := hSw; go_simp; rfl) | (obtain ⟨s1, s2⟩ := hSw; go_simp; rfl) | (have s1 := hSw; go_simp; rfl)
  go_simp
  refine wpAnyH_take (i := 9) (v := ?_) rfl (by kernel_rfl) (by kernel_rfl) (by kernel_rfl) (fun _ _ _ h => h) (Or.inl ⟨by rfl, ?_⟩) s2 ?_
  rotate_left
  · intro w hSw; first | (obtain ⟨s1, s2, s3, s4, s5, s6, s7, s8⟩ := hSw; go_simp; rfl) | (obtain ⟨s1, s2, s3, s4, s5, s6, s7⟩ := hSw; go_simp; rfl) | (obtain ⟨s1, s2, s3⟩ := hSw; go_simp; rfl) | (obtain ⟨s1, s2⟩ := hSw; go_simp; rfl) | (have s1 := hSw; go_simp; rfl)
  go_simp
  refine wpAnyH_take (i := 10) (v := ?_) rfl (by kernel_rfl) (by kernel_rfl) (by kernel_rfl) (fun _ _ _ h => h) (Or.inl ⟨by rfl, ?_⟩) s2 ?_
  rotate_left
  · intro w hSw; first | (obtain ⟨s1, s2, s3, s4, s5, s6, s7, s8⟩ := hSw; go_simp; rfl) | (obtain ⟨s1, s2, s3, s4, s5, s6, s7⟩ := hSw; go_simp; rfl) | (obtain ⟨s1, s2, s3⟩ := hSw; go_simp; rfl) | (obtain ⟨s1, s2⟩ := hSw; go_simp; rfl) | (have s1 := hSw; go_simp; rfl)
  go_simp
  refine wpAnyH_take (i := 12) (v := ?_) rfl (by kernel_rfl) (by kernel_rfl) (by kernel_rfl) (fun _ _ _ h => h) (Or.inl ⟨by rfl, ?_⟩) s2 ?_
  rotate_left
  · intro w hSw; first | (obtain ⟨s1, s2, s3, s4, s5, s6, s7, s8⟩ := hSw; go_simp; rfl) | (obtain ⟨s1, s2, s3, s4, s5, s6, s7⟩ := hSw; go_simp; rfl) | (obtain ⟨s1, s2, s3⟩ := hSw; go_simp; rfl) | (obtain ⟨s1, s2⟩ := hSw; go_simp; rfl) | (have s1 := hSw; go_simp; rfl)
  go_simp
  refine wpAnyH_take (i := 13) (v := ?_) rfl (by kernel_rfl) (by kernel_rfl) (by kernel_rfl) (fun _ _ _ h => h) (Or.inl ⟨by rfl, ?_⟩) s2 ?_
  rotate_left
  · intro w hSw; first | (obtain ⟨s1, s2, s3, s4, s5, s6, s7, s8⟩ := hSw; go_simp; rfl) | (obtain ⟨s1, s2, s3, s4, s5, s6, s7⟩ := hSw; go_simp; rfl) | (obtain ⟨s1, s2, s3⟩ := hSw; go_simp; rfl) | (obtain ⟨s1, s2⟩ := hSw; go_simp; rfl) | (have s1 := hSw; go_simp; rfl)
  go_simp
  refine wpAnyH_take (i := 16) (v := ?_) rfl (by kernel_rfl) (by kernel_rfl) (by kernel_rfl) (fun _ _ _ h => h) (Or.inl ⟨by rfl, ?_⟩) s2 ?_
  rotate_left
  · intro w hSw; first | (obtain ⟨s1, s2, s3, s4, s5, s6, s7, s8⟩ := hSw; go_simp; rfl) | (obtain ⟨s1, s2, s3, s4, s5, s6, s7⟩ := hSw; go_simp; rfl) | (obtain ⟨s1, s2, s3⟩ := hSw; go_simp; rfl) | (obtain ⟨s1, s2⟩ := hSw; go_simp; rfl) | (have s1 := hSw; go_simp; rfl)
  go_simp
  refine wpAnyH_take (i := 17) (v := ?_) rfl (by kernel_rfl) (by kernel_rfl) (by kernel_rfl) (fun _ _ _ h => h) (Or.inl ⟨by rfl, ?_⟩) s2 ?_
  rotate_left
  · intro w hSw; first | (obtain ⟨s1, s2, s3, s4, s5, s6, s7, s8⟩ := hSw; go_simp; rfl) | (obtain ⟨s1, s2, s3, s4, s5, s6, s7⟩ := hSw; go_simp; rfl) | (obtain ⟨s1, s2, s3⟩ := hSw; go_simp; rfl) | (obtain ⟨s1, s2⟩ := hSw; go_simp; rfl) | (have s1 := hSw; go_simp; rfl)
  go_simp
  refine heldEither (i := 11) (j := 14) (by kernel_rfl) rfl rfl (by rfl) (by rfl) (fun K hK => ?_) (fun K hK => ?_)
  · have yb := (HN2.out.cell hl id _).trans cb
    go_simp
    refine hK.out _ _ s2 ?_
    clear hK K yb
    refine heldOne (i := 14) (by kernel_rfl) rfl (by rfl) (fun K hK => ?_)
    go_simp
    refine (HVV.out w2 HN2.out).mono ?_
    rintro e w4 ⟨rfl, hn4⟩
    have hb4 := (hn4.block xb (lt_of_block HB2.out) id).trans HB2.out
    have HN4 := Lib.hid (HN2.out.trans hn4)
    have HB4 := Lib.hid hb4
    have s4 := box_cells hb4
    refine hK.out _ _ s4 ?_
    clear hK K hn4 hb4
    refine heldOne (i := 15) (by kernel_rfl) rfl (by rfl) (fun K hK => ?_)
    go_simp
    refine (HK.out w4).mono ?_
    rintro e w' ⟨rfl, rfl⟩
    refine hK.out _ _ s4 ?_
    clear hK K
    refine wpAnyH_take (i := 18) (v := ?_) rfl (by kernel_rfl) (by kernel_rfl) (by kernel_rfl) (fun _ _ _ h => h) (Or.inl ⟨by rfl, ?_⟩) s4 ?_
    rotate_left
    · intro w hSw; first | (obtain ⟨s1, s2, s3, s4, s5, s6, s7, s8⟩ := hSw; go_simp; rfl) | (obtain ⟨s1, s2, s3, s4, s5, s6, s7⟩ := hSw; go_simp; rfl) | (obtain ⟨s1, s2, s3⟩ := hSw; go_simp; rfl) | (obtain ⟨s1, s2⟩ := hSw; go_simp; rfl) | (have s1 := hSw; go_simp; rfl)
    go_simp
    have HNS := HN4
    have HBS := HB4
    refine heldOne (i := 19) (by kernel_rfl) rfl (by rfl) (fun K hK => ?_)
    have HH := Lib.hid (H.out.new HNS.out)
    have ya := HH.out.fr.regD ha
    have yz := HH.out.fr.free
    go_simp
    have hs5 := HH.out.setReg ha hR
    have hb5 : (w4.setCell ⟨fb, o + 1 + a, none⟩ (.int .u64 (R : Nat))).heap[xb]? = _ := (block_setCell_ne (by omega) _).trans HBS.out
    have HS5 := Lib.hid hs5
    have HB5 := Lib.hid hb5
    have HF5 := Lib.hid ((Fr34.new hl HNS.out).trans (Fr34.set (fb := fb) (o := o) (i := o + 1 + a) (.int .u64 (R : Nat)) (by omega) (by omega)))
    refine hK.out _ _ (box_cells hb5) ?_
    clear hK K ya yz hs5 hb5
    refine wpAnyH_done (by kernel_rfl) ?_ _
    generalize w4.setCell ⟨fb, o + 1 + a, none⟩ (.int .u64 (R : Nat)) = w5 at HS5 HB5 HF5 ⊢
    have e0 : w5.cell? ⟨fb, o, none⟩ = some (.int .i64 k) := by rw [← HPC.out]; exact HS5.out.fr.pc
    have zf : ∀ i, w5.frozen? ⟨fb, i, none⟩ = false := HS5.out.fr.free
    go_wp2
    go_ret2
    rw [HE.out]
    exact ⟨_, rfl, HS5.out.setPc _, HF5.out.trans (Fr34.set _ (Nat.le_refl _) (by omega)), fun k hk => .inl hk⟩
  · go_simp
    refine (HVV.out w2 HN2.out).mono ?_
    rintro e w4 ⟨rfl, hn4⟩
    have hb4 := (hn4.block xb (lt_of_block HB2.out) id).trans HB2.out
    have HN4 := Lib.hid (HN2.out.trans hn4)
    have HB4 := Lib.hid hb4
    have s4 := box_cells hb4
    refine hK.out _ _ s4 ?_
    clear hK K hn4 hb4 s2
    refine heldOne (i := 11) (by kernel_rfl) rfl (by rfl) (fun K hK => ?_)
    have yb := (HN4.out.cell hl id _).trans cb
    go_simp
    refine hK.out _ _ s4 ?_
    clear hK K yb
    refine heldOne (i := 15) (by kernel_rfl) rfl (by rfl) (fun K hK => ?_)
    go_simp
    refine (HK.out w4).mono ?_
    rintro e w' ⟨rfl, rfl⟩
    refine hK.out _ _ s4 ?_
    clear hK K
    refine wpAnyH_take (i := 18) (v := ?_) rfl (by kernel_rfl) (by kernel_rfl) (by kernel_rfl) (fun _ _ _ h => h) (Or.inl ⟨by rfl, ?_⟩) s4 ?_
    rotate_left
    · intro w hSw; first | (obtain ⟨s1, s2, s3, s4, s5, s6, s7, s8⟩ := hSw; go_simp; rfl) | (obtain ⟨s1, s2, s3, s4, s5, s6, s7⟩ := hSw; go_simp; rfl) | (obtain ⟨s1, s2, s3⟩ := hSw; go_simp; rfl) | (obtain ⟨s1, s2⟩ := hSw; go_simp; rfl) | (have s1 := hSw; go_simp; rfl)
    go_simp
    have HNS := HN4
    have HBS := HB4
    refine heldOne (i := 19) (by kernel_rfl) rfl (by rfl) (fun K hK => ?_)
    have HH := Lib.hid (H.out.new HNS.out)
    have ya := HH.out.fr.regD ha
    have yz := HH.out.fr.free
    go_simp
    have hs5 := HH.out.setReg ha hR
    have hb5 : (w4.setCell ⟨fb, o + 1 + a, none⟩ (.int .u64 (R : Nat))).heap[xb]? = _ := (block_setCell_ne (by omega) _).trans HBS.out
    have HS5 := Lib.hid hs5
    have HB5 := Lib.hid hb5
    have HF5 := Lib.hid ((Fr34.new hl HNS.out).trans (Fr34.set (fb := fb) (o := o) (i := o + 1 + a) (.int .u64 (R : Nat)) (by omega) (by omega)))
    refine hK.out _ _ (box_cells hb5) ?_
    clear hK K ya yz hs5 hb5
    refine wpAnyH_done (by kernel_rfl) ?_ _
    generalize w4.setCell ⟨fb, o + 1 + a, none⟩ (.int .u64 (R : Nat)) = w5 at HS5 HB5 HF5 ⊢
    have e0 : w5.cell? ⟨fb, o, none⟩ = some (.int .i64 k) := by rw [← HPC.out]; exact HS5.out.fr.pc
    have zf : ∀ i, w5.frozen? ⟨fb, i, none⟩ = false := HS5.out.fr.free
    go_wp2
    go_ret2
    rw [HE.out]
    exact ⟨_, rfl, HS5.out.setPc _, HF5.out.trans (Fr34.set _ (Nat.le_refl _) (by omega)), fun k hk => .inl hk⟩

set_option maxRecDepth 100000 in
set_option maxHeartbeats 8000000 in
theorem rstep_7 (a b : Nat) (ha : a < 32) (hb : b < 32) (hB : B = b) (h : FmAt w fb o v F) (hi : InsAt w cg co k 7 a B C V M W) (hk : k < n) (hn : n ≤ 1000000) (hV : V < 18446744073709551616) (hpc : F.pc = k) (hg : goodV 7 a B C V n = true) :
    Calls Tryd.prog 11 #[.pointer (some ⟨fb, o, none⟩), .slice (some ⟨cg, co, none⟩) n cap, cv] w fun e w' => RStepped w fb o v (0, reckF 7 a B C V F) e w' := by
  subst hB
  have c0 := h.fr.pc
  have hl := h.fr.lt
  rw [hpc] at c0
  unfold goodV at hg
  rw [show ((7 : Int) != 22) = true from rfl] at hg
  have HRT := Lib.hid (fun w' => right_any 7 a b C 0 0 V n true w' hV (by omega))
  rw [hg] at HRT
  have HI := Lib.hid hi
  obtain ⟨_, x0, x1, x2, x3, x4, x5, x6⟩ := hi
  have q1 : (0 : Int) ≤ (k : Int) := by omega
  have q2 : (k : Int) < (n : Int) := by omega
  have tk : IntKind.i64.wrap ((k : Int) + 1) = (k : Int) + 1 := IntWalk.i64_in _ (by omega)
  have H := Lib.hid h
  have HPC := Lib.hid hpc
  have q3 : (0 : Int) ≤ (a : Int) := by omega
  have q4 : (a : Int) < 32 := by omega
  obtain ⟨X, hX⟩ : ∃ X, F.rs.getD b 0 = X := ⟨_, rfl⟩
  have hXf := getD_fit h.fr.fits b
  have cb := h.fr.regD hb
  have hc := valN_fit h.fr.fits C hV
  rw [hX] at hXf cb
  have HVV := Lib.hid (fun w' (f : New w w') => rvalue_any fb o F.pc F.rs v 7 a b C V M W w' (h.fr.new f))
  have hE : reckF 7 a b C V F = ⟨(k : Int) + 1, F.rs.set a (reckN 7 V X (valN F.rs C V)), F.bk⟩ := by
    unfold reckF
    rw [hpc, show regN F.rs (b : Int) = X by unfold regN; rw [if_pos ⟨by omega, by omega⟩]; exact hX]
  have HE := Lib.hid hE
  have hR := reckN_fit 7 hV hXf hc
  have HK := Lib.hid (fun w' => rreckon_any 7 V _ _ w' (by omega) hXf hc)
  generalize valN F.rs C V = Y at HVV HE hR HK hc
  generalize reckN 7 V X Y = R at HE hR HK
  have q5 : (0 : Int) ≤ (b : Int) := by omega
  have q6 : (b : Int) < 32 := by omega
  clear h hg hpc hX hE
  go_enter Tryd.func11, Tryd.ntmps11
  go_wp2_with fail
  obtain ⟨W0, hW0⟩ : ∃ W0, (w.alloc (.cells #[.int .i64 7, .int .i64 a, .int .i64 b, .int .i64 C, .int .u64 V, .int .i64 M, .int .i64 W] 52)).alloc (.cells #[.int .i64 7, .int .i64 a, .int .i64 b, .int .i64 C, .int .u64 V, .int .i64 0, .int .i64 0] 52) = W0 := ⟨_, rfl⟩
  have hn0 : New w W0 := by rw [← hW0]; exact ((Fr.refl _ _).alloc _).alloc _
  have hb0 : W0.heap[w.heap.size]? = some (.cells #[.int .i64 7, .int .i64 a, .int .i64 b, .int .i64 C, .int .u64 V, .int .i64 M, .int .i64 W] 52 (0, 0)) := by rw [← hW0, block_alloc (by simp)]; exact block_alloc_new _ _
  rw [hW0]
  obtain ⟨xb, hxb⟩ : ∃ xb, w.heap.size = xb := ⟨_, rfl⟩
  have hxf : fb < xb := by omega
  rw [hxb] at hb0 ⊢
  refine (HRT.out _).mono ?_
  rintro e w1 ⟨rfl, hn1⟩
  have hb1 := (hn1.block xb (lt_of_block hb0) id).trans hb0
  have HB1 := Lib.hid hb1
  have HN1 := Lib.hid (hn0.trans hn1)
  have hx1 := lt_of_block hb1
  obtain ⟨y0, y1, y2, y3, y4, y5, y6⟩ := box_cells hb1
  have d0 := (HN1.out.cell hl id o).trans c0
  have zf : ∀ i, w1.frozen? ⟨fb, i, none⟩ = false := fun i => (HN1.out.frozen hl id i).trans (H.out.fr.free i)
  clear hW0 hn0 hb0 hn1 hb1 c0 x0 x1 x2 x3 x4 x5 x6 HRT HI
  go_wp2_with fail
  have n2 : New w1 w1.drew := (Fr.refl _ _).drew
  have HB2 := Lib.hid ((n2.block xb hx1 id).trans HB1.out)
  have HN2 := Lib.hid (HN1.out.trans n2)
  refine heldStart (fun wz => wz.cell? ⟨xb, 0, none⟩ = some (.int .i64 7) ∧ wz.cell? ⟨xb, 1, none⟩ = some (.int .i64 a) ∧ wz.cell? ⟨xb, 2, none⟩ = some (.int .i64 b) ∧ wz.cell? ⟨xb, 3, none⟩ = some (.int .i64 C) ∧ wz.cell? ⟨xb, 4, none⟩ = some (.int .u64 V) ∧ wz.cell? ⟨xb, 5, none⟩ = some (.int .i64 M) ∧ wz.cell? ⟨xb, 6, none⟩ = some (.int .i64 W)) (by kernel_rfl) ?_
  generalize w1.drew = w2 at n2 HB2 HN2 ⊢
  have s2 := box_cells HB2.out
  clear d0 zf y0 y1 y2 y3 y4 y5 y6 n2
  refine wpAnyH_take (i := 0) (v := ?_) rfl (by kernel_rfl) (by kernel_rfl) (by kernel_rfl) (fun _ _ _ h => h) (Or.inl ⟨by rfl, ?_⟩) s2 ?_
  rotate_left
  · intro w hSw; first | (obtain ⟨s1, s2, s3, s4, s5, s6, s7, s8⟩ := hSw; go_simp; rfl) | (obtain ⟨s1, s2, s3, s4, s5, s6, s7⟩ := hSw; go_simp; rfl) | (obtain ⟨s1, s2, s3⟩ := hSw; go_simp; rfl) | (obtain ⟨s1, s2⟩ := hSw; go_simp; rfl) | (have s1 := hSw; go_simp; rfl)
  go_simp
  refine wpAnyH_take (i := 1) (v := ?_) rfl (by kernel_rfl) (by kernel_rfl) (by kernel_rfl) (fun _ _ _ h => h) (Or.inl ⟨by rfl, ?_⟩) s2 ?_
  rotate_left
  · intro w hSw; first | (obtain ⟨s1, s2, s3, s4, s5, s6, s7, s8⟩ := hSw; go_simp; rfl) | (obtain ⟨s1, s2, s3, s4, s5, s6, s7⟩ := hSw; go_simp; rfl) | (obtain ⟨s1, s2, s3⟩ := hSw; go_simp; rfl) | (obtain ⟨s1, s2⟩ := hSw; go_simp; rfl) | (have s1 := hSw; go_simp; rfl)
  go_simp
  refine wpAnyH_take (i := 2) (v := ?_) rfl (by kernel_rfl) (by kernel_rfl) (by kernel_rfl) (fun _ _ _ h => h) (Or.inl ⟨by rfl, ?_⟩) s2 ?_
  rotate_left
  · intro w hSw; first | (obtain ⟨s1, s2, s3, s4, s5, s6, s7, s8⟩ := hSw; go_simp; rfl) | (obtain ⟨s1, s2, s3, s4, s5, s6, s7⟩ := hSw; go_simp; rfl) | (obtain ⟨s1, s2, s3⟩ := hSw; go_simp; rfl) | (obtain ⟨s1, s2⟩ := hSw; go_simp; rfl) | (have s1 := hSw; go_simp; rfl)
  go_simp
  refine wpAnyH_take (i := 3) (v := ?_) rfl (by kernel_rfl) (by kernel_rfl) (by kernel_rfl) (fun _ _ _ h => h) (Or.inl ⟨by rfl, ?_⟩) s2 ?_
  rotate_left
  · intro w hSw; first | (obtain ⟨s1, s2, s3, s4, s5, s6, s7, s8⟩ := hSw; go_simp; rfl) | (obtain ⟨s1, s2, s3, s4, s5, s6, s7⟩ := hSw; go_simp; rfl) | (obtain ⟨s1, s2, s3⟩ := hSw; go_simp; rfl) | (obtain ⟨s1, s2⟩ := hSw; go_simp; rfl) | (have s1 := hSw; go_simp; rfl)
  go_simp
  refine wpAnyH_take (i := 4) (v := ?_) rfl (by kernel_rfl) (by kernel_rfl) (by kernel_rfl) (fun _ _ _ h => h) (Or.inl ⟨by rfl, ?_⟩) s2 ?_
  rotate_left
  · intro w hSw; first | (obtain ⟨s1, s2, s3, s4, s5, s6, s7, s8⟩ := hSw; go_simp; rfl) | (obtain ⟨s1, s2, s3, s4, s5, s6, s7⟩ := hSw; go_simp; rfl) | (obtain ⟨s1, s2, s3⟩ := hSw; go_simp; rfl) | (obtain ⟨s1, s2⟩ := hSw; go_simp; rfl) | (have s1 := hSw; go_simp; rfl)
  go_simp
  refine wpAnyH_take (i := 5) (v := ?_) rfl (by kernel_rfl) (by kernel_rfl) (by kernel_rfl) (fun _ _ _ h => h) (Or.inl ⟨by rfl, ?_⟩) s2 ?_
  rotate_left
  · intro w hSw; first | (obtain ⟨s1, s2, s3, s4, s5, s6, s7, s8⟩ := hSw; go_simp; rfl) | (obtain ⟨s1, s2, s3, s4, s5, s6, s7⟩ := hSw; go_simp; rfl) | (obtain ⟨s1, s2, s3⟩ := hSw; go_simp; rfl) | (obtain ⟨s1, s2⟩ := hSw; go_simp; rfl) | (have s1 := hSw; go_simp; rfl)
  go_simp
  refine wpAnyH_take (i := 6) (v := ?_) rfl (by kernel_rfl) (by kernel_rfl) (by kernel_rfl) (fun _ _ _ h => h) (Or.inl ⟨by rfl, ?_⟩) s2 ?_
  rotate_left
  · intro w hSw; first | (obtain ⟨s1, s2, s3, s4, s5, s6, s7, s8⟩ := hSw; go_simp; rfl) | (obtain ⟨s1, s2, s3, s4, s5, s6, s7⟩ := hSw; go_simp; rfl) | (obtain ⟨s1, s2, s3⟩ := hSw; go_simp; rfl) | (obtain ⟨s1, s2⟩ := hSw; go_simp; rfl) | (have s1 := hSw; go_simp; rfl)
  go_simp
  refine wpAnyH_take (i := 7) (v := ?_) rfl (by kernel_rfl) (by kernel_rfl) (by kernel_rfl) (fun _ _ _ h => h) (Or.inl ⟨by rfl, ?_⟩) s2 ?_
  rotate_left
  · intro w hSw; first | (obtain ⟨s1, s2, s3, s4, s5, s6, s7, s8⟩ := hSw; go_simp; rfl) | (obtain ⟨s1, s2, s3, s4, s5, s6, s7⟩ := hSw; go_simp; rfl) | (obtain ⟨s1, s2, s3⟩ := hSw; go_simp; rfl) | (obtain ⟨s1, s2⟩ := hSw; go_simp; rfl) | (have s1 := hSw; go_simp; rfl)
  go_simp
  refine wpAnyH_take (i := 8) (v := ?_) rfl (by kernel_rfl) (by kernel_rfl) (by kernel_rfl) (fun _ _ _ h => h) (Or.inl ⟨by rfl, ?_⟩) s2 ?_
  rotate_left
  · intro w hSw; first | (obtain ⟨s1, s2, s3, s4, s5, s6, s7, s8⟩ := hSw; go_simp; rfl) | (obtain ⟨s1, s2, s3, s4, s5, s6, s7⟩ := hSw; go_simp; rfl) | (obtain ⟨s1, s2, s3⟩ := hSw; go_simp; rfl) | (obtain ⟨s1, s2⟩ := hSw; go_simp; rfl) | (have s1 := hSw; go_simp; rfl)
  go_simp
  refine wpAnyH_take (i := 9) (v := ?_) rfl (by kernel_rfl) (by kernel_rfl) (by kernel_rfl) (fun _ _ _ h => h) (Or.inl ⟨by rfl, ?_⟩) s2 ?_
  rotate_left
  · intro w hSw; first | (obtain ⟨s1, s2, s3, s4, s5, s6, s7, s8⟩ := hSw; go_simp; rfl) | (obtain ⟨s1, s2, s3, s4, s5, s6, s7⟩ := hSw; go_simp; rfl) | (obtain ⟨s1, s2, s3⟩ := hSw; go_simp; rfl) | (obtain ⟨s1, s2⟩ := hSw; go_simp; rfl) | (have s1 := hSw; go_simp; rfl)
  go_simp
  refine wpAnyH_take (i := 10) (v := ?_) rfl (by kernel_rfl) (by kernel_rfl) (by kernel_rfl) (fun _ _ _ h => h) (Or.inl ⟨by rfl, ?_⟩) s2 ?_
  rotate_left
  · intro w hSw; first | (obtain ⟨s1, s2, s3, s4, s5, s6, s7, s8⟩ := hSw; go_simp; rfl) | (obtain ⟨s1, s2, s3, s4, s5, s6, s7⟩ := hSw; go_simp; rfl) | (obtain ⟨s1, s2, s3⟩ := hSw; go_simp; rfl) | (obtain ⟨s1, s2⟩ := hSw; go_simp; rfl) | (have s1 := hSw; go_simp; rfl)
  go_simp
  refine wpAnyH_take (i := 12) (v := ?_) rfl (by kernel_rfl) (by kernel_rfl) (by kernel_rfl) (fun _ _ _ h => h) (Or.inl ⟨by rfl, ?_⟩) s2 ?_
  rotate_left
  · intro w hSw; first | (obtain ⟨s1, s2, s3, s4, s5, s6, s7, s8⟩ := hSw; go_simp; rfl) | (obtain ⟨s1, s2, s3, s4, s5, s6, s7⟩ := hSw; go_simp; rfl) | (obtain ⟨s1, s2, s3⟩ := hSw; go_simp; rfl) | (obtain ⟨s1, s2⟩ := hSw; go_simp; rfl) | (have s1 := hSw; go_simp; rfl)
  go_simp
  refine wpAnyH_take (i := 13) (v := ?_) rfl (by kernel_rfl) (by kernel_rfl) (by kernel_rfl) (fun _ _ _ h => h) (Or.inl ⟨by rfl, ?_⟩) s2 ?_
  rotate_left
  · intro w hSw; first | (obtain ⟨s1, s2, s3, s4, s5, s6, s7, s8⟩ := hSw; go_simp; rfl) | (obtain ⟨s1, s2, s3, s4, s5, s6, s7⟩ := hSw; go_simp; rfl) | (obtain ⟨s1, s2, s3⟩ := hSw; go_simp; rfl) | (obtain ⟨s1, s2⟩ := hSw; go_simp; rfl) | (have s1 := hSw; go_simp; rfl)
  go_simp
  refine wpAnyH_take (i := 16) (v := ?_) rfl (by kernel_rfl) (by kernel_rfl) (by kernel_rfl) (fun _ _ _ h => h) (Or.inl ⟨by rfl, ?_⟩) s2 ?_
  rotate_left
  · intro w hSw; first | (obtain ⟨s1, s2, s3, s4, s5, s6, s7, s8⟩ := hSw; go_simp; rfl) | (obtain ⟨s1, s2, s3, s4, s5, s6, s7⟩ := hSw; go_simp; rfl) | (obtain ⟨s1, s2, s3⟩ := hSw; go_simp; rfl) | (obtain ⟨s1, s2⟩ := hSw; go_simp; rfl) | (have s1 := hSw; go_simp; rfl)
  go_simp
  refine wpAnyH_take (i := 17) (v := ?_) rfl (by kernel_rfl) (by kernel_rfl) (by kernel_rfl) (fun _ _ _ h => h) (Or.inl ⟨by rfl, ?_⟩) s2 ?_
  rotate_left
  · intro w hSw; first | (obtain ⟨s1, s2, s3, s4, s5, s6, s7, s8⟩ := hSw; go_simp; rfl) | (obtain ⟨s1, s2, s3, s4, s5, s6, s7⟩ := hSw; go_simp; rfl) | (obtain ⟨s1, s2, s3⟩ := hSw; go_simp; rfl) | (obtain ⟨s1, s2⟩ := hSw; go_simp; rfl) | (have s1 := hSw; go_simp; rfl)
  go_simp
  refine heldEither (i := 11) (j := 14) (by kernel_rfl) rfl rfl (by rfl) (by rfl) (fun K hK => ?_) (fun K hK => ?_)
  · have yb := (HN2.out.cell hl id _).trans cb
    go_simp
    refine hK.out _ _ s2 ?_
    clear hK K yb
    refine heldOne (i := 14) (by kernel_rfl) rfl (by rfl) (fun K hK => ?_)
    go_simp
    refine (HVV.out w2 HN2.out).mono ?_
    rintro e w4 ⟨rfl, hn4⟩
    have hb4 := (hn4.block xb (lt_of_block HB2.out) id).trans HB2.out
    have HN4 := Lib.hid (HN2.out.trans hn4)
    have HB4 := Lib.hid hb4
    have s4 := box_cells hb4
    refine hK.out _ _ s4 ?_
    clear hK K hn4 hb4
    refine heldOne (i := 15) (by kernel_rfl) rfl (by rfl) (fun K hK => ?_)
    go_simp
    refine (HK.out w4).mono ?_
    rintro e w' ⟨rfl, rfl⟩
    refine hK.out _ _ s4 ?_
    clear hK K
    refine wpAnyH_take (i := 18) (v := ?_) rfl (by kernel_rfl) (by kernel_rfl) (by kernel_rfl) (fun _ _ _ h => h) (Or.inl ⟨by rfl, ?_⟩) s4 ?_
    rotate_left
    · intro w hSw; first | (obtain ⟨s1, s2, s3, s4, s5, s6, s7, s8⟩ := hSw; go_simp; rfl) | (obtain ⟨s1, s2, s3, s4, s5, s6, s7⟩ := hSw; go_simp; rfl) | (obtain ⟨s1, s2, s3⟩ := hSw; go_simp; rfl) | (obtain ⟨s1, s2⟩ := hSw; go_simp; rfl) | (have s1 := hSw; go_simp; rfl)
    go_simp
    have HNS := HN4
    have HBS := HB4
    refine heldOne (i := 19) (by kernel_rfl) rfl (by rfl) (fun K hK => ?_)
    have HH := Lib.hid (H.out.new HNS.out)
    have ya := HH.out.fr.regD ha
    have yz := HH.out.fr.free
    go_simp
    have hs5 := HH.out.setReg ha hR
    have hb5 : (w4.setCell ⟨fb, o + 1 + a, none⟩ (.int .u64 (R : Nat))).heap[xb]? = _ := (block_setCell_ne (by omega) _).trans HBS.out
    have HS5 := Lib.hid hs5
    have HB5 := Lib.hid hb5
    have HF5 := Lib.hid ((Fr34.new hl HNS.out).trans (Fr34.set (fb := fb) (o := o) (i := o + 1 + a) (.int .u64 (R : Nat)) (by omega) (by omega)))
    refine hK.out _ _ (box_cells hb5) ?_
    clear hK K ya yz hs5 hb5
    refine wpAnyH_done (by kernel_rfl) ?_ _
    generalize w4.setCell ⟨fb, o + 1 + a, none⟩ (.int .u64 (R : Nat)) = w5 at HS5 HB5 HF5 ⊢
    have e0 : w5.cell? ⟨fb, o, none⟩ = some (.int .i64 k) := by rw [← HPC.out]; exact HS5.out.fr.pc
    have zf : ∀ i, w5.frozen? ⟨fb, i, none⟩ = false := HS5.out.fr.free
    go_wp2
    go_ret2
    rw [HE.out]
    exact ⟨_, rfl, HS5.out.setPc _, HF5.out.trans (Fr34.set _ (Nat.le_refl _) (by omega)), fun k hk => .inl hk⟩
  · go_simp
    refine (HVV.out w2 HN2.out).mono ?_
    rintro e w4 ⟨rfl, hn4⟩
    have hb4 := (hn4.block xb (lt_of_block HB2.out) id).trans HB2.out
    have HN4 := Lib.hid (HN2.out.trans hn4)
    have HB4 := Lib.hid hb4
    have s4 := box_cells hb4
    refine hK.out _ _ s4 ?_
    clear hK K hn4 hb4 s2
    refine heldOne (i := 11) (by kernel_rfl) rfl (by rfl) (fun K hK => ?_)
    have yb := (HN4.out.cell hl id _).trans cb
    go_simp
    refine hK.out _ _ s4 ?_
    clear hK K yb
    refine heldOne (i := 15) (by kernel_rfl) rfl (by rfl) (fun K hK => ?_)
    go_simp
    refine (HK.out w4).mono ?_
    rintro e w' ⟨rfl, rfl⟩
    refine hK.out _ _ s4 ?_
    clear hK K
    refine wpAnyH_take (i := 18) (v := ?_) rfl (by kernel_rfl) (by kernel_rfl) (by kernel_rfl) (fun _ _ _ h => h) (Or.inl ⟨by rfl, ?_⟩) s4 ?_
    rotate_left
    · intro w hSw; first | (obtain ⟨s1, s2, s3, s4, s5, s6, s7, s8⟩ := hSw; go_simp; rfl) | (obtain ⟨s1, s2, s3, s4, s5, s6, s7⟩ := hSw; go_simp; rfl) | (obtain ⟨s1, s2, s3⟩ := hSw; go_simp; rfl) | (obtain ⟨s1, s2⟩ := hSw; go_simp; rfl) | (have s1 := hSw; go_simp; rfl)
    go_simp
    have HNS := HN4
    have HBS := HB4
    refine heldOne (i := 19) (by kernel_rfl) rfl (by rfl) (fun K hK => ?_)
    have HH := Lib.hid (H.out.new HNS.out)
    have ya := HH.out.fr.regD ha
    have yz := HH.out.fr.free
    go_simp
    have hs5 := HH.out.setReg ha hR
    have hb5 : (w4.setCell ⟨fb, o + 1 + a, none⟩ (.int .u64 (R : Nat))).heap[xb]? = _ := (block_setCell_ne (by omega) _).trans HBS.out
    have HS5 := Lib.hid hs5
    have HB5 := Lib.hid hb5
    have HF5 := Lib.hid ((Fr34.new hl HNS.out).trans (Fr34.set (fb := fb) (o := o) (i := o + 1 + a) (.int .u64 (R : Nat)) (by omega) (by omega)))
    refine hK.out _ _ (box_cells hb5) ?_
    clear hK K ya yz hs5 hb5
    refine wpAnyH_done (by kernel_rfl) ?_ _
    generalize w4.setCell ⟨fb, o + 1 + a, none⟩ (.int .u64 (R : Nat)) = w5 at HS5 HB5 HF5 ⊢
    have e0 : w5.cell? ⟨fb, o, none⟩ = some (.int .i64 k) := by rw [← HPC.out]; exact HS5.out.fr.pc
    have zf : ∀ i, w5.frozen? ⟨fb, i, none⟩ = false := HS5.out.fr.free
    go_wp2
    go_ret2
    rw [HE.out]
    exact ⟨_, rfl, HS5.out.setPc _, HF5.out.trans (Fr34.set _ (Nat.le_refl _) (by omega)), fun k hk => .inl hk⟩

set_option maxRecDepth 100000 in
set_option maxHeartbeats 8000000 in
theorem rstep_8 (a b : Nat) (ha : a < 32) (hb : b < 32) (hB : B = b) (h : FmAt w fb o v F) (hi : InsAt w cg co k 8 a B C V M W) (hk : k < n) (hn : n ≤ 1000000) (hV : V < 18446744073709551616) (hpc : F.pc = k) (hg : goodV 8 a B C V n = true) :
    Calls Tryd.prog 11 #[.pointer (some ⟨fb, o, none⟩), .slice (some ⟨cg, co, none⟩) n cap, cv] w fun e w' => RStepped w fb o v (0, reckF 8 a B C V F) e w' := by
  subst hB
  have c0 := h.fr.pc
  have hl := h.fr.lt
  rw [hpc] at c0
  unfold goodV at hg
  rw [show ((8 : Int) != 22) = true from rfl] at hg
  have HRT := Lib.hid (fun w' => right_any 8 a b C 0 0 V n true w' hV (by omega))
  rw [hg] at HRT
  have HI := Lib.hid hi
  obtain ⟨_, x0, x1, x2, x3, x4, x5, x6⟩ := hi
  have q1 : (0 : Int) ≤ (k : Int) := by omega
  have q2 : (k : Int) < (n : Int) := by omega
  have tk : IntKind.i64.wrap ((k : Int) + 1) = (k : Int) + 1 := IntWalk.i64_in _ (by omega)
  have H := Lib.hid h
  have HPC := Lib.hid hpc
  have q3 : (0 : Int) ≤ (a : Int) := by omega
  have q4 : (a : Int) < 32 := by omega
  obtain ⟨X, hX⟩ : ∃ X, F.rs.getD b 0 = X := ⟨_, rfl⟩
  have hXf := getD_fit h.fr.fits b
  have cb := h.fr.regD hb
  have hc := valN_fit h.fr.fits C hV
  rw [hX] at hXf cb
  have HVV := Lib.hid (fun w' (f : New w w') => rvalue_any fb o F.pc F.rs v 8 a b C V M W w' (h.fr.new f))
  have hE : reckF 8 a b C V F = ⟨(k : Int) + 1, F.rs.set a (reckN 8 V X (valN F.rs C V)), F.bk⟩ := by
    unfold reckF
    rw [hpc, show regN F.rs (b : Int) = X by unfold regN; rw [if_pos ⟨by omega, by omega⟩]; exact hX]
  have HE := Lib.hid hE
  have hR := reckN_fit 8 hV hXf hc
  have HK := Lib.hid (fun w' => rreckon_any 8 V _ _ w' (by omega) hXf hc)
  generalize valN F.rs C V = Y at HVV HE hR HK hc
  generalize reckN 8 V X Y = R at HE hR HK
  have q5 : (0 : Int) ≤ (b : Int) := by omega
  have q6 : (b : Int) < 32 := by omega
  clear h hg hpc hX hE
  go_enter Tryd.func11, Tryd.ntmps11
  go_wp2_with fail
  obtain ⟨W0, hW0⟩ : ∃ W0, (w.alloc (.cells #[.int .i64 8, .int .i64 a, .int .i64 b, .int .i64 C, .int .u64 V, .int .i64 M, .int .i64 W] 52)).alloc (.cells #[.int .i64 8, .int .i64 a, .int .i64 b, .int .i64 C, .int .u64 V, .int .i64 0, .int .i64 0] 52) = W0 := ⟨_, rfl⟩
  have hn0 : New w W0 := by rw [← hW0]; exact ((Fr.refl _ _).alloc _).alloc _
  have hb0 : W0.heap[w.heap.size]? = some (.cells #[.int .i64 8, .int .i64 a, .int .i64 b, .int .i64 C, .int .u64 V, .int .i64 M, .int .i64 W] 52 (0, 0)) := by rw [← hW0, block_alloc (by simp)]; exact block_alloc_new _ _
  rw [hW0]
  obtain ⟨xb, hxb⟩ : ∃ xb, w.heap.size = xb := ⟨_, rfl⟩
  have hxf : fb < xb := by omega
  rw [hxb] at hb0 ⊢
  refine (HRT.out _).mono ?_
  rintro e w1 ⟨rfl, hn1⟩
  have hb1 := (hn1.block xb (lt_of_block hb0) id).trans hb0
  have HB1 := Lib.hid hb1
  have HN1 := Lib.hid (hn0.trans hn1)
  have hx1 := lt_of_block hb1
  obtain ⟨y0, y1, y2, y3, y4, y5, y6⟩ := box_cells hb1
  have d0 := (HN1.out.cell hl id o).trans c0
  have zf : ∀ i, w1.frozen? ⟨fb, i, none⟩ = false := fun i => (HN1.out.frozen hl id i).trans (H.out.fr.free i)
  clear hW0 hn0 hb0 hn1 hb1 c0 x0 x1 x2 x3 x4 x5 x6 HRT HI
  go_wp2_with fail
  have n2 : New w1 w1.drew := (Fr.refl _ _).drew
  have HB2 := Lib.hid ((n2.block xb hx1 id).trans HB1.out)
  have HN2 := Lib.hid (HN1.out.trans n2)
  refine heldStart (fun wz => wz.cell? ⟨xb, 0, none⟩ = some (.int .i64 8) ∧ wz.cell? ⟨xb, 1, none⟩ = some (.int .i64 a) ∧ wz.cell? ⟨xb, 2, none⟩ = some (.int .i64 b) ∧ wz.cell? ⟨xb, 3, none⟩ = some (.int .i64 C) ∧ wz.cell? ⟨xb, 4, none⟩ = some (.int .u64 V) ∧ wz.cell? ⟨xb, 5, none⟩ = some (.int .i64 M) ∧ wz.cell? ⟨xb, 6, none⟩ = some (.int .i64 W)) (by kernel_rfl) ?_
  generalize w1.drew = w2 at n2 HB2 HN2 ⊢
  have s2 := box_cells HB2.out
  clear d0 zf y0 y1 y2 y3 y4 y5 y6 n2
  refine wpAnyH_take (i := 0) (v := ?_) rfl (by kernel_rfl) (by kernel_rfl) (by kernel_rfl) (fun _ _ _ h => h) (Or.inl ⟨by rfl, ?_⟩) s2 ?_
  rotate_left
  · intro w hSw; first | (obtain ⟨s1, s2, s3, s4, s5, s6, s7, s8⟩ := hSw; go_simp; rfl) | (obtain ⟨s1, s2, s3, s4, s5, s6, s7⟩ := hSw; go_simp; rfl) | (obtain ⟨s1, s2, s3⟩ := hSw; go_simp; rfl) | (obtain ⟨s1, s2⟩ := hSw; go_simp; rfl) | (have s1 := hSw; go_simp; rfl)
  go_simp
  refine wpAnyH_take (i := 1) (v := ?_) rfl (by kernel_rfl) (by kernel_rfl) (by kernel_rfl) (fun _ _ _ h => h) (Or.inl ⟨by rfl, ?_⟩) s2 ?_
  rotate_left
  · intro w hSw; first | (obtain ⟨s1, s2, s3, s4, s5, s6, s7, s8⟩ := hSw; go_simp; rfl) | (obtain ⟨s1, s2, s3, s4, s5, s6, s7⟩ := hSw; go_simp; rfl) | (obtain ⟨s1, s2, s3⟩ := hSw; go_simp; rfl) | (obtain ⟨s1, s2⟩ := hSw; go_simp; rfl) | (have s1 := hSw; go_simp; rfl)
  go_simp
  refine wpAnyH_take (i := 2) (v := ?_) rfl (by kernel_rfl) (by kernel_rfl) (by kernel_rfl) (fun _ _ _ h => h) (Or.inl ⟨by rfl, ?_⟩) s2 ?_
  rotate_left
  · intro w hSw; first | (obtain ⟨s1, s2, s3, s4, s5, s6, s7, s8⟩ := hSw; go_simp; rfl) | (obtain ⟨s1, s2, s3, s4, s5, s6, s7⟩ := hSw; go_simp; rfl) | (obtain ⟨s1, s2, s3⟩ := hSw; go_simp; rfl) | (obtain ⟨s1, s2⟩ := hSw; go_simp; rfl) | (have s1 := hSw; go_simp; rfl)
  go_simp
  refine wpAnyH_take (i := 3) (v := ?_) rfl (by kernel_rfl) (by kernel_rfl) (by kernel_rfl) (fun _ _ _ h => h) (Or.inl ⟨by rfl, ?_⟩) s2 ?_
  rotate_left
  · intro w hSw; first | (obtain ⟨s1, s2, s3, s4, s5, s6, s7, s8⟩ := hSw; go_simp; rfl) | (obtain ⟨s1, s2, s3, s4, s5, s6, s7⟩ := hSw; go_simp; rfl) | (obtain ⟨s1, s2, s3⟩ := hSw; go_simp; rfl) | (obtain ⟨s1, s2⟩ := hSw; go_simp; rfl) | (have s1 := hSw; go_simp; rfl)
  go_simp
  refine wpAnyH_take (i := 4) (v := ?_) rfl (by kernel_rfl) (by kernel_rfl) (by kernel_rfl) (fun _ _ _ h => h) (Or.inl ⟨by rfl, ?_⟩) s2 ?_
  rotate_left
  · intro w hSw; first | (obtain ⟨s1, s2, s3, s4, s5, s6, s7, s8⟩ := hSw; go_simp; rfl) | (obtain ⟨s1, s2, s3, s4, s5, s6, s7⟩ := hSw; go_simp; rfl) | (obtain ⟨s1, s2, s3⟩ := hSw; go_simp; rfl) | (obtain ⟨s1, s2⟩ := hSw; go_simp; rfl) | (have s1 := hSw; go_simp; rfl)
  go_simp
  refine wpAnyH_take (i := 5) (v := ?_) rfl (by kernel_rfl) (by kernel_rfl) (by kernel_rfl) (fun _ _ _ h => h) (Or.inl ⟨by rfl, ?_⟩) s2 ?_
  rotate_left
  · intro w hSw; first | (obtain ⟨s1, s2, s3, s4, s5, s6, s7, s8⟩ := hSw; go_simp; rfl) | (obtain ⟨s1, s2, s3, s4, s5, s6, s7⟩ := hSw; go_simp; rfl) | (obtain ⟨s1, s2, s3⟩ := hSw; go_simp; rfl) | (obtain ⟨s1, s2⟩ := hSw; go_simp; rfl) | (have s1 := hSw; go_simp; rfl)
  go_simp
  refine wpAnyH_take (i := 6) (v := ?_) rfl (by kernel_rfl) (by kernel_rfl) (by kernel_rfl) (fun _ _ _ h => h) (Or.inl ⟨by rfl, ?_⟩) s2 ?_
  rotate_left
  · intro w hSw; first | (obtain ⟨s1, s2, s3, s4, s5, s6, s7, s8⟩ := hSw; go_simp; rfl) | (obtain ⟨s1, s2, s3, s4, s5, s6, s7⟩ := hSw; go_simp; rfl) | (obtain ⟨s1, s2, s3⟩ := hSw; go_simp; rfl) | (obtain ⟨s1, s2⟩ := hSw; go_simp; rfl) | (have s1 := hSw; go_simp; rfl)
  go_simp
  refine wpAnyH_take (i := 7) (v := ?_) rfl (by kernel_rfl) (by kernel_rfl) (by kernel_rfl) (fun _ _ _ h => h) (Or.inl ⟨by rfl, ?_⟩) s2 ?_
  rotate_left
  · intro w hSw; first | (obtain ⟨s1, s2, s3, s4, s5, s6, s7, s8⟩ := hSw; go_simp; rfl) | (obtain ⟨s1, s2, s3, s4, s5, s6, s7⟩ := hSw; go_simp; rfl) | (obtain ⟨s1, s2, s3⟩ := hSw; go_simp; rfl) | (obtain ⟨s1, s2⟩ := hSw; go_simp; rfl) | (have s1 := hSw; go_simp; rfl)
  go_simp
  refine wpAnyH_take (i := 8) (v := ?_) rfl (by kernel_rfl) (by kernel_rfl) (by kernel_rfl) (fun _ _ _ h => h) (Or.inl ⟨by rfl, ?_⟩) s2 ?_
  rotate_left
  · intro w hSw; first | (obtain ⟨s1, s2, s3, s4, s5, s6, s7, s8⟩ := hSw; go_simp; rfl) | (obtain ⟨s1, s2, s3, s4, s5, s6, s7⟩ := hSw; go_simp; rfl) | (obtain ⟨s1, s2, s3⟩ := hSw; go_simp; rfl) | (obtain ⟨s1, s2⟩ := hSw; go_simp; rfl) | (have s1 := hSw; go_simp; rfl)
  go_simp
  refine wpAnyH_take (i := 9) (v := ?_) rfl (by kernel_rfl) (by kernel_rfl) (by kernel_rfl) (fun _ _ _ h => h) (Or.inl ⟨by rfl, ?_⟩) s2 ?_
  rotate_left
  · intro w hSw; first | (obtain ⟨s1, s2, s3, s4, s5, s6, s7, s8⟩ := hSw; go_simp; rfl) | (obtain ⟨s1, s2, s3, s4, s5, s6, s7⟩ := hSw; go_simp; rfl) | (obtain ⟨s1, s2, s3⟩ := hSw; go_simp; rfl) | (obtain ⟨s1, s2⟩ := hSw; go_simp; rfl) | (have s1 := hSw; go_simp; rfl)
  go_simp
  refine wpAnyH_take (i := 10) (v := ?_) rfl (by kernel_rfl) (by kernel_rfl) (by kernel_rfl) (fun _ _ _ h => h) (Or.inl ⟨by rfl, ?_⟩) s2 ?_
  rotate_left
  · intro w hSw; first | (obtain ⟨s1, s2, s3, s4, s5, s6, s7, s8⟩ := hSw; go_simp; rfl) | (obtain ⟨s1, s2, s3, s4, s5, s6, s7⟩ := hSw; go_simp; rfl) | (obtain ⟨s1, s2, s3⟩ := hSw; go_simp; rfl) | (obtain ⟨s1, s2⟩ := hSw; go_simp; rfl) | (have s1 := hSw; go_simp; rfl)
  go_simp
  refine wpAnyH_take (i := 12) (v := ?_) rfl (by kernel_rfl) (by kernel_rfl) (by kernel_rfl) (fun _ _ _ h => h) (Or.inl ⟨by rfl, ?_⟩) s2 ?_
  rotate_left
  · intro w hSw; first | (obtain ⟨s1, s2, s3, s4, s5, s6, s7, s8⟩ := hSw; go_simp; rfl) | (obtain ⟨s1, s2, s3, s4, s5, s6, s7⟩ := hSw; go_simp; rfl) | (obtain ⟨s1, s2, s3⟩ := hSw; go_simp; rfl) | (obtain ⟨s1, s2⟩ := hSw; go_simp; rfl) | (have s1 := hSw; go_simp; rfl)
  go_simp
  refine wpAnyH_take (i := 13) (v := ?_) rfl (by kernel_rfl) (by kernel_rfl) (by kernel_rfl) (fun _ _ _ h => h) (Or.inl ⟨by rfl, ?_⟩) s2 ?_
  rotate_left
  · intro w hSw; first | (obtain ⟨s1, s2, s3, s4, s5, s6, s7, s8⟩ := hSw; go_simp; rfl) | (obtain ⟨s1, s2, s3, s4, s5, s6, s7⟩ := hSw; go_simp; rfl) | (obtain ⟨s1, s2, s3⟩ := hSw; go_simp; rfl) | (obtain ⟨s1, s2⟩ := hSw; go_simp; rfl) | (have s1 := hSw; go_simp; rfl)
  go_simp
  refine wpAnyH_take (i := 16) (v := ?_) rfl (by kernel_rfl) (by kernel_rfl) (by kernel_rfl) (fun _ _ _ h => h) (Or.inl ⟨by rfl, ?_⟩) s2 ?_
  rotate_left
  · intro w hSw; first | (obtain ⟨s1, s2, s3, s4, s5, s6, s7, s8⟩ := hSw; go_simp; rfl) | (obtain ⟨s1, s2, s3, s4, s5, s6, s7⟩ := hSw; go_simp; rfl) | (obtain ⟨s1, s2, s3⟩ := hSw; go_simp; rfl) | (obtain ⟨s1, s2⟩ := hSw; go_simp; rfl) | (have s1 := hSw; go_simp; rfl)
  go_simp
  refine wpAnyH_take (i := 17) (v := ?_) rfl (by kernel_rfl) (by kernel_rfl) (by kernel_rfl) (fun _ _ _ h => h) (Or.inl ⟨by rfl, ?_⟩) s2 ?_
  rotate_left
  · intro w hSw; first | (obtain ⟨s1, s2, s3, s4, s5, s6, s7, s8⟩ := hSw; go_simp; rfl) | (obtain ⟨s1, s2, s3, s4, s5, s6, s7⟩ := hSw; go_simp; rfl) | (obtain ⟨s1, s2, s3⟩ := hSw; go_simp; rfl) | (obtain ⟨s1, s2⟩ := hSw; go_simp; rfl) | (have s1 := hSw; go_simp; rfl)
  go_simp
  refine heldEither (i := 11) (j := 14) (by kernel_rfl) rfl rfl (by rfl) (by rfl) (fun K hK => ?_) (fun K hK => ?_)
  · have yb := (HN2.out.cell hl id _).trans cb
    go_simp
    refine hK.out _ _ s2 ?_
    clear hK K yb
    refine heldOne (i := 14) (by kernel_rfl) rfl (by rfl) (fun K hK => ?_)
    go_simp
    refine (HVV.out w2 HN2.out).mono ?_
    rintro e w4 ⟨rfl, hn4⟩
    have hb4 := (hn4.block xb (lt_of_block HB2.out) id).trans HB2.out
    have HN4 := Lib.hid (HN2.out.trans hn4)
    have HB4 := Lib.hid hb4
    have s4 := box_cells hb4
    refine hK.out _ _ s4 ?_
    clear hK K hn4 hb4
    refine heldOne (i := 15) (by kernel_rfl) rfl (by rfl) (fun K hK => ?_)
    go_simp
    refine (HK.out w4).mono ?_
    rintro e w' ⟨rfl, rfl⟩
    refine hK.out _ _ s4 ?_
    clear hK K
    refine wpAnyH_take (i := 18) (v := ?_) rfl (by kernel_rfl) (by kernel_rfl) (by kernel_rfl) (fun _ _ _ h => h) (Or.inl ⟨by rfl, ?_⟩) s4 ?_
    rotate_left
    · intro w hSw; first | (obtain ⟨s1, s2, s3, s4, s5, s6, s7, s8⟩ := hSw; go_simp; rfl) | (obtain ⟨s1, s2, s3, s4, s5, s6, s7⟩ := hSw; go_simp; rfl) | (obtain ⟨s1, s2, s3⟩ := hSw; go_simp; rfl) | (obtain ⟨s1, s2⟩ := hSw; go_simp; rfl) | (have s1 := hSw; go_simp; rfl)
    go_simp
    have HNS := HN4
    have HBS := HB4
    refine heldOne (i := 19) (by kernel_rfl) rfl (by rfl) (fun K hK => ?_)
    have HH := Lib.hid (H.out.new HNS.out)
    have ya := HH.out.fr.regD ha
    have yz := HH.out.fr.free
    go_simp
    have hs5 := HH.out.setReg ha hR
    have hb5 : (w4.setCell ⟨fb, o + 1 + a, none⟩ (.int .u64 (R : Nat))).heap[xb]? = _ := (block_setCell_ne (by omega) _).trans HBS.out
    have HS5 := Lib.hid hs5
    have HB5 := Lib.hid hb5
    have HF5 := Lib.hid ((Fr34.new hl HNS.out).trans (Fr34.set (fb := fb) (o := o) (i := o + 1 + a) (.int .u64 (R : Nat)) (by omega) (by omega)))
    refine hK.out _ _ (box_cells hb5) ?_
    clear hK K ya yz hs5 hb5
    refine wpAnyH_done (by kernel_rfl) ?_ _
    generalize w4.setCell ⟨fb, o + 1 + a, none⟩ (.int .u64 (R : Nat)) = w5 at HS5 HB5 HF5 ⊢
    have e0 : w5.cell? ⟨fb, o, none⟩ = some (.int .i64 k) := by rw [← HPC.out]; exact HS5.out.fr.pc
    have zf : ∀ i, w5.frozen? ⟨fb, i, none⟩ = false := HS5.out.fr.free
    go_wp2
    go_ret2
    rw [HE.out]
    exact ⟨_, rfl, HS5.out.setPc _, HF5.out.trans (Fr34.set _ (Nat.le_refl _) (by omega)), fun k hk => .inl hk⟩
  · go_simp
    refine (HVV.out w2 HN2.out).mono ?_
    rintro e w4 ⟨rfl, hn4⟩
    have hb4 := (hn4.block xb (lt_of_block HB2.out) id).trans HB2.out
    have HN4 := Lib.hid (HN2.out.trans hn4)
    have HB4 := Lib.hid hb4
    have s4 := box_cells hb4
    refine hK.out _ _ s4 ?_
    clear hK K hn4 hb4 s2
    refine heldOne (i := 11) (by kernel_rfl) rfl (by rfl) (fun K hK => ?_)
    have yb := (HN4.out.cell hl id _).trans cb
    go_simp
    refine hK.out _ _ s4 ?_
    clear hK K yb
    refine heldOne (i := 15) (by kernel_rfl) rfl (by rfl) (fun K hK => ?_)
    go_simp
    refine (HK.out w4).mono ?_
    rintro e w' ⟨rfl, rfl⟩
    refine hK.out _ _ s4 ?_
    clear hK K
    refine wpAnyH_take (i := 18) (v := ?_) rfl (by kernel_rfl) (by kernel_rfl) (by kernel_rfl) (fun _ _ _ h => h) (Or.inl ⟨by rfl, ?_⟩) s4 ?_
    rotate_left
    · intro w hSw; first | (obtain ⟨s1, s2, s3, s4, s5, s6, s7, s8⟩ := hSw; go_simp; rfl) | (obtain ⟨s1, s2, s3, s4, s5, s6, s7⟩ := hSw; go_simp; rfl) | (obtain ⟨s1, s2, s3⟩ := hSw; go_simp; rfl) | (obtain ⟨s1, s2⟩ := hSw; go_simp; rfl) | (have s1 := hSw; go_simp; rfl)
    go_simp
    have HNS := HN4
    have HBS := HB4
    refine heldOne (i := 19) (by kernel_rfl) rfl (by rfl) (fun K hK => ?_)
    have HH := Lib.hid (H.out.new HNS.out)
    have ya := HH.out.fr.regD ha
    have yz := HH.out.fr.free
    go_simp
    have hs5 := HH.out.setReg ha hR
    have hb5 : (w4.setCell ⟨fb, o + 1 + a, none⟩ (.int .u64 (R : Nat))).heap[xb]? = _ := (block_setCell_ne (by omega) _).trans HBS.out
    have HS5 := Lib.hid hs5
    have HB5 := Lib.hid hb5
    have HF5 := Lib.hid ((Fr34.new hl HNS.out).trans (Fr34.set (fb := fb) (o := o) (i := o + 1 + a) (.int .u64 (R : Nat)) (by omega) (by omega)))
    refine hK.out _ _ (box_cells hb5) ?_
    clear hK K ya yz hs5 hb5
    refine wpAnyH_done (by kernel_rfl) ?_ _
    generalize w4.setCell ⟨fb, o + 1 + a, none⟩ (.int .u64 (R : Nat)) = w5 at HS5 HB5 HF5 ⊢
    have e0 : w5.cell? ⟨fb, o, none⟩ = some (.int .i64 k) := by rw [← HPC.out]; exact HS5.out.fr.pc
    have zf : ∀ i, w5.frozen? ⟨fb, i, none⟩ = false := HS5.out.fr.free
    go_wp2
    go_ret2
    rw [HE.out]
    exact ⟨_, rfl, HS5.out.setPc _, HF5.out.trans (Fr34.set _ (Nat.le_refl _) (by omega)), fun k hk => .inl hk⟩

set_option maxRecDepth 100000 in
set_option maxHeartbeats 8000000 in
theorem rstep_9 (a b : Nat) (ha : a < 32) (hb : b < 32) (hB : B = b) (h : FmAt w fb o v F) (hi : InsAt w cg co k 9 a B C V M W) (hk : k < n) (hn : n ≤ 1000000) (hV : V < 18446744073709551616) (hpc : F.pc = k) (hg : goodV 9 a B C V n = true) :
    Calls Tryd.prog 11 #[.pointer (some ⟨fb, o, none⟩), .slice (some ⟨cg, co, none⟩) n cap, cv] w fun e w' => RStepped w fb o v (0, reckF 9 a B C V F) e w' := by
  subst hB
  have c0 := h.fr.pc
  have hl := h.fr.lt
  rw [hpc] at c0
  unfold goodV at hg
  rw [show ((9 : Int) != 22) = true from rfl] at hg
  have HRT := Lib.hid (fun w' => right_any 9 a b C 0 0 V n true w' hV (by omega))
  rw [hg] at HRT
  have HI := Lib.hid hi
  obtain ⟨_, x0, x1, x2, x3, x4, x5, x6⟩ := hi
  have q1 : (0 : Int) ≤ (k : Int) := by omega
  have q2 : (k : Int) < (n : Int) := by omega
  have tk : IntKind.i64.wrap ((k : Int) + 1) = (k : Int) + 1 := IntWalk.i64_in _ (by omega)
  have H := Lib.hid h
  have HPC := Lib.hid hpc
  have q3 : (0 : Int) ≤ (a : Int) := by omega
  have q4 : (a : Int) < 32 := by omega
  obtain ⟨X, hX⟩ : ∃ X, F.rs.getD b 0 = X := ⟨_, rfl⟩
  have hXf := getD_fit h.fr.fits b
  have cb := h.fr.regD hb
  have hc := valN_fit h.fr.fits C hV
  rw [hX] at hXf cb
  have HVV := Lib.hid (fun w' (f : New w w') => rvalue_any fb o F.pc F.rs v 9 a b C V M W w' (h.fr.new f))
  have hE : reckF 9 a b C V F = ⟨(k : Int) + 1, F.rs.set a (reckN 9 V X (valN F.rs C V)), F.bk⟩ := by
    unfold reckF
    rw [hpc, show regN F.rs (b : Int) = X by unfold regN; rw [if_pos ⟨by omega, by omega⟩]; exact hX]
  have HE := Lib.hid hE
  have hR := reckN_fit 9 hV hXf hc
  have HK := Lib.hid (fun w' => rreckon_any 9 V _ _ w' (by omega) hXf hc)
  generalize valN F.rs C V = Y at HVV HE hR HK hc
  generalize reckN 9 V X Y = R at HE hR HK
  have q5 : (0 : Int) ≤ (b : Int) := by omega
  have q6 : (b : Int) < 32 := by omega
  clear h hg hpc hX hE
  go_enter Tryd.func11, Tryd.ntmps11
  go_wp2_with fail
  obtain ⟨W0, hW0⟩ : ∃ W0, (w.alloc (.cells #[.int .i64 9, .int .i64 a, .int .i64 b, .int .i64 C, .int .u64 V, .int .i64 M, .int .i64 W] 52)).alloc (.cells #[.int .i64 9, .int .i64 a, .int .i64 b, .int .i64 C, .int .u64 V, .int .i64 0, .int .i64 0] 52) = W0 := ⟨_, rfl⟩
  have hn0 : New w W0 := by rw [← hW0]; exact ((Fr.refl _ _).alloc _).alloc _
  have hb0 : W0.heap[w.heap.size]? = some (.cells #[.int .i64 9, .int .i64 a, .int .i64 b, .int .i64 C, .int .u64 V, .int .i64 M, .int .i64 W] 52 (0, 0)) := by rw [← hW0, block_alloc (by simp)]; exact block_alloc_new _ _
  rw [hW0]
  obtain ⟨xb, hxb⟩ : ∃ xb, w.heap.size = xb := ⟨_, rfl⟩
  have hxf : fb < xb := by omega
  rw [hxb] at hb0 ⊢
  refine (HRT.out _).mono ?_
  rintro e w1 ⟨rfl, hn1⟩
  have hb1 := (hn1.block xb (lt_of_block hb0) id).trans hb0
  have HB1 := Lib.hid hb1
  have HN1 := Lib.hid (hn0.trans hn1)
  have hx1 := lt_of_block hb1
  obtain ⟨y0, y1, y2, y3, y4, y5, y6⟩ := box_cells hb1
  have d0 := (HN1.out.cell hl id o).trans c0
  have zf : ∀ i, w1.frozen? ⟨fb, i, none⟩ = false := fun i => (HN1.out.frozen hl id i).trans (H.out.fr.free i)
  clear hW0 hn0 hb0 hn1 hb1 c0 x0 x1 x2 x3 x4 x5 x6 HRT HI
  go_wp2_with fail
  have n2 : New w1 w1.drew := (Fr.refl _ _).drew
  have HB2 := Lib.hid ((n2.block xb hx1 id).trans HB1.out)
  have HN2 := Lib.hid (HN1.out.trans n2)
  refine heldStart (fun wz => wz.cell? ⟨xb, 0, none⟩ = some (.int .i64 9) ∧ wz.cell? ⟨xb, 1, none⟩ = some (.int .i64 a) ∧ wz.cell? ⟨xb, 2, none⟩ = some (.int .i64 b) ∧ wz.cell? ⟨xb, 3, none⟩ = some (.int .i64 C) ∧ wz.cell? ⟨xb, 4, none⟩ = some (.int .u64 V) ∧ wz.cell? ⟨xb, 5, none⟩ = some (.int .i64 M) ∧ wz.cell? ⟨xb, 6, none⟩ = some (.int .i64 W)) (by kernel_rfl) ?_
  generalize w1.drew = w2 at n2 HB2 HN2 ⊢
  have s2 := box_cells HB2.out
  clear d0 zf y0 y1 y2 y3 y4 y5 y6 n2
  refine wpAnyH_take (i := 0) (v := ?_) rfl (by kernel_rfl) (by kernel_rfl) (by kernel_rfl) (fun _ _ _ h => h) (Or.inl ⟨by rfl, ?_⟩) s2 ?_
  rotate_left
  · intro w hSw; first | (obtain ⟨s1, s2, s3, s4, s5, s6, s7, s8⟩ := hSw; go_simp; rfl) | (obtain ⟨s1, s2, s3, s4, s5, s6, s7⟩ := hSw; go_simp; rfl) | (obtain ⟨s1, s2, s3⟩ := hSw; go_simp; rfl) | (obtain ⟨s1, s2⟩ := hSw; go_simp; rfl) | (have s1 := hSw; go_simp; rfl)
  go_simp
  refine wpAnyH_take (i := 1) (v := ?_) rfl (by kernel_rfl) (by kernel_rfl) (by kernel_rfl) (fun _ _ _ h => h) (Or.inl ⟨by rfl, ?_⟩) s2 ?_
  rotate_left
  · intro w hSw; first | (obtain ⟨s1, s2, s3, s4, s5, s6, s7, s8⟩ := hSw; go_simp; rfl) | (obtain ⟨s1, s2, s3, s4, s5, s6, s7⟩ := hSw; go_simp; rfl) | (obtain ⟨s1, s2, s3⟩ := hSw; go_simp; rfl) | (obtain ⟨s1, s2⟩ := hSw; go_simp; rfl) | (have s1 := hSw; go_simp; rfl)
  go_simp
  refine wpAnyH_take (i := 2) (v := ?_) rfl (by kernel_rfl) (by kernel_rfl) (by kernel_rfl) (fun _ _ _ h => h) (Or.inl ⟨by rfl, ?_⟩) s2 ?_
  rotate_left
  · intro w hSw; first | (obtain ⟨s1, s2, s3, s4, s5, s6, s7, s8⟩ := hSw; go_simp; rfl) | (obtain ⟨s1, s2, s3, s4, s5, s6, s7⟩ := hSw; go_simp; rfl) | (obtain ⟨s1, s2, s3⟩ := hSw; go_simp; rfl) | (obtain ⟨s1, s2⟩ := hSw; go_simp; rfl) | (have s1 := hSw; go_simp; rfl)
  go_simp
  refine wpAnyH_take (i := 3) (v := ?_) rfl (by kernel_rfl) (by kernel_rfl) (by kernel_rfl) (fun _ _ _ h => h) (Or.inl ⟨by rfl, ?_⟩) s2 ?_
  rotate_left
  · intro w hSw; first | (obtain ⟨s1, s2, s3, s4, s5, s6, s7, s8⟩ := hSw; go_simp; rfl) | (obtain ⟨s1, s2, s3, s4, s5, s6, s7⟩ := hSw; go_simp; rfl) | (obtain ⟨s1, s2, s3⟩ := hSw; go_simp; rfl) | (obtain ⟨s1, s2⟩ := hSw; go_simp; rfl) | (have s1 := hSw; go_simp; rfl)
  go_simp
  refine wpAnyH_take (i := 4) (v := ?_) rfl (by kernel_rfl) (by kernel_rfl) (by kernel_rfl) (fun _ _ _ h => h) (Or.inl ⟨by rfl, ?_⟩) s2 ?_
  rotate_left
  · intro w hSw; first | (obtain ⟨s1, s2, s3, s4, s5, s6, s7, s8⟩ := hSw; go_simp; rfl) | (obtain ⟨s1, s2, s3, s4, s5, s6, s7⟩ := hSw; go_simp; rfl) | (obtain ⟨s1, s2, s3⟩ := hSw; go_simp; rfl) | (obtain ⟨s1, s2⟩ := hSw; go_simp; rfl) | (have s1 := hSw; go_simp; rfl)
  go_simp
  refine wpAnyH_take (i := 5) (v := ?_) rfl (by kernel_rfl) (by kernel_rfl) (by kernel_rfl) (fun _ _ _ h => h) (Or.inl ⟨by rfl, ?_⟩) s2 ?_
  rotate_left
  · intro w hSw; first | (obtain ⟨s1, s2, s3, s4, s5, s6, s7, s8⟩ := hSw; go_simp; rfl) | (obtain ⟨s1, s2, s3, s4, s5, s6, s7⟩ := hSw; go_simp; rfl) | (obtain ⟨s1, s2, s3⟩ := hSw; go_simp; rfl) | (obtain ⟨s1, s2⟩ := hSw; go_simp; rfl) | (have s1 := hSw; go_simp; rfl)
  go_simp
  refine wpAnyH_take (i := 6) (v := ?_) rfl (by kernel_rfl) (by kernel_rfl) (by kernel_rfl) (fun _ _ _ h => h) (Or.inl ⟨by rfl, ?_⟩) s2 ?_
  rotate_left
  · intro w hSw; first | (obtain ⟨s1, s2, s3, s4, s5, s6, s7, s8⟩ := hSw; go_simp; rfl) | (obtain ⟨s1, s2, s3, s4, s5, s6, s7⟩ := hSw; go_simp; rfl) | (obtain ⟨s1, s2, s3⟩ := hSw; go_simp; rfl) | (obtain ⟨s1, s2⟩ := hSw; go_simp; rfl) | (have s1 := hSw; go_simp; rfl)
  go_simp
  refine wpAnyH_take (i := 7) (v := ?_) rfl (by kernel_rfl) (by kernel_rfl) (by kernel_rfl) (fun _ _ _ h => h) (Or.inl ⟨by rfl, ?_⟩) s2 ?_
  rotate_left
  · intro w hSw; first | (obtain ⟨s1, s2, s3, s4, s5, s6, s7, s8⟩ := hSw; go_simp; rfl) | (obtain ⟨s1, s2, s3, s4, s5, s6, s7⟩ := hSw; go_simp; rfl) | (obtain ⟨s1, s2, s3⟩ := hSw; go_simp; rfl) | (obtain ⟨s1, s2⟩ := hSw; go_simp; rfl) | (have s1 := hSw; go_simp; rfl)
  go_simp
  refine wpAnyH_take (i := 8) (v := ?_) rfl (by kernel_rfl) (by kernel_rfl) (by kernel_rfl) (fun _ _ _ h => h) (Or.inl ⟨by rfl, ?_⟩) s2 ?_
  rotate_left
  · intro w hSw; first | (obtain ⟨s1, s2, s3, s4, s5, s6, s7, s8⟩ := hSw; go_simp; rfl) | (obtain ⟨s1, s2, s3, s4, s5, s6, s7⟩ := hSw; go_simp; rfl) | (obtain ⟨s1, s2, s3⟩ := hSw; go_simp; rfl) | (obtain ⟨s1, s2⟩ := hSw; go_simp; rfl) | (have s1 := hSw; go_simp; rfl)
  go_simp
  refine wpAnyH_take (i := 9) (v := ?_) rfl (by kernel_rfl) (by kernel_rfl) (by kernel_rfl) (fun _ _ _ h => h) (Or.inl ⟨by rfl, ?_⟩) s2 ?_
  rotate_left
  · intro w hSw; first | (obtain ⟨s1, s2, s3, s4, s5, s6, s7, s8⟩ := hSw; go_simp; rfl) | (obtain ⟨s1, s2, s3, s4, s5, s6, s7⟩ := hSw; go_simp; rfl) | (obtain ⟨s1, s2, s3⟩ := hSw; go_simp; rfl) | (obtain ⟨s1, s2⟩ := hSw; go_simp; rfl) | (have s1 := hSw; go_simp; rfl)
  go_simp
  refine wpAnyH_take (i := 10) (v := ?_) rfl (by kernel_rfl) (by kernel_rfl) (by kernel_rfl) (fun _ _ _ h => h) (Or.inl ⟨by rfl, ?_⟩) s2 ?_
  rotate_left
  · intro w hSw; first | (obtain ⟨s1, s2, s3, s4, s5, s6, s7, s8⟩ := hSw; go_simp; rfl) | (obtain ⟨s1, s2, s3, s4, s5, s6, s7⟩ := hSw; go_simp; rfl) | (obtain ⟨s1, s2, s3⟩ := hSw; go_simp; rfl) | (obtain ⟨s1, s2⟩ := hSw; go_simp; rfl) | (have s1 := hSw; go_simp; rfl)
  go_simp
  refine wpAnyH_take (i := 12) (v := ?_) rfl (by kernel_rfl) (by kernel_rfl) (by kernel_rfl) (fun _ _ _ h => h) (Or.inl ⟨by rfl, ?_⟩) s2 ?_
  rotate_left
  · intro w hSw; first | (obtain ⟨s1, s2, s3, s4, s5, s6, s7, s8⟩ := hSw; go_simp; rfl) | (obtain ⟨s1, s2, s3, s4, s5, s6, s7⟩ := hSw; go_simp; rfl) | (obtain ⟨s1, s2, s3⟩ := hSw; go_simp; rfl) | (obtain ⟨s1, s2⟩ := hSw; go_simp; rfl) | (have s1 := hSw; go_simp; rfl)
  go_simp
  refine wpAnyH_take (i := 13) (v := ?_) rfl (by kernel_rfl) (by kernel_rfl) (by kernel_rfl) (fun _ _ _ h => h) (Or.inl ⟨by rfl, ?_⟩) s2 ?_
  rotate_left
  · intro w hSw; first | (obtain ⟨s1, s2, s3, s4, s5, s6, s7, s8⟩ := hSw; go_simp; rfl) | (obtain ⟨s1, s2, s3, s4, s5, s6, s7⟩ := hSw; go_simp; rfl) | (obtain ⟨s1, s2, s3⟩ := hSw; go_simp; rfl) | (obtain ⟨s1, s2⟩ := hSw; go_simp; rfl) | (have s1 := hSw; go_simp; rfl)
  go_simp
  refine wpAnyH_take (i := 16) (v := ?_) rfl (by kernel_rfl) (by kernel_rfl) (by kernel_rfl) (fun _ _ _ h => h) (Or.inl ⟨by rfl, ?_⟩) s2 ?_
  rotate_left
  · intro w hSw; first | (obtain ⟨s1, s2, s3, s4, s5, s6, s7, s8⟩ := hSw; go_simp; rfl) | (obtain ⟨s1, s2, s3, s4, s5, s6, s7⟩ := hSw; go_simp; rfl) | (obtain ⟨s1, s2, s3⟩ := hSw; go_simp; rfl) | (obtain ⟨s1, s2⟩ := hSw; go_simp; rfl) | (have s1 := hSw; go_simp; rfl)
  go_simp
  refine wpAnyH_take (i := 17) (v := ?_) rfl (by kernel_rfl) (by kernel_rfl) (by kernel_rfl) (fun _ _ _ h => h) (Or.inl ⟨by rfl, ?_⟩) s2 ?_
  rotate_left
  · intro w hSw; first | (obtain ⟨s1, s2, s3, s4, s5, s6, s7, s8⟩ := hSw; go_simp; rfl) | (obtain ⟨s1, s2, s3, s4, s5, s6, s7⟩ := hSw; go_simp; rfl) | (obtain ⟨s1, s2, s3⟩ := hSw; go_simp; rfl) | (obtain ⟨s1, s2⟩ := hSw; go_simp; rfl) | (have s1 := hSw; go_simp; rfl)
  go_simp
  refine heldEither (i := 11) (j := 14) (by kernel_rfl) rfl rfl (by rfl) (by rfl) (fun K hK => ?_) (fun K hK => ?_)
  · have yb := (HN2.out.cell hl id _).trans cb
    go_simp
    refine hK.out _ _ s2 ?_
    clear hK K yb
    refine heldOne (i := 14) (by kernel_rfl) rfl (by rfl) (fun K hK => ?_)
    go_simp
    refine (HVV.out w2 HN2.out).mono ?_
    rintro e w4 ⟨rfl, hn4⟩
    have hb4 := (hn4.block xb (lt_of_block HB2.out) id).trans HB2.out
    have HN4 := Lib.hid (HN2.out.trans hn4)
    have HB4 := Lib.hid hb4
    have s4 := box_cells hb4
    refine hK.out _ _ s4 ?_
    clear hK K hn4 hb4
    refine heldOne (i := 15) (by kernel_rfl) rfl (by rfl) (fun K hK => ?_)
    go_simp
    refine (HK.out w4).mono ?_
    rintro e w' ⟨rfl, rfl⟩
    refine hK.out _ _ s4 ?_
    clear hK K
    refine wpAnyH_take (i := 18) (v := ?_) rfl (by kernel_rfl) (by kernel_rfl) (by kernel_rfl) (fun _ _ _ h => h) (Or.inl ⟨by rfl, ?_⟩) s4 ?_
    rotate_left
    · intro w hSw; first | (obtain ⟨s1, s2, s3, s4, s5, s6, s7, s8⟩ := hSw; go_simp; rfl) | (obtain ⟨s1, s2, s3, s4, s5, s6, s7⟩ := hSw; go_simp; rfl) | (obtain ⟨s1, s2, s3⟩ := hSw; go_simp; rfl) | (obtain ⟨s1, s2⟩ := hSw; go_simp; rfl) | (have s1 := hSw; go_simp; rfl)
    go_simp
    have HNS := HN4
    have HBS := HB4
    refine heldOne (i := 19) (by kernel_rfl) rfl (by rfl) (fun K hK => ?_)
    have HH := Lib.hid (H.out.new HNS.out)
    have ya := HH.out.fr.regD ha
    have yz := HH.out.fr.free
    go_simp
    have hs5 := HH.out.setReg ha hR
    have hb5 : (w4.setCell ⟨fb, o + 1 + a, none⟩ (.int .u64 (R : Nat))).heap[xb]? = _ := (block_setCell_ne (by omega) _).trans HBS.out
    have HS5 := Lib.hid hs5
    have HB5 := Lib.hid hb5
    have HF5 := Lib.hid ((Fr34.new hl HNS.out).trans (Fr34.set (fb := fb) (o := o) (i := o + 1 + a) (.int .u64 (R : Nat)) (by omega) (by omega)))
    refine hK.out _ _ (box_cells hb5) ?_
    clear hK K ya yz hs5 hb5
    refine wpAnyH_done (by kernel_rfl) ?_ _
    generalize w4.setCell ⟨fb, o + 1 + a, none⟩ (.int .u64 (R : Nat)) = w5 at HS5 HB5 HF5 ⊢
    have e0 : w5.cell? ⟨fb, o, none⟩ = some (.int .i64 k) := by rw [← HPC.out]; exact HS5.out.fr.pc
    have zf : ∀ i, w5.frozen? ⟨fb, i, none⟩ = false := HS5.out.fr.free
    go_wp2
    go_ret2
    rw [HE.out]
    exact ⟨_, rfl, HS5.out.setPc _, HF5.out.trans (Fr34.set _ (Nat.le_refl _) (by omega)), fun k hk => .inl hk⟩
  · go_simp
    refine (HVV.out w2 HN2.out).mono ?_
    rintro e w4 ⟨rfl, hn4⟩
    have hb4 := (hn4.block xb (lt_of_block HB2.out) id).trans HB2.out
    have HN4 := Lib.hid (HN2.out.trans hn4)
    have HB4 := Lib.hid hb4
    have s4 := box_cells hb4
    refine hK.out _ _ s4 ?_
    clear hK K hn4 hb4 s2
    refine heldOne (i := 11) (by kernel_rfl) rfl (by rfl) (fun K hK => ?_)
    have yb := (HN4.out.cell hl id _).trans cb
    go_simp
    refine hK.out _ _ s4 ?_
    clear hK K yb
    refine heldOne (i := 15) (by kernel_rfl) rfl (by rfl) (fun K hK => ?_)
    go_simp
    refine (HK.out w4).mono ?_
    rintro e w' ⟨rfl, rfl⟩
    refine hK.out _ _ s4 ?_
    clear hK K
    refine wpAnyH_take (i := 18) (v := ?_) rfl (by kernel_rfl) (by kernel_rfl) (by kernel_rfl) (fun _ _ _ h => h) (Or.inl ⟨by rfl, ?_⟩) s4 ?_
    rotate_left
    · intro w hSw; first | (obtain ⟨s1, s2, s3, s4, s5, s6, s7, s8⟩ := hSw; go_simp; rfl) | (obtain ⟨s1, s2, s3, s4, s5, s6, s7⟩ := hSw; go_simp; rfl) | (obtain ⟨s1, s2, s3⟩ := hSw; go_simp; rfl) | (obtain ⟨s1, s2⟩ := hSw; go_simp; rfl) | (have s1 := hSw; go_simp; rfl)
    go_simp
    have HNS := HN4
    have HBS := HB4
    refine heldOne (i := 19) (by kernel_rfl) rfl (by rfl) (fun K hK => ?_)
    have HH := Lib.hid (H.out.new HNS.out)
    have ya := HH.out.fr.regD ha
    have yz := HH.out.fr.free
    go_simp
    have hs5 := HH.out.setReg ha hR
    have hb5 : (w4.setCell ⟨fb, o + 1 + a, none⟩ (.int .u64 (R : Nat))).heap[xb]? = _ := (block_setCell_ne (by omega) _).trans HBS.out
    have HS5 := Lib.hid hs5
    have HB5 := Lib.hid hb5
    have HF5 := Lib.hid ((Fr34.new hl HNS.out).trans (Fr34.set (fb := fb) (o := o) (i := o + 1 + a) (.int .u64 (R : Nat)) (by omega) (by omega)))
    refine hK.out _ _ (box_cells hb5) ?_
    clear hK K ya yz hs5 hb5
    refine wpAnyH_done (by kernel_rfl) ?_ _
    generalize w4.setCell ⟨fb, o + 1 + a, none⟩ (.int .u64 (R : Nat)) = w5 at HS5 HB5 HF5 ⊢
    have e0 : w5.cell? ⟨fb, o, none⟩ = some (.int .i64 k) := by rw [← HPC.out]; exact HS5.out.fr.pc
    have zf : ∀ i, w5.frozen? ⟨fb, i, none⟩ = false := HS5.out.fr.free
    go_wp2
    go_ret2
    rw [HE.out]
    exact ⟨_, rfl, HS5.out.setPc _, HF5.out.trans (Fr34.set _ (Nat.le_refl _) (by omega)), fun k hk => .inl hk⟩

set_option maxRecDepth 100000 in
set_option maxHeartbeats 8000000 in
theorem rstep_10 (a b : Nat) (ha : a < 32) (hb : b < 32) (hB : B = b) (h : FmAt w fb o v F) (hi : InsAt w cg co k 10 a B C V M W) (hk : k < n) (hn : n ≤ 1000000) (hV : V < 18446744073709551616) (hpc : F.pc = k) (hg : goodV 10 a B C V n = true) :
    Calls Tryd.prog 11 #[.pointer (some ⟨fb, o, none⟩), .slice (some ⟨cg, co, none⟩) n cap, cv] w fun e w' => RStepped w fb o v (0, reckF 10 a B C V F) e w' := by
  subst hB
  have c0 := h.fr.pc
  have hl := h.fr.lt
  rw [hpc] at c0
  unfold goodV at hg
  rw [show ((10 : Int) != 22) = true from rfl] at hg
  have HRT := Lib.hid (fun w' => right_any 10 a b C 0 0 V n true w' hV (by omega))
  rw [hg] at HRT
  have HI := Lib.hid hi
  obtain ⟨_, x0, x1, x2, x3, x4, x5, x6⟩ := hi
  have q1 : (0 : Int) ≤ (k : Int) := by omega
  have q2 : (k : Int) < (n : Int) := by omega
  have tk : IntKind.i64.wrap ((k : Int) + 1) = (k : Int) + 1 := IntWalk.i64_in _ (by omega)
  have H := Lib.hid h
  have HPC := Lib.hid hpc
  have q3 : (0 : Int) ≤ (a : Int) := by omega
  have q4 : (a : Int) < 32 := by omega
  obtain ⟨X, hX⟩ : ∃ X, F.rs.getD b 0 = X := ⟨_, rfl⟩
  have hXf := getD_fit h.fr.fits b
  have cb := h.fr.regD hb
  have hc := valN_fit h.fr.fits C hV
  rw [hX] at hXf cb
  have HVV := Lib.hid (fun w' (f : New w w') => rvalue_any fb o F.pc F.rs v 10 a b C V M W w' (h.fr.new f))
  have hE : reckF 10 a b C V F = ⟨(k : Int) + 1, F.rs.set a (reckN 10 V X (valN F.rs C V)), F.bk⟩ := by
    unfold reckF
    rw [hpc, show regN F.rs (b : Int) = X by unfold regN; rw [if_pos ⟨by omega, by omega⟩]; exact hX]
  have HE := Lib.hid hE
  have hR := reckN_fit 10 hV hXf hc
  have HK := Lib.hid (fun w' => rreckon_any 10 V _ _ w' (by omega) hXf hc)
  generalize valN F.rs C V = Y at HVV HE hR HK hc
  generalize reckN 10 V X Y = R at HE hR HK
  have q5 : (0 : Int) ≤ (b : Int) := by omega
  have q6 : (b : Int) < 32 := by omega
  clear h hg hpc hX hE
  go_enter Tryd.func11, Tryd.ntmps11
  go_wp2_with fail
  obtain ⟨W0, hW0⟩ : ∃ W0, (w.alloc (.cells #[.int .i64 10, .int .i64 a, .int .i64 b, .int .i64 C, .int .u64 V, .int .i64 M, .int .i64 W] 52)).alloc (.cells #[.int .i64 10, .int .i64 a, .int .i64 b, .int .i64 C, .int .u64 V, .int .i64 0, .int .i64 0] 52) = W0 := ⟨_, rfl⟩
  have hn0 : New w W0 := by rw [← hW0]; exact ((Fr.refl _ _).alloc _).alloc _
  have hb0 : W0.heap[w.heap.size]? = some (.cells #[.int .i64 10, .int .i64 a, .int .i64 b, .int .i64 C, .int .u64 V, .int .i64 M, .int .i64 W] 52 (0, 0)) := by rw [← hW0, block_alloc (by simp)]; exact block_alloc_new _ _
  rw [hW0]
  obtain ⟨xb, hxb⟩ : ∃ xb, w.heap.size = xb := ⟨_, rfl⟩
  have hxf : fb < xb := by omega
  rw [hxb] at hb0 ⊢
  refine (HRT.out _).mono ?_
  rintro e w1 ⟨rfl, hn1⟩
  have hb1 := (hn1.block xb (lt_of_block hb0) id).trans hb0
  have HB1 := Lib.hid hb1
  have HN1 := Lib.hid (hn0.trans hn1)
  have hx1 := lt_of_block hb1
  obtain ⟨y0, y1, y2, y3, y4, y5, y6⟩ := box_cells hb1
  have d0 := (HN1.out.cell hl id o).trans c0
  have zf : ∀ i, w1.frozen? ⟨fb, i, none⟩ = false := fun i => (HN1.out.frozen hl id i).trans (H.out.fr.free i)
  clear hW0 hn0 hb0 hn1 hb1 c0 x0 x1 x2 x3 x4 x5 x6 HRT HI
  go_wp2_with fail
  have n2 : New w1 w1.drew := (Fr.refl _ _).drew
  have HB2 := Lib.hid ((n2.block xb hx1 id).trans HB1.out)
  have HN2 := Lib.hid (HN1.out.trans n2)
  refine heldStart (fun wz => wz.cell? ⟨xb, 0, none⟩ = some (.int .i64 10) ∧ wz.cell? ⟨xb, 1, none⟩ = some (.int .i64 a) ∧ wz.cell? ⟨xb, 2, none⟩ = some (.int .i64 b) ∧ wz.cell? ⟨xb, 3, none⟩ = some (.int .i64 C) ∧ wz.cell? ⟨xb, 4, none⟩ = some (.int .u64 V) ∧ wz.cell? ⟨xb, 5, none⟩ = some (.int .i64 M) ∧ wz.cell? ⟨xb, 6, none⟩ = some (.int .i64 W)) (by kernel_rfl) ?_
  generalize w1.drew = w2 at n2 HB2 HN2 ⊢
  have s2 := box_cells HB2.out
  clear d0 zf y0 y1 y2 y3 y4 y5 y6 n2
  refine wpAnyH_take (i := 0) (v := ?_) rfl (by kernel_rfl) (by kernel_rfl) (by kernel_rfl) (fun _ _ _ h => h) (Or.inl ⟨by rfl, ?_⟩) s2 ?_
  rotate_left
  · intro w hSw; first | (obtain ⟨s1, s2, s3, s4, s5, s6, s7, s8⟩ := hSw; go_simp; rfl) | (obtain ⟨s1, s2, s3, s4, s5, s6, s7⟩ := hSw; go_simp; rfl) | (obtain ⟨s1, s2, s3⟩ := hSw; go_simp; rfl) | (obtain ⟨s1, s2⟩ := hSw; go_simp; rfl) | (have s1 := hSw; go_simp; rfl)
  go_simp
  refine wpAnyH_take (i := 1) (v := ?_) rfl (by kernel_rfl) (by kernel_rfl) (by kernel_rfl) (fun _ _ _ h => h) (Or.inl ⟨by rfl, ?_⟩) s2 ?_
  rotate_left
  · intro w hSw; first | (obtain ⟨s1, s2, s3, s4, s5, s6, s7, s8⟩ := hSw; go_simp; rfl) | (obtain ⟨s1, s2, s3, s4, s5, s6, s7⟩ := hSw; go_simp; rfl) | (obtain ⟨s1, s2, s3⟩ := hSw; go_simp; rfl) | (obtain ⟨s1, s2⟩ := hSw; go_simp; rfl) | (have s1 := hSw; go_simp; rfl)
  go_simp
  refine wpAnyH_take (i := 2) (v := ?_) rfl (by kernel_rfl) (by kernel_rfl) (by kernel_rfl) (fun _ _ _ h => h) (Or.inl ⟨by rfl, ?_⟩) s2 ?_
  rotate_left
  · intro w hSw; first | (obtain ⟨s1, s2, s3, s4, s5, s6, s7, s8⟩ := hSw; go_simp; rfl) | (obtain ⟨s1, s2, s3, s4, s5, s6, s7⟩ := hSw; go_simp; rfl) | (obtain ⟨s1, s2, s3⟩ := hSw; go_simp; rfl) | (obtain ⟨s1, s2⟩ := hSw; go_simp; rfl) | (have s1 := hSw; go_simp; rfl)
  go_simp
  refine wpAnyH_take (i := 3) (v := ?_) rfl (by kernel_rfl) (by kernel_rfl) (by kernel_rfl) (fun _ _ _ h => h) (Or.inl ⟨by rfl, ?_⟩) s2 ?_
  rotate_left
  · intro w hSw; first | (obtain ⟨s1, s2, s3, s4, s5, s6, s7, s8⟩ := hSw; go_simp; rfl) | (obtain ⟨s1, s2, s3, s4, s5, s6, s7⟩ := hSw; go_simp; rfl) | (obtain ⟨s1, s2, s3⟩ := hSw; go_simp; rfl) | (obtain ⟨s1, s2⟩ := hSw; go_simp; rfl) | (have s1 := hSw; go_simp; rfl)
  go_simp
  refine wpAnyH_take (i := 4) (v := ?_) rfl (by kernel_rfl) (by kernel_rfl) (by kernel_rfl) (fun _ _ _ h => h) (Or.inl ⟨by rfl, ?_⟩) s2 ?_
  rotate_left
  · intro w hSw; first | (obtain ⟨s1, s2, s3, s4, s5, s6, s7, s8⟩ := hSw; go_simp; rfl) | (obtain ⟨s1, s2, s3, s4, s5, s6, s7⟩ := hSw; go_simp; rfl) | (obtain ⟨s1, s2, s3⟩ := hSw; go_simp; rfl) | (obtain ⟨s1, s2⟩ := hSw; go_simp; rfl) | (have s1 := hSw; go_simp; rfl)
  go_simp
  refine wpAnyH_take (i := 5) (v := ?_) rfl (by kernel_rfl) (by kernel_rfl) (by kernel_rfl) (fun _ _ _ h => h) (Or.inl ⟨by rfl, ?_⟩) s2 ?_
  rotate_left
  · intro w hSw; first | (obtain ⟨s1, s2, s3, s4, s5, s6, s7, s8⟩ := hSw; go_simp; rfl) | (obtain ⟨s1, s2, s3, s4, s5, s6, s7⟩ := hSw; go_simp; rfl) | (obtain ⟨s1, s2, s3⟩ := hSw; go_simp; rfl) | (obtain ⟨s1, s2⟩ := hSw; go_simp; rfl) | (have s1 := hSw; go_simp; rfl)
  go_simp
  refine wpAnyH_take (i := 6) (v := ?_) rfl (by kernel_rfl) (by kernel_rfl) (by kernel_rfl) (fun _ _ _ h => h) (Or.inl ⟨by rfl, ?_⟩) s2 ?_
  rotate_left
  · intro w hSw; first | (obtain ⟨s1, s2, s3, s4, s5, s6, s7, s8⟩ := hSw; go_simp; rfl) | (obtain ⟨s1, s2, s3, s4, s5, s6, s7⟩ := hSw; go_simp; rfl) | (obtain ⟨s1, s2, s3⟩ := hSw; go_simp; rfl) | (obtain ⟨s1, s2⟩ := hSw; go_simp; rfl) | (have s1 := hSw; go_simp; rfl)
  go_simp
  refine wpAnyH_take (i := 7) (v := ?_) rfl (by kernel_rfl) (by kernel_rfl) (by kernel_rfl) (fun _ _ _ h => h) (Or.inl ⟨by rfl, ?_⟩) s2 ?_
  rotate_left
  · intro w hSw; first | (obtain ⟨s1, s2, s3, s4, s5, s6, s7, s8⟩ := hSw; go_simp; rfl) | (obtain ⟨s1, s2, s3, s4, s5, s6, s7⟩ := hSw; go_simp; rfl) | (obtain ⟨s1, s2, s3⟩ := hSw; go_simp; rfl) | (obtain ⟨s1, s2⟩ := hSw; go_simp; rfl) | (have s1 := hSw; go_simp; rfl)
  go_simp
  refine wpAnyH_take (i := 8) (v := ?_) rfl (by kernel_rfl) (by kernel_rfl) (by kernel_rfl) (fun _ _ _ h => h) (Or.inl ⟨by rfl, ?_⟩) s2 ?_
  rotate_left
  · intro w hSw; first | (obtain ⟨s1, s2, s3, s4, s5, s6, s7, s8⟩ := hSw; go_simp; rfl) | (obtain ⟨s1, s2, s3, s4, s5, s6, s7⟩ := hSw; go_simp; rfl) | (obtain ⟨s1, s2, s3⟩ := hSw; go_simp; rfl) | (obtain ⟨s1, s2⟩ := hSw; go_simp; rfl) | (have s1 := hSw; go_simp; rfl)
  go_simp
  refine wpAnyH_take (i := 9) (v := ?_) rfl (by kernel_rfl) (by kernel_rfl) (by kernel_rfl) (fun _ _ _ h => h) (Or.inl ⟨by rfl, ?_⟩) s2 ?_
  rotate_left
  · intro w hSw; first | (obtain ⟨s1, s2, s3, s4, s5, s6, s7, s8⟩ := hSw; go_simp; rfl) | (obtain ⟨s1, s2, s3, s4, s5, s6, s7⟩ := hSw; go_simp; rfl) | (obtain ⟨s1, s2, s3⟩ := hSw; go_simp; rfl) | (obtain ⟨s1, s2⟩ := hSw; go_simp; rfl) | (have s1 := hSw; go_simp; rfl)
  go_simp
  refine wpAnyH_take (i := 10) (v := ?_) rfl (by kernel_rfl) (by kernel_rfl) (by kernel_rfl) (fun _ _ _ h => h) (Or.inl ⟨by rfl, ?_⟩) s2 ?_
  rotate_left
  · intro w hSw; first | (obtain ⟨s1, s2, s3, s4, s5, s6, s7, s8⟩ := hSw; go_simp; rfl) | (obtain ⟨s1, s2, s3, s4, s5, s6, s7⟩ := hSw; go_simp; rfl) | (obtain ⟨s1, s2, s3⟩ := hSw; go_simp; rfl) | (obtain ⟨s1, s2⟩ := hSw; go_simp; rfl) | (have s1 := hSw; go_simp; rfl)
  go_simp
  refine wpAnyH_take (i := 12) (v := ?_) rfl (by kernel_rfl) (by kernel_rfl) (by kernel_rfl) (fun _ _ _ h => h) (Or.inl ⟨by rfl, ?_⟩) s2 ?_
  rotate_left
  · intro w hSw; first | (obtain ⟨s1, s2, s3, s4, s5, s6, s7, s8⟩ := hSw; go_simp; rfl) | (obtain ⟨s1, s2, s3, s4, s5, s6, s7⟩ := hSw; go_simp; rfl) | (obtain ⟨s1, s2, s3⟩ := hSw; go_simp; rfl) | (obtain ⟨s1, s2⟩ := hSw; go_simp; rfl) | (have s1 := hSw; go_simp; rfl)
  go_simp
  refine wpAnyH_take (i := 13) (v := ?_) rfl (by kernel_rfl) (by kernel_rfl) (by kernel_rfl) (fun _ _ _ h => h) (Or.inl ⟨by rfl, ?_⟩) s2 ?_
  rotate_left
  · intro w hSw; first | (obtain ⟨s1, s2, s3, s4, s5, s6, s7, s8⟩ := hSw; go_simp; rfl) | (obtain ⟨s1, s2, s3, s4, s5, s6, s7⟩ := hSw; go_simp; rfl) | (obtain ⟨s1, s2, s3⟩ := hSw; go_simp; rfl) | (obtain ⟨s1, s2⟩ := hSw; go_simp; rfl) | (have s1 := hSw; go_simp; rfl)
  go_simp
  refine wpAnyH_take (i := 16) (v := ?_) rfl (by kernel_rfl) (by kernel_rfl) (by kernel_rfl) (fun _ _ _ h => h) (Or.inl ⟨by rfl, ?_⟩) s2 ?_
  rotate_left
  · intro w hSw; first | (obtain ⟨s1, s2, s3, s4, s5, s6, s7, s8⟩ := hSw; go_simp; rfl) | (obtain ⟨s1, s2, s3, s4, s5, s6, s7⟩ := hSw; go_simp; rfl) | (obtain ⟨s1, s2, s3⟩ := hSw; go_simp; rfl) | (obtain ⟨s1, s2⟩ := hSw; go_simp; rfl) | (have s1 := hSw; go_simp; rfl)
  go_simp
  refine wpAnyH_take (i := 17) (v := ?_) rfl (by kernel_rfl) (by kernel_rfl) (by kernel_rfl) (fun _ _ _ h => h) (Or.inl ⟨by rfl, ?_⟩) s2 ?_
  rotate_left
  · intro w hSw; first | (obtain ⟨s1, s2, s3, s4, s5, s6, s7, s8⟩ := hSw; go_simp; rfl) | (obtain ⟨s1, s2, s3, s4, s5, s6, s7⟩ := hSw; go_simp; rfl) | (obtain ⟨s1, s2, s3⟩ := hSw; go_simp; rfl) | (obtain ⟨s1, s2⟩ := hSw; go_simp; rfl) | (have s1 := hSw; go_simp; rfl)
  go_simp
  refine heldEither (i := 11) (j := 14) (by kernel_rfl) rfl rfl (by rfl) (by rfl) (fun K hK => ?_) (fun K hK => ?_)
  · have yb := (HN2.out.cell hl id _).trans cb
    go_simp
    refine hK.out _ _ s2 ?_
    clear hK K yb
    refine heldOne (i := 14) (by kernel_rfl) rfl (by rfl) (fun K hK => ?_)
    go_simp
    refine (HVV.out w2 HN2.out).mono ?_
    rintro e w4 ⟨rfl, hn4⟩
    have hb4 := (hn4.block xb (lt_of_block HB2.out) id).trans HB2.out
    have HN4 := Lib.hid (HN2.out.trans hn4)
    have HB4 := Lib.hid hb4
    have s4 := box_cells hb4
    refine hK.out _ _ s4 ?_
    clear hK K hn4 hb4
    refine heldOne (i := 15) (by kernel_rfl) rfl (by rfl) (fun K hK => ?_)
    go_simp
    refine (HK.out w4).mono ?_
    rintro e w' ⟨rfl, rfl⟩
    refine hK.out _ _ s4 ?_
    clear hK K
    refine wpAnyH_take (i := 18) (v := ?_) rfl (by kernel_rfl) (by kernel_rfl) (by kernel_rfl) (fun _ _ _ h => h) (Or.inl ⟨by rfl, ?_⟩) s4 ?_
    rotate_left
    · intro w hSw; first | (obtain ⟨s1, s2, s3, s4, s5, s6, s7, s8⟩ := hSw; go_simp; rfl) | (obtain ⟨s1, s2, s3, s4, s5, s6, s7⟩ := hSw; go_simp; rfl) | (obtain ⟨s1, s2, s3⟩ := hSw; go_simp; rfl) | (obtain ⟨s1, s2⟩ := hSw; go_simp; rfl) | (have s1 := hSw; go_simp; rfl)
    go_simp
    have HNS := HN4
    have HBS := HB4
    refine heldOne (i := 19) (by kernel_rfl) rfl (by rfl) (fun K hK => ?_)
    have HH := Lib.hid (H.out.new HNS.out)
    have ya := HH.out.fr.regD ha
    have yz := HH.out.fr.free
    go_simp
    have hs5 := HH.out.setReg ha hR
    have hb5 : (w4.setCell ⟨fb, o + 1 + a, none⟩ (.int .u64 (R : Nat))).heap[xb]? = _ := (block_setCell_ne (by omega) _).trans HBS.out
    have HS5 := Lib.hid hs5
    have HB5 := Lib.hid hb5
    have HF5 := Lib.hid ((Fr34.new hl HNS.out).trans (Fr34.set (fb := fb) (o := o) (i := o + 1 + a) (.int .u64 (R : Nat)) (by omega) (by omega)))
    refine hK.out _ _ (box_cells hb5) ?_
    clear hK K ya yz hs5 hb5
    refine wpAnyH_done (by kernel_rfl) ?_ _
    generalize w4.setCell ⟨fb, o + 1 + a, none⟩ (.int .u64 (R : Nat)) = w5 at HS5 HB5 HF5 ⊢
    have e0 : w5.cell? ⟨fb, o, none⟩ = some (.int .i64 k) := by rw [← HPC.out]; exact HS5.out.fr.pc
    have zf : ∀ i, w5.frozen? ⟨fb, i, none⟩ = false := HS5.out.fr.free
    go_wp2
    go_ret2
    rw [HE.out]
    exact ⟨_, rfl, HS5.out.setPc _, HF5.out.trans (Fr34.set _ (Nat.le_refl _) (by omega)), fun k hk => .inl hk⟩
  · go_simp
    refine (HVV.out w2 HN2.out).mono ?_
    rintro e w4 ⟨rfl, hn4⟩
    have hb4 := (hn4.block xb (lt_of_block HB2.out) id).trans HB2.out
    have HN4 := Lib.hid (HN2.out.trans hn4)
    have HB4 := Lib.hid hb4
    have s4 := box_cells hb4
    refine hK.out _ _ s4 ?_
    clear hK K hn4 hb4 s2
    refine heldOne (i := 11) (by kernel_rfl) rfl (by rfl) (fun K hK => ?_)
    have yb := (HN4.out.cell hl id _).trans cb
    go_simp
    refine hK.out _ _ s4 ?_
    clear hK K yb
    refine heldOne (i := 15) (by kernel_rfl) rfl (by rfl) (fun K hK => ?_)
    go_simp
    refine (HK.out w4).mono ?_
    rintro e w' ⟨rfl, rfl⟩
    refine hK.out _ _ s4 ?_
    clear hK K
    refine wpAnyH_take (i := 18) (v := ?_) rfl (by kernel_rfl) (by kernel_rfl) (by kernel_rfl) (fun _ _ _ h => h) (Or.inl ⟨by rfl, ?_⟩) s4 ?_
    rotate_left
    · intro w hSw; first | (obtain ⟨s1, s2, s3, s4, s5, s6, s7, s8⟩ := hSw; go_simp; rfl) | (obtain ⟨s1, s2, s3, s4, s5, s6, s7⟩ := hSw; go_simp; rfl) | (obtain ⟨s1, s2, s3⟩ := hSw; go_simp; rfl) | (obtain ⟨s1, s2⟩ := hSw; go_simp; rfl) | (have s1 := hSw; go_simp; rfl)
    go_simp
    have HNS := HN4
    have HBS := HB4
    refine heldOne (i := 19) (by kernel_rfl) rfl (by rfl) (fun K hK => ?_)
    have HH := Lib.hid (H.out.new HNS.out)
    have ya := HH.out.fr.regD ha
    have yz := HH.out.fr.free
    go_simp
    have hs5 := HH.out.setReg ha hR
    have hb5 : (w4.setCell ⟨fb, o + 1 + a, none⟩ (.int .u64 (R : Nat))).heap[xb]? = _ := (block_setCell_ne (by omega) _).trans HBS.out
    have HS5 := Lib.hid hs5
    have HB5 := Lib.hid hb5
    have HF5 := Lib.hid ((Fr34.new hl HNS.out).trans (Fr34.set (fb := fb) (o := o) (i := o + 1 + a) (.int .u64 (R : Nat)) (by omega) (by omega)))
    refine hK.out _ _ (box_cells hb5) ?_
    clear hK K ya yz hs5 hb5
    refine wpAnyH_done (by kernel_rfl) ?_ _
    generalize w4.setCell ⟨fb, o + 1 + a, none⟩ (.int .u64 (R : Nat)) = w5 at HS5 HB5 HF5 ⊢
    have e0 : w5.cell? ⟨fb, o, none⟩ = some (.int .i64 k) := by rw [← HPC.out]; exact HS5.out.fr.pc
    have zf : ∀ i, w5.frozen? ⟨fb, i, none⟩ = false := HS5.out.fr.free
    go_wp2
    go_ret2
    rw [HE.out]
    exact ⟨_, rfl, HS5.out.setPc _, HF5.out.trans (Fr34.set _ (Nat.le_refl _) (by omega)), fun k hk => .inl hk⟩

set_option maxRecDepth 100000 in
set_option maxHeartbeats 8000000 in
theorem rstep_11 (a b : Nat) (ha : a < 32) (hb : b < 32) (hB : B = b) (h : FmAt w fb o v F) (hi : InsAt w cg co k 11 a B C V M W) (hk : k < n) (hn : n ≤ 1000000) (hV : V < 18446744073709551616) (hpc : F.pc = k) (hg : goodV 11 a B C V n = true) :
    Calls Tryd.prog 11 #[.pointer (some ⟨fb, o, none⟩), .slice (some ⟨cg, co, none⟩) n cap, cv] w fun e w' => RStepped w fb o v (0, reckF 11 a B C V F) e w' := by
  subst hB
  have c0 := h.fr.pc
  have hl := h.fr.lt
  rw [hpc] at c0
  unfold goodV at hg
  rw [show ((11 : Int) != 22) = true from rfl] at hg
  have HRT := Lib.hid (fun w' => right_any 11 a b C 0 0 V n true w' hV (by omega))
  rw [hg] at HRT
  have HI := Lib.hid hi
  obtain ⟨_, x0, x1, x2, x3, x4, x5, x6⟩ := hi
  have q1 : (0 : Int) ≤ (k : Int) := by omega
  have q2 : (k : Int) < (n : Int) := by omega
  have tk : IntKind.i64.wrap ((k : Int) + 1) = (k : Int) + 1 := IntWalk.i64_in _ (by omega)
  have H := Lib.hid h
  have HPC := Lib.hid hpc
  have q3 : (0 : Int) ≤ (a : Int) := by omega
  have q4 : (a : Int) < 32 := by omega
  obtain ⟨X, hX⟩ : ∃ X, F.rs.getD b 0 = X := ⟨_, rfl⟩
  have hXf := getD_fit h.fr.fits b
  have cb := h.fr.regD hb
  have hc := valN_fit h.fr.fits C hV
  rw [hX] at hXf cb
  have HVV := Lib.hid (fun w' (f : New w w') => rvalue_any fb o F.pc F.rs v 11 a b C V M W w' (h.fr.new f))
  have hE : reckF 11 a b C V F = ⟨(k : Int) + 1, F.rs.set a (reckN 11 V X (valN F.rs C V)), F.bk⟩ := by
    unfold reckF
    rw [hpc, show regN F.rs (b : Int) = X by unfold regN; rw [if_pos ⟨by omega, by omega⟩]; exact hX]
  have HE := Lib.hid hE
  have hR := reckN_fit 11 hV hXf hc
  have HK := Lib.hid (fun w' => rreckon_any 11 V _ _ w' (by omega) hXf hc)
  generalize valN F.rs C V = Y at HVV HE hR HK hc
  generalize reckN 11 V X Y = R at HE hR HK
  have q5 : (0 : Int) ≤ (b : Int) := by omega
  have q6 : (b : Int) < 32 := by omega
  clear h hg hpc hX hE
  go_enter Tryd.func11, Tryd.ntmps11
  go_wp2_with fail
  obtain ⟨W0, hW0⟩ : ∃ W0, (w.alloc (.cells #[.int .i64 11, .int .i64 a, .int .i64 b, .int .i64 C, .int .u64 V, .int .i64 M, .int .i64 W] 52)).alloc (.cells #[.int .i64 11, .int .i64 a, .int .i64 b, .int .i64 C, .int .u64 V, .int .i64 0, .int .i64 0] 52) = W0 := ⟨_, rfl⟩
  have hn0 : New w W0 := by rw [← hW0]; exact ((Fr.refl _ _).alloc _).alloc _
  have hb0 : W0.heap[w.heap.size]? = some (.cells #[.int .i64 11, .int .i64 a, .int .i64 b, .int .i64 C, .int .u64 V, .int .i64 M, .int .i64 W] 52 (0, 0)) := by rw [← hW0, block_alloc (by simp)]; exact block_alloc_new _ _
  rw [hW0]
  obtain ⟨xb, hxb⟩ : ∃ xb, w.heap.size = xb := ⟨_, rfl⟩
  have hxf : fb < xb := by omega
  rw [hxb] at hb0 ⊢
  refine (HRT.out _).mono ?_
  rintro e w1 ⟨rfl, hn1⟩
  have hb1 := (hn1.block xb (lt_of_block hb0) id).trans hb0
  have HB1 := Lib.hid hb1
  have HN1 := Lib.hid (hn0.trans hn1)
  have hx1 := lt_of_block hb1
  obtain ⟨y0, y1, y2, y3, y4, y5, y6⟩ := box_cells hb1
  have d0 := (HN1.out.cell hl id o).trans c0
  have zf : ∀ i, w1.frozen? ⟨fb, i, none⟩ = false := fun i => (HN1.out.frozen hl id i).trans (H.out.fr.free i)
  clear hW0 hn0 hb0 hn1 hb1 c0 x0 x1 x2 x3 x4 x5 x6 HRT HI
  go_wp2_with fail
  have n2 : New w1 w1.drew := (Fr.refl _ _).drew
  have HB2 := Lib.hid ((n2.block xb hx1 id).trans HB1.out)
  have HN2 := Lib.hid (HN1.out.trans n2)
  refine heldStart (fun wz => wz.cell? ⟨xb, 0, none⟩ = some (.int .i64 11) ∧ wz.cell? ⟨xb, 1, none⟩ = some (.int .i64 a) ∧ wz.cell? ⟨xb, 2, none⟩ = some (.int .i64 b) ∧ wz.cell? ⟨xb, 3, none⟩ = some (.int .i64 C) ∧ wz.cell? ⟨xb, 4, none⟩ = some (.int .u64 V) ∧ wz.cell? ⟨xb, 5, none⟩ = some (.int .i64 M) ∧ wz.cell? ⟨xb, 6, none⟩ = some (.int .i64 W)) (by kernel_rfl) ?_
  generalize w1.drew = w2 at n2 HB2 HN2 ⊢
  have s2 := box_cells HB2.out
  clear d0 zf y0 y1 y2 y3 y4 y5 y6 n2
  refine wpAnyH_take (i := 0) (v := ?_) rfl (by kernel_rfl) (by kernel_rfl) (by kernel_rfl) (fun _ _ _ h => h) (Or.inl ⟨by rfl, ?_⟩) s2 ?_
  rotate_left
  · intro w hSw; first | (obtain ⟨s1, s2, s3, s4, s5, s6, s7, s8⟩ := hSw; go_simp; rfl) | (obtain ⟨s1, s2, s3, s4, s5, s6, s7⟩ := hSw; go_simp; rfl) | (obtain ⟨s1, s2, s3⟩ := hSw; go_simp; rfl) | (obtain ⟨s1, s2⟩ := hSw; go_simp; rfl) | (have s1 := hSw; go_simp; rfl)
  go_simp
  refine wpAnyH_take (i := 1) (v := ?_) rfl (by kernel_rfl) (by kernel_rfl) (by kernel_rfl) (fun _ _ _ h => h) (Or.inl ⟨by rfl, ?_⟩) s2 ?_
  rotate_left
  · intro w hSw; first | (obtain ⟨s1, s2, s3, s4, s5, s6, s7, s8⟩ := hSw; go_simp; rfl) | (obtain ⟨s1, s2, s3, s4, s5, s6, s7⟩ := hSw; go_simp; rfl) | (obtain ⟨s1, s2, s3⟩ := hSw; go_simp; rfl) | (obtain ⟨s1, s2⟩ := hSw; go_simp; rfl) | (have s1 := hSw; go_simp; rfl)
  go_simp
  refine wpAnyH_take (i := 2) (v := ?_) rfl (by kernel_rfl) (by kernel_rfl) (by kernel_rfl) (fun _ _ _ h => h) (Or.inl ⟨by rfl, ?_⟩) s2 ?_
  rotate_left
  · intro w hSw; first | (obtain ⟨s1, s2, s3, s4, s5, s6, s7, s8⟩ := hSw; go_simp; rfl) | (obtain ⟨s1, s2, s3, s4, s5, s6, s7⟩ := hSw; go_simp; rfl) | (obtain ⟨s1, s2, s3⟩ := hSw; go_simp; rfl) | (obtain ⟨s1, s2⟩ := hSw; go_simp; rfl) | (have s1 := hSw; go_simp; rfl)
  go_simp
  refine wpAnyH_take (i := 3) (v := ?_) rfl (by kernel_rfl) (by kernel_rfl) (by kernel_rfl) (fun _ _ _ h => h) (Or.inl ⟨by rfl, ?_⟩) s2 ?_
  rotate_left
  · intro w hSw; first | (obtain ⟨s1, s2, s3, s4, s5, s6, s7, s8⟩ := hSw; go_simp; rfl) | (obtain ⟨s1, s2, s3, s4, s5, s6, s7⟩ := hSw; go_simp; rfl) | (obtain ⟨s1, s2, s3⟩ := hSw; go_simp; rfl) | (obtain ⟨s1, s2⟩ := hSw; go_simp; rfl) | (have s1 := hSw; go_simp; rfl)
  go_simp
  refine wpAnyH_take (i := 4) (v := ?_) rfl (by kernel_rfl) (by kernel_rfl) (by kernel_rfl) (fun _ _ _ h => h) (Or.inl ⟨by rfl, ?_⟩) s2 ?_
  rotate_left
  · intro w hSw; first | (obtain ⟨s1, s2, s3, s4, s5, s6, s7, s8⟩ := hSw; go_simp; rfl) | (obtain ⟨s1, s2, s3, s4, s5, s6, s7⟩ := hSw; go_simp; rfl) | (obtain ⟨s1, s2, s3⟩ := hSw; go_simp; rfl) | (obtain ⟨s1, s2⟩ := hSw; go_simp; rfl) | (have s1 := hSw; go_simp; rfl)
  go_simp
  refine wpAnyH_take (i := 5) (v := ?_) rfl (by kernel_rfl) (by kernel_rfl) (by kernel_rfl) (fun _ _ _ h => h) (Or.inl ⟨by rfl, ?_⟩) s2 ?_
  rotate_left
  · intro w hSw; first | (obtain ⟨s1, s2, s3, s4, s5, s6, s7, s8⟩ := hSw; go_simp; rfl) | (obtain ⟨s1, s2, s3, s4, s5, s6, s7⟩ := hSw; go_simp; rfl) | (obtain ⟨s1, s2, s3⟩ := hSw; go_simp; rfl) | (obtain ⟨s1, s2⟩ := hSw; go_simp; rfl) | (have s1 := hSw; go_simp; rfl)
  go_simp
  refine wpAnyH_take (i := 6) (v := ?_) rfl (by kernel_rfl) (by kernel_rfl) (by kernel_rfl) (fun _ _ _ h => h) (Or.inl ⟨by rfl, ?_⟩) s2 ?_
  rotate_left
  · intro w hSw; first | (obtain ⟨s1, s2, s3, s4, s5, s6, s7, s8⟩ := hSw; go_simp; rfl) | (obtain ⟨s1, s2, s3, s4, s5, s6, s7⟩ := hSw; go_simp; rfl) | (obtain ⟨s1, s2, s3⟩ := hSw; go_simp; rfl) | (obtain ⟨s1, s2⟩ := hSw; go_simp; rfl) | (have s1 := hSw; go_simp; rfl)
  go_simp
  refine wpAnyH_take (i := 7) (v := ?_) rfl (by kernel_rfl) (by kernel_rfl) (by kernel_rfl) (fun _ _ _ h => h) (Or.inl ⟨by rfl, ?_⟩) s2 ?_
  rotate_left
  · intro w hSw; first | (obtain ⟨s1, s2, s3, s4, s5, s6, s7, s8⟩ := hSw; go_simp; rfl) | (obtain ⟨s1, s2, s3, s4, s5, s6, s7⟩ := hSw; go_simp; rfl) | (obtain ⟨s1, s2, s3⟩ := hSw; go_simp; rfl) | (obtain ⟨s1, s2⟩ := hSw; go_simp; rfl) | (have s1 := hSw; go_simp; rfl)
  go_simp
  refine wpAnyH_take (i := 8) (v := ?_) rfl (by kernel_rfl) (by kernel_rfl) (by kernel_rfl) (fun _ _ _ h => h) (Or.inl ⟨by rfl, ?_⟩) s2 ?_
  rotate_left
  · intro w hSw; first | (obtain ⟨s1, s2, s3, s4, s5, s6, s7, s8⟩ := hSw; go_simp; rfl) | (obtain ⟨s1, s2, s3, s4, s5, s6, s7⟩ := hSw; go_simp; rfl) | (obtain ⟨s1, s2, s3⟩ := hSw; go_simp; rfl) | (obtain ⟨s1, s2⟩ := hSw; go_simp; rfl) | (have s1 := hSw; go_simp; rfl)
  go_simp
  refine wpAnyH_take (i := 9) (v := ?_) rfl (by kernel_rfl) (by kernel_rfl) (by kernel_rfl) (fun _ _ _ h => h) (Or.inl ⟨by rfl, ?_⟩) s2 ?_
  rotate_left
  · intro w hSw; first | (obtain ⟨s1, s2, s3, s4, s5, s6, s7, s8⟩ := hSw; go_simp; rfl) | (obtain ⟨s1, s2, s3, s4, s5, s6, s7⟩ := hSw; go_simp; rfl) | (obtain ⟨s1, s2, s3⟩ := hSw; go_simp; rfl) | (obtain ⟨s1, s2⟩ := hSw; go_simp; rfl) | (have s1 := hSw; go_simp; rfl)
  go_simp
  refine wpAnyH_take (i := 10) (v := ?_) rfl (by kernel_rfl) (by kernel_rfl) (by kernel_rfl) (fun _ _ _ h => h) (Or.inl ⟨by rfl, ?_⟩) s2 ?_
  rotate_left
  · intro w hSw; first | (obtain ⟨s1, s2, s3, s4, s5, s6, s7, s8⟩ := hSw; go_simp; rfl) | (obtain ⟨s1, s2, s3, s4, s5, s6, s7⟩ := hSw; go_simp; rfl) | (obtain ⟨s1, s2, s3⟩ := hSw; go_simp; rfl) | (obtain ⟨s1, s2⟩ := hSw; go_simp; rfl) | (have s1 := hSw; go_simp; rfl)
  go_simp
  refine wpAnyH_take (i := 12) (v := ?_) rfl (by kernel_rfl) (by kernel_rfl) (by kernel_rfl) (fun _ _ _ h => h) (Or.inl ⟨by rfl, ?_⟩) s2 ?_
  rotate_left
  · intro w hSw; first | (obtain ⟨s1, s2, s3, s4, s5, s6, s7, s8⟩ := hSw; go_simp; rfl) | (obtain ⟨s1, s2, s3, s4, s5, s6, s7⟩ := hSw; go_simp; rfl) | (obtain ⟨s1, s2, s3⟩ := hSw; go_simp; rfl) | (obtain ⟨s1, s2⟩ := hSw; go_simp; rfl) | (have s1 := hSw; go_simp; rfl)
  go_simp
  refine wpAnyH_take (i := 13) (v := ?_) rfl (by kernel_rfl) (by kernel_rfl) (by kernel_rfl) (fun _ _ _ h => h) (Or.inl ⟨by rfl, ?_⟩) s2 ?_
  rotate_left
  · intro w hSw; first | (obtain ⟨s1, s2, s3, s4, s5, s6, s7, s8⟩ := hSw; go_simp; rfl) | (obtain ⟨s1, s2, s3, s4, s5, s6, s7⟩ := hSw; go_simp; rfl) | (obtain ⟨s1, s2, s3⟩ := hSw; go_simp; rfl) | (obtain ⟨s1, s2⟩ := hSw; go_simp; rfl) | (have s1 := hSw; go_simp; rfl)
  go_simp
  refine wpAnyH_take (i := 16) (v := ?_) rfl (by kernel_rfl) (by kernel_rfl) (by kernel_rfl) (fun _ _ _ h => h) (Or.inl ⟨by rfl, ?_⟩) s2 ?_
  rotate_left
  · intro w hSw; first | (obtain ⟨s1, s2, s3, s4, s5, s6, s7, s8⟩ := hSw; go_simp; rfl) | (obtain ⟨s1, s2, s3, s4, s5, s6, s7⟩ := hSw; go_simp; rfl) | (obtain ⟨s1, s2, s3⟩ := hSw; go_simp; rfl) | (obtain ⟨s1, s2⟩ := hSw; go_simp; rfl) | (have s1 := hSw; go_simp; rfl)
  go_simp
  refine wpAnyH_take (i := 17) (v := ?_) rfl (by kernel_rfl) (by kernel_rfl) (by kernel_rfl) (fun _ _ _ h => h) (Or.inl ⟨by rfl, ?_⟩) s2 ?_
  rotate_left
  · intro w hSw; first | (obtain ⟨s1, s2, s3, s4, s5, s6, s7, s8⟩ := hSw; go_simp; rfl) | (obtain ⟨s1, s2, s3, s4, s5, s6, s7⟩ := hSw; go_simp; rfl) | (obtain ⟨s1, s2, s3⟩ := hSw; go_simp; rfl) | (obtain ⟨s1, s2⟩ := hSw; go_simp; rfl) | (have s1 := hSw; go_simp; rfl)
  go_simp
  refine heldEither (i := 11) (j := 14) (by kernel_rfl) rfl rfl (by rfl) (by rfl) (fun K hK => ?_) (fun K hK => ?_)
  · have yb := (HN2.out.cell hl id _).trans cb
    go_simp
    refine hK.out _ _ s2 ?_
    clear hK K yb
    refine heldOne (i := 14) (by kernel_rfl) rfl (by rfl) (fun K hK => ?_)
    go_simp
    refine (HVV.out w2 HN2.out).mono ?_
    rintro e w4 ⟨rfl, hn4⟩
    have hb4 := (hn4.block xb (lt_of_block HB2.out) id).trans HB2.out
    have HN4 := Lib.hid (HN2.out.trans hn4)
    have HB4 := Lib.hid hb4
    have s4 := box_cells hb4
    refine hK.out _ _ s4 ?_
    clear hK K hn4 hb4
    refine heldOne (i := 15) (by kernel_rfl) rfl (by rfl) (fun K hK => ?_)
    go_simp
    refine (HK.out w4).mono ?_
    rintro e w' ⟨rfl, rfl⟩
    refine hK.out _ _ s4 ?_
    clear hK K
    refine wpAnyH_take (i := 18) (v := ?_) rfl (by kernel_rfl) (by kernel_rfl) (by kernel_rfl) (fun _ _ _ h => h) (Or.inl ⟨by rfl, ?_⟩) s4 ?_
    rotate_left
    · intro w hSw; first | (obtain ⟨s1, s2, s3, s4, s5, s6, s7, s8⟩ := hSw; go_simp; rfl) | (obtain ⟨s1, s2, s3, s4, s5, s6, s7⟩ := hSw; go_simp; rfl) | (obtain ⟨s1, s2, s3⟩ := hSw; go_simp; rfl) | (obtain ⟨s1, s2⟩ := hSw; go_simp; rfl) | (have s1 := hSw; go_simp; rfl)
    go_simp
    have HNS := HN4
    have HBS := HB4
    refine heldOne (i := 19) (by kernel_rfl) rfl (by rfl) (fun K hK => ?_)
    have HH := Lib.hid (H.out.new HNS.out)
    have ya := HH.out.fr.regD ha
    have yz := HH.out.fr.free
    go_simp
    have hs5 := HH.out.setReg ha hR
    have hb5 : (w4.setCell ⟨fb, o + 1 + a, none⟩ (.int .u64 (R : Nat))).heap[xb]? = _ := (block_setCell_ne (by omega) _).trans HBS.out
    have HS5 := Lib.hid hs5
    have HB5 := Lib.hid hb5
    have HF5 := Lib.hid ((Fr34.new hl HNS.out).trans (Fr34.set (fb := fb) (o := o) (i := o + 1 + a) (.int .u64 (R : Nat)) (by omega) (by omega)))
    refine hK.out _ _ (box_cells hb5) ?_
    clear hK K ya yz hs5 hb5
    refine wpAnyH_done (by kernel_rfl) ?_ _
    generalize w4.setCell ⟨fb, o + 1 + a, none⟩ (.int .u64 (R : Nat)) = w5 at HS5 HB5 HF5 ⊢
    have e0 : w5.cell? ⟨fb, o, none⟩ = some (.int .i64 k) := by rw [← HPC.out]; exact HS5.out.fr.pc
    have zf : ∀ i, w5.frozen? ⟨fb, i, none⟩ = false := HS5.out.fr.free
    go_wp2
    go_ret2
    rw [HE.out]
    exact ⟨_, rfl, HS5.out.setPc _, HF5.out.trans (Fr34.set _ (Nat.le_refl _) (by omega)), fun k hk => .inl hk⟩
  · go_simp
    refine (HVV.out w2 HN2.out).mono ?_
    rintro e w4 ⟨rfl, hn4⟩
    have hb4 := (hn4.block xb (lt_of_block HB2.out) id).trans HB2.out
    have HN4 := Lib.hid (HN2.out.trans hn4)
    have HB4 := Lib.hid hb4
    have s4 := box_cells hb4
    refine hK.out _ _ s4 ?_
    clear hK K hn4 hb4 s2
    refine heldOne (i := 11) (by kernel_rfl) rfl (by rfl) (fun K hK => ?_)
    have yb := (HN4.out.cell hl id _).trans cb
    go_simp
    refine hK.out _ _ s4 ?_
    clear hK K yb
    refine heldOne (i := 15) (by kernel_rfl) rfl (by rfl) (fun K hK => ?_)
    go_simp
    refine (HK.out w4).mono ?_
    rintro e w' ⟨rfl, rfl⟩
    refine hK.out _ _ s4 ?_
    clear hK K
    refine wpAnyH_take (i := 18) (v := ?_) rfl (by kernel_rfl) (by kernel_rfl) (by kernel_rfl) (fun _ _ _ h => h) (Or.inl ⟨by rfl, ?_⟩) s4 ?_
    rotate_left
    · intro w hSw; first | (obtain ⟨s1, s2, s3, s4, s5, s6, s7, s8⟩ := hSw; go_simp; rfl) | (obtain ⟨s1, s2, s3, s4, s5, s6, s7⟩ := hSw; go_simp; rfl) | (obtain ⟨s1, s2, s3⟩ := hSw; go_simp; rfl) | (obtain ⟨s1, s2⟩ := hSw; go_simp; rfl) | (have s1 := hSw; go_simp; rfl)
    go_simp
    have HNS := HN4
    have HBS := HB4
    refine heldOne (i := 19) (by kernel_rfl) rfl (by rfl) (fun K hK => ?_)
    have HH := Lib.hid (H.out.new HNS.out)
    have ya := HH.out.fr.regD ha
    have yz := HH.out.fr.free
    go_simp
    have hs5 := HH.out.setReg ha hR
    have hb5 : (w4.setCell ⟨fb, o + 1 + a, none⟩ (.int .u64 (R : Nat))).heap[xb]? = _ := (block_setCell_ne (by omega) _).trans HBS.out
    have HS5 := Lib.hid hs5
    have HB5 := Lib.hid hb5
    have HF5 := Lib.hid ((Fr34.new hl HNS.out).trans (Fr34.set (fb := fb) (o := o) (i := o + 1 + a) (.int .u64 (R : Nat)) (by omega) (by omega)))
    refine hK.out _ _ (box_cells hb5) ?_
    clear hK K ya yz hs5 hb5
    refine wpAnyH_done (by kernel_rfl) ?_ _
    generalize w4.setCell ⟨fb, o + 1 + a, none⟩ (.int .u64 (R : Nat)) = w5 at HS5 HB5 HF5 ⊢
    have e0 : w5.cell? ⟨fb, o, none⟩ = some (.int .i64 k) := by rw [← HPC.out]; exact HS5.out.fr.pc
    have zf : ∀ i, w5.frozen? ⟨fb, i, none⟩ = false := HS5.out.fr.free
    go_wp2
    go_ret2
    rw [HE.out]
    exact ⟨_, rfl, HS5.out.setPc _, HF5.out.trans (Fr34.set _ (Nat.le_refl _) (by omega)), fun k hk => .inl hk⟩

end

end Go.Proofs.YtngpcalgjaglmaaDoor
