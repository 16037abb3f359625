/- A step: what is reckoned; an access of a cell that is there; no cells. -/
import Derived.Test.YtngpcalgjaglmaaDoorVmE
namespace Go.Proofs.YtngpcalgjaglmaaDoor
open Go.RowKit

section
variable (fb o : Nat) (v cv : Value) (F : Fm) (cg co n cap k : Nat) (op A B C : Int) (V : Nat) (M W : Int) (w : World)

/-- Behind a reckoning. -/
def reckF (op : Int) (a : Nat) (B C : Int) (V : Nat) (F : Fm) : Fm := ⟨F.pc + 1, F.rs.set a (reckN op V (regN F.rs B) (valN F.rs C V)), F.bk⟩

set_option maxRecDepth 100000 in
set_option maxHeartbeats 8000000 in
theorem step_reck1 (a : Nat) (h : FmAt w fb o v F) (hi : InsAt w cg co k 1 a B C V M W) (hk : k < n) (hn : n ≤ 1000000) (hV : V < 18446744073709551616) (hpc : F.pc = k) (hg : goodV 1 a B C V n = true) (ha : a < 32) :
    Calls Tryd.prog 10 #[.pointer (some ⟨fb, o, none⟩), .slice (some ⟨cg, co, none⟩) n cap, cv] w fun e w' => Stepped w fb o v (0, reckF 1 a B C V F) e w' := by
  have c0 := h.fr.pc
  have hl := h.fr.lt
  rw [hpc] at c0
  have HM := Lib.hid (fun w' => vmay_any 1 a B C V M W n w' hV (by omega) (by omega))
  unfold goodV at hg
  rw [hg] at HM
  have HI := Lib.hid hi
  have HR := Lib.hid (fun w' (f : New w w') => read_any fb o F.pc F.rs v B w' (h.fr.new f))
  have HVV := Lib.hid (fun w' (f : New w w') => value_any fb o F.pc F.rs v 1 a B C V M W w' (h.fr.new f))
  have hb := regN_fit h.fr.fits B
  have hc := valN_fit h.fr.fits C hV
  have hrk := reckN_fit 1 hV hb hc
  have HK := Lib.hid (fun w' => reckon_any 1 a B C V M W _ _ w' (by omega) hb hc)
  have HE := Lib.hid (show reckF 1 a B C V F = ⟨F.pc + 1, F.rs.set a (reckN 1 V (regN F.rs B) (valN F.rs C V)), F.bk⟩ from rfl)
  generalize regN F.rs B = b at HR HK HE hrk
  generalize valN F.rs C V = c at HVV HK HE hrk
  generalize reckN 1 V b c = R at HK HE hrk
  obtain ⟨_, x0, x1, x2, x3, x4, x5, x6⟩ := hi
  have q1 : (0 : Int) ≤ (k : Int) := by omega
  have q2 : (k : Int) < (n : Int) := by omega
  have q3 : (0 : Int) ≤ (a : Int) := by omega
  have q4 : (a : Int) < 32 := by omega
  have t1 : IntKind.i64.wrap ((k : Int) + 1) = (k : Int) + 1 := IntWalk.i64_in _ (by omega)
  have ca := h.fr.regD ha
  have H := Lib.hid h
  have HPC := Lib.hid hpc
  have z0 := h.fr.free
  clear h hg hpc hb hc
  go_enter Tryd.func10, Tryd.ntmps10
  go_wp2_with fail
  refine (HM.out _).mono ?_
  rintro e w1 ⟨rfl, hn1⟩
  obtain ⟨_, y0, y1, y2, y3, y4, y5, y6⟩ := HI.out.keep hn1 id
  have d0 := (hn1.cell hl id _).trans c0
  have HN1 := Lib.hid hn1
  clear c0 x0 x1 x2 x3 x4 x5 x6 hn1
  go_wp2_with fail
  obtain ⟨W0, hW0⟩ : ∃ W0, (w1.alloc (.cells #[.int .i64 1, .int .i64 a, .int .i64 B, .int .i64 C, .int .u64 V, .int .i64 M, .int .i64 W] 52)).drew = W0 := ⟨_, rfl⟩
  have hn0 : New w1 W0 := by rw [← hW0]; exact ((Fr.refl _ _).alloc _).drew
  have hb0 : W0.heap[w1.heap.size]? = some (.cells #[.int .i64 1, .int .i64 a, .int .i64 B, .int .i64 C, .int .u64 V, .int .i64 M, .int .i64 W] 52 (0, 0)) := by rw [← hW0]; exact block_alloc_new _ _
  have hfl : fb < w1.heap.size := Nat.lt_of_lt_of_le hl HN1.out.size
  obtain ⟨xb, hxb⟩ : ∃ xb, w1.heap.size = xb := ⟨_, rfl⟩
  rw [hxb] at hb0 hfl ⊢
  have hxl := lt_of_block hb0
  refine heldStart (fun wz => wz.cell? ⟨xb, 0, none⟩ = some (.int .i64 1) ∧ wz.cell? ⟨xb, 1, none⟩ = some (.int .i64 a) ∧ wz.cell? ⟨xb, 2, none⟩ = some (.int .i64 B) ∧ wz.cell? ⟨xb, 3, none⟩ = some (.int .i64 C) ∧ wz.cell? ⟨xb, 4, none⟩ = some (.int .u64 V) ∧ wz.cell? ⟨xb, 5, none⟩ = some (.int .i64 M) ∧ wz.cell? ⟨xb, 6, none⟩ = some (.int .i64 W)) (by kernel_rfl) ?_
  rw [hW0]
  have s0 := box_cells hb0
  have HN0 := Lib.hid (HN1.out.trans hn0)
  have HB0 := Lib.hid hb0
  clear hW0 hn0 hb0 d0 y0 y1 y2 y3 y4 y5 y6 hxb
  refine wpAnyH_take (i := 0) (v := ?_) rfl (by kernel_rfl) (by kernel_rfl) (by kernel_rfl) (fun _ _ _ h => h) (Or.inl ⟨by rfl, ?_⟩) s0 ?_
  rotate_left
  · intro w hSw; first | (obtain ⟨s1, s2, s3, s4, s5, s6, s7, s8⟩ := hSw; go_simp; rfl) | (obtain ⟨s1, s2, s3, s4, s5, s6, s7⟩ := hSw; go_simp; rfl) | (obtain ⟨s1, s2, s3⟩ := hSw; go_simp; rfl) | (obtain ⟨s1, s2⟩ := hSw; go_simp; rfl) | (have s1 := hSw; go_simp; rfl)
  go_simp
  refine wpAnyH_take (i := 1) (v := ?_) rfl (by kernel_rfl) (by kernel_rfl) (by kernel_rfl) (fun _ _ _ h => h) (Or.inl ⟨by rfl, ?_⟩) s0 ?_
  rotate_left
  · intro w hSw; first | (obtain ⟨s1, s2, s3, s4, s5, s6, s7, s8⟩ := hSw; go_simp; rfl) | (obtain ⟨s1, s2, s3, s4, s5, s6, s7⟩ := hSw; go_simp; rfl) | (obtain ⟨s1, s2, s3⟩ := hSw; go_simp; rfl) | (obtain ⟨s1, s2⟩ := hSw; go_simp; rfl) | (have s1 := hSw; go_simp; rfl)
  go_simp
  refine wpAnyH_take (i := 2) (v := ?_) rfl (by kernel_rfl) (by kernel_rfl) (by kernel_rfl) (fun _ _ _ h => h) (Or.inl ⟨by rfl, ?_⟩) s0 ?_
  rotate_left
  · intro w hSw; first | (obtain ⟨s1, s2, s3, s4, s5, s6, s7, s8⟩ := hSw; go_simp; rfl) | (obtain ⟨s1, s2, s3, s4, s5, s6, s7⟩ := hSw; go_simp; rfl) | (obtain ⟨s1, s2, s3⟩ := hSw; go_simp; rfl) | (obtain ⟨s1, s2⟩ := hSw; go_simp; rfl) | (have s1 := hSw; go_simp; rfl)
  go_simp
  refine wpAnyH_take (i := 3) (v := ?_) rfl (by kernel_rfl) (by kernel_rfl) (by kernel_rfl) (fun _ _ _ h => h) (Or.inl ⟨by rfl, ?_⟩) s0 ?_
  rotate_left
  · intro w hSw; first | (obtain ⟨s1, s2, s3, s4, s5, s6, s7, s8⟩ := hSw; go_simp; rfl) | (obtain ⟨s1, s2, s3, s4, s5, s6, s7⟩ := hSw; go_simp; rfl) | (obtain ⟨s1, s2, s3⟩ := hSw; go_simp; rfl) | (obtain ⟨s1, s2⟩ := hSw; go_simp; rfl) | (have s1 := hSw; go_simp; rfl)
  go_simp
  refine wpAnyH_take (i := 4) (v := ?_) rfl (by kernel_rfl) (by kernel_rfl) (by kernel_rfl) (fun _ _ _ h => h) (Or.inl ⟨by rfl, ?_⟩) s0 ?_
  rotate_left
  · intro w hSw; first | (obtain ⟨s1, s2, s3, s4, s5, s6, s7, s8⟩ := hSw; go_simp; rfl) | (obtain ⟨s1, s2, s3, s4, s5, s6, s7⟩ := hSw; go_simp; rfl) | (obtain ⟨s1, s2, s3⟩ := hSw; go_simp; rfl) | (obtain ⟨s1, s2⟩ := hSw; go_simp; rfl) | (have s1 := hSw; go_simp; rfl)
  go_simp
  refine wpAnyH_take (i := 5) (v := ?_) rfl (by kernel_rfl) (by kernel_rfl) (by kernel_rfl) (fun _ _ _ h => h) (Or.inl ⟨by rfl, ?_⟩) s0 ?_
  rotate_left
  · intro w hSw; first | (obtain ⟨s1, s2, s3, s4, s5, s6, s7, s8⟩ := hSw; go_simp; rfl) | (obtain ⟨s1, s2, s3, s4, s5, s6, s7⟩ := hSw; go_simp; rfl) | (obtain ⟨s1, s2, s3⟩ := hSw; go_simp; rfl) | (obtain ⟨s1, s2⟩ := hSw; go_simp; rfl) | (have s1 := hSw; go_simp; rfl)
  go_simp
  refine wpAnyH_take (i := 6) (v := ?_) rfl (by kernel_rfl) (by kernel_rfl) (by kernel_rfl) (fun _ _ _ h => h) (Or.inl ⟨by rfl, ?_⟩) s0 ?_
  rotate_left
  · intro w hSw; first | (obtain ⟨s1, s2, s3, s4, s5, s6, s7, s8⟩ := hSw; go_simp; rfl) | (obtain ⟨s1, s2, s3, s4, s5, s6, s7⟩ := hSw; go_simp; rfl) | (obtain ⟨s1, s2, s3⟩ := hSw; go_simp; rfl) | (obtain ⟨s1, s2⟩ := hSw; go_simp; rfl) | (have s1 := hSw; go_simp; rfl)
  go_simp
  refine wpAnyH_take (i := 8) (v := ?_) rfl (by kernel_rfl) (by kernel_rfl) (by kernel_rfl) (fun _ _ _ h => h) (Or.inl ⟨by rfl, ?_⟩) s0 ?_
  rotate_left
  · intro w hSw; first | (obtain ⟨s1, s2, s3, s4, s5, s6, s7, s8⟩ := hSw; go_simp; rfl) | (obtain ⟨s1, s2, s3, s4, s5, s6, s7⟩ := hSw; go_simp; rfl) | (obtain ⟨s1, s2, s3⟩ := hSw; go_simp; rfl) | (obtain ⟨s1, s2⟩ := hSw; go_simp; rfl) | (have s1 := hSw; go_simp; rfl)
  go_simp
  refine wpAnyH_take (i := 9) (v := ?_) rfl (by kernel_rfl) (by kernel_rfl) (by kernel_rfl) (fun _ _ _ h => h) (Or.inl ⟨by rfl, ?_⟩) s0 ?_
  rotate_left
  · intro w hSw; first | (obtain ⟨s1, s2, s3, s4, s5, s6, s7, s8⟩ := hSw; go_simp; rfl) | (obtain ⟨s1, s2, s3, s4, s5, s6, s7⟩ := hSw; go_simp; rfl) | (obtain ⟨s1, s2, s3⟩ := hSw; go_simp; rfl) | (obtain ⟨s1, s2⟩ := hSw; go_simp; rfl) | (have s1 := hSw; go_simp; rfl)
  go_simp
  refine wpAnyH_take (i := 12) (v := ?_) rfl (by kernel_rfl) (by kernel_rfl) (by kernel_rfl) (fun _ _ _ h => h) (Or.inl ⟨by rfl, ?_⟩) s0 ?_
  rotate_left
  · intro w hSw; first | (obtain ⟨s1, s2, s3, s4, s5, s6, s7, s8⟩ := hSw; go_simp; rfl) | (obtain ⟨s1, s2, s3, s4, s5, s6, s7⟩ := hSw; go_simp; rfl) | (obtain ⟨s1, s2, s3⟩ := hSw; go_simp; rfl) | (obtain ⟨s1, s2⟩ := hSw; go_simp; rfl) | (have s1 := hSw; go_simp; rfl)
  go_simp
  refine wpAnyH_take (i := 13) (v := ?_) rfl (by kernel_rfl) (by kernel_rfl) (by kernel_rfl) (fun _ _ _ h => h) (Or.inl ⟨by rfl, ?_⟩) s0 ?_
  rotate_left
  · intro w hSw; first | (obtain ⟨s1, s2, s3, s4, s5, s6, s7, s8⟩ := hSw; go_simp; rfl) | (obtain ⟨s1, s2, s3, s4, s5, s6, s7⟩ := hSw; go_simp; rfl) | (obtain ⟨s1, s2, s3⟩ := hSw; go_simp; rfl) | (obtain ⟨s1, s2⟩ := hSw; go_simp; rfl) | (have s1 := hSw; go_simp; rfl)
  go_simp
  refine heldOne (i := 7) (by kernel_rfl) rfl (by rfl) (fun K hK => ?_)
  go_simp
  refine (HR.out W0 HN0.out).mono ?_
  rintro e w2 ⟨rfl, rfl⟩
  refine hK.out _ _ s0 ?_
  clear hK K
  refine heldOne (i := 10) (by kernel_rfl) rfl (by rfl) (fun K hK => ?_)
  go_simp
  refine (HVV.out W0 HN0.out).mono ?_
  rintro e w3 ⟨rfl, hn3⟩
  have hb3 := (hn3.block xb hxl id).trans HB0.out
  have HN3 := Lib.hid (HN0.out.trans hn3)
  have HB3 := Lib.hid hb3
  have s3 := box_cells hb3
  refine hK.out _ _ s3 ?_
  clear hK K s0 hn3 hb3
  refine heldOne (i := 11) (by kernel_rfl) rfl (by rfl) (fun K hK => ?_)
  go_simp
  refine (HK.out w3).mono ?_
  rintro e w4 ⟨rfl, hn4⟩
  have hb4 := (hn4.block xb (lt_of_block HB3.out) id).trans HB3.out
  have HN4 := Lib.hid (HN3.out.trans hn4)
  have HB4 := Lib.hid hb4
  have s4 := box_cells hb4
  refine hK.out _ _ s4 ?_
  clear hK K s3 hn4 hb4
  refine wpAnyH_take (i := 14) (v := ?_) rfl (by kernel_rfl) (by kernel_rfl) (by kernel_rfl) (fun _ _ _ h => h) (Or.inl ⟨by rfl, ?_⟩) s4 ?_
  rotate_left
  · intro w hSw; first | (obtain ⟨s1, s2, s3, s4, s5, s6, s7, s8⟩ := hSw; go_simp; rfl) | (obtain ⟨s1, s2, s3, s4, s5, s6, s7⟩ := hSw; go_simp; rfl) | (obtain ⟨s1, s2, s3⟩ := hSw; go_simp; rfl) | (obtain ⟨s1, s2⟩ := hSw; go_simp; rfl) | (have s1 := hSw; go_simp; rfl)
  go_simp
  refine heldOne (i := 15) (by kernel_rfl) rfl (by rfl) (fun K hK => ?_)
  have ya := (HN4.out.cell hl id _).trans ca
  have yz : ∀ i, w4.frozen? ⟨fb, i, none⟩ = false := fun i => (HN4.out.frozen hl id i).trans (z0 i)
  go_simp
  have hs5 := (H.out.new HN4.out).setReg ha hrk
  have hb5 : (w4.setCell ⟨fb, o + 1 + a, none⟩ (.int .u64 (R : Nat))).heap[xb]? = _ := (block_setCell_ne (by omega) _).trans HB4.out
  have HS5 := Lib.hid hs5
  have HB5 := Lib.hid hb5
  have HF5 := Lib.hid ((Fr34.new hl HN4.out).trans (Fr34.set (fb := fb) (o := o) (i := o + 1 + a) (.int .u64 (R : Nat)) (by omega) (by omega)))
  refine hK.out _ _ (box_cells hb5) ?_
  clear hK K ya yz hs5 hb5 s4
  refine wpAnyH_done (by kernel_rfl) ?_ _
  generalize w4.setCell ⟨fb, o + 1 + a, none⟩ (.int .u64 (R : Nat)) = w5 at HS5 HB5 HF5 ⊢
  have d0 : w5.cell? ⟨fb, o, none⟩ = some (.int .i64 k) := by rw [← HPC.out]; exact HS5.out.fr.pc
  have zf : ∀ i, w5.frozen? ⟨fb, i, none⟩ = false := HS5.out.fr.free
  go_wp2
  go_ret2
  rw [HE.out]
  exact ⟨v, rfl, by rw [HPC.out]; exact HS5.out.setPc _, HF5.out.trans (Fr34.set _ (Nat.le_refl _) (by omega)), fun k hk => .inl hk⟩
set_option maxRecDepth 100000 in
set_option maxHeartbeats 8000000 in
theorem step_reck2 (a : Nat) (h : FmAt w fb o v F) (hi : InsAt w cg co k 2 a B C V M W) (hk : k < n) (hn : n ≤ 1000000) (hV : V < 18446744073709551616) (hpc : F.pc = k) (hg : goodV 2 a B C V n = true) (ha : a < 32) :
    Calls Tryd.prog 10 #[.pointer (some ⟨fb, o, none⟩), .slice (some ⟨cg, co, none⟩) n cap, cv] w fun e w' => Stepped w fb o v (0, reckF 2 a B C V F) e w' := by
  have c0 := h.fr.pc
  have hl := h.fr.lt
  rw [hpc] at c0
  have HM := Lib.hid (fun w' => vmay_any 2 a B C V M W n w' hV (by omega) (by omega))
  unfold goodV at hg
  rw [hg] at HM
  have HI := Lib.hid hi
  have HR := Lib.hid (fun w' (f : New w w') => read_any fb o F.pc F.rs v B w' (h.fr.new f))
  have HVV := Lib.hid (fun w' (f : New w w') => value_any fb o F.pc F.rs v 2 a B C V M W w' (h.fr.new f))
  have hb := regN_fit h.fr.fits B
  have hc := valN_fit h.fr.fits C hV
  have hrk := reckN_fit 2 hV hb hc
  have HK := Lib.hid (fun w' => reckon_any 2 a B C V M W _ _ w' (by omega) hb hc)
  have HE := Lib.hid (show reckF 2 a B C V F = ⟨F.pc + 1, F.rs.set a (reckN 2 V (regN F.rs B) (valN F.rs C V)), F.bk⟩ from rfl)
  generalize regN F.rs B = b at HR HK HE hrk
  generalize valN F.rs C V = c at HVV HK HE hrk
  generalize reckN 2 V b c = R at HK HE hrk
  obtain ⟨_, x0, x1, x2, x3, x4, x5, x6⟩ := hi
  have q1 : (0 : Int) ≤ (k : Int) := by omega
  have q2 : (k : Int) < (n : Int) := by omega
  have q3 : (0 : Int) ≤ (a : Int) := by omega
  have q4 : (a : Int) < 32 := by omega
  have t1 : IntKind.i64.wrap ((k : Int) + 1) = (k : Int) + 1 := IntWalk.i64_in _ (by omega)
  have ca := h.fr.regD ha
  have H := Lib.hid h
  have HPC := Lib.hid hpc
  have z0 := h.fr.free
  clear h hg hpc hb hc
  go_enter Tryd.func10, Tryd.ntmps10
  go_wp2_with fail
  refine (HM.out _).mono ?_
  rintro e w1 ⟨rfl, hn1⟩
  obtain ⟨_, y0, y1, y2, y3, y4, y5, y6⟩ := HI.out.keep hn1 id
  have d0 := (hn1.cell hl id _).trans c0
  have HN1 := Lib.hid hn1
  clear c0 x0 x1 x2 x3 x4 x5 x6 hn1
  go_wp2_with fail
  obtain ⟨W0, hW0⟩ : ∃ W0, (w1.alloc (.cells #[.int .i64 2, .int .i64 a, .int .i64 B, .int .i64 C, .int .u64 V, .int .i64 M, .int .i64 W] 52)).drew = W0 := ⟨_, rfl⟩
  have hn0 : New w1 W0 := by rw [← hW0]; exact ((Fr.refl _ _).alloc _).drew
  have hb0 : W0.heap[w1.heap.size]? = some (.cells #[.int .i64 2, .int .i64 a, .int .i64 B, .int .i64 C, .int .u64 V, .int .i64 M, .int .i64 W] 52 (0, 0)) := by rw [← hW0]; exact block_alloc_new _ _
  have hfl : fb < w1.heap.size := Nat.lt_of_lt_of_le hl HN1.out.size
  obtain ⟨xb, hxb⟩ : ∃ xb, w1.heap.size = xb := ⟨_, rfl⟩
  rw [hxb] at hb0 hfl ⊢
  have hxl := lt_of_block hb0
  refine heldStart (fun wz => wz.cell? ⟨xb, 0, none⟩ = some (.int .i64 2) ∧ wz.cell? ⟨xb, 1, none⟩ = some (.int .i64 a) ∧ wz.cell? ⟨xb, 2, none⟩ = some (.int .i64 B) ∧ wz.cell? ⟨xb, 3, none⟩ = some (.int .i64 C) ∧ wz.cell? ⟨xb, 4, none⟩ = some (.int .u64 V) ∧ wz.cell? ⟨xb, 5, none⟩ = some (.int .i64 M) ∧ wz.cell? ⟨xb, 6, none⟩ = some (.int .i64 W)) (by kernel_rfl) ?_
  rw [hW0]
  have s0 := box_cells hb0
  have HN0 := Lib.hid (HN1.out.trans hn0)
  have HB0 := Lib.hid hb0
  clear hW0 hn0 hb0 d0 y0 y1 y2 y3 y4 y5 y6 hxb
  refine wpAnyH_take (i := 0) (v := ?_) rfl (by kernel_rfl) (by kernel_rfl) (by kernel_rfl) (fun _ _ _ h => h) (Or.inl ⟨by rfl, ?_⟩) s0 ?_
  rotate_left
  · intro w hSw; first | (obtain ⟨s1, s2, s3, s4, s5, s6, s7, s8⟩ := hSw; go_simp; rfl) | (obtain ⟨s1, s2, s3, s4, s5, s6, s7⟩ := hSw; go_simp; rfl) | (obtain ⟨s1, s2, s3⟩ := hSw; go_simp; rfl) | (obtain ⟨s1, s2⟩ := hSw; go_simp; rfl) | (have s1 := hSw; go_simp; rfl)
  go_simp
  refine wpAnyH_take (i := 1) (v := ?_) rfl (by kernel_rfl) (by kernel_rfl) (by kernel_rfl) (fun _ _ _ h => h) (Or.inl ⟨by rfl, ?_⟩) s0 ?_
  rotate_left
  · intro w hSw; first | (obtain ⟨s1, s2, s3, s4, s5, s6, s7, s8⟩ := hSw; go_simp; rfl) | (obtain ⟨s1, s2, s3, s4, s5, s6, s7⟩ := hSw; go_simp; rfl) | (obtain ⟨s1, s2, s3⟩ := hSw; go_simp; rfl) | (obtain ⟨s1, s2⟩ := hSw; go_simp; rfl) | (have s1 := hSw; go_simp; rfl)
  go_simp
  refine wpAnyH_take (i := 2) (v := ?_) rfl (by kernel_rfl) (by kernel_rfl) (by kernel_rfl) (fun _ _ _ h => h) (Or.inl ⟨by rfl, ?_⟩) s0 ?_
  rotate_left
  · intro w hSw; first | (obtain ⟨s1, s2, s3, s4, s5, s6, s7, s8⟩ := hSw; go_simp; rfl) | (obtain ⟨s1, s2, s3, s4, s5, s6, s7⟩ := hSw; go_simp; rfl) | (obtain ⟨s1, s2, s3⟩ := hSw; go_simp; rfl) | (obtain ⟨s1, s2⟩ := hSw; go_simp; rfl) | (have s1 := hSw; go_simp; rfl)
  go_simp
  refine wpAnyH_take (i := 3) (v := ?_) rfl (by kernel_rfl) (by kernel_rfl) (by kernel_rfl) (fun _ _ _ h => h) (Or.inl ⟨by rfl, ?_⟩) s0 ?_
  rotate_left
  · intro w hSw; first | (obtain ⟨s1, s2, s3, s4, s5, s6, s7, s8⟩ := hSw; go_simp; rfl) | (obtain ⟨s1, s2, s3, s4, s5, s6, s7⟩ := hSw; go_simp; rfl) | (obtain ⟨s1, s2, s3⟩ := hSw; go_simp; rfl) | (obtain ⟨s1, s2⟩ := hSw; go_simp; rfl) | (have s1 := hSw; go_simp; rfl)
  go_simp
  refine wpAnyH_take (i := 4) (v := ?_) rfl (by kernel_rfl) (by kernel_rfl) (by kernel_rfl) (fun _ _ _ h => h) (Or.inl ⟨by rfl, ?_⟩) s0 ?_
  rotate_left
  · intro w hSw; first | (obtain ⟨s1, s2, s3, s4, s5, s6, s7, s8⟩ := hSw; go_simp; rfl) | (obtain ⟨s1, s2, s3, s4, s5, s6, s7⟩ := hSw; go_simp; rfl) | (obtain ⟨s1, s2, s3⟩ := hSw; go_simp; rfl) | (obtain ⟨s1, s2⟩ := hSw; go_simp; rfl) | (have s1 := hSw; go_simp; rfl)
  go_simp
  refine wpAnyH_take (i := 5) (v := ?_) rfl (by kernel_rfl) (by kernel_rfl) (by kernel_rfl) (fun _ _ _ h => h) (Or.inl ⟨by rfl, ?_⟩) s0 ?_
  rotate_left
  · intro w hSw; first | (obtain ⟨s1, s2, s3, s4, s5, s6, s7, s8⟩ := hSw; go_simp; rfl) | (obtain ⟨s1, s2, s3, s4, s5, s6, s7⟩ := hSw; go_simp; rfl) | (obtain ⟨s1, s2, s3⟩ := hSw; go_simp; rfl) | (obtain ⟨s1, s2⟩ := hSw; go_simp; rfl) | (have s1 := hSw; go_simp; rfl)
  go_simp
  refine wpAnyH_take (i := 6) (v := ?_) rfl (by kernel_rfl) (by kernel_rfl) (by kernel_rfl) (fun _ _ _ h => h) (Or.inl ⟨by rfl, ?_⟩) s0 ?_
  rotate_left
  · intro w hSw; first | (obtain ⟨s1, s2, s3, s4, s5, s6, s7, s8⟩ := hSw; go_simp; rfl) | (obtain ⟨s1, s2, s3, s4, s5, s6, s7⟩ := hSw; go_simp; rfl) | (obtain ⟨s1, s2, s3⟩ := hSw; go_simp; rfl) | (obtain ⟨s1, s2⟩ := hSw; go_simp; rfl) | (have s1 := hSw; go_simp; rfl)
  go_simp
  refine wpAnyH_take (i := 8) (v := ?_) rfl (by kernel_rfl) (by kernel_rfl) (by kernel_rfl) (fun _ _ _ h => h) (Or.inl ⟨by rfl, ?_⟩) s0 ?_
  rotate_left
  · intro w hSw; first | (obtain ⟨s1, s2, s3, s4, s5, s6, s7, s8⟩ := hSw; go_simp; rfl) | (obtain ⟨s1, s2, s3, s4, s5, s6, s7⟩ := hSw; go_simp; rfl) | (obtain ⟨s1, s2, s3⟩ := hSw; go_simp; rfl) | (obtain ⟨s1, s2⟩ := hSw; go_simp; rfl) | (have s1 := hSw; go_simp; rfl)
  go_simp
  refine wpAnyH_take (i := 9) (v := ?_) rfl (by kernel_rfl) (by kernel_rfl) (by kernel_rfl) (fun _ _ _ h => h) (Or.inl ⟨by rfl, ?_⟩) s0 ?_
  rotate_left
  · intro w hSw; first | (obtain ⟨s1, s2, s3, s4, s5, s6, s7, s8⟩ := hSw; go_simp; rfl) | (obtain ⟨s1, s2, s3, s4, s5, s6, s7⟩ := hSw; go_simp; rfl) | (obtain ⟨s1, s2, s3⟩ := hSw; go_simp; rfl) | (obtain ⟨s1, s2⟩ := hSw; go_simp; rfl) | (have s1 := hSw; go_simp; rfl)
  go_simp
  refine wpAnyH_take (i := 12) (v := ?_) rfl (by kernel_rfl) (by kernel_rfl) (by kernel_rfl) (fun _ _ _ h => h) (Or.inl ⟨by rfl, ?_⟩) s0 ?_
  rotate_left
  · intro w hSw; first | (obtain ⟨s1, s2, s3, s4, s5, s6, s7, s8⟩ := hSw; go_simp; rfl) | (obtain ⟨s1, s2, s3, s4, s5, s6, s7⟩ := hSw; go_simp; rfl) | (obtain ⟨s1, s2, s3⟩ := hSw; go_simp; rfl) | (obtain ⟨s1, s2⟩ := hSw; go_simp; rfl) | (have s1 := hSw; go_simp; rfl)
  go_simp
  refine wpAnyH_take (i := 13) (v := ?_) rfl (by kernel_rfl) (by kernel_rfl) (by kernel_rfl) (fun _ _ _ h => h) (Or.inl ⟨by rfl, ?_⟩) s0 ?_
  rotate_left
  · intro w hSw; first | (obtain ⟨s1, s2, s3, s4, s5, s6, s7, s8⟩ := hSw; go_simp; rfl) | (obtain ⟨s1, s2, s3, s4, s5, s6, s7⟩ := hSw; go_simp; rfl) | (obtain ⟨s1, s2, s3⟩ := hSw; go_simp; rfl) | (obtain ⟨s1, s2⟩ := hSw; go_simp; rfl) | (have s1 := hSw; go_simp; rfl)
  go_simp
  refine heldOne (i := 7) (by kernel_rfl) rfl (by rfl) (fun K hK => ?_)
  go_simp
  refine (HR.out W0 HN0.out).mono ?_
  rintro e w2 ⟨rfl, rfl⟩
  refine hK.out _ _ s0 ?_
  clear hK K
  refine heldOne (i := 10) (by kernel_rfl) rfl (by rfl) (fun K hK => ?_)
  go_simp
  refine (HVV.out W0 HN0.out).mono ?_
  rintro e w3 ⟨rfl, hn3⟩
  have hb3 := (hn3.block xb hxl id).trans HB0.out
  have HN3 := Lib.hid (HN0.out.trans hn3)
  have HB3 := Lib.hid hb3
  have s3 := box_cells hb3
  refine hK.out _ _ s3 ?_
  clear hK K s0 hn3 hb3
  refine heldOne (i := 11) (by kernel_rfl) rfl (by rfl) (fun K hK => ?_)
  go_simp
  refine (HK.out w3).mono ?_
  rintro e w4 ⟨rfl, hn4⟩
  have hb4 := (hn4.block xb (lt_of_block HB3.out) id).trans HB3.out
  have HN4 := Lib.hid (HN3.out.trans hn4)
  have HB4 := Lib.hid hb4
  have s4 := box_cells hb4
  refine hK.out _ _ s4 ?_
  clear hK K s3 hn4 hb4
  refine wpAnyH_take (i := 14) (v := ?_) rfl (by kernel_rfl) (by kernel_rfl) (by kernel_rfl) (fun _ _ _ h => h) (Or.inl ⟨by rfl, ?_⟩) s4 ?_
  rotate_left
  · intro w hSw; first | (obtain ⟨s1, s2, s3, s4, s5, s6, s7, s8⟩ := hSw; go_simp; rfl) | (obtain ⟨s1, s2, s3, s4, s5, s6, s7⟩ := hSw; go_simp; rfl) | (obtain ⟨s1, s2, s3⟩ := hSw; go_simp; rfl) | (obtain ⟨s1, s2⟩ := hSw; go_simp; rfl) | (have s1 := hSw; go_simp; rfl)
  go_simp
  refine heldOne (i := 15) (by kernel_rfl) rfl (by rfl) (fun K hK => ?_)
  have ya := (HN4.out.cell hl id _).trans ca
  have yz : ∀ i, w4.frozen? ⟨fb, i, none⟩ = false := fun i => (HN4.out.frozen hl id i).trans (z0 i)
  go_simp
  have hs5 := (H.out.new HN4.out).setReg ha hrk
  have hb5 : (w4.setCell ⟨fb, o + 1 + a, none⟩ (.int .u64 (R : Nat))).heap[xb]? = _ := (block_setCell_ne (by omega) _).trans HB4.out
  have HS5 := Lib.hid hs5
  have HB5 := Lib.hid hb5
  have HF5 := Lib.hid ((Fr34.new hl HN4.out).trans (Fr34.set (fb := fb) (o := o) (i := o + 1 + a) (.int .u64 (R : Nat)) (by omega) (by omega)))
  refine hK.out _ _ (box_cells hb5) ?_
  clear hK K ya yz hs5 hb5 s4
  refine wpAnyH_done (by kernel_rfl) ?_ _
  generalize w4.setCell ⟨fb, o + 1 + a, none⟩ (.int .u64 (R : Nat)) = w5 at HS5 HB5 HF5 ⊢
  have d0 : w5.cell? ⟨fb, o, none⟩ = some (.int .i64 k) := by rw [← HPC.out]; exact HS5.out.fr.pc
  have zf : ∀ i, w5.frozen? ⟨fb, i, none⟩ = false := HS5.out.fr.free
  go_wp2
  go_ret2
  rw [HE.out]
  exact ⟨v, rfl, by rw [HPC.out]; exact HS5.out.setPc _, HF5.out.trans (Fr34.set _ (Nat.le_refl _) (by omega)), fun k hk => .inl hk⟩
set_option maxRecDepth 100000 in
set_option maxHeartbeats 8000000 in
theorem step_reck3 (a : Nat) (h : FmAt w fb o v F) (hi : InsAt w cg co k 3 a B C V M W) (hk : k < n) (hn : n ≤ 1000000) (hV : V < 18446744073709551616) (hpc : F.pc = k) (hg : goodV 3 a B C V n = true) (ha : a < 32) :
    Calls Tryd.prog 10 #[.pointer (some ⟨fb, o, none⟩), .slice (some ⟨cg, co, none⟩) n cap, cv] w fun e w' => Stepped w fb o v (0, reckF 3 a B C V F) e w' := by
  have c0 := h.fr.pc
  have hl := h.fr.lt
  rw [hpc] at c0
  have HM := Lib.hid (fun w' => vmay_any 3 a B C V M W n w' hV (by omega) (by omega))
  unfold goodV at hg
  rw [hg] at HM
  have HI := Lib.hid hi
  have HR := Lib.hid (fun w' (f : New w w') => read_any fb o F.pc F.rs v B w' (h.fr.new f))
  have HVV := Lib.hid (fun w' (f : New w w') => value_any fb o F.pc F.rs v 3 a B C V M W w' (h.fr.new f))
  have hb := regN_fit h.fr.fits B
  have hc := valN_fit h.fr.fits C hV
  have hrk := reckN_fit 3 hV hb hc
  have HK := Lib.hid (fun w' => reckon_any 3 a B C V M W _ _ w' (by omega) hb hc)
  have HE := Lib.hid (show reckF 3 a B C V F = ⟨F.pc + 1, F.rs.set a (reckN 3 V (regN F.rs B) (valN F.rs C V)), F.bk⟩ from rfl)
  generalize regN F.rs B = b at HR HK HE hrk
  generalize valN F.rs C V = c at HVV HK HE hrk
  generalize reckN 3 V b c = R at HK HE hrk
  obtain ⟨_, x0, x1, x2, x3, x4, x5, x6⟩ := hi
  have q1 : (0 : Int) ≤ (k : Int) := by omega
  have q2 : (k : Int) < (n : Int) := by omega
  have q3 : (0 : Int) ≤ (a : Int) := by omega
  have q4 : (a : Int) < 32 := by omega
  have t1 : IntKind.i64.wrap ((k : Int) + 1) = (k : Int) + 1 := IntWalk.i64_in _ (by omega)
  have ca := h.fr.regD ha
  have H := Lib.hid h
  have HPC := Lib.hid hpc
  have z0 := h.fr.free
  clear h hg hpc hb hc
  go_enter Tryd.func10, Tryd.ntmps10
  go_wp2_with fail
  refine (HM.out _).mono ?_
  rintro e w1 ⟨rfl, hn1⟩
  obtain ⟨_, y0, y1, y2, y3, y4, y5, y6⟩ := HI.out.keep hn1 id
  have d0 := (hn1.cell hl id _).trans c0
  have HN1 := Lib.hid hn1
  clear c0 x0 x1 x2 x3 x4 x5 x6 hn1
  go_wp2_with fail
  obtain ⟨W0, hW0⟩ : ∃ W0, (w1.alloc (.cells #[.int .i64 3, .int .i64 a, .int .i64 B, .int .i64 C, .int .u64 V, .int .i64 M, .int .i64 W] 52)).drew = W0 := ⟨_, rfl⟩
  have hn0 : New w1 W0 := by rw [← hW0]; exact ((Fr.refl _ _).alloc _).drew
  have hb0 : W0.heap[w1.heap.size]? = some (.cells #[.int .i64 3, .int .i64 a, .int .i64 B, .int .i64 C, .int .u64 V, .int .i64 M, .int .i64 W] 52 (0, 0)) := by rw [← hW0]; exact block_alloc_new _ _
  have hfl : fb < w1.heap.size := Nat.lt_of_lt_of_le hl HN1.out.size
  obtain ⟨xb, hxb⟩ : ∃ xb, w1.heap.size = xb := ⟨_, rfl⟩
  rw [hxb] at hb0 hfl ⊢
  have hxl := lt_of_block hb0
  refine heldStart (fun wz => wz.cell? ⟨xb, 0, none⟩ = some (.int .i64 3) ∧ wz.cell? ⟨xb, 1, none⟩ = some (.int .i64 a) ∧ wz.cell? ⟨xb, 2, none⟩ = some (.int .i64 B) ∧ wz.cell? ⟨xb, 3, none⟩ = some (.int .i64 C) ∧ wz.cell? ⟨xb, 4, none⟩ = some (.int .u64 V) ∧ wz.cell? ⟨xb, 5, none⟩ = some (.int .i64 M) ∧ wz.cell? ⟨xb, 6, none⟩ = some (.int .i64 W)) (by kernel_rfl) ?_
  rw [hW0]
  have s0 := box_cells hb0
  have HN0 := Lib.hid (HN1.out.trans hn0)
  have HB0 := Lib.hid hb0
  clear hW0 hn0 hb0 d0 y0 y1 y2 y3 y4 y5 y6 hxb
  refine wpAnyH_take (i := 0) (v := ?_) rfl (by kernel_rfl) (by kernel_rfl) (by kernel_rfl) (fun _ _ _ h => h) (Or.inl ⟨by rfl, ?_⟩) s0 ?_
  rotate_left
  · intro w hSw; first | (obtain ⟨s1, s2, s3, s4, s5, s6, s7, s8⟩ := hSw; go_simp; rfl) | (obtain ⟨s1, s2, s3, s4, s5, s6, s7⟩ := hSw; go_simp; rfl) | (obtain ⟨s1, s2, s3⟩ := hSw; go_simp; rfl) | (obtain ⟨s1, s2⟩ := hSw; go_simp; rfl) | (have s1 := hSw; go_simp; rfl)
  go_simp
  refine wpAnyH_take (i := 1) (v := ?_) rfl (by kernel_rfl) (by kernel_rfl) (by kernel_rfl) (fun _ _ _ h => h) (Or.inl ⟨by rfl, ?_⟩) s0 ?_
  rotate_left
  · intro w hSw; first | (obtain ⟨s1, s2, s3, s4, s5, s6, s7, s8⟩ := hSw; go_simp; rfl) | (obtain ⟨s1, s2, s3, s4, s5, s6, s7⟩ := hSw; go_simp; rfl) | (obtain ⟨s1, s2, s3⟩ := hSw; go_simp; rfl) | (obtain ⟨s1, s2⟩ := hSw; go_simp; rfl) | (have s1 := hSw; go_simp; rfl)
  go_simp
  refine wpAnyH_take (i := 2) (v := ?_) rfl (by kernel_rfl) (by kernel_rfl) (by kernel_rfl) (fun _ _ _ h => h) (Or.inl ⟨by rfl, ?_⟩) s0 ?_
  rotate_left
  · intro w hSw; first | (obtain ⟨s1, s2, s3, s4, s5, s6, s7, s8⟩ := hSw; go_simp; rfl) | (obtain ⟨s1, s2, s3, s4, s5, s6, s7⟩ := hSw; go_simp; rfl) | (obtain ⟨s1, s2, s3⟩ := hSw; go_simp; rfl) | (obtain ⟨s1, s2⟩ := hSw; go_simp; rfl) | (have s1 := hSw; go_simp; rfl)
  go_simp
  refine wpAnyH_take (i := 3) (v := ?_) rfl (by kernel_rfl) (by kernel_rfl) (by kernel_rfl) (fun _ _ _ h => h) (Or.inl ⟨by rfl, ?_⟩) s0 ?_
  rotate_left
  · intro w hSw; first | (obtain ⟨s1, s2, s3, s4, s5, s6, s7, s8⟩ := hSw; go_simp; rfl) | (obtain ⟨s1, s2, s3, s4, s5, s6, s7⟩ := hSw; go_simp; rfl) | (obtain ⟨s1, s2, s3⟩ := hSw; go_simp; rfl) | (obtain ⟨s1, s2⟩ := hSw; go_simp; rfl) | (have s1 := hSw; go_simp; rfl)
  go_simp
  refine wpAnyH_take (i := 4) (v := ?_) rfl (by kernel_rfl) (by kernel_rfl) (by kernel_rfl) (fun _ _ _ h => h) (Or.inl ⟨by rfl, ?_⟩) s0 ?_
  rotate_left
  · intro w hSw; first | (obtain ⟨s1, s2, s3, s4, s5, s6, s7, s8⟩ := hSw; go_simp; rfl) | (obtain ⟨s1, s2, s3, s4, s5, s6, s7⟩ := hSw; go_simp; rfl) | (obtain ⟨s1, s2, s3⟩ := hSw; go_simp; rfl) | (obtain ⟨s1, s2⟩ := hSw; go_simp; rfl) | (have s1 := hSw; go_simp; rfl)
  go_simp
  refine wpAnyH_take (i := 5) (v := ?_) rfl (by kernel_rfl) (by kernel_rfl) (by kernel_rfl) (fun _ _ _ h => h) (Or.inl ⟨by rfl, ?_⟩) s0 ?_
  rotate_left
  · intro w hSw; first | (obtain ⟨s1, s2, s3, s4, s5, s6, s7, s8⟩ := hSw; go_simp; rfl) | (obtain ⟨s1, s2, s3, s4, s5, s6, s7⟩ := hSw; go_simp; rfl) | (obtain ⟨s1, s2, s3⟩ := hSw; go_simp; rfl) | (obtain ⟨s1, s2⟩ := hSw; go_simp; rfl) | (have s1 := hSw; go_simp; rfl)
  go_simp
  refine wpAnyH_take (i := 6) (v := ?_) rfl (by kernel_rfl) (by kernel_rfl) (by kernel_rfl) (fun _ _ _ h => h) (Or.inl ⟨by rfl, ?_⟩) s0 ?_
  rotate_left
  · intro w hSw; first | (obtain ⟨s1, s2, s3, s4, s5, s6, s7, s8⟩ := hSw; go_simp; rfl) | (obtain ⟨s1, s2, s3, s4, s5, s6, s7⟩ := hSw; go_simp; rfl) | (obtain ⟨s1, s2, s3⟩ := hSw; go_simp; rfl) | (obtain ⟨s1, s2⟩ := hSw; go_simp; rfl) | (have s1 := hSw; go_simp; rfl)
  go_simp
  refine wpAnyH_take (i := 8) (v := ?_) rfl (by kernel_rfl) (by kernel_rfl) (by kernel_rfl) (fun _ _ _ h => h) (Or.inl ⟨by rfl, ?_⟩) s0 ?_
  rotate_left
  · intro w hSw; first | (obtain ⟨s1, s2, s3, s4, s5, s6, s7, s8⟩ := hSw; go_simp; rfl) | (obtain ⟨s1, s2, s3, s4, s5, s6, s7⟩ := hSw; go_simp; rfl) | (obtain ⟨s1, s2, s3⟩ := hSw; go_simp; rfl) | (obtain ⟨s1, s2⟩ := hSw; go_simp; rfl) | (have s1 := hSw; go_simp; rfl)
  go_simp
  refine wpAnyH_take (i := 9) (v := ?_) rfl (by kernel_rfl) (by kernel_rfl) (by kernel_rfl) (fun _ _ _ h => h) (Or.inl ⟨by rfl, ?_⟩) s0 ?_
  rotate_left
  · intro w hSw; first | (obtain ⟨s1, s2, s3, s4, s5, s6, s7, s8⟩ := hSw; go_simp; rfl) | (obtain ⟨s1, s2, s3, s4, s5, s6, s7⟩ := hSw; go_simp; rfl) | (obtain ⟨s1, s2, s3⟩ := hSw; go_simp; rfl) | (obtain ⟨s1, s2⟩ := hSw; go_simp; rfl) | (have s1 := hSw; go_simp; rfl)
  go_simp
  refine wpAnyH_take (i := 12) (v := ?_) rfl (by kernel_rfl) (by kernel_rfl) (by kernel_rfl) (fun _ _ _ h => h) (Or.inl ⟨by rfl, ?_⟩) s0 ?_
  rotate_left
  · intro w hSw; first | (obtain ⟨s1, s2, s3, s4, s5, s6, s7, s8⟩ := hSw; go_simp; rfl) | (obtain ⟨s1, s2, s3, s4, s5, s6, s7⟩ := hSw; go_simp; rfl) | (obtain ⟨s1, s2, s3⟩ := hSw; go_simp; rfl) | (obtain ⟨s1, s2⟩ := hSw; go_simp; rfl) | (have s1 := hSw; go_simp; rfl)
  go_simp
  refine wpAnyH_take (i := 13) (v := ?_) rfl (by kernel_rfl) (by kernel_rfl) (by kernel_rfl) (fun _ _ _ h => h) (Or.inl ⟨by rfl, ?_⟩) s0 ?_
  rotate_left
  · intro w hSw; first | (obtain ⟨s1, s2, s3, s4, s5, s6, s7, s8⟩ := hSw; go_simp; rfl) | (obtain ⟨s1, s2, s3, s4, s5, s6, s7⟩ := hSw; go_simp; rfl) | (obtain ⟨s1, s2, s3⟩ := hSw; go_simp; rfl) | (obtain ⟨s1, s2⟩ := hSw; go_simp; rfl) | (have s1 := hSw; go_simp; rfl)
  go_simp
  refine heldOne (i := 7) (by kernel_rfl) rfl (by rfl) (fun K hK => ?_)
  go_simp
  refine (HR.out W0 HN0.out).mono ?_
  rintro e w2 ⟨rfl, rfl⟩
  refine hK.out _ _ s0 ?_
  clear hK K
  refine heldOne (i := 10) (by kernel_rfl) rfl (by rfl) (fun K hK => ?_)
  go_simp
  refine (HVV.out W0 HN0.out).mono ?_
  rintro e w3 ⟨rfl, hn3⟩
  have hb3 := (hn3.block xb hxl id).trans HB0.out
  have HN3 := Lib.hid (HN0.out.trans hn3)
  have HB3 := Lib.hid hb3
  have s3 := box_cells hb3
  refine hK.out _ _ s3 ?_
  clear hK K s0 hn3 hb3
  refine heldOne (i := 11) (by kernel_rfl) rfl (by rfl) (fun K hK => ?_)
  go_simp
  refine (HK.out w3).mono ?_
  rintro e w4 ⟨rfl, hn4⟩
  have hb4 := (hn4.block xb (lt_of_block HB3.out) id).trans HB3.out
  have HN4 := Lib.hid (HN3.out.trans hn4)
  have HB4 := Lib.hid hb4
  have s4 := box_cells hb4
  refine hK.out _ _ s4 ?_
  clear hK K s3 hn4 hb4
  refine wpAnyH_take (i := 14) (v := ?_) rfl (by kernel_rfl) (by kernel_rfl) (by kernel_rfl) (fun _ _ _ h => h) (Or.inl ⟨by rfl, ?_⟩) s4 ?_
  rotate_left
  · intro w hSw; first | (obtain ⟨s1, s2, s3, s4, s5, s6, s7, s8⟩ := hSw; go_simp; rfl) | (obtain ⟨s1, s2, s3, s4, s5, s6, s7⟩ := hSw; go_simp; rfl) | (obtain ⟨s1, s2, s3⟩ := hSw; go_simp; rfl) | (obtain ⟨s1, s2⟩ := hSw; go_simp; rfl) | (have s1 := hSw; go_simp; rfl)
  go_simp
  refine heldOne (i := 15) (by kernel_rfl) rfl (by rfl) (fun K hK => ?_)
  have ya := (HN4.out.cell hl id _).trans ca
  have yz : ∀ i, w4.frozen? ⟨fb, i, none⟩ = false := fun i => (HN4.out.frozen hl id i).trans (z0 i)
  go_simp
  have hs5 := (H.out.new HN4.out).setReg ha hrk
  have hb5 : (w4.setCell ⟨fb, o + 1 + a, none⟩ (.int .u64 (R : Nat))).heap[xb]? = _ := (block_setCell_ne (by omega) _).trans HB4.out
  have HS5 := Lib.hid hs5
  have HB5 := Lib.hid hb5
  have HF5 := Lib.hid ((Fr34.new hl HN4.out).trans (Fr34.set (fb := fb) (o := o) (i := o + 1 + a) (.int .u64 (R : Nat)) (by omega) (by omega)))
  refine hK.out _ _ (box_cells hb5) ?_
  clear hK K ya yz hs5 hb5 s4
  refine wpAnyH_done (by kernel_rfl) ?_ _
  generalize w4.setCell ⟨fb, o + 1 + a, none⟩ (.int .u64 (R : Nat)) = w5 at HS5 HB5 HF5 ⊢
  have d0 : w5.cell? ⟨fb, o, none⟩ = some (.int .i64 k) := by rw [← HPC.out]; exact HS5.out.fr.pc
  have zf : ∀ i, w5.frozen? ⟨fb, i, none⟩ = false := HS5.out.fr.free
  go_wp2
  go_ret2
  rw [HE.out]
  exact ⟨v, rfl, by rw [HPC.out]; exact HS5.out.setPc _, HF5.out.trans (Fr34.set _ (Nat.le_refl _) (by omega)), fun k hk => .inl hk⟩
set_option maxRecDepth 100000 in
set_option maxHeartbeats 8000000 in
theorem step_reck4 (a : Nat) (h : FmAt w fb o v F) (hi : InsAt w cg co k 4 a B C V M W) (hk : k < n) (hn : n ≤ 1000000) (hV : V < 18446744073709551616) (hpc : F.pc = k) (hg : goodV 4 a B C V n = true) (ha : a < 32) :
    Calls Tryd.prog 10 #[.pointer (some ⟨fb, o, none⟩), .slice (some ⟨cg, co, none⟩) n cap, cv] w fun e w' => Stepped w fb o v (0, reckF 4 a B C V F) e w' := by
  have c0 := h.fr.pc
  have hl := h.fr.lt
  rw [hpc] at c0
  have HM := Lib.hid (fun w' => vmay_any 4 a B C V M W n w' hV (by omega) (by omega))
  unfold goodV at hg
  rw [hg] at HM
  have HI := Lib.hid hi
  have HR := Lib.hid (fun w' (f : New w w') => read_any fb o F.pc F.rs v B w' (h.fr.new f))
  have HVV := Lib.hid (fun w' (f : New w w') => value_any fb o F.pc F.rs v 4 a B C V M W w' (h.fr.new f))
  have hb := regN_fit h.fr.fits B
  have hc := valN_fit h.fr.fits C hV
  have hrk := reckN_fit 4 hV hb hc
  have HK := Lib.hid (fun w' => reckon_any 4 a B C V M W _ _ w' (by omega) hb hc)
  have HE := Lib.hid (show reckF 4 a B C V F = ⟨F.pc + 1, F.rs.set a (reckN 4 V (regN F.rs B) (valN F.rs C V)), F.bk⟩ from rfl)
  generalize regN F.rs B = b at HR HK HE hrk
  generalize valN F.rs C V = c at HVV HK HE hrk
  generalize reckN 4 V b c = R at HK HE hrk
  obtain ⟨_, x0, x1, x2, x3, x4, x5, x6⟩ := hi
  have q1 : (0 : Int) ≤ (k : Int) := by omega
  have q2 : (k : Int) < (n : Int) := by omega
  have q3 : (0 : Int) ≤ (a : Int) := by omega
  have q4 : (a : Int) < 32 := by omega
  have t1 : IntKind.i64.wrap ((k : Int) + 1) = (k : Int) + 1 := IntWalk.i64_in _ (by omega)
  have ca := h.fr.regD ha
  have H := Lib.hid h
  have HPC := Lib.hid hpc
  have z0 := h.fr.free
  clear h hg hpc hb hc
  go_enter Tryd.func10, Tryd.ntmps10
  go_wp2_with fail
  refine (HM.out _).mono ?_
  rintro e w1 ⟨rfl, hn1⟩
  obtain ⟨_, y0, y1, y2, y3, y4, y5, y6⟩ := HI.out.keep hn1 id
  have d0 := (hn1.cell hl id _).trans c0
  have HN1 := Lib.hid hn1
  clear c0 x0 x1 x2 x3 x4 x5 x6 hn1
  go_wp2_with fail
  obtain ⟨W0, hW0⟩ : ∃ W0, (w1.alloc (.cells #[.int .i64 4, .int .i64 a, .int .i64 B, .int .i64 C, .int .u64 V, .int .i64 M, .int .i64 W] 52)).drew = W0 := ⟨_, rfl⟩
  have hn0 : New w1 W0 := by rw [← hW0]; exact ((Fr.refl _ _).alloc _).drew
  have hb0 : W0.heap[w1.heap.size]? = some (.cells #[.int .i64 4, .int .i64 a, .int .i64 B, .int .i64 C, .int .u64 V, .int .i64 M, .int .i64 W] 52 (0, 0)) := by rw [← hW0]; exact block_alloc_new _ _
  have hfl : fb < w1.heap.size := Nat.lt_of_lt_of_le hl HN1.out.size
  obtain ⟨xb, hxb⟩ : ∃ xb, w1.heap.size = xb := ⟨_, rfl⟩
  rw [hxb] at hb0 hfl ⊢
  have hxl := lt_of_block hb0
  refine heldStart (fun wz => wz.cell? ⟨xb, 0, none⟩ = some (.int .i64 4) ∧ wz.cell? ⟨xb, 1, none⟩ = some (.int .i64 a) ∧ wz.cell? ⟨xb, 2, none⟩ = some (.int .i64 B) ∧ wz.cell? ⟨xb, 3, none⟩ = some (.int .i64 C) ∧ wz.cell? ⟨xb, 4, none⟩ = some (.int .u64 V) ∧ wz.cell? ⟨xb, 5, none⟩ = some (.int .i64 M) ∧ wz.cell? ⟨xb, 6, none⟩ = some (.int .i64 W)) (by kernel_rfl) ?_
  rw [hW0]
  have s0 := box_cells hb0
  have HN0 := Lib.hid (HN1.out.trans hn0)
  have HB0 := Lib.hid hb0
  clear hW0 hn0 hb0 d0 y0 y1 y2 y3 y4 y5 y6 hxb
  refine wpAnyH_take (i := 0) (v := ?_) rfl (by kernel_rfl) (by kernel_rfl) (by kernel_rfl) (fun _ _ _ h => h) (Or.inl ⟨by rfl, ?_⟩) s0 ?_
  rotate_left
  · intro w hSw; first | (obtain ⟨s1, s2, s3, s4, s5, s6, s7, s8⟩ := hSw; go_simp; rfl) | (obtain ⟨s1, s2, s3, s4, s5, s6, s7⟩ := hSw; go_simp; rfl) | (obtain ⟨s1, s2, s3⟩ := hSw; go_simp; rfl) | (obtain ⟨s1, s2⟩ := hSw; go_simp; rfl) | (have s1 := hSw; go_simp; rfl)
  go_simp
  refine wpAnyH_take (i := 1) (v := ?_) rfl (by kernel_rfl) (by kernel_rfl) (by kernel_rfl) (fun _ _ _ h => h) (Or.inl ⟨by rfl, ?_⟩) s0 ?_
  rotate_left
  · intro w hSw; first | (obtain ⟨s1, s2, s3, s4, s5, s6, s7, s8⟩ := hSw; go_simp; rfl) | (obtain ⟨s1, s2, s3, s4, s5, s6, s7⟩ := hSw; go_simp; rfl) | (obtain ⟨s1, s2, s3⟩ := hSw; go_simp; rfl) | (obtain ⟨s1, s2⟩ := hSw; go_simp; rfl) | (have s1 := hSw; go_simp; rfl)
  go_simp
  refine wpAnyH_take (i := 2) (v := ?_) rfl (by kernel_rfl) (by kernel_rfl) (by kernel_rfl) (fun _ _ _ h => h) (Or.inl ⟨by rfl, ?_⟩) s0 ?_
  rotate_left
  · intro w hSw; first | (obtain ⟨s1, s2, s3, s4, s5, s6, s7, s8⟩ := hSw; go_simp; rfl) | (obtain ⟨s1, s2, s3, s4, s5, s6, s7⟩ := hSw; go_simp; rfl) | (obtain ⟨s1, s2, s3⟩ := hSw; go_simp; rfl) | (obtain ⟨s1, s2⟩ := hSw; go_simp; rfl) | (have s1 := hSw; go_simp; rfl)
  go_simp
  refine wpAnyH_take (i := 3) (v := ?_) rfl (by kernel_rfl) (by kernel_rfl) (by kernel_rfl) (fun _ _ _ h => h) (Or.inl ⟨by rfl, ?_⟩) s0 ?_
  rotate_left
  · intro w hSw; first | (obtain ⟨s1, s2, s3, s4, s5, s6, s7, s8⟩ := hSw; go_simp; rfl) | (obtain ⟨s1, s2, s3, s4, s5, s6, s7⟩ := hSw; go_simp; rfl) | (obtain ⟨s1, s2, s3⟩ := hSw; go_simp; rfl) | (obtain ⟨s1, s2⟩ := hSw; go_simp; rfl) | (have s1 := hSw; go_simp; rfl)
  go_simp
  refine wpAnyH_take (i := 4) (v := ?_) rfl (by kernel_rfl) (by kernel_rfl) (by kernel_rfl) (fun _ _ _ h => h) (Or.inl ⟨by rfl, ?_⟩) s0 ?_
  rotate_left
  · intro w hSw; first | (obtain ⟨s1, s2, s3, s4, s5, s6, s7, s8⟩ := hSw; go_simp; rfl) | (obtain ⟨s1, s2, s3, s4, s5, s6, s7⟩ := hSw; go_simp; rfl) | (obtain ⟨s1, s2, s3⟩ := hSw; go_simp; rfl) | (obtain ⟨s1, s2⟩ := hSw; go_simp; rfl) | (have s1 := hSw; go_simp; rfl)
  go_simp
  refine wpAnyH_take (i := 5) (v := ?_) rfl (by kernel_rfl) (by kernel_rfl) (by kernel_rfl) (fun _ _ _ h => h) (Or.inl ⟨by rfl, ?_⟩) s0 ?_
  rotate_left
  · intro w hSw; first | (obtain ⟨s1, s2, s3, s4, s5, s6, s7, s8⟩ := hSw; go_simp; rfl) | (obtain ⟨s1, s2, s3, s4, s5, s6, s7⟩ := hSw; go_simp; rfl) | (obtain ⟨s1, s2, s3⟩ := hSw; go_simp; rfl) | (obtain ⟨s1, s2⟩ := hSw; go_simp; rfl) | (have s1 := hSw; go_simp; rfl)
  go_simp
  refine wpAnyH_take (i := 6) (v := ?_) rfl (by kernel_rfl) (by kernel_rfl) (by kernel_rfl) (fun _ _ _ h => h) (Or.inl ⟨by rfl, ?_⟩) s0 ?_
  rotate_left
  · intro w hSw; first | (obtain ⟨s1, s2, s3, s4, s5, s6, s7, s8⟩ := hSw; go_simp; rfl) | (obtain ⟨s1, s2, s3, s4, s5, s6, s7⟩ := hSw; go_simp; rfl) | (obtain ⟨s1, s2, s3⟩ := hSw; go_simp; rfl) | (obtain ⟨s1, s2⟩ := hSw; go_simp; rfl) | (have s1 := hSw; go_simp; rfl)
  go_simp
  refine wpAnyH_take (i := 8) (v := ?_) rfl (by kernel_rfl) (by kernel_rfl) (by kernel_rfl) (fun _ _ _ h => h) (Or.inl ⟨by rfl, ?_⟩) s0 ?_
  rotate_left
  · intro w hSw; first | (obtain ⟨s1, s2, s3, s4, s5, s6, s7, s8⟩ := hSw; go_simp; rfl) | (obtain ⟨s1, s2, s3, s4, s5, s6, s7⟩ := hSw; go_simp; rfl) | (obtain ⟨s1, s2, s3⟩ := hSw; go_simp; rfl) | (obtain ⟨s1, s2⟩ := hSw; go_simp; rfl) | (have s1 := hSw; go_simp; rfl)
  go_simp
  refine wpAnyH_take (i := 9) (v := ?_) rfl (by kernel_rfl) (by kernel_rfl) (by kernel_rfl) (fun _ _ _ h => h) (Or.inl ⟨by rfl, ?_⟩) s0 ?_
  rotate_left
  · intro w hSw; first | (obtain ⟨s1, s2, s3, s4, s5, s6, s7, s8⟩ := hSw; go_simp; rfl) | (obtain ⟨s1, s2, s3, s4, s5, s6, s7⟩ := hSw; go_simp; rfl) | (obtain ⟨s1, s2, s3⟩ := hSw; go_simp; rfl) | (obtain ⟨s1, s2⟩ := hSw; go_simp; rfl) | (have s1 := hSw; go_simp; rfl)
  go_simp
  refine wpAnyH_take (i := 12) (v := ?_) rfl (by kernel_rfl) (by kernel_rfl) (by kernel_rfl) (fun _ _ _ h => h) (Or.inl ⟨by rfl, ?_⟩) s0 ?_
  rotate_left
  · intro w hSw; first | (obtain ⟨s1, s2, s3, s4, s5, s6, s7, s8⟩ := hSw; go_simp; rfl) | (obtain ⟨s1, s2, s3, s4, s5, s6, s7⟩ := hSw; go_simp; rfl) | (obtain ⟨s1, s2, s3⟩ := hSw; go_simp; rfl) | (obtain ⟨s1, s2⟩ := hSw; go_simp; rfl) | (have s1 := hSw; go_simp; rfl)
  go_simp
  refine wpAnyH_take (i := 13) (v := ?_) rfl (by kernel_rfl) (by kernel_rfl) (by kernel_rfl) (fun _ _ _ h => h) (Or.inl ⟨by rfl, ?_⟩) s0 ?_
  rotate_left
  · intro w hSw; first | (obtain ⟨s1, s2, s3, s4, s5, s6, s7, s8⟩ := hSw; go_simp; rfl) | (obtain ⟨s1, s2, s3, s4, s5, s6, s7⟩ := hSw; go_simp; rfl) | (obtain ⟨s1, s2, s3⟩ := hSw; go_simp; rfl) | (obtain ⟨s1, s2⟩ := hSw; go_simp; rfl) | (have s1 := hSw; go_simp; rfl)
  go_simp
  refine heldOne (i := 7) (by kernel_rfl) rfl (by rfl) (fun K hK => ?_)
  go_simp
  refine (HR.out W0 HN0.out).mono ?_
  rintro e w2 ⟨rfl, rfl⟩
  refine hK.out _ _ s0 ?_
  clear hK K
  refine heldOne (i := 10) (by kernel_rfl) rfl (by rfl) (fun K hK => ?_)
  go_simp
  refine (HVV.out W0 HN0.out).mono ?_
  rintro e w3 ⟨rfl, hn3⟩
  have hb3 := (hn3.block xb hxl id).trans HB0.out
  have HN3 := Lib.hid (HN0.out.trans hn3)
  have HB3 := Lib.hid hb3
  have s3 := box_cells hb3
  refine hK.out _ _ s3 ?_
  clear hK K s0 hn3 hb3
  refine heldOne (i := 11) (by kernel_rfl) rfl (by rfl) (fun K hK => ?_)
  go_simp
  refine (HK.out w3).mono ?_
  rintro e w4 ⟨rfl, hn4⟩
  have hb4 := (hn4.block xb (lt_of_block HB3.out) id).trans HB3.out
  have HN4 := Lib.hid (HN3.out.trans hn4)
  have HB4 := Lib.hid hb4
  have s4 := box_cells hb4
  refine hK.out _ _ s4 ?_
  clear hK K s3 hn4 hb4
  refine wpAnyH_take (i := 14) (v := ?_) rfl (by kernel_rfl) (by kernel_rfl) (by kernel_rfl) (fun _ _ _ h => h) (Or.inl ⟨by rfl, ?_⟩) s4 ?_
  rotate_left
  · intro w hSw; first | (obtain ⟨s1, s2, s3, s4, s5, s6, s7, s8⟩ := hSw; go_simp; rfl) | (obtain ⟨s1, s2, s3, s4, s5, s6, s7⟩ := hSw; go_simp; rfl) | (obtain ⟨s1, s2, s3⟩ := hSw; go_simp; rfl) | (obtain ⟨s1, s2⟩ := hSw; go_simp; rfl) | (have s1 := hSw; go_simp; rfl)
  go_simp
  refine heldOne (i := 15) (by kernel_rfl) rfl (by rfl) (fun K hK => ?_)
  have ya := (HN4.out.cell hl id _).trans ca
  have yz : ∀ i, w4.frozen? ⟨fb, i, none⟩ = false := fun i => (HN4.out.frozen hl id i).trans (z0 i)
  go_simp
  have hs5 := (H.out.new HN4.out).setReg ha hrk
  have hb5 : (w4.setCell ⟨fb, o + 1 + a, none⟩ (.int .u64 (R : Nat))).heap[xb]? = _ := (block_setCell_ne (by omega) _).trans HB4.out
  have HS5 := Lib.hid hs5
  have HB5 := Lib.hid hb5
  have HF5 := Lib.hid ((Fr34.new hl HN4.out).trans (Fr34.set (fb := fb) (o := o) (i := o + 1 + a) (.int .u64 (R : Nat)) (by omega) (by omega)))
  refine hK.out _ _ (box_cells hb5) ?_
  clear hK K ya yz hs5 hb5 s4
  refine wpAnyH_done (by kernel_rfl) ?_ _
  generalize w4.setCell ⟨fb, o + 1 + a, none⟩ (.int .u64 (R : Nat)) = w5 at HS5 HB5 HF5 ⊢
  have d0 : w5.cell? ⟨fb, o, none⟩ = some (.int .i64 k) := by rw [← HPC.out]; exact HS5.out.fr.pc
  have zf : ∀ i, w5.frozen? ⟨fb, i, none⟩ = false := HS5.out.fr.free
  go_wp2
  go_ret2
  rw [HE.out]
  exact ⟨v, rfl, by rw [HPC.out]; exact HS5.out.setPc _, HF5.out.trans (Fr34.set _ (Nat.le_refl _) (by omega)), fun k hk => .inl hk⟩
set_option maxRecDepth 100000 in
set_option maxHeartbeats 8000000 in
theorem step_reck5 (a : Nat) (h : FmAt w fb o v F) (hi : InsAt w cg co k 5 a B C V M W) (hk : k < n) (hn : n ≤ 1000000) (hV : V < 18446744073709551616) (hpc : F.pc = k) (hg : goodV 5 a B C V n = true) (ha : a < 32) :
    Calls Tryd.prog 10 #[.pointer (some ⟨fb, o, none⟩), .slice (some ⟨cg, co, none⟩) n cap, cv] w fun e w' => Stepped w fb o v (0, reckF 5 a B C V F) e w' := by
  have c0 := h.fr.pc
  have hl := h.fr.lt
  rw [hpc] at c0
  have HM := Lib.hid (fun w' => vmay_any 5 a B C V M W n w' hV (by omega) (by omega))
  unfold goodV at hg
  rw [hg] at HM
  have HI := Lib.hid hi
  have HR := Lib.hid (fun w' (f : New w w') => read_any fb o F.pc F.rs v B w' (h.fr.new f))
  have HVV := Lib.hid (fun w' (f : New w w') => value_any fb o F.pc F.rs v 5 a B C V M W w' (h.fr.new f))
  have hb := regN_fit h.fr.fits B
  have hc := valN_fit h.fr.fits C hV
  have hrk := reckN_fit 5 hV hb hc
  have HK := Lib.hid (fun w' => reckon_any 5 a B C V M W _ _ w' (by omega) hb hc)
  have HE := Lib.hid (show reckF 5 a B C V F = ⟨F.pc + 1, F.rs.set a (reckN 5 V (regN F.rs B) (valN F.rs C V)), F.bk⟩ from rfl)
  generalize regN F.rs B = b at HR HK HE hrk
  generalize valN F.rs C V = c at HVV HK HE hrk
  generalize reckN 5 V b c = R at HK HE hrk
  obtain ⟨_, x0, x1, x2, x3, x4, x5, x6⟩ := hi
  have q1 : (0 : Int) ≤ (k : Int) := by omega
  have q2 : (k : Int) < (n : Int) := by omega
  have q3 : (0 : Int) ≤ (a : Int) := by omega
  have q4 : (a : Int) < 32 := by omega
  have t1 : IntKind.i64.wrap ((k : Int) + 1) = (k : Int) + 1 := IntWalk.i64_in _ (by omega)
  have ca := h.fr.regD ha
  have H := Lib.hid h
  have HPC := Lib.hid hpc
  have z0 := h.fr.free
  clear h hg hpc hb hc
  go_enter Tryd.func10, Tryd.ntmps10
  go_wp2_with fail
  refine (HM.out _).mono ?_
  rintro e w1 ⟨rfl, hn1⟩
  obtain ⟨_, y0, y1, y2, y3, y4, y5, y6⟩ := HI.out.keep hn1 id
  have d0 := (hn1.cell hl id _).trans c0
  have HN1 := Lib.hid hn1
  clear c0 x0 x1 x2 x3 x4 x5 x6 hn1
  go_wp2_with fail
  obtain ⟨W0, hW0⟩ : ∃ W0, (w1.alloc (.cells #[.int .i64 5, .int .i64 a, .int .i64 B, .int .i64 C, .int .u64 V, .int .i64 M, .int .i64 W] 52)).drew = W0 := ⟨_, rfl⟩
  have hn0 : New w1 W0 := by rw [← hW0]; exact ((Fr.refl _ _).alloc _).drew
  have hb0 : W0.heap[w1.heap.size]? = some (.cells #[.int .i64 5, .int .i64 a, .int .i64 B, .int .i64 C, .int .u64 V, .int .i64 M, .int .i64 W] 52 (0, 0)) := by rw [← hW0]; exact block_alloc_new _ _
  have hfl : fb < w1.heap.size := Nat.lt_of_lt_of_le hl HN1.out.size
  obtain ⟨xb, hxb⟩ : ∃ xb, w1.heap.size = xb := ⟨_, rfl⟩
  rw [hxb] at hb0 hfl ⊢
  have hxl := lt_of_block hb0
  refine heldStart (fun wz => wz.cell? ⟨xb, 0, none⟩ = some (.int .i64 5) ∧ wz.cell? ⟨xb, 1, none⟩ = some (.int .i64 a) ∧ wz.cell? ⟨xb, 2, none⟩ = some (.int .i64 B) ∧ wz.cell? ⟨xb, 3, none⟩ = some (.int .i64 C) ∧ wz.cell? ⟨xb, 4, none⟩ = some (.int .u64 V) ∧ wz.cell? ⟨xb, 5, none⟩ = some (.int .i64 M) ∧ wz.cell? ⟨xb, 6, none⟩ = some (.int .i64 W)) (by kernel_rfl) ?_
  rw [hW0]
  have s0 := box_cells hb0
  have HN0 := Lib.hid (HN1.out.trans hn0)
  have HB0 := Lib.hid hb0
  clear hW0 hn0 hb0 d0 y0 y1 y2 y3 y4 y5 y6 hxb
  refine wpAnyH_take (i := 0) (v := ?_) rfl (by kernel_rfl) (by kernel_rfl) (by kernel_rfl) (fun _ _ _ h => h) (Or.inl ⟨by rfl, ?_⟩) s0 ?_
  rotate_left
  · intro w hSw; first | (obtain ⟨s1, s2, s3, s4, s5, s6, s7, s8⟩ := hSw; go_simp; rfl) | (obtain ⟨s1, s2, s3, s4, s5, s6, s7⟩ := hSw; go_simp; rfl) | (obtain ⟨s1, s2, s3⟩ := hSw; go_simp; rfl) | (obtain ⟨s1, s2⟩ := hSw; go_simp; rfl) | (have s1 := hSw; go_simp; rfl)
  go_simp
  refine wpAnyH_take (i := 1) (v := ?_) rfl (by kernel_rfl) (by kernel_rfl) (by kernel_rfl) (fun _ _ _ h => h) (Or.inl ⟨by rfl, ?_⟩) s0 ?_
  rotate_left
  · intro w hSw; first | (obtain ⟨s1, s2, s3, s4, s5, s6, s7, s8⟩ := hSw; go_simp; rfl) | (obtain ⟨s1, s2, s3, s4, s5, s6, s7⟩ := hSw; go_simp; rfl) | (obtain ⟨s1, s2, s3⟩ := hSw; go_simp; rfl) | (obtain ⟨s1, s2⟩ := hSw; go_simp; rfl) | (have s1 := hSw; go_simp; rfl)
  go_simp
  refine wpAnyH_take (i := 2) (v := ?_) rfl (by kernel_rfl) (by kernel_rfl) (by kernel_rfl) (fun _ _ _ h => h) (Or.inl ⟨by rfl, ?_⟩) s0 ?_
  rotate_left
  · intro w hSw; first | (obtain ⟨s1, s2, s3, s4, s5, s6, s7, s8⟩ := hSw; go_simp; rfl) | (obtain ⟨s1, s2, s3, s4, s5, s6, s7⟩ := hSw; go_simp; rfl) | (obtain ⟨s1, s2, s3⟩ := hSw; go_simp; rfl) | (obtain ⟨s1, s2⟩ := hSw; go_simp; rfl) | (have s1 := hSw; go_simp; rfl)
  go_simp
  refine wpAnyH_take (i := 3) (v := ?_) rfl (by kernel_rfl) (by kernel_rfl) (by kernel_rfl) (fun _ _ _ h => h) (Or.inl ⟨by rfl, ?_⟩) s0 ?_
  rotate_left
  · intro w hSw; first | (obtain ⟨s1, s2, s3, s4, s5, s6, s7, s8⟩ := hSw; go_simp; rfl) | (obtain ⟨s1, s2, s3, s4, s5, s6, s7⟩ := hSw; go_simp; rfl) | (obtain ⟨s1, s2, s3⟩ := hSw; go_simp; rfl) | (obtain ⟨s1, s2⟩ := hSw; go_simp; rfl) | (have s1 := hSw; go_simp; rfl)
  go_simp
  refine wpAnyH_take (i := 4) (v := ?_) rfl (by kernel_rfl) (by kernel_rfl) (by kernel_rfl) (fun _ _ _ h => h) (Or.inl ⟨by rfl, ?_⟩) s0 ?_
  rotate_left
  · intro w hSw; first | (obtain ⟨s1, s2, s3, s4, s5, s6, s7, s8⟩ := hSw; go_simp; rfl) | (obtain ⟨s1, s2, s3, s4, s5, s6, s7⟩ := hSw; go_simp; rfl) | (obtain ⟨s1, s2, s3⟩ := hSw; go_simp; rfl) | (obtain ⟨s1, s2⟩ := hSw; go_simp; rfl) | (have s1 := hSw; go_simp; rfl)
  go_simp
  refine wpAnyH_take (i := 5) (v := ?_) rfl (by kernel_rfl) (by kernel_rfl) (by kernel_rfl) (fun _ _ _ h => h) (Or.inl ⟨by rfl, ?_⟩) s0 ?_
  rotate_left
  · intro w hSw; first | (obtain ⟨s1, s2, s3, s4, s5, s6, s7, s8⟩ := hSw; go_simp; rfl) | (obtain ⟨s1, s2, s3, s4, s5, s6, s7⟩ := hSw; go_simp; rfl) | (obtain ⟨s1, s2, s3⟩ := hSw; go_simp; rfl) | (obtain ⟨s1, s2⟩ := hSw; go_simp; rfl) | (have s1 := hSw; go_simp; rfl)
  go_simp
  refine wpAnyH_take (i := 6) (v := ?_) rfl (by kernel_rfl) (by kernel_rfl) (by kernel_rfl) (fun _ _ _ h => h) (Or.inl ⟨by rfl, ?_⟩) s0 ?_
  rotate_left
  · intro w hSw; first | (obtain ⟨s1, s2, s3, s4, s5, s6, s7, s8⟩ := hSw; go_simp; rfl) | (obtain ⟨s1, s2, s3, s4, s5, s6, s7⟩ := hSw; go_simp; rfl) | (obtain ⟨s1, s2, s3⟩ := hSw; go_simp; rfl) | (obtain ⟨s1, s2⟩ := hSw; go_simp; rfl) | (have s1 := hSw; go_simp; rfl)
  go_simp
  refine wpAnyH_take (i := 8) (v := ?_) rfl (by kernel_rfl) (by kernel_rfl) (by kernel_rfl) (fun _ _ _ h => h) (Or.inl ⟨by rfl, ?_⟩) s0 ?_
  rotate_left
  · intro w hSw; first | (obtain ⟨s1, s2, s3, s4, s5, s6, s7, s8⟩ := hSw; go_simp; rfl) | (obtain ⟨s1, s2, s3, s4, s5, s6, s7⟩ := hSw; go_simp; rfl) | (obtain ⟨s1, s2, s3⟩ := hSw; go_simp; rfl) | (obtain ⟨s1, s2⟩ := hSw; go_simp; rfl) | (have s1 := hSw; go_simp; rfl)
  go_simp
  refine wpAnyH_take (i := 9) (v := ?_) rfl (by kernel_rfl) (by kernel_rfl) (by kernel_rfl) (fun _ _ _ h => h) (Or.inl ⟨by rfl, ?_⟩) s0 ?_
  rotate_left
  · intro w hSw; first | (obtain ⟨s1, s2, s3, s4, s5, s6, s7, s8⟩ := hSw; go_simp; rfl) | (obtain ⟨s1, s2, s3, s4, s5, s6, s7⟩ := hSw; go_simp; rfl) | (obtain ⟨s1, s2, s3⟩ := hSw; go_simp; rfl) | (obtain ⟨s1, s2⟩ := hSw; go_simp; rfl) | (have s1 := hSw; go_simp; rfl)
  go_simp
  refine wpAnyH_take (i := 12) (v := ?_) rfl (by kernel_rfl) (by kernel_rfl) (by kernel_rfl) (fun _ _ _ h => h) (Or.inl ⟨by rfl, ?_⟩) s0 ?_
  rotate_left
  · intro w hSw; first | (obtain ⟨s1, s2, s3, s4, s5, s6, s7, s8⟩ := hSw; go_simp; rfl) | (obtain ⟨s1, s2, s3, s4, s5, s6, s7⟩ := hSw; go_simp; rfl) | (obtain ⟨s1, s2, s3⟩ := hSw; go_simp; rfl) | (obtain ⟨s1, s2⟩ := hSw; go_simp; rfl) | (have s1 := hSw; go_simp; rfl)
  go_simp
  refine wpAnyH_take (i := 13) (v := ?_) rfl (by kernel_rfl) (by kernel_rfl) (by kernel_rfl) (fun _ _ _ h => h) (Or.inl ⟨by rfl, ?_⟩) s0 ?_
  rotate_left
  · intro w hSw; first | (obtain ⟨s1, s2, s3, s4, s5, s6, s7, s8⟩ := hSw; go_simp; rfl) | (obtain ⟨s1, s2, s3, s4, s5, s6, s7⟩ := hSw; go_simp; rfl) | (obtain ⟨s1, s2, s3⟩ := hSw; go_simp; rfl) | (obtain ⟨s1, s2⟩ := hSw; go_simp; rfl) | (have s1 := hSw; go_simp; rfl)
  go_simp
  refine heldOne (i := 7) (by kernel_rfl) rfl (by rfl) (fun K hK => ?_)
  go_simp
  refine (HR.out W0 HN0.out).mono ?_
  rintro e w2 ⟨rfl, rfl⟩
  refine hK.out _ _ s0 ?_
  clear hK K
  refine heldOne (i := 10) (by kernel_rfl) rfl (by rfl) (fun K hK => ?_)
  go_simp
  refine (HVV.out W0 HN0.out).mono ?_
  rintro e w3 ⟨rfl, hn3⟩
  have hb3 := (hn3.block xb hxl id).trans HB0.out
  have HN3 := Lib.hid (HN0.out.trans hn3)
  have HB3 := Lib.hid hb3
  have s3 := box_cells hb3
  refine hK.out _ _ s3 ?_
  clear hK K s0 hn3 hb3
  refine heldOne (i := 11) (by kernel_rfl) rfl (by rfl) (fun K hK => ?_)
  go_simp
  refine (HK.out w3).mono ?_
  rintro e w4 ⟨rfl, hn4⟩
  have hb4 := (hn4.block xb (lt_of_block HB3.out) id).trans HB3.out
  have HN4 := Lib.hid (HN3.out.trans hn4)
  have HB4 := Lib.hid hb4
  have s4 := box_cells hb4
  refine hK.out _ _ s4 ?_
  clear hK K s3 hn4 hb4
  refine wpAnyH_take (i := 14) (v := ?_) rfl (by kernel_rfl) (by kernel_rfl) (by kernel_rfl) (fun _ _ _ h => h) (Or.inl ⟨by rfl, ?_⟩) s4 ?_
  rotate_left
  · intro w hSw; first | (obtain ⟨s1, s2, s3, s4, s5, s6, s7, s8⟩ := hSw; go_simp; rfl) | (obtain ⟨s1, s2, s3, s4, s5, s6, s7⟩ := hSw; go_simp; rfl) | (obtain ⟨s1, s2, s3⟩ := hSw; go_simp; rfl) | (obtain ⟨s1, s2⟩ := hSw; go_simp; rfl) | (have s1 := hSw; go_simp; rfl)
  go_simp
  refine heldOne (i := 15) (by kernel_rfl) rfl (by rfl) (fun K hK => ?_)
  have ya := (HN4.out.cell hl id _).trans ca
  have yz : ∀ i, w4.frozen? ⟨fb, i, none⟩ = false := fun i => (HN4.out.frozen hl id i).trans (z0 i)
  go_simp
  have hs5 := (H.out.new HN4.out).setReg ha hrk
  have hb5 : (w4.setCell ⟨fb, o + 1 + a, none⟩ (.int .u64 (R : Nat))).heap[xb]? = _ := (block_setCell_ne (by omega) _).trans HB4.out
  have HS5 := Lib.hid hs5
  have HB5 := Lib.hid hb5
  have HF5 := Lib.hid ((Fr34.new hl HN4.out).trans (Fr34.set (fb := fb) (o := o) (i := o + 1 + a) (.int .u64 (R : Nat)) (by omega) (by omega)))
  refine hK.out _ _ (box_cells hb5) ?_
  clear hK K ya yz hs5 hb5 s4
  refine wpAnyH_done (by kernel_rfl) ?_ _
  generalize w4.setCell ⟨fb, o + 1 + a, none⟩ (.int .u64 (R : Nat)) = w5 at HS5 HB5 HF5 ⊢
  have d0 : w5.cell? ⟨fb, o, none⟩ = some (.int .i64 k) := by rw [← HPC.out]; exact HS5.out.fr.pc
  have zf : ∀ i, w5.frozen? ⟨fb, i, none⟩ = false := HS5.out.fr.free
  go_wp2
  go_ret2
  rw [HE.out]
  exact ⟨v, rfl, by rw [HPC.out]; exact HS5.out.setPc _, HF5.out.trans (Fr34.set _ (Nat.le_refl _) (by omega)), fun k hk => .inl hk⟩
set_option maxRecDepth 100000 in
set_option maxHeartbeats 8000000 in
theorem step_reck6 (a : Nat) (h : FmAt w fb o v F) (hi : InsAt w cg co k 6 a B C V M W) (hk : k < n) (hn : n ≤ 1000000) (hV : V < 18446744073709551616) (hpc : F.pc = k) (hg : goodV 6 a B C V n = true) (ha : a < 32) :
    Calls Tryd.prog 10 #[.pointer (some ⟨fb, o, none⟩), .slice (some ⟨cg, co, none⟩) n cap, cv] w fun e w' => Stepped w fb o v (0, reckF 6 a B C V F) e w' := by
  have c0 := h.fr.pc
  have hl := h.fr.lt
  rw [hpc] at c0
  have HM := Lib.hid (fun w' => vmay_any 6 a B C V M W n w' hV (by omega) (by omega))
  unfold goodV at hg
  rw [hg] at HM
  have HI := Lib.hid hi
  have HR := Lib.hid (fun w' (f : New w w') => read_any fb o F.pc F.rs v B w' (h.fr.new f))
  have HVV := Lib.hid (fun w' (f : New w w') => value_any fb o F.pc F.rs v 6 a B C V M W w' (h.fr.new f))
  have hb := regN_fit h.fr.fits B
  have hc := valN_fit h.fr.fits C hV
  have hrk := reckN_fit 6 hV hb hc
  have HK := Lib.hid (fun w' => reckon_any 6 a B C V M W _ _ w' (by omega) hb hc)
  have HE := Lib.hid (show reckF 6 a B C V F = ⟨F.pc + 1, F.rs.set a (reckN 6 V (regN F.rs B) (valN F.rs C V)), F.bk⟩ from rfl)
  generalize regN F.rs B = b at HR HK HE hrk
  generalize valN F.rs C V = c at HVV HK HE hrk
  generalize reckN 6 V b c = R at HK HE hrk
  obtain ⟨_, x0, x1, x2, x3, x4, x5, x6⟩ := hi
  have q1 : (0 : Int) ≤ (k : Int) := by omega
  have q2 : (k : Int) < (n : Int) := by omega
  have q3 : (0 : Int) ≤ (a : Int) := by omega
  have q4 : (a : Int) < 32 := by omega
  have t1 : IntKind.i64.wrap ((k : Int) + 1) = (k : Int) + 1 := IntWalk.i64_in _ (by omega)
  have ca := h.fr.regD ha
  have H := Lib.hid h
  have HPC := Lib.hid hpc
  have z0 := h.fr.free
  clear h hg hpc hb hc
  go_enter Tryd.func10, Tryd.ntmps10
  go_wp2_with fail
  refine (HM.out _).mono ?_
  rintro e w1 ⟨rfl, hn1⟩
  obtain ⟨_, y0, y1, y2, y3, y4, y5, y6⟩ := HI.out.keep hn1 id
  have d0 := (hn1.cell hl id _).trans c0
  have HN1 := Lib.hid hn1
  clear c0 x0 x1 x2 x3 x4 x5 x6 hn1
  go_wp2_with fail
  obtain ⟨W0, hW0⟩ : ∃ W0, (w1.alloc (.cells #[.int .i64 6, .int .i64 a, .int .i64 B, .int .i64 C, .int .u64 V, .int .i64 M, .int .i64 W] 52)).drew = W0 := ⟨_, rfl⟩
  have hn0 : New w1 W0 := by rw [← hW0]; exact ((Fr.refl _ _).alloc _).drew
  have hb0 : W0.heap[w1.heap.size]? = some (.cells #[.int .i64 6, .int .i64 a, .int .i64 B, .int .i64 C, .int .u64 V, .int .i64 M, .int .i64 W] 52 (0, 0)) := by rw [← hW0]; exact block_alloc_new _ _
  have hfl : fb < w1.heap.size := Nat.lt_of_lt_of_le hl HN1.out.size
  obtain ⟨xb, hxb⟩ : ∃ xb, w1.heap.size = xb := ⟨_, rfl⟩
  rw [hxb] at hb0 hfl ⊢
  have hxl := lt_of_block hb0
  refine heldStart (fun wz => wz.cell? ⟨xb, 0, none⟩ = some (.int .i64 6) ∧ wz.cell? ⟨xb, 1, none⟩ = some (.int .i64 a) ∧ wz.cell? ⟨xb, 2, none⟩ = some (.int .i64 B) ∧ wz.cell? ⟨xb, 3, none⟩ = some (.int .i64 C) ∧ wz.cell? ⟨xb, 4, none⟩ = some (.int .u64 V) ∧ wz.cell? ⟨xb, 5, none⟩ = some (.int .i64 M) ∧ wz.cell? ⟨xb, 6, none⟩ = some (.int .i64 W)) (by kernel_rfl) ?_
  rw [hW0]
  have s0 := box_cells hb0
  have HN0 := Lib.hid (HN1.out.trans hn0)
  have HB0 := Lib.hid hb0
  clear hW0 hn0 hb0 d0 y0 y1 y2 y3 y4 y5 y6 hxb
  refine wpAnyH_take (i := 0) (v := ?_) rfl (by kernel_rfl) (by kernel_rfl) (by kernel_rfl) (fun _ _ _ h => h) (Or.inl ⟨by rfl, ?_⟩) s0 ?_
  rotate_left
  · intro w hSw; first | (obtain ⟨s1, s2, s3, s4, s5, s6, s7, s8⟩ := hSw; go_simp; rfl) | (obtain ⟨s1, s2, s3, s4, s5, s6, s7⟩ := hSw; go_simp; rfl) | (obtain ⟨s1, s2, s3⟩ := hSw; go_simp; rfl) | (obtain ⟨s1, s2⟩ := hSw; go_simp; rfl) | (have s1 := hSw; go_simp; rfl)
  go_simp
  refine wpAnyH_take (i := 1) (v := ?_) rfl (by kernel_rfl) (by kernel_rfl) (by kernel_rfl) (fun _ _ _ h => h) (Or.inl ⟨by rfl, ?_⟩) s0 ?_
  rotate_left
  · intro w hSw; first | (obtain ⟨s1, s2, s3, s4, s5, s6, s7, s8⟩ := hSw; go_simp; rfl) | (obtain ⟨s1, s2, s3, s4, s5, s6, s7⟩ := hSw; go_simp; rfl) | (obtain ⟨s1, s2, s3⟩ := hSw; go_simp; rfl) | (obtain ⟨s1, s2⟩ := hSw; go_simp; rfl) | (have s1 := hSw; go_simp; rfl)
  go_simp
  refine wpAnyH_take (i := 2) (v := ?_) rfl (by kernel_rfl) (by kernel_rfl) (by kernel_rfl) (fun _ _ _ h => h) (Or.inl ⟨by rfl, ?_⟩) s0 ?_
  rotate_left
  · intro w hSw; first | (obtain ⟨s1, s2, s3, s4, s5, s6, s7, s8⟩ := hSw; go_simp; rfl) | (obtain ⟨s1, s2, s3, s4, s5, s6, s7⟩ := hSw; go_simp; rfl) | (obtain ⟨s1, s2, s3⟩ := hSw; go_simp; rfl) | (obtain ⟨s1, s2⟩ := hSw; go_simp; rfl) | (have s1 := hSw; go_simp; rfl)
  go_simp
  refine wpAnyH_take (i := 3) (v := ?_) rfl (by kernel_rfl) (by kernel_rfl) (by kernel_rfl) (fun _ _ _ h => h) (Or.inl ⟨by rfl, ?_⟩) s0 ?_
  rotate_left
  · intro w hSw; first | (obtain ⟨s1, s2, s3, s4, s5, s6, s7, s8⟩ := hSw; go_simp; rfl) | (obtain ⟨s1, s2, s3, s4, s5, s6, s7⟩ := hSw; go_simp; rfl) | (obtain ⟨s1, s2, s3⟩ := hSw; go_simp; rfl) | (obtain ⟨s1, s2⟩ := hSw; go_simp; rfl) | (have s1 := hSw; go_simp; rfl)
  go_simp
  refine wpAnyH_take (i := 4) (v := ?_) rfl (by kernel_rfl) (by kernel_rfl) (by kernel_rfl) (fun _ _ _ h => h) (Or.inl ⟨by rfl, ?_⟩) s0 ?_
  rotate_left
  · intro w hSw; first | (obtain ⟨s1, s2, s3, s4, s5, s6, s7, s8⟩ := hSw; go_simp; rfl) | (obtain ⟨s1, s2, s3, s4, s5, s6, s7⟩ := hSw; go_simp; rfl) | (obtain ⟨s1, s2, s3⟩ := hSw; go_simp; rfl) | (obtain ⟨s1, s2⟩ := hSw; go_simp; rfl) | (have s1 := hSw; go_simp; rfl)
  go_simp
  refine wpAnyH_take (i := 5) (v := ?_) rfl (by kernel_rfl) (by kernel_rfl) (by kernel_rfl) (fun _ _ _ h => h) (Or.inl ⟨by rfl, ?_⟩) s0 ?_
  rotate_left
  · intro w hSw; first | (obtain ⟨s1, s2, s3, s4, s5, s6, s7, s8⟩ := hSw; go_simp; rfl) | (obtain ⟨s1, s2, s3, s4, s5, s6, s7⟩ := hSw; go_simp; rfl) | (obtain ⟨s1, s2, s3⟩ := hSw; go_simp; rfl) | (obtain ⟨s1, s2⟩ := hSw; go_simp; rfl) | (have s1 := hSw; go_simp; rfl)
  go_simp
  refine wpAnyH_take (i := 6) (v := ?_) rfl (by kernel_rfl) (by kernel_rfl) (by kernel_rfl) (fun _ _ _ h => h) (Or.inl ⟨by rfl, ?_⟩) s0 ?_
  rotate_left
  · intro w hSw; first | (obtain ⟨s1, s2, s3, s4, s5, s6, s7, s8⟩ := hSw; go_simp; rfl) | (obtain ⟨s1, s2, s3, s4, s5, s6, s7⟩ := hSw; go_simp; rfl) | (obtain ⟨s1, s2, s3⟩ := hSw; go_simp; rfl) | (obtain ⟨s1, s2⟩ := hSw; go_simp; rfl) | (have s1 := hSw; go_simp; rfl)
  go_simp
  refine wpAnyH_take (i := 8) (v := ?_) rfl (by kernel_rfl) (by kernel_rfl) (by kernel_rfl) (fun _ _ _ h => h) (Or.inl ⟨by rfl, ?_⟩) s0 ?_
  rotate_left
  · intro w hSw; first | (obtain ⟨s1, s2, s3, s4, s5, s6, s7, s8⟩ := hSw; go_simp; rfl) | (obtain ⟨s1, s2, s3, s4, s5, s6, s7⟩ := hSw; go_simp; rfl) | (obtain ⟨s1, s2, s3⟩ := hSw; go_simp; rfl) | (obtain ⟨s1, s2⟩ := hSw; go_simp; rfl) | (have s1 := hSw; go_simp; rfl)
  go_simp
  refine wpAnyH_take (i := 9) (v := ?_) rfl (by kernel_rfl) (by kernel_rfl) (by kernel_rfl) (fun _ _ _ h => h) (Or.inl ⟨by rfl, ?_⟩) s0 ?_
  rotate_left
  · intro w hSw; first | (obtain ⟨s1, s2, s3, s4, s5, s6, s7, s8⟩ := hSw; go_simp; rfl) | (obtain ⟨s1, s2, s3, s4, s5, s6, s7⟩ := hSw; go_simp; rfl) | (obtain ⟨s1, s2, s3⟩ := hSw; go_simp; rfl) | (obtain ⟨s1, s2⟩ := hSw; go_simp; rfl) | (have s1 := hSw; go_simp; rfl)
  go_simp
  refine wpAnyH_take (i := 12) (v := ?_) rfl (by kernel_rfl) (by kernel_rfl) (by kernel_rfl) (fun _ _ _ h => h) (Or.inl ⟨by rfl, ?_⟩) s0 ?_
  rotate_left
  · intro w hSw; first | (obtain ⟨s1, s2, s3, s4, s5, s6, s7, s8⟩ := hSw; go_simp; rfl) | (obtain ⟨s1, s2, s3, s4, s5, s6, s7⟩ := hSw; go_simp; rfl) | (obtain ⟨s1, s2, s3⟩ := hSw; go_simp; rfl) | (obtain ⟨s1, s2⟩ := hSw; go_simp; rfl) | (have s1 := hSw; go_simp; rfl)
  go_simp
  refine wpAnyH_take (i := 13) (v := ?_) rfl (by kernel_rfl) (by kernel_rfl) (by kernel_rfl) (fun _ _ _ h => h) (Or.inl ⟨by rfl, ?_⟩) s0 ?_
  rotate_left
  · intro w hSw; first | (obtain ⟨s1, s2, s3, s4, s5, s6, s7, s8⟩ := hSw; go_simp; rfl) | (obtain ⟨s1, s2, s3, s4, s5, s6, s7⟩ := hSw; go_simp; rfl) | (obtain ⟨s1, s2, s3⟩ := hSw; go_simp; rfl) | (obtain ⟨s1, s2⟩ := hSw; go_simp; rfl) | (have s1 := hSw; go_simp; rfl)
  go_simp
  refine heldOne (i := 7) (by kernel_rfl) rfl (by rfl) (fun K hK => ?_)
  go_simp
  refine (HR.out W0 HN0.out).mono ?_
  rintro e w2 ⟨rfl, rfl⟩
  refine hK.out _ _ s0 ?_
  clear hK K
  refine heldOne (i := 10) (by kernel_rfl) rfl (by rfl) (fun K hK => ?_)
  go_simp
  refine (HVV.out W0 HN0.out).mono ?_
  rintro e w3 ⟨rfl, hn3⟩
  have hb3 := (hn3.block xb hxl id).trans HB0.out
  have HN3 := Lib.hid (HN0.out.trans hn3)
  have HB3 := Lib.hid hb3
  have s3 := box_cells hb3
  refine hK.out _ _ s3 ?_
  clear hK K s0 hn3 hb3
  refine heldOne (i := 11) (by kernel_rfl) rfl (by rfl) (fun K hK => ?_)
  go_simp
  refine (HK.out w3).mono ?_
  rintro e w4 ⟨rfl, hn4⟩
  have hb4 := (hn4.block xb (lt_of_block HB3.out) id).trans HB3.out
  have HN4 := Lib.hid (HN3.out.trans hn4)
  have HB4 := Lib.hid hb4
  have s4 := box_cells hb4
  refine hK.out _ _ s4 ?_
  clear hK K s3 hn4 hb4
  refine wpAnyH_take (i := 14) (v := ?_) rfl (by kernel_rfl) (by kernel_rfl) (by kernel_rfl) (fun _ _ _ h => h) (Or.inl ⟨by rfl, ?_⟩) s4 ?_
  rotate_left
  · intro w hSw; first | (obtain ⟨s1, s2, s3, s4, s5, s6, s7, s8⟩ := hSw; go_simp; rfl) | (obtain ⟨s1, s2, s3, s4, s5, s6, s7⟩ := hSw; go_simp; rfl) | (obtain ⟨s1, s2, s3⟩ := hSw; go_simp; rfl) | (obtain ⟨s1, s2⟩ := hSw; go_simp; rfl) | (have s1 := hSw; go_simp; rfl)
  go_simp
  refine heldOne (i := 15) (by kernel_rfl) rfl (by rfl) (fun K hK => ?_)
  have ya := (HN4.out.cell hl id _).trans ca
  have yz : ∀ i, w4.frozen? ⟨fb, i, none⟩ = false := fun i => (HN4.out.frozen hl id i).trans (z0 i)
  go_simp
  have hs5 := (H.out.new HN4.out).setReg ha hrk
  have hb5 : (w4.setCell ⟨fb, o + 1 + a, none⟩ (.int .u64 (R : Nat))).heap[xb]? = _ := (block_setCell_ne (by omega) _).trans HB4.out
  have HS5 := Lib.hid hs5
  have HB5 := Lib.hid hb5
  have HF5 := Lib.hid ((Fr34.new hl HN4.out).trans (Fr34.set (fb := fb) (o := o) (i := o + 1 + a) (.int .u64 (R : Nat)) (by omega) (by omega)))
  refine hK.out _ _ (box_cells hb5) ?_
  clear hK K ya yz hs5 hb5 s4
  refine wpAnyH_done (by kernel_rfl) ?_ _
  generalize w4.setCell ⟨fb, o + 1 + a, none⟩ (.int .u64 (R : Nat)) = w5 at HS5 HB5 HF5 ⊢
  have d0 : w5.cell? ⟨fb, o, none⟩ = some (.int .i64 k) := by rw [← HPC.out]; exact HS5.out.fr.pc
  have zf : ∀ i, w5.frozen? ⟨fb, i, none⟩ = false := HS5.out.fr.free
  go_wp2
  go_ret2
  rw [HE.out]
  exact ⟨v, rfl, by rw [HPC.out]; exact HS5.out.setPc _, HF5.out.trans (Fr34.set _ (Nat.le_refl _) (by omega)), fun k hk => .inl hk⟩
set_option maxRecDepth 100000 in
set_option maxHeartbeats 8000000 in
theorem step_reck7 (a : Nat) (h : FmAt w fb o v F) (hi : InsAt w cg co k 7 a B C V M W) (hk : k < n) (hn : n ≤ 1000000) (hV : V < 18446744073709551616) (hpc : F.pc = k) (hg : goodV 7 a B C V n = true) (ha : a < 32) :
    Calls Tryd.prog 10 #[.pointer (some ⟨fb, o, none⟩), .slice (some ⟨cg, co, none⟩) n cap, cv] w fun e w' => Stepped w fb o v (0, reckF 7 a B C V F) e w' := by
  have c0 := h.fr.pc
  have hl := h.fr.lt
  rw [hpc] at c0
  have HM := Lib.hid (fun w' => vmay_any 7 a B C V M W n w' hV (by omega) (by omega))
  unfold goodV at hg
  rw [hg] at HM
  have HI := Lib.hid hi
  have HR := Lib.hid (fun w' (f : New w w') => read_any fb o F.pc F.rs v B w' (h.fr.new f))
  have HVV := Lib.hid (fun w' (f : New w w') => value_any fb o F.pc F.rs v 7 a B C V M W w' (h.fr.new f))
  have hb := regN_fit h.fr.fits B
  have hc := valN_fit h.fr.fits C hV
  have hrk := reckN_fit 7 hV hb hc
  have HK := Lib.hid (fun w' => reckon_any 7 a B C V M W _ _ w' (by omega) hb hc)
  have HE := Lib.hid (show reckF 7 a B C V F = ⟨F.pc + 1, F.rs.set a (reckN 7 V (regN F.rs B) (valN F.rs C V)), F.bk⟩ from rfl)
  generalize regN F.rs B = b at HR HK HE hrk
  generalize valN F.rs C V = c at HVV HK HE hrk
  generalize reckN 7 V b c = R at HK HE hrk
  obtain ⟨_, x0, x1, x2, x3, x4, x5, x6⟩ := hi
  have q1 : (0 : Int) ≤ (k : Int) := by omega
  have q2 : (k : Int) < (n : Int) := by omega
  have q3 : (0 : Int) ≤ (a : Int) := by omega
  have q4 : (a : Int) < 32 := by omega
  have t1 : IntKind.i64.wrap ((k : Int) + 1) = (k : Int) + 1 := IntWalk.i64_in _ (by omega)
  have ca := h.fr.regD ha
  have H := Lib.hid h
  have HPC := Lib.hid hpc
  have z0 := h.fr.free
  clear h hg hpc hb hc
  go_enter Tryd.func10, Tryd.ntmps10
  go_wp2_with fail
  refine (HM.out _).mono ?_
  rintro e w1 ⟨rfl, hn1⟩
  obtain ⟨_, y0, y1, y2, y3, y4, y5, y6⟩ := HI.out.keep hn1 id
  have d0 := (hn1.cell hl id _).trans c0
  have HN1 := Lib.hid hn1
  clear c0 x0 x1 x2 x3 x4 x5 x6 hn1
  go_wp2_with fail
  obtain ⟨W0, hW0⟩ : ∃ W0, (w1.alloc (.cells #[.int .i64 7, .int .i64 a, .int .i64 B, .int .i64 C, .int .u64 V, .int .i64 M, .int .i64 W] 52)).drew = W0 := ⟨_, rfl⟩
  have hn0 : New w1 W0 := by rw [← hW0]; exact ((Fr.refl _ _).alloc _).drew
  have hb0 : W0.heap[w1.heap.size]? = some (.cells #[.int .i64 7, .int .i64 a, .int .i64 B, .int .i64 C, .int .u64 V, .int .i64 M, .int .i64 W] 52 (0, 0)) := by rw [← hW0]; exact block_alloc_new _ _
  have hfl : fb < w1.heap.size := Nat.lt_of_lt_of_le hl HN1.out.size
  obtain ⟨xb, hxb⟩ : ∃ xb, w1.heap.size = xb := ⟨_, rfl⟩
  rw [hxb] at hb0 hfl ⊢
  have hxl := lt_of_block hb0
  refine heldStart (fun wz => wz.cell? ⟨xb, 0, none⟩ = some (.int .i64 7) ∧ wz.cell? ⟨xb, 1, none⟩ = some (.int .i64 a) ∧ wz.cell? ⟨xb, 2, none⟩ = some (.int .i64 B) ∧ wz.cell? ⟨xb, 3, none⟩ = some (.int .i64 C) ∧ wz.cell? ⟨xb, 4, none⟩ = some (.int .u64 V) ∧ wz.cell? ⟨xb, 5, none⟩ = some (.int .i64 M) ∧ wz.cell? ⟨xb, 6, none⟩ = some (.int .i64 W)) (by kernel_rfl) ?_
  rw [hW0]
  have s0 := box_cells hb0
  have HN0 := Lib.hid (HN1.out.trans hn0)
  have HB0 := Lib.hid hb0
  clear hW0 hn0 hb0 d0 y0 y1 y2 y3 y4 y5 y6 hxb
  refine wpAnyH_take (i := 0) (v := ?_) rfl (by kernel_rfl) (by kernel_rfl) (by kernel_rfl) (fun _ _ _ h => h) (Or.inl ⟨by rfl, ?_⟩) s0 ?_
  rotate_left
  · intro w hSw; first | (obtain ⟨s1, s2, s3, s4, s5, s6, s7, s8⟩ := hSw; go_simp; rfl) | (obtain ⟨s1, s2, s3, s4, s5, s6, s7⟩ := hSw; go_simp; rfl) | (obtain ⟨s1, s2, s3⟩ := hSw; go_simp; rfl) | (obtain ⟨s1, s2⟩ := hSw; go_simp; rfl) | (have s1 := hSw; go_simp; rfl)
  go_simp
  refine wpAnyH_take (i := 1) (v := ?_) rfl (by kernel_rfl) (by kernel_rfl) (by kernel_rfl) (fun _ _ _ h => h) (Or.inl ⟨by rfl, ?_⟩) s0 ?_
  rotate_left
  · intro w hSw; first | (obtain ⟨s1, s2, s3, s4, s5, s6, s7, s8⟩ := hSw; go_simp; rfl) | (obtain ⟨s1, s2, s3, s4, s5, s6, s7⟩ := hSw; go_simp; rfl) | (obtain ⟨s1, s2, s3⟩ := hSw; go_simp; rfl) | (obtain ⟨s1, s2⟩ := hSw; go_simp; rfl) | (have s1 := hSw; go_simp; rfl)
  go_simp
  refine wpAnyH_take (i := 2) (v := ?_) rfl (by kernel_rfl) (by kernel_rfl) (by kernel_rfl) (fun _ _ _ h => h) (Or.inl ⟨by rfl, ?_⟩) s0 ?_
  rotate_left
  · intro w hSw; first | (obtain ⟨s1, s2, s3, s4, s5, s6, s7, s8⟩ := hSw; go_simp; rfl) | (obtain ⟨s1, s2, s3, s4, s5, s6, s7⟩ := hSw; go_simp; rfl) | (obtain ⟨s1, s2, s3⟩ := hSw; go_simp; rfl) | (obtain ⟨s1, s2⟩ := hSw; go_simp; rfl) | (have s1 := hSw; go_simp; rfl)
  go_simp
  refine wpAnyH_take (i := 3) (v := ?_) rfl (by kernel_rfl) (by kernel_rfl) (by kernel_rfl) (fun _ _ _ h => h) (Or.inl ⟨by rfl, ?_⟩) s0 ?_
  rotate_left
  · intro w hSw; first | (obtain ⟨s1, s2, s3, s4, s5, s6, s7, s8⟩ := hSw; go_simp; rfl) | (obtain ⟨s1, s2, s3, s4, s5, s6, s7⟩ := hSw; go_simp; rfl) | (obtain ⟨s1, s2, s3⟩ := hSw; go_simp; rfl) | (obtain ⟨s1, s2⟩ := hSw; go_simp; rfl) | (have s1 := hSw; go_simp; rfl)
  go_simp
  refine wpAnyH_take (i := 4) (v := ?_) rfl (by kernel_rfl) (by kernel_rfl) (by kernel_rfl) (fun _ _ _ h => h) (Or.inl ⟨by rfl, ?_⟩) s0 ?_
  rotate_left
  · intro w hSw; first | (obtain ⟨s1, s2, s3, s4, s5, s6, s7, s8⟩ := hSw; go_simp; rfl) | (obtain ⟨s1, s2, s3, s4, s5, s6, s7⟩ := hSw; go_simp; rfl) | (obtain ⟨s1, s2, s3⟩ := hSw; go_simp; rfl) | (obtain ⟨s1, s2⟩ := hSw; go_simp; rfl) | (have s1 := hSw; go_simp; rfl)
  go_simp
  refine wpAnyH_take (i := 5) (v := ?_) rfl (by kernel_rfl) (by kernel_rfl) (by kernel_rfl) (fun _ _ _ h => h) (Or.inl ⟨by rfl, ?_⟩) s0 ?_
  rotate_left
  · intro w hSw; first | (obtain ⟨s1, s2, s3, s4, s5, s6, s7, s8⟩ := hSw; go_simp; rfl) | (obtain ⟨s1, s2, s3, s4, s5, s6, s7⟩ := hSw; go_simp; rfl) | (obtain ⟨s1, s2, s3⟩ := hSw; go_simp; rfl) | (obtain ⟨s1, s2⟩ := hSw; go_simp; rfl) | (have s1 := hSw; go_simp; rfl)
  go_simp
  refine wpAnyH_take (i := 6) (v := ?_) rfl (by kernel_rfl) (by kernel_rfl) (by kernel_rfl) (fun _ _ _ h => h) (Or.inl ⟨by rfl, ?_⟩) s0 ?_
  rotate_left
  · intro w hSw; first | (obtain ⟨s1, s2, s3, s4, s5, s6, s7, s8⟩ := hSw; go_simp; rfl) | (obtain ⟨s1, s2, s3, s4, s5, s6, s7⟩ := hSw; go_simp; rfl) | (obtain ⟨s1, s2, s3⟩ := hSw; go_simp; rfl) | (obtain ⟨s1, s2⟩ := hSw; go_simp; rfl) | (have s1 := hSw; go_simp; rfl)
  go_simp
  refine wpAnyH_take (i := 8) (v := ?_) rfl (by kernel_rfl) (by kernel_rfl) (by kernel_rfl) (fun _ _ _ h => h) (Or.inl ⟨by rfl, ?_⟩) s0 ?_
  rotate_left
  · intro w hSw; first | (obtain ⟨s1, s2, s3, s4, s5, s6, s7, s8⟩ := hSw; go_simp; rfl) | (obtain ⟨s1, s2, s3, s4, s5, s6, s7⟩ := hSw; go_simp; rfl) | (obtain ⟨s1, s2, s3⟩ := hSw; go_simp; rfl) | (obtain ⟨s1, s2⟩ := hSw; go_simp; rfl) | (have s1 := hSw; go_simp; rfl)
  go_simp
  refine wpAnyH_take (i := 9) (v := ?_) rfl (by kernel_rfl) (by kernel_rfl) (by kernel_rfl) (fun _ _ _ h => h) (Or.inl ⟨by rfl, ?_⟩) s0 ?_
  rotate_left
  · intro w hSw; first | (obtain ⟨s1, s2, s3, s4, s5, s6, s7, s8⟩ := hSw; go_simp; rfl) | (obtain ⟨s1, s2, s3, s4, s5, s6, s7⟩ := hSw; go_simp; rfl) | (obtain ⟨s1, s2, s3⟩ := hSw; go_simp; rfl) | (obtain ⟨s1, s2⟩ := hSw; go_simp; rfl) | (have s1 := hSw; go_simp; rfl)
  go_simp
  refine wpAnyH_take (i := 12) (v := ?_) rfl (by kernel_rfl) (by kernel_rfl) (by kernel_rfl) (fun _ _ _ h => h) (Or.inl ⟨by rfl, ?_⟩) s0 ?_
  rotate_left
  · intro w hSw; first | (obtain ⟨s1, s2, s3, s4, s5, s6, s7, s8⟩ := hSw; go_simp; rfl) | (obtain ⟨s1, s2, s3, s4, s5, s6, s7⟩ := hSw; go_simp; rfl) | (obtain ⟨s1, s2, s3⟩ := hSw; go_simp; rfl) | (obtain ⟨s1, s2⟩ := hSw; go_simp; rfl) | (have s1 := hSw; go_simp; rfl)
  go_simp
  refine wpAnyH_take (i := 13) (v := ?_) rfl (by kernel_rfl) (by kernel_rfl) (by kernel_rfl) (fun _ _ _ h => h) (Or.inl ⟨by rfl, ?_⟩) s0 ?_
  rotate_left
  · intro w hSw; first | (obtain ⟨s1, s2, s3, s4, s5, s6, s7, s8⟩ := hSw; go_simp; rfl) | (obtain ⟨s1, s2, s3, s4, s5, s6, s7⟩ := hSw; go_simp; rfl) | (obtain ⟨s1, s2, s3⟩ := hSw; go_simp; rfl) | (obtain ⟨s1, s2⟩ := hSw; go_simp; rfl) | (have s1 := hSw; go_simp; rfl)
  go_simp
  refine heldOne (i := 7) (by kernel_rfl) rfl (by rfl) (fun K hK => ?_)
  go_simp
  refine (HR.out W0 HN0.out).mono ?_
  rintro e w2 ⟨rfl, rfl⟩
  refine hK.out _ _ s0 ?_
  clear hK K
  refine heldOne (i := 10) (by kernel_rfl) rfl (by rfl) (fun K hK => ?_)
  go_simp
  refine (HVV.out W0 HN0.out).mono ?_
  rintro e w3 ⟨rfl, hn3⟩
  have hb3 := (hn3.block xb hxl id).trans HB0.out
  have HN3 := Lib.hid (HN0.out.trans hn3)
  have HB3 := Lib.hid hb3
  have s3 := box_cells hb3
  refine hK.out _ _ s3 ?_
  clear hK K s0 hn3 hb3
  refine heldOne (i := 11) (by kernel_rfl) rfl (by rfl) (fun K hK => ?_)
  go_simp
  refine (HK.out w3).mono ?_
  rintro e w4 ⟨rfl, hn4⟩
  have hb4 := (hn4.block xb (lt_of_block HB3.out) id).trans HB3.out
  have HN4 := Lib.hid (HN3.out.trans hn4)
  have HB4 := Lib.hid hb4
  have s4 := box_cells hb4
  refine hK.out _ _ s4 ?_
  clear hK K s3 hn4 hb4
  refine wpAnyH_take (i := 14) (v := ?_) rfl (by kernel_rfl) (by kernel_rfl) (by kernel_rfl) (fun _ _ _ h => h) (Or.inl ⟨by rfl, ?_⟩) s4 ?_
  rotate_left
  · intro w hSw; first | (obtain ⟨s1, s2, s3, s4, s5, s6, s7, s8⟩ := hSw; go_simp; rfl) | (obtain ⟨s1, s2, s3, s4, s5, s6, s7⟩ := hSw; go_simp; rfl) | (obtain ⟨s1, s2, s3⟩ := hSw; go_simp; rfl) | (obtain ⟨s1, s2⟩ := hSw; go_simp; rfl) | (have s1 := hSw; go_simp; rfl)
  go_simp
  refine heldOne (i := 15) (by kernel_rfl) rfl (by rfl) (fun K hK => ?_)
  have ya := (HN4.out.cell hl id _).trans ca
  have yz : ∀ i, w4.frozen? ⟨fb, i, none⟩ = false := fun i => (HN4.out.frozen hl id i).trans (z0 i)
  go_simp
  have hs5 := (H.out.new HN4.out).setReg ha hrk
  have hb5 : (w4.setCell ⟨fb, o + 1 + a, none⟩ (.int .u64 (R : Nat))).heap[xb]? = _ := (block_setCell_ne (by omega) _).trans HB4.out
  have HS5 := Lib.hid hs5
  have HB5 := Lib.hid hb5
  have HF5 := Lib.hid ((Fr34.new hl HN4.out).trans (Fr34.set (fb := fb) (o := o) (i := o + 1 + a) (.int .u64 (R : Nat)) (by omega) (by omega)))
  refine hK.out _ _ (box_cells hb5) ?_
  clear hK K ya yz hs5 hb5 s4
  refine wpAnyH_done (by kernel_rfl) ?_ _
  generalize w4.setCell ⟨fb, o + 1 + a, none⟩ (.int .u64 (R : Nat)) = w5 at HS5 HB5 HF5 ⊢
  have d0 : w5.cell? ⟨fb, o, none⟩ = some (.int .i64 k) := by rw [← HPC.out]; exact HS5.out.fr.pc
  have zf : ∀ i, w5.frozen? ⟨fb, i, none⟩ = false := HS5.out.fr.free
  go_wp2
  go_ret2
  rw [HE.out]
  exact ⟨v, rfl, by rw [HPC.out]; exact HS5.out.setPc _, HF5.out.trans (Fr34.set _ (Nat.le_refl _) (by omega)), fun k hk => .inl hk⟩
set_option maxRecDepth 100000 in
set_option maxHeartbeats 8000000 in
theorem step_reck8 (a : Nat) (h : FmAt w fb o v F) (hi : InsAt w cg co k 8 a B C V M W) (hk : k < n) (hn : n ≤ 1000000) (hV : V < 18446744073709551616) (hpc : F.pc = k) (hg : goodV 8 a B C V n = true) (ha : a < 32) :
    Calls Tryd.prog 10 #[.pointer (some ⟨fb, o, none⟩), .slice (some ⟨cg, co, none⟩) n cap, cv] w fun e w' => Stepped w fb o v (0, reckF 8 a B C V F) e w' := by
  have c0 := h.fr.pc
  have hl := h.fr.lt
  rw [hpc] at c0
  have HM := Lib.hid (fun w' => vmay_any 8 a B C V M W n w' hV (by omega) (by omega))
  unfold goodV at hg
  rw [hg] at HM
  have HI := Lib.hid hi
  have HR := Lib.hid (fun w' (f : New w w') => read_any fb o F.pc F.rs v B w' (h.fr.new f))
  have HVV := Lib.hid (fun w' (f : New w w') => value_any fb o F.pc F.rs v 8 a B C V M W w' (h.fr.new f))
  have hb := regN_fit h.fr.fits B
  have hc := valN_fit h.fr.fits C hV
  have hrk := reckN_fit 8 hV hb hc
  have HK := Lib.hid (fun w' => reckon_any 8 a B C V M W _ _ w' (by omega) hb hc)
  have HE := Lib.hid (show reckF 8 a B C V F = ⟨F.pc + 1, F.rs.set a (reckN 8 V (regN F.rs B) (valN F.rs C V)), F.bk⟩ from rfl)
  generalize regN F.rs B = b at HR HK HE hrk
  generalize valN F.rs C V = c at HVV HK HE hrk
  generalize reckN 8 V b c = R at HK HE hrk
  obtain ⟨_, x0, x1, x2, x3, x4, x5, x6⟩ := hi
  have q1 : (0 : Int) ≤ (k : Int) := by omega
  have q2 : (k : Int) < (n : Int) := by omega
  have q3 : (0 : Int) ≤ (a : Int) := by omega
  have q4 : (a : Int) < 32 := by omega
  have t1 : IntKind.i64.wrap ((k : Int) + 1) = (k : Int) + 1 := IntWalk.i64_in _ (by omega)
  have ca := h.fr.regD ha
  have H := Lib.hid h
  have HPC := Lib.hid hpc
  have z0 := h.fr.free
  clear h hg hpc hb hc
  go_enter Tryd.func10, Tryd.ntmps10
  go_wp2_with fail
  refine (HM.out _).mono ?_
  rintro e w1 ⟨rfl, hn1⟩
  obtain ⟨_, y0, y1, y2, y3, y4, y5, y6⟩ := HI.out.keep hn1 id
  have d0 := (hn1.cell hl id _).trans c0
  have HN1 := Lib.hid hn1
  clear c0 x0 x1 x2 x3 x4 x5 x6 hn1
  go_wp2_with fail
  obtain ⟨W0, hW0⟩ : ∃ W0, (w1.alloc (.cells #[.int .i64 8, .int .i64 a, .int .i64 B, .int .i64 C, .int .u64 V, .int .i64 M, .int .i64 W] 52)).drew = W0 := ⟨_, rfl⟩
  have hn0 : New w1 W0 := by rw [← hW0]; exact ((Fr.refl _ _).alloc _).drew
  have hb0 : W0.heap[w1.heap.size]? = some (.cells #[.int .i64 8, .int .i64 a, .int .i64 B, .int .i64 C, .int .u64 V, .int .i64 M, .int .i64 W] 52 (0, 0)) := by rw [← hW0]; exact block_alloc_new _ _
  have hfl : fb < w1.heap.size := Nat.lt_of_lt_of_le hl HN1.out.size
  obtain ⟨xb, hxb⟩ : ∃ xb, w1.heap.size = xb := ⟨_, rfl⟩
  rw [hxb] at hb0 hfl ⊢
  have hxl := lt_of_block hb0
  refine heldStart (fun wz => wz.cell? ⟨xb, 0, none⟩ = some (.int .i64 8) ∧ wz.cell? ⟨xb, 1, none⟩ = some (.int .i64 a) ∧ wz.cell? ⟨xb, 2, none⟩ = some (.int .i64 B) ∧ wz.cell? ⟨xb, 3, none⟩ = some (.int .i64 C) ∧ wz.cell? ⟨xb, 4, none⟩ = some (.int .u64 V) ∧ wz.cell? ⟨xb, 5, none⟩ = some (.int .i64 M) ∧ wz.cell? ⟨xb, 6, none⟩ = some (.int .i64 W)) (by kernel_rfl) ?_
  rw [hW0]
  have s0 := box_cells hb0
  have HN0 := Lib.hid (HN1.out.trans hn0)
  have HB0 := Lib.hid hb0
  clear hW0 hn0 hb0 d0 y0 y1 y2 y3 y4 y5 y6 hxb
  refine wpAnyH_take (i := 0) (v := ?_) rfl (by kernel_rfl) (by kernel_rfl) (by kernel_rfl) (fun _ _ _ h => h) (Or.inl ⟨by rfl, ?_⟩) s0 ?_
  rotate_left
  · intro w hSw; first | (obtain ⟨s1, s2, s3, s4, s5, s6, s7, s8⟩ := hSw; go_simp; rfl) | (obtain ⟨s1, s2, s3, s4, s5, s6, s7⟩ := hSw; go_simp; rfl) | (obtain ⟨s1, s2, s3⟩ := hSw; go_simp; rfl) | (obtain ⟨s1, s2⟩ := hSw; go_simp; rfl) | (have s1 := hSw; go_simp; rfl)
  go_simp
  refine wpAnyH_take (i := 1) (v := ?_) rfl (by kernel_rfl) (by kernel_rfl) (by kernel_rfl) (fun _ _ _ h => h) (Or.inl ⟨by rfl, ?_⟩) s0 ?_
  rotate_left
  · intro w hSw; first | (obtain ⟨s1, s2, s3, s4, s5, s6, s7, s8⟩ := hSw; go_simp; rfl) | (obtain ⟨s1, s2, s3, s4, s5, s6, s7⟩ := hSw; go_simp; rfl) | (obtain ⟨s1, s2, s3⟩ := hSw; go_simp; rfl) | (obtain ⟨s1, s2⟩ := hSw; go_simp; rfl) | (have s1 := hSw; go_simp; rfl)
  go_simp
  refine wpAnyH_take (i := 2) (v := ?_) rfl (by kernel_rfl) (by kernel_rfl) (by kernel_rfl) (fun _ _ _ h => h) (Or.inl ⟨by rfl, ?_⟩) s0 ?_
  rotate_left
  · intro w hSw; first | (obtain ⟨s1, s2, s3, s4, s5, s6, s7, s8⟩ := hSw; go_simp; rfl) | (obtain ⟨s1, s2, s3, s4, s5, s6, s7⟩ := hSw; go_simp; rfl) | (obtain ⟨s1, s2, s3⟩ := hSw; go_simp; rfl) | (obtain ⟨s1, s2⟩ := hSw; go_simp; rfl) | (have s1 := hSw; go_simp; rfl)
  go_simp
  refine wpAnyH_take (i := 3) (v := ?_) rfl (by kernel_rfl) (by kernel_rfl) (by kernel_rfl) (fun _ _ _ h => h) (Or.inl ⟨by rfl, ?_⟩) s0 ?_
  rotate_left
  · intro w hSw; first | (obtain ⟨s1, s2, s3, s4, s5, s6, s7, s8⟩ := hSw; go_simp; rfl) | (obtain ⟨s1, s2, s3, s4, s5, s6, s7⟩ := hSw; go_simp; rfl) | (obtain ⟨s1, s2, s3⟩ := hSw; go_simp; rfl) | (obtain ⟨s1, s2⟩ := hSw; go_simp; rfl) | (have s1 := hSw; go_simp; rfl)
  go_simp
  refine wpAnyH_take (i := 4) (v := ?_) rfl (by kernel_rfl) (by kernel_rfl) (by kernel_rfl) (fun _ _ _ h => h) (Or.inl ⟨by rfl, ?_⟩) s0 ?_
  rotate_left
  · intro w hSw; first | (obtain ⟨s1, s2, s3, s4, s5, s6, s7, s8⟩ := hSw; go_simp; rfl) | (obtain ⟨s1, s2, s3, s4, s5, s6, s7⟩ := hSw; go_simp; rfl) | (obtain ⟨s1, s2, s3⟩ := hSw; go_simp; rfl) | (obtain ⟨s1, s2⟩ := hSw; go_simp; rfl) | (have s1 := hSw; go_simp; rfl)
  go_simp
  refine wpAnyH_take (i := 5) (v := ?_) rfl (by kernel_rfl) (by kernel_rfl) (by kernel_rfl) (fun _ _ _ h => h) (Or.inl ⟨by rfl, ?_⟩) s0 ?_
  rotate_left
  · intro w hSw; first | (obtain ⟨s1, s2, s3, s4, s5, s6, s7, s8⟩ := hSw; go_simp; rfl) | (obtain ⟨s1, s2, s3, s4, s5, s6, s7⟩ := hSw; go_simp; rfl) | (obtain ⟨s1, s2, s3⟩ := hSw; go_simp; rfl) | (obtain ⟨s1, s2⟩ := hSw; go_simp; rfl) | (have s1 := hSw; go_simp; rfl)
  go_simp
  refine wpAnyH_take (i := 6) (v := ?_) rfl (by kernel_rfl) (by kernel_rfl) (by kernel_rfl) (fun _ _ _ h => h) (Or.inl ⟨by rfl, ?_⟩) s0 ?_
  rotate_left
  · intro w hSw; first | (obtain ⟨s1, s2, s3, s4, s5, s6, s7, s8⟩ := hSw; go_simp; rfl) | (obtain ⟨s1, s2, s3, s4, s5, s6, s7⟩ := hSw; go_simp; rfl) | (obtain ⟨s1, s2, s3⟩ := hSw; go_simp; rfl) | (obtain ⟨s1, s2⟩ := hSw; go_simp; rfl) | (have s1 := hSw; go_simp; rfl)
  go_simp
  refine wpAnyH_take (i := 8) (v := ?_) rfl (by kernel_rfl) (by kernel_rfl) (by kernel_rfl) (fun _ _ _ h => h) (Or.inl ⟨by rfl, ?_⟩) s0 ?_
  rotate_left
  · intro w hSw; first | (obtain ⟨s1, s2, s3, s4, s5, s6, s7, s8⟩ := hSw; go_simp; rfl) | (obtain ⟨s1, s2, s3, s4, s5, s6, s7⟩ := hSw; go_simp; rfl) | (obtain ⟨s1, s2, s3⟩ := hSw; go_simp; rfl) | (obtain ⟨s1, s2⟩ := hSw; go_simp; rfl) | (have s1 := hSw; go_simp; rfl)
  go_simp
  refine wpAnyH_take (i := 9) (v := ?_) rfl (by kernel_rfl) (by kernel_rfl) (by kernel_rfl) (fun _ _ _ h => h) (Or.inl ⟨by rfl, ?_⟩) s0 ?_
  rotate_left
  · intro w hSw; first | (obtain ⟨s1, s2, s3, s4, s5, s6, s7, s8⟩ := hSw; go_simp; rfl) | (obtain ⟨s1, s2, s3, s4, s5, s6, s7⟩ := hSw; go_simp; rfl) | (obtain ⟨s1, s2, s3⟩ := hSw; go_simp; rfl) | (obtain ⟨s1, s2⟩ := hSw; go_simp; rfl) | (have s1 := hSw; go_simp; rfl)
  go_simp
  refine wpAnyH_take (i := 12) (v := ?_) rfl (by kernel_rfl) (by kernel_rfl) (by kernel_rfl) (fun _ _ _ h => h) (Or.inl ⟨by rfl, ?_⟩) s0 ?_
  rotate_left
  · intro w hSw; first | (obtain ⟨s1, s2, s3, s4, s5, s6, s7, s8⟩ := hSw; go_simp; rfl) | (obtain ⟨s1, s2, s3, s4, s5, s6, s7⟩ := hSw; go_simp; rfl) | (obtain ⟨s1, s2, s3⟩ := hSw; go_simp; rfl) | (obtain ⟨s1, s2⟩ := hSw; go_simp; rfl) | (have s1 := hSw; go_simp; rfl)
  go_simp
  refine wpAnyH_take (i := 13) (v := ?_) rfl (by kernel_rfl) (by kernel_rfl) (by kernel_rfl) (fun _ _ _ h => h) (Or.inl ⟨by rfl, ?_⟩) s0 ?_
  rotate_left
  · intro w hSw; first | (obtain ⟨s1, s2, s3, s4, s5, s6, s7, s8⟩ := hSw; go_simp; rfl) | (obtain ⟨s1, s2, s3, s4, s5, s6, s7⟩ := hSw; go_simp; rfl) | (obtain ⟨s1, s2, s3⟩ := hSw; go_simp; rfl) | (obtain ⟨s1, s2⟩ := hSw; go_simp; rfl) | (have s1 := hSw; go_simp; rfl)
  go_simp
  refine heldOne (i := 7) (by kernel_rfl) rfl (by rfl) (fun K hK => ?_)
  go_simp
  refine (HR.out W0 HN0.out).mono ?_
  rintro e w2 ⟨rfl, rfl⟩
  refine hK.out _ _ s0 ?_
  clear hK K
  refine heldOne (i := 10) (by kernel_rfl) rfl (by rfl) (fun K hK => ?_)
  go_simp
  refine (HVV.out W0 HN0.out).mono ?_
  rintro e w3 ⟨rfl, hn3⟩
  have hb3 := (hn3.block xb hxl id).trans HB0.out
  have HN3 := Lib.hid (HN0.out.trans hn3)
  have HB3 := Lib.hid hb3
  have s3 := box_cells hb3
  refine hK.out _ _ s3 ?_
  clear hK K s0 hn3 hb3
  refine heldOne (i := 11) (by kernel_rfl) rfl (by rfl) (fun K hK => ?_)
  go_simp
  refine (HK.out w3).mono ?_
  rintro e w4 ⟨rfl, hn4⟩
  have hb4 := (hn4.block xb (lt_of_block HB3.out) id).trans HB3.out
  have HN4 := Lib.hid (HN3.out.trans hn4)
  have HB4 := Lib.hid hb4
  have s4 := box_cells hb4
  refine hK.out _ _ s4 ?_
  clear hK K s3 hn4 hb4
  refine wpAnyH_take (i := 14) (v := ?_) rfl (by kernel_rfl) (by kernel_rfl) (by kernel_rfl) (fun _ _ _ h => h) (Or.inl ⟨by rfl, ?_⟩) s4 ?_
  rotate_left
  · intro w hSw; first | (obtain ⟨s1, s2, s3, s4, s5, s6, s7, s8⟩ := hSw; go_simp; rfl) | (obtain ⟨s1, s2, s3, s4, s5, s6, s7⟩ := hSw; go_simp; rfl) | (obtain ⟨s1, s2, s3⟩ := hSw; go_simp; rfl) | (obtain ⟨s1, s2⟩ := hSw; go_simp; rfl) | (have s1 := hSw; go_simp; rfl)
  go_simp
  refine heldOne (i := 15) (by kernel_rfl) rfl (by rfl) (fun K hK => ?_)
  have ya := (HN4.out.cell hl id _).trans ca
  have yz : ∀ i, w4.frozen? ⟨fb, i, none⟩ = false := fun i => (HN4.out.frozen hl id i).trans (z0 i)
  go_simp
  have hs5 := (H.out.new HN4.out).setReg ha hrk
  have hb5 : (w4.setCell ⟨fb, o + 1 + a, none⟩ (.int .u64 (R : Nat))).heap[xb]? = _ := (block_setCell_ne (by omega) _).trans HB4.out
  have HS5 := Lib.hid hs5
  have HB5 := Lib.hid hb5
  have HF5 := Lib.hid ((Fr34.new hl HN4.out).trans (Fr34.set (fb := fb) (o := o) (i := o + 1 + a) (.int .u64 (R : Nat)) (by omega) (by omega)))
  refine hK.out _ _ (box_cells hb5) ?_
  clear hK K ya yz hs5 hb5 s4
  refine wpAnyH_done (by kernel_rfl) ?_ _
  generalize w4.setCell ⟨fb, o + 1 + a, none⟩ (.int .u64 (R : Nat)) = w5 at HS5 HB5 HF5 ⊢
  have d0 : w5.cell? ⟨fb, o, none⟩ = some (.int .i64 k) := by rw [← HPC.out]; exact HS5.out.fr.pc
  have zf : ∀ i, w5.frozen? ⟨fb, i, none⟩ = false := HS5.out.fr.free
  go_wp2
  go_ret2
  rw [HE.out]
  exact ⟨v, rfl, by rw [HPC.out]; exact HS5.out.setPc _, HF5.out.trans (Fr34.set _ (Nat.le_refl _) (by omega)), fun k hk => .inl hk⟩
set_option maxRecDepth 100000 in
set_option maxHeartbeats 8000000 in
theorem step_reck9 (a : Nat) (h : FmAt w fb o v F) (hi : InsAt w cg co k 9 a B C V M W) (hk : k < n) (hn : n ≤ 1000000) (hV : V < 18446744073709551616) (hpc : F.pc = k) (hg : goodV 9 a B C V n = true) (ha : a < 32) :
    Calls Tryd.prog 10 #[.pointer (some ⟨fb, o, none⟩), .slice (some ⟨cg, co, none⟩) n cap, cv] w fun e w' => Stepped w fb o v (0, reckF 9 a B C V F) e w' := by
  have c0 := h.fr.pc
  have hl := h.fr.lt
  rw [hpc] at c0
  have HM := Lib.hid (fun w' => vmay_any 9 a B C V M W n w' hV (by omega) (by omega))
  unfold goodV at hg
  rw [hg] at HM
  have HI := Lib.hid hi
  have HR := Lib.hid (fun w' (f : New w w') => read_any fb o F.pc F.rs v B w' (h.fr.new f))
  have HVV := Lib.hid (fun w' (f : New w w') => value_any fb o F.pc F.rs v 9 a B C V M W w' (h.fr.new f))
  have hb := regN_fit h.fr.fits B
  have hc := valN_fit h.fr.fits C hV
  have hrk := reckN_fit 9 hV hb hc
  have HK := Lib.hid (fun w' => reckon_any 9 a B C V M W _ _ w' (by omega) hb hc)
  have HE := Lib.hid (show reckF 9 a B C V F = ⟨F.pc + 1, F.rs.set a (reckN 9 V (regN F.rs B) (valN F.rs C V)), F.bk⟩ from rfl)
  generalize regN F.rs B = b at HR HK HE hrk
  generalize valN F.rs C V = c at HVV HK HE hrk
  generalize reckN 9 V b c = R at HK HE hrk
  obtain ⟨_, x0, x1, x2, x3, x4, x5, x6⟩ := hi
  have q1 : (0 : Int) ≤ (k : Int) := by omega
  have q2 : (k : Int) < (n : Int) := by omega
  have q3 : (0 : Int) ≤ (a : Int) := by omega
  have q4 : (a : Int) < 32 := by omega
  have t1 : IntKind.i64.wrap ((k : Int) + 1) = (k : Int) + 1 := IntWalk.i64_in _ (by omega)
  have ca := h.fr.regD ha
  have H := Lib.hid h
  have HPC := Lib.hid hpc
  have z0 := h.fr.free
  clear h hg hpc hb hc
  go_enter Tryd.func10, Tryd.ntmps10
  go_wp2_with fail
  refine (HM.out _).mono ?_
  rintro e w1 ⟨rfl, hn1⟩
  obtain ⟨_, y0, y1, y2, y3, y4, y5, y6⟩ := HI.out.keep hn1 id
  have d0 := (hn1.cell hl id _).trans c0
  have HN1 := Lib.hid hn1
  clear c0 x0 x1 x2 x3 x4 x5 x6 hn1
  go_wp2_with fail
  obtain ⟨W0, hW0⟩ : ∃ W0, (w1.alloc (.cells #[.int .i64 9, .int .i64 a, .int .i64 B, .int .i64 C, .int .u64 V, .int .i64 M, .int .i64 W] 52)).drew = W0 := ⟨_, rfl⟩
  have hn0 : New w1 W0 := by rw [← hW0]; exact ((Fr.refl _ _).alloc _).drew
  have hb0 : W0.heap[w1.heap.size]? = some (.cells #[.int .i64 9, .int .i64 a, .int .i64 B, .int .i64 C, .int .u64 V, .int .i64 M, .int .i64 W] 52 (0, 0)) := by rw [← hW0]; exact block_alloc_new _ _
  have hfl : fb < w1.heap.size := Nat.lt_of_lt_of_le hl HN1.out.size
  obtain ⟨xb, hxb⟩ : ∃ xb, w1.heap.size = xb := ⟨_, rfl⟩
  rw [hxb] at hb0 hfl ⊢
  have hxl := lt_of_block hb0
  refine heldStart (fun wz => wz.cell? ⟨xb, 0, none⟩ = some (.int .i64 9) ∧ wz.cell? ⟨xb, 1, none⟩ = some (.int .i64 a) ∧ wz.cell? ⟨xb, 2, none⟩ = some (.int .i64 B) ∧ wz.cell? ⟨xb, 3, none⟩ = some (.int .i64 C) ∧ wz.cell? ⟨xb, 4, none⟩ = some (.int .u64 V) ∧ wz.cell? ⟨xb, 5, none⟩ = some (.int .i64 M) ∧ wz.cell? ⟨xb, 6, none⟩ = some (.int .i64 W)) (by kernel_rfl) ?_
  rw [hW0]
  have s0 := box_cells hb0
  have HN0 := Lib.hid (HN1.out.trans hn0)
  have HB0 := Lib.hid hb0
  clear hW0 hn0 hb0 d0 y0 y1 y2 y3 y4 y5 y6 hxb
  refine wpAnyH_take (i := 0) (v := ?_) rfl (by kernel_rfl) (by kernel_rfl) (by kernel_rfl) (fun _ _ _ h => h) (Or.inl ⟨by rfl, ?_⟩) s0 ?_
  rotate_left
  · intro w hSw; first | (obtain ⟨s1, s2, s3, s4, s5, s6, s7, s8⟩ := hSw; go_simp; rfl) | (obtain ⟨s1, s2, s3, s4, s5, s6, s7⟩ := hSw; go_simp; rfl) | (obtain ⟨s1, s2, s3⟩ := hSw; go_simp; rfl) | (obtain ⟨s1, s2⟩ := hSw; go_simp; rfl) | (have s1 := hSw; go_simp; rfl)
  go_simp
  refine wpAnyH_take (i := 1) (v := ?_) rfl (by kernel_rfl) (by kernel_rfl) (by kernel_rfl) (fun _ _ _ h => h) (Or.inl ⟨by rfl, ?_⟩) s0 ?_
  rotate_left
  · intro w hSw; first | (obtain ⟨s1, s2, s3, s4, s5, s6, s7, s8⟩ := hSw; go_simp; rfl) | (obtain ⟨s1, s2, s3, s4, s5, s6, s7⟩ := hSw; go_simp; rfl) | (obtain ⟨s1, s2, s3⟩ := hSw; go_simp; rfl) | (obtain ⟨s1, s2⟩ := hSw; go_simp; rfl) | (have s1 := hSw; go_simp; rfl)
  go_simp
  refine wpAnyH_take (i := 2) (v := ?_) rfl (by kernel_rfl) (by kernel_rfl) (by kernel_rfl) (fun _ _ _ h => h) (Or.inl ⟨by rfl, ?_⟩) s0 ?_
  rotate_left
  · intro w hSw; first | (obtain ⟨s1, s2, s3, s4, s5, s6, s7, s8⟩ := hSw; go_simp; rfl) | (obtain ⟨s1, s2, s3, s4, s5, s6, s7⟩ := hSw; go_simp; rfl) | (obtain ⟨s1, s2, s3⟩ := hSw; go_simp; rfl) | (obtain ⟨s1, s2⟩ := hSw; go_simp; rfl) | (have s1 := hSw; go_simp; rfl)
  go_simp
  refine wpAnyH_take (i := 3) (v := ?_) rfl (by kernel_rfl) (by kernel_rfl) (by kernel_rfl) (fun _ _ _ h => h) (Or.inl ⟨by rfl, ?_⟩) s0 ?_
  rotate_left
  · intro w hSw; first | (obtain ⟨s1, s2, s3, s4, s5, s6, s7, s8⟩ := hSw; go_simp; rfl) | (obtain ⟨s1, s2, s3, s4, s5, s6, s7⟩ := hSw; go_simp; rfl) | (obtain ⟨s1, s2, s3⟩ := hSw; go_simp; rfl) | (obtain ⟨s1, s2⟩ := hSw; go_simp; rfl) | (have s1 := hSw; go_simp; rfl)
  go_simp
  refine wpAnyH_take (i := 4) (v := ?_) rfl (by kernel_rfl) (by kernel_rfl) (by kernel_rfl) (fun _ _ _ h => h) (Or.inl ⟨by rfl, ?_⟩) s0 ?_
  rotate_left
  · intro w hSw; first | (obtain ⟨s1, s2, s3, s4, s5, s6, s7, s8⟩ := hSw; go_simp; rfl) | (obtain ⟨s1, s2, s3, s4, s5, s6, s7⟩ := hSw; go_simp; rfl) | (obtain ⟨s1, s2, s3⟩ := hSw; go_simp; rfl) | (obtain ⟨s1, s2⟩ := hSw; go_simp; rfl) | (have s1 := hSw; go_simp; rfl)
  go_simp
  refine wpAnyH_take (i := 5) (v := ?_) rfl (by kernel_rfl) (by kernel_rfl) (by kernel_rfl) (fun _ _ _ h => h) (Or.inl ⟨by rfl, ?_⟩) s0 ?_
  rotate_left
  · intro w hSw; first | (obtain ⟨s1, s2, s3, s4, s5, s6, s7, s8⟩ := hSw; go_simp; rfl) | (obtain ⟨s1, s2, s3, s4, s5, s6, s7⟩ := hSw; go_simp; rfl) | (obtain ⟨s1, s2, s3⟩ := hSw; go_simp; rfl) | (obtain ⟨s1, s2⟩ := hSw; go_simp; rfl) | (have s1 := hSw; go_simp; rfl)
  go_simp
  refine wpAnyH_take (i := 6) (v := ?_) rfl (by kernel_rfl) (by kernel_rfl) (by kernel_rfl) (fun _ _ _ h => h) (Or.inl ⟨by rfl, ?_⟩) s0 ?_
  rotate_left
  · intro w hSw; first | (obtain ⟨s1, s2, s3, s4, s5, s6, s7, s8⟩ := hSw; go_simp; rfl) | (obtain ⟨s1, s2, s3, s4, s5, s6, s7⟩ := hSw; go_simp; rfl) | (obtain ⟨s1, s2, s3⟩ := hSw; go_simp; rfl) | (obtain ⟨s1, s2⟩ := hSw; go_simp; rfl) | (have s1 := hSw; go_simp; rfl)
  go_simp
  refine wpAnyH_take (i := 8) (v := ?_) rfl (by kernel_rfl) (by kernel_rfl) (by kernel_rfl) (fun _ _ _ h => h) (Or.inl ⟨by rfl, ?_⟩) s0 ?_
  rotate_left
  · intro w hSw; first | (obtain ⟨s1, s2, s3, s4, s5, s6, s7, s8⟩ := hSw; go_simp; rfl) | (obtain ⟨s1, s2, s3, s4, s5, s6, s7⟩ := hSw; go_simp; rfl) | (obtain ⟨s1, s2, s3⟩ := hSw; go_simp; rfl) | (obtain ⟨s1, s2⟩ := hSw; go_simp; rfl) | (have s1 := hSw; go_simp; rfl)
  go_simp
  refine wpAnyH_take (i := 9) (v := ?_) rfl (by kernel_rfl) (by kernel_rfl) (by kernel_rfl) (fun _ _ _ h => h) (Or.inl ⟨by rfl, ?_⟩) s0 ?_
  rotate_left
  · intro w hSw; first | (obtain ⟨s1, s2, s3, s4, s5, s6, s7, s8⟩ := hSw; go_simp; rfl) | (obtain ⟨s1, s2, s3, s4, s5, s6, s7⟩ := hSw; go_simp; rfl) | (obtain ⟨s1, s2, s3⟩ := hSw; go_simp; rfl) | (obtain ⟨s1, s2⟩ := hSw; go_simp; rfl) | (have s1 := hSw; go_simp; rfl)
  go_simp
  refine wpAnyH_take (i := 12) (v := ?_) rfl (by kernel_rfl) (by kernel_rfl) (by kernel_rfl) (fun _ _ _ h => h) (Or.inl ⟨by rfl, ?_⟩) s0 ?_
  rotate_left
  · intro w hSw; first | (obtain ⟨s1, s2, s3, s4, s5, s6, s7, s8⟩ := hSw; go_simp; rfl) | (obtain ⟨s1, s2, s3, s4, s5, s6, s7⟩ := hSw; go_simp; rfl) | (obtain ⟨s1, s2, s3⟩ := hSw; go_simp; rfl) | (obtain ⟨s1, s2⟩ := hSw; go_simp; rfl) | (have s1 := hSw; go_simp; rfl)
  go_simp
  refine wpAnyH_take (i := 13) (v := ?_) rfl (by kernel_rfl) (by kernel_rfl) (by kernel_rfl) (fun _ _ _ h => h) (Or.inl ⟨by rfl, ?_⟩) s0 ?_
  rotate_left
  · intro w hSw; first | (obtain ⟨s1, s2, s3, s4, s5, s6, s7, s8⟩ := hSw; go_simp; rfl) | (obtain ⟨s1, s2, s3, s4, s5, s6, s7⟩ := hSw; go_simp; rfl) | (obtain ⟨s1, s2, s3⟩ := hSw; go_simp; rfl) | (obtain ⟨s1, s2⟩ := hSw; go_simp; rfl) | (have s1 := hSw; go_simp; rfl)
  go_simp
  refine heldOne (i := 7) (by kernel_rfl) rfl (by rfl) (fun K hK => ?_)
  go_simp
  refine (HR.out W0 HN0.out).mono ?_
  rintro e w2 ⟨rfl, rfl⟩
  refine hK.out _ _ s0 ?_
  clear hK K
  refine heldOne (i := 10) (by kernel_rfl) rfl (by rfl) (fun K hK => ?_)
  go_simp
  refine (HVV.out W0 HN0.out).mono ?_
  rintro e w3 ⟨rfl, hn3⟩
  have hb3 := (hn3.block xb hxl id).trans HB0.out
  have HN3 := Lib.hid (HN0.out.trans hn3)
  have HB3 := Lib.hid hb3
  have s3 := box_cells hb3
  refine hK.out _ _ s3 ?_
  clear hK K s0 hn3 hb3
  refine heldOne (i := 11) (by kernel_rfl) rfl (by rfl) (fun K hK => ?_)
  go_simp
  refine (HK.out w3).mono ?_
  rintro e w4 ⟨rfl, hn4⟩
  have hb4 := (hn4.block xb (lt_of_block HB3.out) id).trans HB3.out
  have HN4 := Lib.hid (HN3.out.trans hn4)
  have HB4 := Lib.hid hb4
  have s4 := box_cells hb4
  refine hK.out _ _ s4 ?_
  clear hK K s3 hn4 hb4
  refine wpAnyH_take (i := 14) (v := ?_) rfl (by kernel_rfl) (by kernel_rfl) (by kernel_rfl) (fun _ _ _ h => h) (Or.inl ⟨by rfl, ?_⟩) s4 ?_
  rotate_left
  · intro w hSw; first | (obtain ⟨s1, s2, s3, s4, s5, s6, s7, s8⟩ := hSw; go_simp; rfl) | (obtain ⟨s1, s2, s3, s4, s5, s6, s7⟩ := hSw; go_simp; rfl) | (obtain ⟨s1, s2, s3⟩ := hSw; go_simp; rfl) | (obtain ⟨s1, s2⟩ := hSw; go_simp; rfl) | (have s1 := hSw; go_simp; rfl)
  go_simp
  refine heldOne (i := 15) (by kernel_rfl) rfl (by rfl) (fun K hK => ?_)
  have ya := (HN4.out.cell hl id _).trans ca
  have yz : ∀ i, w4.frozen? ⟨fb, i, none⟩ = false := fun i => (HN4.out.frozen hl id i).trans (z0 i)
  go_simp
  have hs5 := (H.out.new HN4.out).setReg ha hrk
  have hb5 : (w4.setCell ⟨fb, o + 1 + a, none⟩ (.int .u64 (R : Nat))).heap[xb]? = _ := (block_setCell_ne (by omega) _).trans HB4.out
  have HS5 := Lib.hid hs5
  have HB5 := Lib.hid hb5
  have HF5 := Lib.hid ((Fr34.new hl HN4.out).trans (Fr34.set (fb := fb) (o := o) (i := o + 1 + a) (.int .u64 (R : Nat)) (by omega) (by omega)))
  refine hK.out _ _ (box_cells hb5) ?_
  clear hK K ya yz hs5 hb5 s4
  refine wpAnyH_done (by kernel_rfl) ?_ _
  generalize w4.setCell ⟨fb, o + 1 + a, none⟩ (.int .u64 (R : Nat)) = w5 at HS5 HB5 HF5 ⊢
  have d0 : w5.cell? ⟨fb, o, none⟩ = some (.int .i64 k) := by rw [← HPC.out]; exact HS5.out.fr.pc
  have zf : ∀ i, w5.frozen? ⟨fb, i, none⟩ = false := HS5.out.fr.free
  go_wp2
  go_ret2
  rw [HE.out]
  exact ⟨v, rfl, by rw [HPC.out]; exact HS5.out.setPc _, HF5.out.trans (Fr34.set _ (Nat.le_refl _) (by omega)), fun k hk => .inl hk⟩
set_option maxRecDepth 100000 in
set_option maxHeartbeats 8000000 in
theorem step_reck10 (a : Nat) (h : FmAt w fb o v F) (hi : InsAt w cg co k 10 a B C V M W) (hk : k < n) (hn : n ≤ 1000000) (hV : V < 18446744073709551616) (hpc : F.pc = k) (hg : goodV 10 a B C V n = true) (ha : a < 32) :
    Calls Tryd.prog 10 #[.pointer (some ⟨fb, o, none⟩), .slice (some ⟨cg, co, none⟩) n cap, cv] w fun e w' => Stepped w fb o v (0, reckF 10 a B C V F) e w' := by
  have c0 := h.fr.pc
  have hl := h.fr.lt
  rw [hpc] at c0
  have HM := Lib.hid (fun w' => vmay_any 10 a B C V M W n w' hV (by omega) (by omega))
  unfold goodV at hg
  rw [hg] at HM
  have HI := Lib.hid hi
  have HR := Lib.hid (fun w' (f : New w w') => read_any fb o F.pc F.rs v B w' (h.fr.new f))
  have HVV := Lib.hid (fun w' (f : New w w') => value_any fb o F.pc F.rs v 10 a B C V M W w' (h.fr.new f))
  have hb := regN_fit h.fr.fits B
  have hc := valN_fit h.fr.fits C hV
  have hrk := reckN_fit 10 hV hb hc
  have HK := Lib.hid (fun w' => reckon_any 10 a B C V M W _ _ w' (by omega) hb hc)
  have HE := Lib.hid (show reckF 10 a B C V F = ⟨F.pc + 1, F.rs.set a (reckN 10 V (regN F.rs B) (valN F.rs C V)), F.bk⟩ from rfl)
  generalize regN F.rs B = b at HR HK HE hrk
  generalize valN F.rs C V = c at HVV HK HE hrk
  generalize reckN 10 V b c = R at HK HE hrk
  obtain ⟨_, x0, x1, x2, x3, x4, x5, x6⟩ := hi
  have q1 : (0 : Int) ≤ (k : Int) := by omega
  have q2 : (k : Int) < (n : Int) := by omega
  have q3 : (0 : Int) ≤ (a : Int) := by omega
  have q4 : (a : Int) < 32 := by omega
  have t1 : IntKind.i64.wrap ((k : Int) + 1) = (k : Int) + 1 := IntWalk.i64_in _ (by omega)
  have ca := h.fr.regD ha
  have H := Lib.hid h
  have HPC := Lib.hid hpc
  have z0 := h.fr.free
  clear h hg hpc hb hc
  go_enter Tryd.func10, Tryd.ntmps10
  go_wp2_with fail
  refine (HM.out _).mono ?_
  rintro e w1 ⟨rfl, hn1⟩
  obtain ⟨_, y0, y1, y2, y3, y4, y5, y6⟩ := HI.out.keep hn1 id
  have d0 := (hn1.cell hl id _).trans c0
  have HN1 := Lib.hid hn1
  clear c0 x0 x1 x2 x3 x4 x5 x6 hn1
  go_wp2_with fail
  obtain ⟨W0, hW0⟩ : ∃ W0, (w1.alloc (.cells #[.int .i64 10, .int .i64 a, .int .i64 B, .int .i64 C, .int .u64 V, .int .i64 M, .int .i64 W] 52)).drew = W0 := ⟨_, rfl⟩
  have hn0 : New w1 W0 := by rw [← hW0]; exact ((Fr.refl _ _).alloc _).drew
  have hb0 : W0.heap[w1.heap.size]? = some (.cells #[.int .i64 10, .int .i64 a, .int .i64 B, .int .i64 C, .int .u64 V, .int .i64 M, .int .i64 W] 52 (0, 0)) := by rw [← hW0]; exact block_alloc_new _ _
  have hfl : fb < w1.heap.size := Nat.lt_of_lt_of_le hl HN1.out.size
  obtain ⟨xb, hxb⟩ : ∃ xb, w1.heap.size = xb := ⟨_, rfl⟩
  rw [hxb] at hb0 hfl ⊢
  have hxl := lt_of_block hb0
  refine heldStart (fun wz => wz.cell? ⟨xb, 0, none⟩ = some (.int .i64 10) ∧ wz.cell? ⟨xb, 1, none⟩ = some (.int .i64 a) ∧ wz.cell? ⟨xb, 2, none⟩ = some (.int .i64 B) ∧ wz.cell? ⟨xb, 3, none⟩ = some (.int .i64 C) ∧ wz.cell? ⟨xb, 4, none⟩ = some (.int .u64 V) ∧ wz.cell? ⟨xb, 5, none⟩ = some (.int .i64 M) ∧ wz.cell? ⟨xb, 6, none⟩ = some (.int .i64 W)) (by kernel_rfl) ?_
  rw [hW0]
  have s0 := box_cells hb0
  have HN0 := Lib.hid (HN1.out.trans hn0)
  have HB0 := Lib.hid hb0
  clear hW0 hn0 hb0 d0 y0 y1 y2 y3 y4 y5 y6 hxb
  refine wpAnyH_take (i := 0) (v := ?_) rfl (by kernel_rfl) (by kernel_rfl) (by kernel_rfl) (fun _ _ _ h => h) (Or.inl ⟨by rfl, ?_⟩) s0 ?_
  rotate_left
  · intro w hSw; first | (obtain ⟨s1, s2, s3, s4, s5, s6, s7, s8⟩ := hSw; go_simp; rfl) | (obtain ⟨s1, s2, s3, s4, s5, s6, s7⟩ := hSw; go_simp; rfl) | (obtain ⟨s1, s2, s3⟩ := hSw; go_simp; rfl) | (obtain ⟨s1, s2⟩ := hSw; go_simp; rfl) | (have s1 := hSw; go_simp; rfl)
  go_simp
  refine wpAnyH_take (i := 1) (v := ?_) rfl (by kernel_rfl) (by kernel_rfl) (by kernel_rfl) (fun _ _ _ h => h) (Or.inl ⟨by rfl, ?_⟩) s0 ?_
  rotate_left
  · intro w hSw; first | (obtain ⟨s1, s2, s3, s4, s5, s6, s7, s8⟩ := hSw; go_simp; rfl) | (obtain ⟨s1, s2, s3, s4, s5, s6, s7⟩ := hSw; go_simp; rfl) | (obtain ⟨s1, s2, s3⟩ := hSw; go_simp; rfl) | (obtain ⟨s1, s2⟩ := hSw; go_simp; rfl) | (have s1 := hSw; go_simp; rfl)
  go_simp
  refine wpAnyH_take (i := 2) (v := ?_) rfl (by kernel_rfl) (by kernel_rfl) (by kernel_rfl) (fun _ _ _ h => h) (Or.inl ⟨by rfl, ?_⟩) s0 ?_
  rotate_left
  · intro w hSw; first | (obtain ⟨s1, s2, s3, s4, s5, s6, s7, s8⟩ := hSw; go_simp; rfl) | (obtain ⟨s1, s2, s3, s4, s5, s6, s7⟩ := hSw; go_simp; rfl) | (obtain ⟨s1, s2, s3⟩ := hSw; go_simp; rfl) | (obtain ⟨s1, s2⟩ := hSw; go_simp; rfl) | (have s1 := hSw; go_simp; rfl)
  go_simp
  refine wpAnyH_take (i := 3) (v := ?_) rfl (by kernel_rfl) (by kernel_rfl) (by kernel_rfl) (fun _ _ _ h => h) (Or.inl ⟨by rfl, ?_⟩) s0 ?_
  rotate_left
  · intro w hSw; first | (obtain ⟨s1, s2, s3, s4, s5, s6, s7, s8⟩ := hSw; go_simp; rfl) | (obtain ⟨s1, s2, s3, s4, s5, s6, s7⟩ := hSw; go_simp; rfl) | (obtain ⟨s1, s2, s3⟩ := hSw; go_simp; rfl) | (obtain ⟨s1, s2⟩ := hSw; go_simp; rfl) | (have s1 := hSw; go_simp; rfl)
  go_simp
  refine wpAnyH_take (i := 4) (v := ?_) rfl (by kernel_rfl) (by kernel_rfl) (by kernel_rfl) (fun _ _ _ h => h) (Or.inl ⟨by rfl, ?_⟩) s0 ?_
  rotate_left
  · intro w hSw; first | (obtain ⟨s1, s2, s3, s4, s5, s6, s7, s8⟩ := hSw; go_simp; rfl) | (obtain ⟨s1, s2, s3, s4, s5, s6, s7⟩ := hSw; go_simp; rfl) | (obtain ⟨s1, s2, s3⟩ := hSw; go_simp; rfl) | (obtain ⟨s1, s2⟩ := hSw; go_simp; rfl) | (have s1 := hSw; go_simp; rfl)
  go_simp
  refine wpAnyH_take (i := 5) (v := ?_) rfl (by kernel_rfl) (by kernel_rfl) (by kernel_rfl) (fun _ _ _ h => h) (Or.inl ⟨by rfl, ?_⟩) s0 ?_
  rotate_left
  · intro w hSw; first | (obtain ⟨s1, s2, s3, s4, s5, s6, s7, s8⟩ := hSw; go_simp; rfl) | (obtain ⟨s1, s2, s3, s4, s5, s6, s7⟩ := hSw; go_simp; rfl) | (obtain ⟨s1, s2, s3⟩ := hSw; go_simp; rfl) | (obtain ⟨s1, s2⟩ := hSw; go_simp; rfl) | (have s1 := hSw; go_simp; rfl)
  go_simp
  refine wpAnyH_take (i := 6) (v := ?_) rfl (by kernel_rfl) (by kernel_rfl) (by kernel_rfl) (fun _ _ _ h => h) (Or.inl ⟨by rfl, ?_⟩) s0 ?_
  rotate_left
  · intro w hSw; first | (obtain ⟨s1, s2, s3, s4, s5, s6, s7, s8⟩ := hSw; go_simp; rfl) | (obtain ⟨s1, s2, s3, s4, s5, s6, s7⟩ := hSw; go_simp; rfl) | (obtain ⟨s1, s2, s3⟩ := hSw; go_simp; rfl) | (obtain ⟨s1, s2⟩ := hSw; go_simp; rfl) | (have s1 := hSw; go_simp; rfl)
  go_simp
  refine wpAnyH_take (i := 8) (v := ?_) rfl (by kernel_rfl) (by kernel_rfl) (by kernel_rfl) (fun _ _ _ h => h) (Or.inl ⟨by rfl, ?_⟩) s0 ?_
  rotate_left
  · intro w hSw; first | (obtain ⟨s1, s2, s3, s4, s5, s6, s7, s8⟩ := hSw; go_simp; rfl) | (obtain ⟨s1, s2, s3, s4, s5, s6, s7⟩ := hSw; go_simp; rfl) | (obtain ⟨s1, s2, s3⟩ := hSw; go_simp; rfl) | (obtain ⟨s1, s2⟩ := hSw; go_simp; rfl) | (have s1 := hSw; go_simp; rfl)
  go_simp
  refine wpAnyH_take (i := 9) (v := ?_) rfl (by kernel_rfl) (by kernel_rfl) (by kernel_rfl) (fun _ _ _ h => h) (Or.inl ⟨by rfl, ?_⟩) s0 ?_
  rotate_left
  · intro w hSw; first | (obtain ⟨s1, s2, s3, s4, s5, s6, s7, s8⟩ := hSw; go_simp; rfl) | (obtain ⟨s1, s2, s3, s4, s5, s6, s7⟩ := hSw; go_simp; rfl) | (obtain ⟨s1, s2, s3⟩ := hSw; go_simp; rfl) | (obtain ⟨s1, s2⟩ := hSw; go_simp; rfl) | (have s1 := hSw; go_simp; rfl)
  go_simp
  refine wpAnyH_take (i := 12) (v := ?_) rfl (by kernel_rfl) (by kernel_rfl) (by kernel_rfl) (fun _ _ _ h => h) (Or.inl ⟨by rfl, ?_⟩) s0 ?_
  rotate_left
  · intro w hSw; first | (obtain ⟨s1, s2, s3, s4, s5, s6, s7, s8⟩ := hSw; go_simp; rfl) | (obtain ⟨s1, s2, s3, s4, s5, s6, s7⟩ := hSw; go_simp; rfl) | (obtain ⟨s1, s2, s3⟩ := hSw; go_simp; rfl) | (obtain ⟨s1, s2⟩ := hSw; go_simp; rfl) | (have s1 := hSw; go_simp; rfl)
  go_simp
  refine wpAnyH_take (i := 13) (v := ?_) rfl (by kernel_rfl) (by kernel_rfl) (by kernel_rfl) (fun _ _ _ h => h) (Or.inl ⟨by rfl, ?_⟩) s0 ?_
  rotate_left
  · intro w hSw; first | (obtain ⟨s1, s2, s3, s4, s5, s6, s7, s8⟩ := hSw; go_simp; rfl) | (obtain ⟨s1, s2, s3, s4, s5, s6, s7⟩ := hSw; go_simp; rfl) | (obtain ⟨s1, s2, s3⟩ := hSw; go_simp; rfl) | (obtain ⟨s1, s2⟩ := hSw; go_simp; rfl) | (have s1 := hSw; go_simp; rfl)
  go_simp
  refine heldOne (i := 7) (by kernel_rfl) rfl (by rfl) (fun K hK => ?_)
  go_simp
  refine (HR.out W0 HN0.out).mono ?_
  rintro e w2 ⟨rfl, rfl⟩
  refine hK.out _ _ s0 ?_
  clear hK K
  refine heldOne (i := 10) (by kernel_rfl) rfl (by rfl) (fun K hK => ?_)
  go_simp
  refine (HVV.out W0 HN0.out).mono ?_
  rintro e w3 ⟨rfl, hn3⟩
  have hb3 := (hn3.block xb hxl id).trans HB0.out
  have HN3 := Lib.hid (HN0.out.trans hn3)
  have HB3 := Lib.hid hb3
  have s3 := box_cells hb3
  refine hK.out _ _ s3 ?_
  clear hK K s0 hn3 hb3
  refine heldOne (i := 11) (by kernel_rfl) rfl (by rfl) (fun K hK => ?_)
  go_simp
  refine (HK.out w3).mono ?_
  rintro e w4 ⟨rfl, hn4⟩
  have hb4 := (hn4.block xb (lt_of_block HB3.out) id).trans HB3.out
  have HN4 := Lib.hid (HN3.out.trans hn4)
  have HB4 := Lib.hid hb4
  have s4 := box_cells hb4
  refine hK.out _ _ s4 ?_
  clear hK K s3 hn4 hb4
  refine wpAnyH_take (i := 14) (v := ?_) rfl (by kernel_rfl) (by kernel_rfl) (by kernel_rfl) (fun _ _ _ h => h) (Or.inl ⟨by rfl, ?_⟩) s4 ?_
  rotate_left
  · intro w hSw; first | (obtain ⟨s1, s2, s3, s4, s5, s6, s7, s8⟩ := hSw; go_simp; rfl) | (obtain ⟨s1, s2, s3, s4, s5, s6, s7⟩ := hSw; go_simp; rfl) | (obtain ⟨s1, s2, s3⟩ := hSw; go_simp; rfl) | (obtain ⟨s1, s2⟩ := hSw; go_simp; rfl) | (have s1 := hSw; go_simp; rfl)
  go_simp
  refine heldOne (i := 15) (by kernel_rfl) rfl (by rfl) (fun K hK => ?_)
  have ya := (HN4.out.cell hl id _).trans ca
  have yz : ∀ i, w4.frozen? ⟨fb, i, none⟩ = false := fun i => (HN4.out.frozen hl id i).trans (z0 i)
  go_simp
  have hs5 := (H.out.new HN4.out).setReg ha hrk
  have hb5 : (w4.setCell ⟨fb, o + 1 + a, none⟩ (.int .u64 (R : Nat))).heap[xb]? = _ := (block_setCell_ne (by omega) _).trans HB4.out
  have HS5 := Lib.hid hs5
  have HB5 := Lib.hid hb5
  have HF5 := Lib.hid ((Fr34.new hl HN4.out).trans (Fr34.set (fb := fb) (o := o) (i := o + 1 + a) (.int .u64 (R : Nat)) (by omega) (by omega)))
  refine hK.out _ _ (box_cells hb5) ?_
  clear hK K ya yz hs5 hb5 s4
  refine wpAnyH_done (by kernel_rfl) ?_ _
  generalize w4.setCell ⟨fb, o + 1 + a, none⟩ (.int .u64 (R : Nat)) = w5 at HS5 HB5 HF5 ⊢
  have d0 : w5.cell? ⟨fb, o, none⟩ = some (.int .i64 k) := by rw [← HPC.out]; exact HS5.out.fr.pc
  have zf : ∀ i, w5.frozen? ⟨fb, i, none⟩ = false := HS5.out.fr.free
  go_wp2
  go_ret2
  rw [HE.out]
  exact ⟨v, rfl, by rw [HPC.out]; exact HS5.out.setPc _, HF5.out.trans (Fr34.set _ (Nat.le_refl _) (by omega)), fun k hk => .inl hk⟩
set_option maxRecDepth 100000 in
set_option maxHeartbeats 8000000 in
theorem step_reck11 (a : Nat) (h : FmAt w fb o v F) (hi : InsAt w cg co k 11 a B C V M W) (hk : k < n) (hn : n ≤ 1000000) (hV : V < 18446744073709551616) (hpc : F.pc = k) (hg : goodV 11 a B C V n = true) (ha : a < 32) :
    Calls Tryd.prog 10 #[.pointer (some ⟨fb, o, none⟩), .slice (some ⟨cg, co, none⟩) n cap, cv] w fun e w' => Stepped w fb o v (0, reckF 11 a B C V F) e w' := by
  have c0 := h.fr.pc
  have hl := h.fr.lt
  rw [hpc] at c0
  have HM := Lib.hid (fun w' => vmay_any 11 a B C V M W n w' hV (by omega) (by omega))
  unfold goodV at hg
  rw [hg] at HM
  have HI := Lib.hid hi
  have HR := Lib.hid (fun w' (f : New w w') => read_any fb o F.pc F.rs v B w' (h.fr.new f))
  have HVV := Lib.hid (fun w' (f : New w w') => value_any fb o F.pc F.rs v 11 a B C V M W w' (h.fr.new f))
  have hb := regN_fit h.fr.fits B
  have hc := valN_fit h.fr.fits C hV
  have hrk := reckN_fit 11 hV hb hc
  have HK := Lib.hid (fun w' => reckon_any 11 a B C V M W _ _ w' (by omega) hb hc)
  have HE := Lib.hid (show reckF 11 a B C V F = ⟨F.pc + 1, F.rs.set a (reckN 11 V (regN F.rs B) (valN F.rs C V)), F.bk⟩ from rfl)
  generalize regN F.rs B = b at HR HK HE hrk
  generalize valN F.rs C V = c at HVV HK HE hrk
  generalize reckN 11 V b c = R at HK HE hrk
  obtain ⟨_, x0, x1, x2, x3, x4, x5, x6⟩ := hi
  have q1 : (0 : Int) ≤ (k : Int) := by omega
  have q2 : (k : Int) < (n : Int) := by omega
  have q3 : (0 : Int) ≤ (a : Int) := by omega
  have q4 : (a : Int) < 32 := by omega
  have t1 : IntKind.i64.wrap ((k : Int) + 1) = (k : Int) + 1 := IntWalk.i64_in _ (by omega)
  have ca := h.fr.regD ha
  have H := Lib.hid h
  have HPC := Lib.hid hpc
  have z0 := h.fr.free
  clear h hg hpc hb hc
  go_enter Tryd.func10, Tryd.ntmps10
  go_wp2_with fail
  refine (HM.out _).mono ?_
  rintro e w1 ⟨rfl, hn1⟩
  obtain ⟨_, y0, y1, y2, y3, y4, y5, y6⟩ := HI.out.keep hn1 id
  have d0 := (hn1.cell hl id _).trans c0
  have HN1 := Lib.hid hn1
  clear c0 x0 x1 x2 x3 x4 x5 x6 hn1
  go_wp2_with fail
  obtain ⟨W0, hW0⟩ : ∃ W0, (w1.alloc (.cells #[.int .i64 11, .int .i64 a, .int .i64 B, .int .i64 C, .int .u64 V, .int .i64 M, .int .i64 W] 52)).drew = W0 := ⟨_, rfl⟩
  have hn0 : New w1 W0 := by rw [← hW0]; exact ((Fr.refl _ _).alloc _).drew
  have hb0 : W0.heap[w1.heap.size]? = some (.cells #[.int .i64 11, .int .i64 a, .int .i64 B, .int .i64 C, .int .u64 V, .int .i64 M, .int .i64 W] 52 (0, 0)) := by rw [← hW0]; exact block_alloc_new _ _
  have hfl : fb < w1.heap.size := Nat.lt_of_lt_of_le hl HN1.out.size
  obtain ⟨xb, hxb⟩ : ∃ xb, w1.heap.size = xb := ⟨_, rfl⟩
  rw [hxb] at hb0 hfl ⊢
  have hxl := lt_of_block hb0
  refine heldStart (fun wz => wz.cell? ⟨xb, 0, none⟩ = some (.int .i64 11) ∧ wz.cell? ⟨xb, 1, none⟩ = some (.int .i64 a) ∧ wz.cell? ⟨xb, 2, none⟩ = some (.int .i64 B) ∧ wz.cell? ⟨xb, 3, none⟩ = some (.int .i64 C) ∧ wz.cell? ⟨xb, 4, none⟩ = some (.int .u64 V) ∧ wz.cell? ⟨xb, 5, none⟩ = some (.int .i64 M) ∧ wz.cell? ⟨xb, 6, none⟩ = some (.int .i64 W)) (by kernel_rfl) ?_
  rw [hW0]
  have s0 := box_cells hb0
  have HN0 := Lib.hid (HN1.out.trans hn0)
  have HB0 := Lib.hid hb0
  clear hW0 hn0 hb0 d0 y0 y1 y2 y3 y4 y5 y6 hxb
  refine wpAnyH_take (i := 0) (v := ?_) rfl (by kernel_rfl) (by kernel_rfl) (by kernel_rfl) (fun _ _ _ h => h) (Or.inl ⟨by rfl, ?_⟩) s0 ?_
  rotate_left
  · intro w hSw; first | (obtain ⟨s1, s2, s3, s4, s5, s6, s7, s8⟩ := hSw; go_simp; rfl) | (obtain ⟨s1, s2, s3, s4, s5, s6, s7⟩ := hSw; go_simp; rfl) | (obtain ⟨s1, s2, s3⟩ := hSw; go_simp; rfl) | (obtain ⟨s1, s2⟩ := hSw; go_simp; rfl) | (have s1 := hSw; go_simp; rfl)
  go_simp
  refine wpAnyH_take (i := 1) (v := ?_) rfl (by kernel_rfl) (by kernel_rfl) (by kernel_rfl) (fun _ _ _ h => h) (Or.inl ⟨by rfl, ?_⟩) s0 ?_
  rotate_left
  · intro w hSw; first | (obtain ⟨s1, s2, s3, s4, s5, s6, s7, s8⟩ := hSw; go_simp; rfl) | (obtain ⟨s1, s2, s3, s4, s5, s6, s7⟩ := hSw; go_simp; rfl) | (obtain ⟨s1, s2, s3⟩ := hSw; go_simp; rfl) | (obtain ⟨s1, s2⟩ := hSw; go_simp; rfl) | (have s1 := hSw; go_simp; rfl)
  go_simp
  refine wpAnyH_take (i := 2) (v := ?_) rfl (by kernel_rfl) (by kernel_rfl) (by kernel_rfl) (fun _ _ _ h => h) (Or.inl ⟨by rfl, ?_⟩) s0 ?_
  rotate_left
  · intro w hSw; first | (obtain ⟨s1, s2, s3, s4, s5, s6, s7, s8⟩ := hSw; go_simp; rfl) | (obtain ⟨s1, s2, s3, s4, s5, s6, s7⟩ := hSw; go_simp; rfl) | (obtain ⟨s1, s2, s3⟩ := hSw; go_simp; rfl) | (obtain ⟨s1, s2⟩ := hSw; go_simp; rfl) | (have s1 := hSw; go_simp; rfl)
  go_simp
  refine wpAnyH_take (i := 3) (v := ?_) rfl (by kernel_rfl) (by kernel_rfl) (by kernel_rfl) (fun _ _ _ h => h) (Or.inl ⟨by rfl, ?_⟩) s0 ?_
  rotate_left
  · intro w hSw; first | (obtain ⟨s1, s2, s3, s4, s5, s6, s7, s8⟩ := hSw; go_simp; rfl) | (obtain ⟨s1, s2, s3, s4, s5, s6, s7⟩ := hSw; go_simp; rfl) | (obtain ⟨s1, s2, s3⟩ := hSw; go_simp; rfl) | (obtain ⟨s1, s2⟩ := hSw; go_simp; rfl) | (have s1 := hSw; go_simp; rfl)
  go_simp
  refine wpAnyH_take (i := 4) (v := ?_) rfl (by kernel_rfl) (by kernel_rfl) (by kernel_rfl) (fun _ _ _ h => h) (Or.inl ⟨by rfl, ?_⟩) s0 ?_
  rotate_left
  · intro w hSw; first | (obtain ⟨s1, s2, s3, s4, s5, s6, s7, s8⟩ := hSw; go_simp; rfl) | (obtain ⟨s1, s2, s3, s4, s5, s6, s7⟩ := hSw; go_simp; rfl) | (obtain ⟨s1, s2, s3⟩ := hSw; go_simp; rfl) | (obtain ⟨s1, s2⟩ := hSw; go_simp; rfl) | (have s1 := hSw; go_simp; rfl)
  go_simp
  refine wpAnyH_take (i := 5) (v := ?_) rfl (by kernel_rfl) (by kernel_rfl) (by kernel_rfl) (fun _ _ _ h => h) (Or.inl ⟨by rfl, ?_⟩) s0 ?_
  rotate_left
  · intro w hSw; first | (obtain ⟨s1, s2, s3, s4, s5, s6, s7, s8⟩ := hSw; go_simp; rfl) | (obtain ⟨s1, s2, s3, s4, s5, s6, s7⟩ := hSw; go_simp; rfl) | (obtain ⟨s1, s2, s3⟩ := hSw; go_simp; rfl) | (obtain ⟨s1, s2⟩ := hSw; go_simp; rfl) | (have s1 := hSw; go_simp; rfl)
  go_simp
  refine wpAnyH_take (i := 6) (v := ?_) rfl (by kernel_rfl) (by kernel_rfl) (by kernel_rfl) (fun _ _ _ h => h) (Or.inl ⟨by rfl, ?_⟩) s0 ?_
  rotate_left
  · intro w hSw; first | (obtain ⟨s1, s2, s3, s4, s5, s6, s7, s8⟩ := hSw; go_simp; rfl) | (obtain ⟨s1, s2, s3, s4, s5, s6, s7⟩ := hSw; go_simp; rfl) | (obtain ⟨s1, s2, s3⟩ := hSw; go_simp; rfl) | (obtain ⟨s1, s2⟩ := hSw; go_simp; rfl) | (have s1 := hSw; go_simp; rfl)
  go_simp
  refine wpAnyH_take (i := 8) (v := ?_) rfl (by kernel_rfl) (by kernel_rfl) (by kernel_rfl) (fun _ _ _ h => h) (Or.inl ⟨by rfl, ?_⟩) s0 ?_
  rotate_left
  · intro w hSw; first | (obtain ⟨s1, s2, s3, s4, s5, s6, s7, s8⟩ := hSw; go_simp; rfl) | (obtain ⟨s1, s2, s3, s4, s5, s6, s7⟩ := hSw; go_simp; rfl) | (obtain ⟨s1, s2, s3⟩ := hSw; go_simp; rfl) | (obtain ⟨s1, s2⟩ := hSw; go_simp; rfl) | (have s1 := hSw; go_simp; rfl)
  go_simp
  refine wpAnyH_take (i := 9) (v := ?_) rfl (by kernel_rfl) (by kernel_rfl) (by kernel_rfl) (fun _ _ _ h => h) (Or.inl ⟨by rfl, ?_⟩) s0 ?_
  rotate_left
  · intro w hSw; first | (obtain ⟨s1, s2, s3, s4, s5, s6, s7, s8⟩ := hSw; go_simp; rfl) | (obtain ⟨s1, s2, s3, s4, s5, s6, s7⟩ := hSw; go_simp; rfl) | (obtain ⟨s1, s2, s3⟩ := hSw; go_simp; rfl) | (obtain ⟨s1, s2⟩ := hSw; go_simp; rfl) | (have s1 := hSw; go_simp; rfl)
  go_simp
  refine wpAnyH_take (i := 12) (v := ?_) rfl (by kernel_rfl) (by kernel_rfl) (by kernel_rfl) (fun _ _ _ h => h) (Or.inl ⟨by rfl, ?_⟩) s0 ?_
  rotate_left
  · intro w hSw; first | (obtain ⟨s1, s2, s3, s4, s5, s6, s7, s8⟩ := hSw; go_simp; rfl) | (obtain ⟨s1, s2, s3, s4, s5, s6, s7⟩ := hSw; go_simp; rfl) | (obtain ⟨s1, s2, s3⟩ := hSw; go_simp; rfl) | (obtain ⟨s1, s2⟩ := hSw; go_simp; rfl) | (have s1 := hSw; go_simp; rfl)
  go_simp
  refine wpAnyH_take (i := 13) (v := ?_) rfl (by kernel_rfl) (by kernel_rfl) (by kernel_rfl) (fun _ _ _ h => h) (Or.inl ⟨by rfl, ?_⟩) s0 ?_
  rotate_left
  · intro w hSw; first | (obtain ⟨s1, s2, s3, s4, s5, s6, s7, s8⟩ := hSw; go_simp; rfl) | (obtain ⟨s1, s2, s3, s4, s5, s6, s7⟩ := hSw; go_simp; rfl) | (obtain ⟨s1, s2, s3⟩ := hSw; go_simp; rfl) | (obtain ⟨s1, s2⟩ := hSw; go_simp; rfl) | (have s1 := hSw; go_simp; rfl)
  go_simp
  refine heldOne (i := 7) (by kernel_rfl) rfl (by rfl) (fun K hK => ?_)
  go_simp
  refine (HR.out W0 HN0.out).mono ?_
  rintro e w2 ⟨rfl, rfl⟩
  refine hK.out _ _ s0 ?_
  clear hK K
  refine heldOne (i := 10) (by kernel_rfl) rfl (by rfl) (fun K hK => ?_)
  go_simp
  refine (HVV.out W0 HN0.out).mono ?_
  rintro e w3 ⟨rfl, hn3⟩
  have hb3 := (hn3.block xb hxl id).trans HB0.out
  have HN3 := Lib.hid (HN0.out.trans hn3)
  have HB3 := Lib.hid hb3
  have s3 := box_cells hb3
  refine hK.out _ _ s3 ?_
  clear hK K s0 hn3 hb3
  refine heldOne (i := 11) (by kernel_rfl) rfl (by rfl) (fun K hK => ?_)
  go_simp
  refine (HK.out w3).mono ?_
  rintro e w4 ⟨rfl, hn4⟩
  have hb4 := (hn4.block xb (lt_of_block HB3.out) id).trans HB3.out
  have HN4 := Lib.hid (HN3.out.trans hn4)
  have HB4 := Lib.hid hb4
  have s4 := box_cells hb4
  refine hK.out _ _ s4 ?_
  clear hK K s3 hn4 hb4
  refine wpAnyH_take (i := 14) (v := ?_) rfl (by kernel_rfl) (by kernel_rfl) (by kernel_rfl) (fun _ _ _ h => h) (Or.inl ⟨by rfl, ?_⟩) s4 ?_
  rotate_left
  · intro w hSw; first | (obtain ⟨s1, s2, s3, s4, s5, s6, s7, s8⟩ := hSw; go_simp; rfl) | (obtain ⟨s1, s2, s3, s4, s5, s6, s7⟩ := hSw; go_simp; rfl) | (obtain ⟨s1, s2, s3⟩ := hSw; go_simp; rfl) | (obtain ⟨s1, s2⟩ := hSw; go_simp; rfl) | (have s1 := hSw; go_simp; rfl)
  go_simp
  refine heldOne (i := 15) (by kernel_rfl) rfl (by rfl) (fun K hK => ?_)
  have ya := (HN4.out.cell hl id _).trans ca
  have yz : ∀ i, w4.frozen? ⟨fb, i, none⟩ = false := fun i => (HN4.out.frozen hl id i).trans (z0 i)
  go_simp
  have hs5 := (H.out.new HN4.out).setReg ha hrk
  have hb5 : (w4.setCell ⟨fb, o + 1 + a, none⟩ (.int .u64 (R : Nat))).heap[xb]? = _ := (block_setCell_ne (by omega) _).trans HB4.out
  have HS5 := Lib.hid hs5
  have HB5 := Lib.hid hb5
  have HF5 := Lib.hid ((Fr34.new hl HN4.out).trans (Fr34.set (fb := fb) (o := o) (i := o + 1 + a) (.int .u64 (R : Nat)) (by omega) (by omega)))
  refine hK.out _ _ (box_cells hb5) ?_
  clear hK K ya yz hs5 hb5 s4
  refine wpAnyH_done (by kernel_rfl) ?_ _
  generalize w4.setCell ⟨fb, o + 1 + a, none⟩ (.int .u64 (R : Nat)) = w5 at HS5 HB5 HF5 ⊢
  have d0 : w5.cell? ⟨fb, o, none⟩ = some (.int .i64 k) := by rw [← HPC.out]; exact HS5.out.fr.pc
  have zf : ∀ i, w5.frozen? ⟨fb, i, none⟩ = false := HS5.out.fr.free
  go_wp2
  go_ret2
  rw [HE.out]
  exact ⟨v, rfl, by rw [HPC.out]; exact HS5.out.setPc _, HF5.out.trans (Fr34.set _ (Nat.le_refl _) (by omega)), fun k hk => .inl hk⟩
theorem step_reck (h : FmAt w fb o v F) (hi : InsAt w cg co k op A B C V M W) (hk : k < n) (hn : n ≤ 1000000) (hV : V < 18446744073709551616) (hpc : F.pc = k) (hg : goodV op A B C V n = true) (ho : 1 ≤ op ∧ op ≤ 11) (hA : 0 ≤ A ∧ A < 32) :
    Calls Tryd.prog 10 #[.pointer (some ⟨fb, o, none⟩), .slice (some ⟨cg, co, none⟩) n cap, cv] w fun e w' => Stepped w fb o v (0, reckF op A.toNat B C V F) e w' := by
  obtain ⟨a, rfl⟩ := Int.eq_ofNat_of_zero_le hA.1
  have ha : a < 32 := by omega
  rcases (show op = 1 ∨ op = 2 ∨ op = 3 ∨ op = 4 ∨ op = 5 ∨ op = 6 ∨ op = 7 ∨ op = 8 ∨ op = 9 ∨ op = 10 ∨ op = 11 by omega) with rfl | rfl | rfl | rfl | rfl | rfl | rfl | rfl | rfl | rfl | rfl
  · exact step_reck1 fb o v cv F cg co n cap k B C V M W w a h hi hk hn hV hpc hg ha
  · exact step_reck2 fb o v cv F cg co n cap k B C V M W w a h hi hk hn hV hpc hg ha
  · exact step_reck3 fb o v cv F cg co n cap k B C V M W w a h hi hk hn hV hpc hg ha
  · exact step_reck4 fb o v cv F cg co n cap k B C V M W w a h hi hk hn hV hpc hg ha
  · exact step_reck5 fb o v cv F cg co n cap k B C V M W w a h hi hk hn hV hpc hg ha
  · exact step_reck6 fb o v cv F cg co n cap k B C V M W w a h hi hk hn hV hpc hg ha
  · exact step_reck7 fb o v cv F cg co n cap k B C V M W w a h hi hk hn hV hpc hg ha
  · exact step_reck8 fb o v cv F cg co n cap k B C V M W w a h hi hk hn hV hpc hg ha
  · exact step_reck9 fb o v cv F cg co n cap k B C V M W w a h hi hk hn hV hpc hg ha
  · exact step_reck10 fb o v cv F cg co n cap k B C V M W w a h hi hk hn hV hpc hg ha
  · exact step_reck11 fb o v cv F cg co n cap k B C V M W w a h hi hk hn hV hpc hg ha
end

end Go.Proofs.YtngpcalgjaglmaaDoor
