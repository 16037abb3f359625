/- A step: an access of a cell that is there; no cells. -/
import Derived.Test.YtngpcalgjaglmaaDoorVmE
namespace Go.Proofs.YtngpcalgjaglmaaDoor
open Go.RowKit

section
variable (fb o mb : Nat) (v cv : Value) (F : Fm) (cg co n cap k : Nat) (A B C : Int) (V : Nat) (M W : Int) (w : World)

set_option maxRecDepth 100000 in
set_option maxHeartbeats 4000000 in
theorem step_nocells17 (h : FmAt w fb o v F) (hi : InsAt w cg co k 17 A B C V M W) (hk : k < n) (hn : n ≤ 1000000) (hV : V < 18446744073709551616) (hpc : F.pc = k) (hg : goodV 17 A B C V n = true) :
    Calls Tryd.prog 10 #[.pointer (some ⟨fb, o, none⟩), .slice (some ⟨cg, co, none⟩) n cap, .nilIface] w fun e w' => e = .returned (.tuple #[.int .i64 3, .nilIface]) ∧ New w w' := by
  have c0 := h.fr.pc
  have hl := h.fr.lt
  rw [hpc] at c0
  have HM := Lib.hid (fun w' => vmay_any 17 A B C V M W n w' hV (by omega) (by omega))
  unfold goodV at hg
  rw [hg] at HM
  have HI := Lib.hid hi
  obtain ⟨_, x0, x1, x2, x3, x4, x5, x6⟩ := hi
  have q1 : (0 : Int) ≤ (k : Int) := by omega
  have q2 : (k : Int) < (n : Int) := by omega
  clear h hg hpc
  go_enter Tryd.func10, Tryd.ntmps10
  go_wp2_with fail
  refine (HM.out _).mono ?_
  rintro e w1 ⟨rfl, hn1⟩
  obtain ⟨_, y0, y1, y2, y3, y4, y5, y6⟩ := HI.out.keep hn1 id
  have d0 := (hn1.cell hl id _).trans c0
  have HN1 := Lib.hid hn1
  clear c0 x0 x1 x2 x3 x4 x5 x6 hn1
  go_wp2
  go_ret2
  exact ⟨rfl, HN1.out.alloc _⟩
set_option maxRecDepth 100000 in
set_option maxHeartbeats 4000000 in
theorem step_nocells18 (h : FmAt w fb o v F) (hi : InsAt w cg co k 18 A B C V M W) (hk : k < n) (hn : n ≤ 1000000) (hV : V < 18446744073709551616) (hpc : F.pc = k) (hg : goodV 18 A B C V n = true) :
    Calls Tryd.prog 10 #[.pointer (some ⟨fb, o, none⟩), .slice (some ⟨cg, co, none⟩) n cap, .nilIface] w fun e w' => e = .returned (.tuple #[.int .i64 3, .nilIface]) ∧ New w w' := by
  have c0 := h.fr.pc
  have hl := h.fr.lt
  rw [hpc] at c0
  have HM := Lib.hid (fun w' => vmay_any 18 A B C V M W n w' hV (by omega) (by omega))
  unfold goodV at hg
  rw [hg] at HM
  have HI := Lib.hid hi
  obtain ⟨_, x0, x1, x2, x3, x4, x5, x6⟩ := hi
  have q1 : (0 : Int) ≤ (k : Int) := by omega
  have q2 : (k : Int) < (n : Int) := by omega
  clear h hg hpc
  go_enter Tryd.func10, Tryd.ntmps10
  go_wp2_with fail
  refine (HM.out _).mono ?_
  rintro e w1 ⟨rfl, hn1⟩
  obtain ⟨_, y0, y1, y2, y3, y4, y5, y6⟩ := HI.out.keep hn1 id
  have d0 := (hn1.cell hl id _).trans c0
  have HN1 := Lib.hid hn1
  clear c0 x0 x1 x2 x3 x4 x5 x6 hn1
  go_wp2
  go_ret2
  exact ⟨rfl, HN1.out.alloc _⟩
set_option maxRecDepth 100000 in
set_option maxHeartbeats 4000000 in
theorem step_nocells19 (h : FmAt w fb o v F) (hi : InsAt w cg co k 19 A B C V M W) (hk : k < n) (hn : n ≤ 1000000) (hV : V < 18446744073709551616) (hpc : F.pc = k) (hg : goodV 19 A B C V n = true) :
    Calls Tryd.prog 10 #[.pointer (some ⟨fb, o, none⟩), .slice (some ⟨cg, co, none⟩) n cap, .nilIface] w fun e w' => e = .returned (.tuple #[.int .i64 3, .nilIface]) ∧ New w w' := by
  have c0 := h.fr.pc
  have hl := h.fr.lt
  rw [hpc] at c0
  have HM := Lib.hid (fun w' => vmay_any 19 A B C V M W n w' hV (by omega) (by omega))
  unfold goodV at hg
  rw [hg] at HM
  have HI := Lib.hid hi
  obtain ⟨_, x0, x1, x2, x3, x4, x5, x6⟩ := hi
  have q1 : (0 : Int) ≤ (k : Int) := by omega
  have q2 : (k : Int) < (n : Int) := by omega
  clear h hg hpc
  go_enter Tryd.func10, Tryd.ntmps10
  go_wp2_with fail
  refine (HM.out _).mono ?_
  rintro e w1 ⟨rfl, hn1⟩
  obtain ⟨_, y0, y1, y2, y3, y4, y5, y6⟩ := HI.out.keep hn1 id
  have d0 := (hn1.cell hl id _).trans c0
  have HN1 := Lib.hid hn1
  clear c0 x0 x1 x2 x3 x4 x5 x6 hn1
  go_wp2
  go_ret2
  exact ⟨rfl, HN1.out.alloc _⟩
set_option maxRecDepth 100000 in
set_option maxHeartbeats 4000000 in
theorem step_nocells20 (h : FmAt w fb o v F) (hi : InsAt w cg co k 20 A B C V M W) (hk : k < n) (hn : n ≤ 1000000) (hV : V < 18446744073709551616) (hpc : F.pc = k) (hg : goodV 20 A B C V n = true) :
    Calls Tryd.prog 10 #[.pointer (some ⟨fb, o, none⟩), .slice (some ⟨cg, co, none⟩) n cap, .nilIface] w fun e w' => e = .returned (.tuple #[.int .i64 3, .nilIface]) ∧ New w w' := by
  have c0 := h.fr.pc
  have hl := h.fr.lt
  rw [hpc] at c0
  have HM := Lib.hid (fun w' => vmay_any 20 A B C V M W n w' hV (by omega) (by omega))
  unfold goodV at hg
  rw [hg] at HM
  have HI := Lib.hid hi
  obtain ⟨_, x0, x1, x2, x3, x4, x5, x6⟩ := hi
  have q1 : (0 : Int) ≤ (k : Int) := by omega
  have q2 : (k : Int) < (n : Int) := by omega
  clear h hg hpc
  go_enter Tryd.func10, Tryd.ntmps10
  go_wp2_with fail
  refine (HM.out _).mono ?_
  rintro e w1 ⟨rfl, hn1⟩
  obtain ⟨_, y0, y1, y2, y3, y4, y5, y6⟩ := HI.out.keep hn1 id
  have d0 := (hn1.cell hl id _).trans c0
  have HN1 := Lib.hid hn1
  clear c0 x0 x1 x2 x3 x4 x5 x6 hn1
  go_wp2
  go_ret2
  exact ⟨rfl, HN1.out.alloc _⟩
set_option maxRecDepth 100000 in
set_option maxHeartbeats 4000000 in
theorem step_nocells21 (h : FmAt w fb o v F) (hi : InsAt w cg co k 21 A B C V M W) (hk : k < n) (hn : n ≤ 1000000) (hV : V < 18446744073709551616) (hpc : F.pc = k) (hg : goodV 21 A B C V n = true) :
    Calls Tryd.prog 10 #[.pointer (some ⟨fb, o, none⟩), .slice (some ⟨cg, co, none⟩) n cap, .nilIface] w fun e w' => e = .returned (.tuple #[.int .i64 3, .nilIface]) ∧ New w w' := by
  have c0 := h.fr.pc
  have hl := h.fr.lt
  rw [hpc] at c0
  have HM := Lib.hid (fun w' => vmay_any 21 A B C V M W n w' hV (by omega) (by omega))
  unfold goodV at hg
  rw [hg] at HM
  have HI := Lib.hid hi
  obtain ⟨_, x0, x1, x2, x3, x4, x5, x6⟩ := hi
  have q1 : (0 : Int) ≤ (k : Int) := by omega
  have q2 : (k : Int) < (n : Int) := by omega
  clear h hg hpc
  go_enter Tryd.func10, Tryd.ntmps10
  go_wp2_with fail
  refine (HM.out _).mono ?_
  rintro e w1 ⟨rfl, hn1⟩
  obtain ⟨_, y0, y1, y2, y3, y4, y5, y6⟩ := HI.out.keep hn1 id
  have d0 := (hn1.cell hl id _).trans c0
  have HN1 := Lib.hid hn1
  clear c0 x0 x1 x2 x3 x4 x5 x6 hn1
  go_wp2
  go_ret2
  exact ⟨rfl, HN1.out.alloc _⟩

/-- Behind an access that went well: something holds of the memory in a world from which only the frame has turned. -/
def Accessed (w : World) (fb o : Nat) (v : Value) (S : Nat → Prop) (F : Fm) (a : Nat) (K : Nat → World → Prop) (e : Ending) (w' : World) : Prop :=
  ∃ x w2, e = .returned (.tuple #[.int .i64 0, .nilIface]) ∧ FmAt w' fb o v ⟨F.pc + 1, F.rs.set a x, F.bk⟩ ∧ K x w2 ∧ Fr34 fb o w2 w' ∧ Fr S w w2
set_option maxRecDepth 100000 in
set_option maxHeartbeats 8000000 in
theorem step_ld (a : Nat) (B : Int) (C : Int) (S : Nat → Prop) (K : Nat → World → Prop) (h : FmAt w fb o v F) (hi : InsAt w cg co k 17 a B C V M W) (hk : k < n) (hn : n ≤ 1000000) (hV : V < 18446744073709551616) (hpc : F.pc = k) (hg : goodV 17 a B C V n = true) (ha : a < 32)
    (hS : ∀ i, S i → i < w.heap.size ∧ i ≠ fb ∧ v.ownBlock ≠ some i)
    (HMEM : ∀ w', New w w' → Calls Tryd.prog 25 #[.pointer (some ⟨mb, 0, none⟩), .int .u64 (adrN F.rs B V : Nat)] w' fun e w'' => ∃ x : Nat, e = .returned (.tuple #[.int .u64 x, .nilIface]) ∧ x < 18446744073709551616 ∧ K x w'' ∧ Fr S w' w'') :
    Calls Tryd.prog 10 #[.pointer (some ⟨fb, o, none⟩), .slice (some ⟨cg, co, none⟩) n cap, memV mb] w fun e w' => Accessed w fb o v S F a K e w' := by
  have c0 := h.fr.pc
  have hl := h.fr.lt
  rw [hpc] at c0
  have HM := Lib.hid (fun w' => vmay_any 17 a B C V M W n w' hV (by omega) (by omega))
  unfold goodV at hg
  rw [hg] at HM
  have HI := Lib.hid hi
  have HAC := Lib.hid (fun w' (f : New w w') => access_ld fb o mb F.pc F.rs v a B C V M W w' (h.fr.new f) ha hV (fun x er w'' => ∃ X : Nat, x = .int .u64 X ∧ er = .nilIface ∧ X < 18446744073709551616 ∧ K X w'' ∧ Fr S w' w'') (fun w2 f2 => (HMEM w2 (f.trans f2)).mono fun e w'' h => by
    obtain ⟨x, h1, h2, h3, h4⟩ := h
    exact ⟨_, _, h1, x, rfl, rfl, h2, h3, (f2.mono (fun _ _ h => h.elim)).trans h4⟩))
  obtain ⟨_, x0, x1, x2, x3, x4, x5, x6⟩ := hi
  have q1 : (0 : Int) ≤ (k : Int) := by omega
  have q2 : (k : Int) < (n : Int) := by omega
  have q3 : (0 : Int) ≤ (a : Int) := by omega
  have q4 : (a : Int) < 32 := by omega
  have t1 : IntKind.i64.wrap ((k : Int) + 1) = (k : Int) + 1 := IntWalk.i64_in _ (by omega)
  have H := Lib.hid h
  have HPC := Lib.hid hpc
  have HS := Lib.hid hS
  clear h hg hpc hS HMEM
  go_enter Tryd.func10, Tryd.ntmps10
  go_wp2_with fail
  refine (HM.out _).mono ?_
  rintro e w1 ⟨rfl, hn1⟩
  obtain ⟨_, y0, y1, y2, y3, y4, y5, y6⟩ := HI.out.keep hn1 id
  have d0 := (hn1.cell hl id _).trans c0
  have HN1 := Lib.hid hn1
  clear c0 x0 x1 x2 x3 x4 x5 x6 hn1
  go_wp2_with fail
  obtain ⟨W0, hW0⟩ : ∃ W0, w1.alloc (.cells #[.int .i64 17, .int .i64 a, .int .i64 B, .int .i64 C, .int .u64 V, .int .i64 M, .int .i64 W] 52) = W0 := ⟨_, rfl⟩
  have hn0 : New w W0 := by rw [← hW0]; exact HN1.out.alloc _
  have hb0 : W0.heap[w1.heap.size]? = some (.cells #[.int .i64 17, .int .i64 a, .int .i64 B, .int .i64 C, .int .u64 V, .int .i64 M, .int .i64 W] 52 (0, 0)) := by rw [← hW0]; exact block_alloc_new _ _
  have hwx : w.heap.size ≤ w1.heap.size := HN1.out.size
  obtain ⟨xb, hxb⟩ : ∃ xb, w1.heap.size = xb := ⟨_, rfl⟩
  rw [hxb] at hb0 hwx ⊢
  have hxl := lt_of_block hb0
  rw [hW0]
  have HN0 := Lib.hid hn0
  have HB0 := Lib.hid hb0
  clear hW0 hn0 hb0 d0 y0 y1 y2 y3 y4 y5 y6 hxb
  refine (HAC.out W0 HN0.out).mono ?_
  rintro e w2 ⟨xv, er, rfl, X, rfl, rfl, hX, hK, hf⟩
  have hfm := (H.out.new HN0.out).keep hf (fun e => (HS.out _ e).2.1 rfl) (fun i hi e => (HS.out _ e).2.2 hi)
  have hb2 := (hf.block xb hxl (fun e => by have := (HS.out _ e).1; omega)).trans HB0.out
  have HFM := Lib.hid hfm
  have HB2 := Lib.hid hb2
  have HK := Lib.hid hK
  have HF := Lib.hid ((HN0.out.mono (fun _ _ h => h.elim)).trans hf)
  clear hfm hb2 hK hf
  have b1 : w2.cell? ⟨xb, 1, none⟩ = some (.int .i64 a) := cell_of_block HB2.out 1
  go_wp2_with fail
  have s0 : w2.drew.cell? ⟨xb, 1, none⟩ = some (.int .i64 a) := b1
  refine heldStart (fun wz => wz.cell? ⟨xb, 1, none⟩ = some (.int .i64 a)) (by kernel_rfl) ?_
  have n2 : New w2 w2.drew := (Fr.refl _ _).drew
  have HFM2 := Lib.hid (HFM.out.new n2)
  have HFR2 := Lib.hid (Fr34.new (o := o) HFM.out.fr.lt n2)
  have hxf : xb ≠ fb := by omega
  clear b1
  generalize w2.drew = w3 at s0 HFM2 HFR2 n2 ⊢
  refine wpAnyH_take (i := 0) (v := ?_) rfl (by kernel_rfl) (by kernel_rfl) (by kernel_rfl) (fun _ _ _ h => h) (Or.inl ⟨by rfl, ?_⟩) s0 ?_
  rotate_left
  · intro w hSw; first | (obtain ⟨s1, s2, s3, s4, s5, s6, s7, s8⟩ := hSw; go_simp; rfl) | (obtain ⟨s1, s2, s3, s4, s5, s6, s7⟩ := hSw; go_simp; rfl) | (obtain ⟨s1, s2, s3⟩ := hSw; go_simp; rfl) | (obtain ⟨s1, s2⟩ := hSw; go_simp; rfl) | (have s1 := hSw; go_simp; rfl)
  go_simp
  refine wpAnyH_take (i := 1) (v := ?_) rfl (by kernel_rfl) (by kernel_rfl) (by kernel_rfl) (fun _ _ _ h => h) (Or.inl ⟨by rfl, ?_⟩) s0 ?_
  rotate_left
  · intro w hSw; first | (obtain ⟨s1, s2, s3, s4, s5, s6, s7, s8⟩ := hSw; go_simp; rfl) | (obtain ⟨s1, s2, s3, s4, s5, s6, s7⟩ := hSw; go_simp; rfl) | (obtain ⟨s1, s2, s3⟩ := hSw; go_simp; rfl) | (obtain ⟨s1, s2⟩ := hSw; go_simp; rfl) | (have s1 := hSw; go_simp; rfl)
  go_simp
  refine wpAnyH_take (i := 2) (v := ?_) rfl (by kernel_rfl) (by kernel_rfl) (by kernel_rfl) (fun _ _ _ h => h) (Or.inl ⟨by rfl, ?_⟩) s0 ?_
  rotate_left
  · intro w hSw; first | (obtain ⟨s1, s2, s3, s4, s5, s6, s7, s8⟩ := hSw; go_simp; rfl) | (obtain ⟨s1, s2, s3, s4, s5, s6, s7⟩ := hSw; go_simp; rfl) | (obtain ⟨s1, s2, s3⟩ := hSw; go_simp; rfl) | (obtain ⟨s1, s2⟩ := hSw; go_simp; rfl) | (have s1 := hSw; go_simp; rfl)
  go_simp
  refine wpAnyH_take (i := 3) (v := ?_) rfl (by kernel_rfl) (by kernel_rfl) (by kernel_rfl) (fun _ _ _ h => h) (Or.inl ⟨by rfl, ?_⟩) s0 ?_
  rotate_left
  · intro w hSw; first | (obtain ⟨s1, s2, s3, s4, s5, s6, s7, s8⟩ := hSw; go_simp; rfl) | (obtain ⟨s1, s2, s3, s4, s5, s6, s7⟩ := hSw; go_simp; rfl) | (obtain ⟨s1, s2, s3⟩ := hSw; go_simp; rfl) | (obtain ⟨s1, s2⟩ := hSw; go_simp; rfl) | (have s1 := hSw; go_simp; rfl)
  go_simp
  refine wpAnyH_take (i := 4) (v := ?_) rfl (by kernel_rfl) (by kernel_rfl) (by kernel_rfl) (fun _ _ _ h => h) (Or.inl ⟨by rfl, ?_⟩) s0 ?_
  rotate_left
  · intro w hSw; first | (obtain ⟨s1, s2, s3, s4, s5, s6, s7, s8⟩ := hSw; go_simp; rfl) | (obtain ⟨s1, s2, s3, s4, s5, s6, s7⟩ := hSw; go_simp; rfl) | (obtain ⟨s1, s2, s3⟩ := hSw; go_simp; rfl) | (obtain ⟨s1, s2⟩ := hSw; go_simp; rfl) | (have s1 := hSw; go_simp; rfl)
  go_simp
  refine wpAnyH_take (i := 5) (v := ?_) rfl (by kernel_rfl) (by kernel_rfl) (by kernel_rfl) (fun _ _ _ h => h) (Or.inl ⟨by rfl, ?_⟩) s0 ?_
  rotate_left
  · intro w hSw; first | (obtain ⟨s1, s2, s3, s4, s5, s6, s7, s8⟩ := hSw; go_simp; rfl) | (obtain ⟨s1, s2, s3, s4, s5, s6, s7⟩ := hSw; go_simp; rfl) | (obtain ⟨s1, s2, s3⟩ := hSw; go_simp; rfl) | (obtain ⟨s1, s2⟩ := hSw; go_simp; rfl) | (have s1 := hSw; go_simp; rfl)
  go_simp
  refine wpAnyH_take (i := 6) (v := ?_) rfl (by kernel_rfl) (by kernel_rfl) (by kernel_rfl) (fun _ _ _ h => h) (Or.inl ⟨by rfl, ?_⟩) s0 ?_
  rotate_left
  · intro w hSw; first | (obtain ⟨s1, s2, s3, s4, s5, s6, s7, s8⟩ := hSw; go_simp; rfl) | (obtain ⟨s1, s2, s3, s4, s5, s6, s7⟩ := hSw; go_simp; rfl) | (obtain ⟨s1, s2, s3⟩ := hSw; go_simp; rfl) | (obtain ⟨s1, s2⟩ := hSw; go_simp; rfl) | (have s1 := hSw; go_simp; rfl)
  go_simp
  refine heldOne (i := 7) (by kernel_rfl) rfl (by rfl) (fun K hK => ?_)
  have ya := HFM2.out.fr.regD ha
  have yz := HFM2.out.fr.free
  go_simp
  have HS5 := Lib.hid (HFM2.out.setReg ha hX)
  have HF5 := Lib.hid (HFR2.out.trans (Fr34.set (fb := fb) (o := o) (i := o + 1 + a) (.int .u64 (X : Nat)) (by omega) (by omega)))
  have s5 : (w3.setCell ⟨fb, o + 1 + a, none⟩ (.int .u64 (X : Nat))).cell? ⟨xb, 1, none⟩ = some (.int .i64 a) := by rw [cell_set_ne _ (.inl (Ne.symm hxf))]; exact s0
  refine hK.out _ _ s5 ?_
  clear hK ya yz
  refine wpAnyH_done (by kernel_rfl) ?_ _
  clear s0 n2
  generalize w3.setCell ⟨fb, o + 1 + a, none⟩ (.int .u64 (X : Nat)) = w5 at HS5 HF5 s5 ⊢
  have d0 : w5.cell? ⟨fb, o, none⟩ = some (.int .i64 k) := by rw [← HPC.out]; exact HS5.out.fr.pc
  have zf : ∀ i, w5.frozen? ⟨fb, i, none⟩ = false := HS5.out.fr.free
  clear s5
  go_wp2
  go_ret2
  exact ⟨X, w2, rfl, by rw [HPC.out]; exact HS5.out.setPc _, HK.out, HF5.out.trans (Fr34.set _ (Nat.le_refl _) (by omega)), HF.out⟩
set_option maxRecDepth 100000 in
set_option maxHeartbeats 8000000 in
theorem step_swp (a : Nat) (B : Int) (C : Int) (S : Nat → Prop) (K : Nat → World → Prop) (h : FmAt w fb o v F) (hi : InsAt w cg co k 19 a B C V M W) (hk : k < n) (hn : n ≤ 1000000) (hV : V < 18446744073709551616) (hpc : F.pc = k) (hg : goodV 19 a B C V n = true) (ha : a < 32)
    (hS : ∀ i, S i → i < w.heap.size ∧ i ≠ fb ∧ v.ownBlock ≠ some i)
    (HMEM : ∀ w', New w w' → Calls Tryd.prog 92 #[.pointer (some ⟨mb, 0, none⟩), .int .u64 (adrN F.rs B V : Nat), .int .u64 (F.rs.getD a 0 : Nat)] w' fun e w'' => ∃ x : Nat, e = .returned (.tuple #[.int .u64 x, .nilIface]) ∧ x < 18446744073709551616 ∧ K x w'' ∧ Fr S w' w'') :
    Calls Tryd.prog 10 #[.pointer (some ⟨fb, o, none⟩), .slice (some ⟨cg, co, none⟩) n cap, memV mb] w fun e w' => Accessed w fb o v S F a K e w' := by
  have c0 := h.fr.pc
  have hl := h.fr.lt
  rw [hpc] at c0
  have HM := Lib.hid (fun w' => vmay_any 19 a B C V M W n w' hV (by omega) (by omega))
  unfold goodV at hg
  rw [hg] at HM
  have HI := Lib.hid hi
  have HAC := Lib.hid (fun w' (f : New w w') => access_swp fb o mb F.pc F.rs v a B C V M W w' (h.fr.new f) ha hV (fun x er w'' => ∃ X : Nat, x = .int .u64 X ∧ er = .nilIface ∧ X < 18446744073709551616 ∧ K X w'' ∧ Fr S w' w'') (fun w2 f2 => (HMEM w2 (f.trans f2)).mono fun e w'' h => by
    obtain ⟨x, h1, h2, h3, h4⟩ := h
    exact ⟨_, _, h1, x, rfl, rfl, h2, h3, (f2.mono (fun _ _ h => h.elim)).trans h4⟩))
  obtain ⟨_, x0, x1, x2, x3, x4, x5, x6⟩ := hi
  have q1 : (0 : Int) ≤ (k : Int) := by omega
  have q2 : (k : Int) < (n : Int) := by omega
  have q3 : (0 : Int) ≤ (a : Int) := by omega
  have q4 : (a : Int) < 32 := by omega
  have t1 : IntKind.i64.wrap ((k : Int) + 1) = (k : Int) + 1 := IntWalk.i64_in _ (by omega)
  have H := Lib.hid h
  have HPC := Lib.hid hpc
  have HS := Lib.hid hS
  clear h hg hpc hS HMEM
  go_enter Tryd.func10, Tryd.ntmps10
  go_wp2_with fail
  refine (HM.out _).mono ?_
  rintro e w1 ⟨rfl, hn1⟩
  obtain ⟨_, y0, y1, y2, y3, y4, y5, y6⟩ := HI.out.keep hn1 id
  have d0 := (hn1.cell hl id _).trans c0
  have HN1 := Lib.hid hn1
  clear c0 x0 x1 x2 x3 x4 x5 x6 hn1
  go_wp2_with fail
  obtain ⟨W0, hW0⟩ : ∃ W0, w1.alloc (.cells #[.int .i64 19, .int .i64 a, .int .i64 B, .int .i64 C, .int .u64 V, .int .i64 M, .int .i64 W] 52) = W0 := ⟨_, rfl⟩
  have hn0 : New w W0 := by rw [← hW0]; exact HN1.out.alloc _
  have hb0 : W0.heap[w1.heap.size]? = some (.cells #[.int .i64 19, .int .i64 a, .int .i64 B, .int .i64 C, .int .u64 V, .int .i64 M, .int .i64 W] 52 (0, 0)) := by rw [← hW0]; exact block_alloc_new _ _
  have hwx : w.heap.size ≤ w1.heap.size := HN1.out.size
  obtain ⟨xb, hxb⟩ : ∃ xb, w1.heap.size = xb := ⟨_, rfl⟩
  rw [hxb] at hb0 hwx ⊢
  have hxl := lt_of_block hb0
  rw [hW0]
  have HN0 := Lib.hid hn0
  have HB0 := Lib.hid hb0
  clear hW0 hn0 hb0 d0 y0 y1 y2 y3 y4 y5 y6 hxb
  refine (HAC.out W0 HN0.out).mono ?_
  rintro e w2 ⟨xv, er, rfl, X, rfl, rfl, hX, hK, hf⟩
  have hfm := (H.out.new HN0.out).keep hf (fun e => (HS.out _ e).2.1 rfl) (fun i hi e => (HS.out _ e).2.2 hi)
  have hb2 := (hf.block xb hxl (fun e => by have := (HS.out _ e).1; omega)).trans HB0.out
  have HFM := Lib.hid hfm
  have HB2 := Lib.hid hb2
  have HK := Lib.hid hK
  have HF := Lib.hid ((HN0.out.mono (fun _ _ h => h.elim)).trans hf)
  clear hfm hb2 hK hf
  have b1 : w2.cell? ⟨xb, 1, none⟩ = some (.int .i64 a) := cell_of_block HB2.out 1
  go_wp2_with fail
  have s0 : w2.drew.cell? ⟨xb, 1, none⟩ = some (.int .i64 a) := b1
  refine heldStart (fun wz => wz.cell? ⟨xb, 1, none⟩ = some (.int .i64 a)) (by kernel_rfl) ?_
  have n2 : New w2 w2.drew := (Fr.refl _ _).drew
  have HFM2 := Lib.hid (HFM.out.new n2)
  have HFR2 := Lib.hid (Fr34.new (o := o) HFM.out.fr.lt n2)
  have hxf : xb ≠ fb := by omega
  clear b1
  generalize w2.drew = w3 at s0 HFM2 HFR2 n2 ⊢
  refine wpAnyH_take (i := 0) (v := ?_) rfl (by kernel_rfl) (by kernel_rfl) (by kernel_rfl) (fun _ _ _ h => h) (Or.inl ⟨by rfl, ?_⟩) s0 ?_
  rotate_left
  · intro w hSw; first | (obtain ⟨s1, s2, s3, s4, s5, s6, s7, s8⟩ := hSw; go_simp; rfl) | (obtain ⟨s1, s2, s3, s4, s5, s6, s7⟩ := hSw; go_simp; rfl) | (obtain ⟨s1, s2, s3⟩ := hSw; go_simp; rfl) | (obtain ⟨s1, s2⟩ := hSw; go_simp; rfl) | (have s1 := hSw; go_simp; rfl)
  go_simp
  refine wpAnyH_take (i := 1) (v := ?_) rfl (by kernel_rfl) (by kernel_rfl) (by kernel_rfl) (fun _ _ _ h => h) (Or.inl ⟨by rfl, ?_⟩) s0 ?_
  rotate_left
  · intro w hSw; first | (obtain ⟨s1, s2, s3, s4, s5, s6, s7, s8⟩ := hSw; go_simp; rfl) | (obtain ⟨s1, s2, s3, s4, s5, s6, s7⟩ := hSw; go_simp; rfl) | (obtain ⟨s1, s2, s3⟩ := hSw; go_simp; rfl) | (obtain ⟨s1, s2⟩ := hSw; go_simp; rfl) | (have s1 := hSw; go_simp; rfl)
  go_simp
  refine wpAnyH_take (i := 2) (v := ?_) rfl (by kernel_rfl) (by kernel_rfl) (by kernel_rfl) (fun _ _ _ h => h) (Or.inl ⟨by rfl, ?_⟩) s0 ?_
  rotate_left
  · intro w hSw; first | (obtain ⟨s1, s2, s3, s4, s5, s6, s7, s8⟩ := hSw; go_simp; rfl) | (obtain ⟨s1, s2, s3, s4, s5, s6, s7⟩ := hSw; go_simp; rfl) | (obtain ⟨s1, s2, s3⟩ := hSw; go_simp; rfl) | (obtain ⟨s1, s2⟩ := hSw; go_simp; rfl) | (have s1 := hSw; go_simp; rfl)
  go_simp
  refine wpAnyH_take (i := 3) (v := ?_) rfl (by kernel_rfl) (by kernel_rfl) (by kernel_rfl) (fun _ _ _ h => h) (Or.inl ⟨by rfl, ?_⟩) s0 ?_
  rotate_left
  · intro w hSw; first | (obtain ⟨s1, s2, s3, s4, s5, s6, s7, s8⟩ := hSw; go_simp; rfl) | (obtain ⟨s1, s2, s3, s4, s5, s6, s7⟩ := hSw; go_simp; rfl) | (obtain ⟨s1, s2, s3⟩ := hSw; go_simp; rfl) | (obtain ⟨s1, s2⟩ := hSw; go_simp; rfl) | (have s1 := hSw; go_simp; rfl)
  go_simp
  refine wpAnyH_take (i := 4) (v := ?_) rfl (by kernel_rfl) (by kernel_rfl) (by kernel_rfl) (fun _ _ _ h => h) (Or.inl ⟨by rfl, ?_⟩) s0 ?_
  rotate_left
  · intro w hSw; first | (obtain ⟨s1, s2, s3, s4, s5, s6, s7, s8⟩ := hSw; go_simp; rfl) | (obtain ⟨s1, s2, s3, s4, s5, s6, s7⟩ := hSw; go_simp; rfl) | (obtain ⟨s1, s2, s3⟩ := hSw; go_simp; rfl) | (obtain ⟨s1, s2⟩ := hSw; go_simp; rfl) | (have s1 := hSw; go_simp; rfl)
  go_simp
  refine wpAnyH_take (i := 5) (v := ?_) rfl (by kernel_rfl) (by kernel_rfl) (by kernel_rfl) (fun _ _ _ h => h) (Or.inl ⟨by rfl, ?_⟩) s0 ?_
  rotate_left
  · intro w hSw; first | (obtain ⟨s1, s2, s3, s4, s5, s6, s7, s8⟩ := hSw; go_simp; rfl) | (obtain ⟨s1, s2, s3, s4, s5, s6, s7⟩ := hSw; go_simp; rfl) | (obtain ⟨s1, s2, s3⟩ := hSw; go_simp; rfl) | (obtain ⟨s1, s2⟩ := hSw; go_simp; rfl) | (have s1 := hSw; go_simp; rfl)
  go_simp
  refine wpAnyH_take (i := 6) (v := ?_) rfl (by kernel_rfl) (by kernel_rfl) (by kernel_rfl) (fun _ _ _ h => h) (Or.inl ⟨by rfl, ?_⟩) s0 ?_
  rotate_left
  · intro w hSw; first | (obtain ⟨s1, s2, s3, s4, s5, s6, s7, s8⟩ := hSw; go_simp; rfl) | (obtain ⟨s1, s2, s3, s4, s5, s6, s7⟩ := hSw; go_simp; rfl) | (obtain ⟨s1, s2, s3⟩ := hSw; go_simp; rfl) | (obtain ⟨s1, s2⟩ := hSw; go_simp; rfl) | (have s1 := hSw; go_simp; rfl)
  go_simp
  refine heldOne (i := 7) (by kernel_rfl) rfl (by rfl) (fun K hK => ?_)
  have ya := HFM2.out.fr.regD ha
  have yz := HFM2.out.fr.free
  go_simp
  have HS5 := Lib.hid (HFM2.out.setReg ha hX)
  have HF5 := Lib.hid (HFR2.out.trans (Fr34.set (fb := fb) (o := o) (i := o + 1 + a) (.int .u64 (X : Nat)) (by omega) (by omega)))
  have s5 : (w3.setCell ⟨fb, o + 1 + a, none⟩ (.int .u64 (X : Nat))).cell? ⟨xb, 1, none⟩ = some (.int .i64 a) := by rw [cell_set_ne _ (.inl (Ne.symm hxf))]; exact s0
  refine hK.out _ _ s5 ?_
  clear hK ya yz
  refine wpAnyH_done (by kernel_rfl) ?_ _
  clear s0 n2
  generalize w3.setCell ⟨fb, o + 1 + a, none⟩ (.int .u64 (X : Nat)) = w5 at HS5 HF5 s5 ⊢
  have d0 : w5.cell? ⟨fb, o, none⟩ = some (.int .i64 k) := by rw [← HPC.out]; exact HS5.out.fr.pc
  have zf : ∀ i, w5.frozen? ⟨fb, i, none⟩ = false := HS5.out.fr.free
  clear s5
  go_wp2
  go_ret2
  exact ⟨X, w2, rfl, by rw [HPC.out]; exact HS5.out.setPc _, HK.out, HF5.out.trans (Fr34.set _ (Nat.le_refl _) (by omega)), HF.out⟩
set_option maxRecDepth 100000 in
set_option maxHeartbeats 8000000 in
theorem step_fad (a : Nat) (B : Int) (C : Int) (S : Nat → Prop) (K : Nat → World → Prop) (h : FmAt w fb o v F) (hi : InsAt w cg co k 20 a B C V M W) (hk : k < n) (hn : n ≤ 1000000) (hV : V < 18446744073709551616) (hpc : F.pc = k) (hg : goodV 20 a B C V n = true) (ha : a < 32)
    (hS : ∀ i, S i → i < w.heap.size ∧ i ≠ fb ∧ v.ownBlock ≠ some i)
    (HMEM : ∀ w', New w w' → Calls Tryd.prog 90 #[.pointer (some ⟨mb, 0, none⟩), .int .u64 (adrN F.rs B V : Nat), .int .u64 (F.rs.getD a 0 : Nat)] w' fun e w'' => ∃ x : Nat, e = .returned (.tuple #[.int .u64 x, .nilIface]) ∧ x < 18446744073709551616 ∧ K x w'' ∧ Fr S w' w'') :
    Calls Tryd.prog 10 #[.pointer (some ⟨fb, o, none⟩), .slice (some ⟨cg, co, none⟩) n cap, memV mb] w fun e w' => Accessed w fb o v S F a K e w' := by
  have c0 := h.fr.pc
  have hl := h.fr.lt
  rw [hpc] at c0
  have HM := Lib.hid (fun w' => vmay_any 20 a B C V M W n w' hV (by omega) (by omega))
  unfold goodV at hg
  rw [hg] at HM
  have HI := Lib.hid hi
  have HAC := Lib.hid (fun w' (f : New w w') => access_fad fb o mb F.pc F.rs v a B C V M W w' (h.fr.new f) ha hV (fun x er w'' => ∃ X : Nat, x = .int .u64 X ∧ er = .nilIface ∧ X < 18446744073709551616 ∧ K X w'' ∧ Fr S w' w'') (fun w2 f2 => (HMEM w2 (f.trans f2)).mono fun e w'' h => by
    obtain ⟨x, h1, h2, h3, h4⟩ := h
    exact ⟨_, _, h1, x, rfl, rfl, h2, h3, (f2.mono (fun _ _ h => h.elim)).trans h4⟩))
  obtain ⟨_, x0, x1, x2, x3, x4, x5, x6⟩ := hi
  have q1 : (0 : Int) ≤ (k : Int) := by omega
  have q2 : (k : Int) < (n : Int) := by omega
  have q3 : (0 : Int) ≤ (a : Int) := by omega
  have q4 : (a : Int) < 32 := by omega
  have t1 : IntKind.i64.wrap ((k : Int) + 1) = (k : Int) + 1 := IntWalk.i64_in _ (by omega)
  have H := Lib.hid h
  have HPC := Lib.hid hpc
  have HS := Lib.hid hS
  clear h hg hpc hS HMEM
  go_enter Tryd.func10, Tryd.ntmps10
  go_wp2_with fail
  refine (HM.out _).mono ?_
  rintro e w1 ⟨rfl, hn1⟩
  obtain ⟨_, y0, y1, y2, y3, y4, y5, y6⟩ := HI.out.keep hn1 id
  have d0 := (hn1.cell hl id _).trans c0
  have HN1 := Lib.hid hn1
  clear c0 x0 x1 x2 x3 x4 x5 x6 hn1
  go_wp2_with fail
  obtain ⟨W0, hW0⟩ : ∃ W0, w1.alloc (.cells #[.int .i64 20, .int .i64 a, .int .i64 B, .int .i64 C, .int .u64 V, .int .i64 M, .int .i64 W] 52) = W0 := ⟨_, rfl⟩
  have hn0 : New w W0 := by rw [← hW0]; exact HN1.out.alloc _
  have hb0 : W0.heap[w1.heap.size]? = some (.cells #[.int .i64 20, .int .i64 a, .int .i64 B, .int .i64 C, .int .u64 V, .int .i64 M, .int .i64 W] 52 (0, 0)) := by rw [← hW0]; exact block_alloc_new _ _
  have hwx : w.heap.size ≤ w1.heap.size := HN1.out.size
  obtain ⟨xb, hxb⟩ : ∃ xb, w1.heap.size = xb := ⟨_, rfl⟩
  rw [hxb] at hb0 hwx ⊢
  have hxl := lt_of_block hb0
  rw [hW0]
  have HN0 := Lib.hid hn0
  have HB0 := Lib.hid hb0
  clear hW0 hn0 hb0 d0 y0 y1 y2 y3 y4 y5 y6 hxb
  refine (HAC.out W0 HN0.out).mono ?_
  rintro e w2 ⟨xv, er, rfl, X, rfl, rfl, hX, hK, hf⟩
  have hfm := (H.out.new HN0.out).keep hf (fun e => (HS.out _ e).2.1 rfl) (fun i hi e => (HS.out _ e).2.2 hi)
  have hb2 := (hf.block xb hxl (fun e => by have := (HS.out _ e).1; omega)).trans HB0.out
  have HFM := Lib.hid hfm
  have HB2 := Lib.hid hb2
  have HK := Lib.hid hK
  have HF := Lib.hid ((HN0.out.mono (fun _ _ h => h.elim)).trans hf)
  clear hfm hb2 hK hf
  have b1 : w2.cell? ⟨xb, 1, none⟩ = some (.int .i64 a) := cell_of_block HB2.out 1
  go_wp2_with fail
  have s0 : w2.drew.cell? ⟨xb, 1, none⟩ = some (.int .i64 a) := b1
  refine heldStart (fun wz => wz.cell? ⟨xb, 1, none⟩ = some (.int .i64 a)) (by kernel_rfl) ?_
  have n2 : New w2 w2.drew := (Fr.refl _ _).drew
  have HFM2 := Lib.hid (HFM.out.new n2)
  have HFR2 := Lib.hid (Fr34.new (o := o) HFM.out.fr.lt n2)
  have hxf : xb ≠ fb := by omega
  clear b1
  generalize w2.drew = w3 at s0 HFM2 HFR2 n2 ⊢
  refine wpAnyH_take (i := 0) (v := ?_) rfl (by kernel_rfl) (by kernel_rfl) (by kernel_rfl) (fun _ _ _ h => h) (Or.inl ⟨by rfl, ?_⟩) s0 ?_
  rotate_left
  · intro w hSw; first | (obtain ⟨s1, s2, s3, s4, s5, s6, s7, s8⟩ := hSw; go_simp; rfl) | (obtain ⟨s1, s2, s3, s4, s5, s6, s7⟩ := hSw; go_simp; rfl) | (obtain ⟨s1, s2, s3⟩ := hSw; go_simp; rfl) | (obtain ⟨s1, s2⟩ := hSw; go_simp; rfl) | (have s1 := hSw; go_simp; rfl)
  go_simp
  refine wpAnyH_take (i := 1) (v := ?_) rfl (by kernel_rfl) (by kernel_rfl) (by kernel_rfl) (fun _ _ _ h => h) (Or.inl ⟨by rfl, ?_⟩) s0 ?_
  rotate_left
  · intro w hSw; first | (obtain ⟨s1, s2, s3, s4, s5, s6, s7, s8⟩ := hSw; go_simp; rfl) | (obtain ⟨s1, s2, s3, s4, s5, s6, s7⟩ := hSw; go_simp; rfl) | (obtain ⟨s1, s2, s3⟩ := hSw; go_simp; rfl) | (obtain ⟨s1, s2⟩ := hSw; go_simp; rfl) | (have s1 := hSw; go_simp; rfl)
  go_simp
  refine wpAnyH_take (i := 2) (v := ?_) rfl (by kernel_rfl) (by kernel_rfl) (by kernel_rfl) (fun _ _ _ h => h) (Or.inl ⟨by rfl, ?_⟩) s0 ?_
  rotate_left
  · intro w hSw; first | (obtain ⟨s1, s2, s3, s4, s5, s6, s7, s8⟩ := hSw; go_simp; rfl) | (obtain ⟨s1, s2, s3, s4, s5, s6, s7⟩ := hSw; go_simp; rfl) | (obtain ⟨s1, s2, s3⟩ := hSw; go_simp; rfl) | (obtain ⟨s1, s2⟩ := hSw; go_simp; rfl) | (have s1 := hSw; go_simp; rfl)
  go_simp
  refine wpAnyH_take (i := 3) (v := ?_) rfl (by kernel_rfl) (by kernel_rfl) (by kernel_rfl) (fun _ _ _ h => h) (Or.inl ⟨by rfl, ?_⟩) s0 ?_
  rotate_left
  · intro w hSw; first | (obtain ⟨s1, s2, s3, s4, s5, s6, s7, s8⟩ := hSw; go_simp; rfl) | (obtain ⟨s1, s2, s3, s4, s5, s6, s7⟩ := hSw; go_simp; rfl) | (obtain ⟨s1, s2, s3⟩ := hSw; go_simp; rfl) | (obtain ⟨s1, s2⟩ := hSw; go_simp; rfl) | (have s1 := hSw; go_simp; rfl)
  go_simp
  refine wpAnyH_take (i := 4) (v := ?_) rfl (by kernel_rfl) (by kernel_rfl) (by kernel_rfl) (fun _ _ _ h => h) (Or.inl ⟨by rfl, ?_⟩) s0 ?_
  rotate_left
  · intro w hSw; first | (obtain ⟨s1, s2, s3, s4, s5, s6, s7, s8⟩ := hSw; go_simp; rfl) | (obtain ⟨s1, s2, s3, s4, s5, s6, s7⟩ := hSw; go_simp; rfl) | (obtain ⟨s1, s2, s3⟩ := hSw; go_simp; rfl) | (obtain ⟨s1, s2⟩ := hSw; go_simp; rfl) | (have s1 := hSw; go_simp; rfl)
  go_simp
  refine wpAnyH_take (i := 5) (v := ?_) rfl (by kernel_rfl) (by kernel_rfl) (by kernel_rfl) (fun _ _ _ h => h) (Or.inl ⟨by rfl, ?_⟩) s0 ?_
  rotate_left
  · intro w hSw; first | (obtain ⟨s1, s2, s3, s4, s5, s6, s7, s8⟩ := hSw; go_simp; rfl) | (obtain ⟨s1, s2, s3, s4, s5, s6, s7⟩ := hSw; go_simp; rfl) | (obtain ⟨s1, s2, s3⟩ := hSw; go_simp; rfl) | (obtain ⟨s1, s2⟩ := hSw; go_simp; rfl) | (have s1 := hSw; go_simp; rfl)
  go_simp
  refine wpAnyH_take (i := 6) (v := ?_) rfl (by kernel_rfl) (by kernel_rfl) (by kernel_rfl) (fun _ _ _ h => h) (Or.inl ⟨by rfl, ?_⟩) s0 ?_
  rotate_left
  · intro w hSw; first | (obtain ⟨s1, s2, s3, s4, s5, s6, s7, s8⟩ := hSw; go_simp; rfl) | (obtain ⟨s1, s2, s3, s4, s5, s6, s7⟩ := hSw; go_simp; rfl) | (obtain ⟨s1, s2, s3⟩ := hSw; go_simp; rfl) | (obtain ⟨s1, s2⟩ := hSw; go_simp; rfl) | (have s1 := hSw; go_simp; rfl)
  go_simp
  refine heldOne (i := 7) (by kernel_rfl) rfl (by rfl) (fun K hK => ?_)
  have ya := HFM2.out.fr.regD ha
  have yz := HFM2.out.fr.free
  go_simp
  have HS5 := Lib.hid (HFM2.out.setReg ha hX)
  have HF5 := Lib.hid (HFR2.out.trans (Fr34.set (fb := fb) (o := o) (i := o + 1 + a) (.int .u64 (X : Nat)) (by omega) (by omega)))
  have s5 : (w3.setCell ⟨fb, o + 1 + a, none⟩ (.int .u64 (X : Nat))).cell? ⟨xb, 1, none⟩ = some (.int .i64 a) := by rw [cell_set_ne _ (.inl (Ne.symm hxf))]; exact s0
  refine hK.out _ _ s5 ?_
  clear hK ya yz
  refine wpAnyH_done (by kernel_rfl) ?_ _
  clear s0 n2
  generalize w3.setCell ⟨fb, o + 1 + a, none⟩ (.int .u64 (X : Nat)) = w5 at HS5 HF5 s5 ⊢
  have d0 : w5.cell? ⟨fb, o, none⟩ = some (.int .i64 k) := by rw [← HPC.out]; exact HS5.out.fr.pc
  have zf : ∀ i, w5.frozen? ⟨fb, i, none⟩ = false := HS5.out.fr.free
  clear s5
  go_wp2
  go_ret2
  exact ⟨X, w2, rfl, by rw [HPC.out]; exact HS5.out.setPc _, HK.out, HF5.out.trans (Fr34.set _ (Nat.le_refl _) (by omega)), HF.out⟩
set_option maxRecDepth 100000 in
set_option maxHeartbeats 8000000 in
theorem step_cas (a : Nat) (B : Int) (C : Nat) (S : Nat → Prop) (K : Nat → World → Prop) (h : FmAt w fb o v F) (hi : InsAt w cg co k 21 a B C V M W) (hk : k < n) (hn : n ≤ 1000000) (hV : V < 18446744073709551616) (hpc : F.pc = k) (hg : goodV 21 a B C V n = true) (ha : a < 32) (hC : C < 32)
    (hS : ∀ i, S i → i < w.heap.size ∧ i ≠ fb ∧ v.ownBlock ≠ some i)
    (HMEM : ∀ w', New w w' → Calls Tryd.prog 91 #[.pointer (some ⟨mb, 0, none⟩), .int .u64 (adrN F.rs B V : Nat), .int .u64 (F.rs.getD a 0 : Nat), .int .u64 (F.rs.getD C 0 : Nat)] w' fun e w'' => ∃ x : Nat, e = .returned (.tuple #[.int .u64 x, .nilIface]) ∧ x < 18446744073709551616 ∧ K x w'' ∧ Fr S w' w'') :
    Calls Tryd.prog 10 #[.pointer (some ⟨fb, o, none⟩), .slice (some ⟨cg, co, none⟩) n cap, memV mb] w fun e w' => Accessed w fb o v S F a K e w' := by
  have c0 := h.fr.pc
  have hl := h.fr.lt
  rw [hpc] at c0
  have HM := Lib.hid (fun w' => vmay_any 21 a B C V M W n w' hV (by omega) (by omega))
  unfold goodV at hg
  rw [hg] at HM
  have HI := Lib.hid hi
  have HAC := Lib.hid (fun w' (f : New w w') => access_cas fb o mb F.pc F.rs v a B C V M W w' (h.fr.new f) ha hC hV (fun x er w'' => ∃ X : Nat, x = .int .u64 X ∧ er = .nilIface ∧ X < 18446744073709551616 ∧ K X w'' ∧ Fr S w' w'') (fun w2 f2 => (HMEM w2 (f.trans f2)).mono fun e w'' h => by
    obtain ⟨x, h1, h2, h3, h4⟩ := h
    exact ⟨_, _, h1, x, rfl, rfl, h2, h3, (f2.mono (fun _ _ h => h.elim)).trans h4⟩))
  obtain ⟨_, x0, x1, x2, x3, x4, x5, x6⟩ := hi
  have q1 : (0 : Int) ≤ (k : Int) := by omega
  have q2 : (k : Int) < (n : Int) := by omega
  have q3 : (0 : Int) ≤ (a : Int) := by omega
  have q4 : (a : Int) < 32 := by omega
  have t1 : IntKind.i64.wrap ((k : Int) + 1) = (k : Int) + 1 := IntWalk.i64_in _ (by omega)
  have H := Lib.hid h
  have HPC := Lib.hid hpc
  have HS := Lib.hid hS
  clear h hg hpc hS HMEM
  go_enter Tryd.func10, Tryd.ntmps10
  go_wp2_with fail
  refine (HM.out _).mono ?_
  rintro e w1 ⟨rfl, hn1⟩
  obtain ⟨_, y0, y1, y2, y3, y4, y5, y6⟩ := HI.out.keep hn1 id
  have d0 := (hn1.cell hl id _).trans c0
  have HN1 := Lib.hid hn1
  clear c0 x0 x1 x2 x3 x4 x5 x6 hn1
  go_wp2_with fail
  obtain ⟨W0, hW0⟩ : ∃ W0, w1.alloc (.cells #[.int .i64 21, .int .i64 a, .int .i64 B, .int .i64 C, .int .u64 V, .int .i64 M, .int .i64 W] 52) = W0 := ⟨_, rfl⟩
  have hn0 : New w W0 := by rw [← hW0]; exact HN1.out.alloc _
  have hb0 : W0.heap[w1.heap.size]? = some (.cells #[.int .i64 21, .int .i64 a, .int .i64 B, .int .i64 C, .int .u64 V, .int .i64 M, .int .i64 W] 52 (0, 0)) := by rw [← hW0]; exact block_alloc_new _ _
  have hwx : w.heap.size ≤ w1.heap.size := HN1.out.size
  obtain ⟨xb, hxb⟩ : ∃ xb, w1.heap.size = xb := ⟨_, rfl⟩
  rw [hxb] at hb0 hwx ⊢
  have hxl := lt_of_block hb0
  rw [hW0]
  have HN0 := Lib.hid hn0
  have HB0 := Lib.hid hb0
  clear hW0 hn0 hb0 d0 y0 y1 y2 y3 y4 y5 y6 hxb
  refine (HAC.out W0 HN0.out).mono ?_
  rintro e w2 ⟨xv, er, rfl, X, rfl, rfl, hX, hK, hf⟩
  have hfm := (H.out.new HN0.out).keep hf (fun e => (HS.out _ e).2.1 rfl) (fun i hi e => (HS.out _ e).2.2 hi)
  have hb2 := (hf.block xb hxl (fun e => by have := (HS.out _ e).1; omega)).trans HB0.out
  have HFM := Lib.hid hfm
  have HB2 := Lib.hid hb2
  have HK := Lib.hid hK
  have HF := Lib.hid ((HN0.out.mono (fun _ _ h => h.elim)).trans hf)
  clear hfm hb2 hK hf
  have b1 : w2.cell? ⟨xb, 1, none⟩ = some (.int .i64 a) := cell_of_block HB2.out 1
  go_wp2_with fail
  have s0 : w2.drew.cell? ⟨xb, 1, none⟩ = some (.int .i64 a) := b1
  refine heldStart (fun wz => wz.cell? ⟨xb, 1, none⟩ = some (.int .i64 a)) (by kernel_rfl) ?_
  have n2 : New w2 w2.drew := (Fr.refl _ _).drew
  have HFM2 := Lib.hid (HFM.out.new n2)
  have HFR2 := Lib.hid (Fr34.new (o := o) HFM.out.fr.lt n2)
  have hxf : xb ≠ fb := by omega
  clear b1
  generalize w2.drew = w3 at s0 HFM2 HFR2 n2 ⊢
  refine wpAnyH_take (i := 0) (v := ?_) rfl (by kernel_rfl) (by kernel_rfl) (by kernel_rfl) (fun _ _ _ h => h) (Or.inl ⟨by rfl, ?_⟩) s0 ?_
  rotate_left
  · intro w hSw; first | (obtain ⟨s1, s2, s3, s4, s5, s6, s7, s8⟩ := hSw; go_simp; rfl) | (obtain ⟨s1, s2, s3, s4, s5, s6, s7⟩ := hSw; go_simp; rfl) | (obtain ⟨s1, s2, s3⟩ := hSw; go_simp; rfl) | (obtain ⟨s1, s2⟩ := hSw; go_simp; rfl) | (have s1 := hSw; go_simp; rfl)
  go_simp
  refine wpAnyH_take (i := 1) (v := ?_) rfl (by kernel_rfl) (by kernel_rfl) (by kernel_rfl) (fun _ _ _ h => h) (Or.inl ⟨by rfl, ?_⟩) s0 ?_
  rotate_left
  · intro w hSw; first | (obtain ⟨s1, s2, s3, s4, s5, s6, s7, s8⟩ := hSw; go_simp; rfl) | (obtain ⟨s1, s2, s3, s4, s5, s6, s7⟩ := hSw; go_simp; rfl) | (obtain ⟨s1, s2, s3⟩ := hSw; go_simp; rfl) | (obtain ⟨s1, s2⟩ := hSw; go_simp; rfl) | (have s1 := hSw; go_simp; rfl)
  go_simp
  refine wpAnyH_take (i := 2) (v := ?_) rfl (by kernel_rfl) (by kernel_rfl) (by kernel_rfl) (fun _ _ _ h => h) (Or.inl ⟨by rfl, ?_⟩) s0 ?_
  rotate_left
  · intro w hSw; first | (obtain ⟨s1, s2, s3, s4, s5, s6, s7, s8⟩ := hSw; go_simp; rfl) | (obtain ⟨s1, s2, s3, s4, s5, s6, s7⟩ := hSw; go_simp; rfl) | (obtain ⟨s1, s2, s3⟩ := hSw; go_simp; rfl) | (obtain ⟨s1, s2⟩ := hSw; go_simp; rfl) | (have s1 := hSw; go_simp; rfl)
  go_simp
  refine wpAnyH_take (i := 3) (v := ?_) rfl (by kernel_rfl) (by kernel_rfl) (by kernel_rfl) (fun _ _ _ h => h) (Or.inl ⟨by rfl, ?_⟩) s0 ?_
  rotate_left
  · intro w hSw; first | (obtain ⟨s1, s2, s3, s4, s5, s6, s7, s8⟩ := hSw; go_simp; rfl) | (obtain ⟨s1, s2, s3, s4, s5, s6, s7⟩ := hSw; go_simp; rfl) | (obtain ⟨s1, s2, s3⟩ := hSw; go_simp; rfl) | (obtain ⟨s1, s2⟩ := hSw; go_simp; rfl) | (have s1 := hSw; go_simp; rfl)
  go_simp
  refine wpAnyH_take (i := 4) (v := ?_) rfl (by kernel_rfl) (by kernel_rfl) (by kernel_rfl) (fun _ _ _ h => h) (Or.inl ⟨by rfl, ?_⟩) s0 ?_
  rotate_left
  · intro w hSw; first | (obtain ⟨s1, s2, s3, s4, s5, s6, s7, s8⟩ := hSw; go_simp; rfl) | (obtain ⟨s1, s2, s3, s4, s5, s6, s7⟩ := hSw; go_simp; rfl) | (obtain ⟨s1, s2, s3⟩ := hSw; go_simp; rfl) | (obtain ⟨s1, s2⟩ := hSw; go_simp; rfl) | (have s1 := hSw; go_simp; rfl)
  go_simp
  refine wpAnyH_take (i := 5) (v := ?_) rfl (by kernel_rfl) (by kernel_rfl) (by kernel_rfl) (fun _ _ _ h => h) (Or.inl ⟨by rfl, ?_⟩) s0 ?_
  rotate_left
  · intro w hSw; first | (obtain ⟨s1, s2, s3, s4, s5, s6, s7, s8⟩ := hSw; go_simp; rfl) | (obtain ⟨s1, s2, s3, s4, s5, s6, s7⟩ := hSw; go_simp; rfl) | (obtain ⟨s1, s2, s3⟩ := hSw; go_simp; rfl) | (obtain ⟨s1, s2⟩ := hSw; go_simp; rfl) | (have s1 := hSw; go_simp; rfl)
  go_simp
  refine wpAnyH_take (i := 6) (v := ?_) rfl (by kernel_rfl) (by kernel_rfl) (by kernel_rfl) (fun _ _ _ h => h) (Or.inl ⟨by rfl, ?_⟩) s0 ?_
  rotate_left
  · intro w hSw; first | (obtain ⟨s1, s2, s3, s4, s5, s6, s7, s8⟩ := hSw; go_simp; rfl) | (obtain ⟨s1, s2, s3, s4, s5, s6, s7⟩ := hSw; go_simp; rfl) | (obtain ⟨s1, s2, s3⟩ := hSw; go_simp; rfl) | (obtain ⟨s1, s2⟩ := hSw; go_simp; rfl) | (have s1 := hSw; go_simp; rfl)
  go_simp
  refine heldOne (i := 7) (by kernel_rfl) rfl (by rfl) (fun K hK => ?_)
  have ya := HFM2.out.fr.regD ha
  have yz := HFM2.out.fr.free
  go_simp
  have HS5 := Lib.hid (HFM2.out.setReg ha hX)
  have HF5 := Lib.hid (HFR2.out.trans (Fr34.set (fb := fb) (o := o) (i := o + 1 + a) (.int .u64 (X : Nat)) (by omega) (by omega)))
  have s5 : (w3.setCell ⟨fb, o + 1 + a, none⟩ (.int .u64 (X : Nat))).cell? ⟨xb, 1, none⟩ = some (.int .i64 a) := by rw [cell_set_ne _ (.inl (Ne.symm hxf))]; exact s0
  refine hK.out _ _ s5 ?_
  clear hK ya yz
  refine wpAnyH_done (by kernel_rfl) ?_ _
  clear s0 n2
  generalize w3.setCell ⟨fb, o + 1 + a, none⟩ (.int .u64 (X : Nat)) = w5 at HS5 HF5 s5 ⊢
  have d0 : w5.cell? ⟨fb, o, none⟩ = some (.int .i64 k) := by rw [← HPC.out]; exact HS5.out.fr.pc
  have zf : ∀ i, w5.frozen? ⟨fb, i, none⟩ = false := HS5.out.fr.free
  clear s5
  go_wp2
  go_ret2
  exact ⟨X, w2, rfl, by rw [HPC.out]; exact HS5.out.setPc _, HK.out, HF5.out.trans (Fr34.set _ (Nat.le_refl _) (by omega)), HF.out⟩
end

end Go.Proofs.YtngpcalgjaglmaaDoor
