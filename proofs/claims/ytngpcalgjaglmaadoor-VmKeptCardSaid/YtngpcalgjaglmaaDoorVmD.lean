/- An access of a memory's cell, by an instruction: the memory's own answer. -/
import Derived.Test.YtngpcalgjaglmaaDoorVmC
import Derived.Handy
import Derived.Test.YtngpcalgjaglmaaDoorVmA
namespace Go.Proofs.YtngpcalgjaglmaaDoor
open Go.RowKit

abbrev memV (mb : Nat) : Value := .iface 25 (.pointer (some ⟨mb, 0, none⟩))
theorem box_cells {w : World} {xb : Nat} {o A B C : Int} {V : Nat} {M W : Int} (h : w.heap[xb]? = some (.cells #[.int .i64 o, .int .i64 A, .int .i64 B, .int .i64 C, .int .u64 V, .int .i64 M, .int .i64 W] 52 (0, 0))) :
    w.cell? ⟨xb, 0, none⟩ = some (.int .i64 o) ∧ w.cell? ⟨xb, 1, none⟩ = some (.int .i64 A) ∧ w.cell? ⟨xb, 2, none⟩ = some (.int .i64 B) ∧ w.cell? ⟨xb, 3, none⟩ = some (.int .i64 C) ∧ w.cell? ⟨xb, 4, none⟩ = some (.int .u64 V) ∧ w.cell? ⟨xb, 5, none⟩ = some (.int .i64 M) ∧ w.cell? ⟨xb, 6, none⟩ = some (.int .i64 W) :=
  ⟨cell_of_block h 0, cell_of_block h 1, cell_of_block h 2, cell_of_block h 3, cell_of_block h 4, cell_of_block h 5, cell_of_block h 6⟩

set_option maxRecDepth 100000 in
set_option maxHeartbeats 2000000 in
theorem access_ld (fb o mb : Nat) (pc : Int) (rs : List Nat) (v : Value) (a : Nat) (B C : Int) (V : Nat) (M W : Int) (w : World) (h : FrAt w fb o pc rs v) (ha : a < 32) (hV : V < 18446744073709551616) (K : Value → Value → World → Prop)
    (HM : ∀ w', New w w' → Calls Tryd.prog 25 #[.pointer (some ⟨mb, 0, none⟩), .int .u64 (adrN rs B V : Nat)] w' fun e w'' => ∃ x er, e = .returned (.tuple #[x, er]) ∧ K x er w'') :
    Calls Tryd.prog 28 #[.pointer (some ⟨fb, o, none⟩), insV 17 a B C V M W, memV mb] w fun e w' => ∃ x er, e = .returned (.tuple #[x, er]) ∧ K x er w' := by
  have HA := Lib.hid (fun w' (f : New w w') => address_any fb o pc rs v 17 a B C V M W w' (h.new f) hV)
  have HMM := Lib.hid HM
  generalize adrN rs B V = P at HA HMM
  have ca := h.regD ha
  have hl := h.lt
  generalize rs.getD a 0 = X at ca HMM
  have q1 : (0 : Int) ≤ (a : Int) := by omega
  have q2 : (a : Int) < 32 := by omega
  clear h HM
  go_enter Tryd.func28, Tryd.ntmps28
  go_wp2_with fail
  obtain ⟨W0, hW0⟩ : ∃ W0, (w.alloc (.cells #[.int .i64 17, .int .i64 a, .int .i64 B, .int .i64 C, .int .u64 V, .int .i64 M, .int .i64 W] 52)).drew = W0 := ⟨_, rfl⟩
  have hn0 : New w W0 := by rw [← hW0]; exact ((Fr.refl _ _).alloc _).drew
  have hb0 : W0.heap[w.heap.size]? = some (.cells #[.int .i64 17, .int .i64 a, .int .i64 B, .int .i64 C, .int .u64 V, .int .i64 M, .int .i64 W] 52 (0, 0)) := by rw [← hW0]; exact block_alloc_new _ _
  obtain ⟨xb, hxb⟩ : ∃ xb, w.heap.size = xb := ⟨_, rfl⟩
  rw [hxb] at hb0 ⊢
  have hxl := lt_of_block hb0
  refine heldStart (fun wz => (wz.cell? ⟨xb, 0, none⟩ = some (.int .i64 17) ∧ wz.cell? ⟨xb, 1, none⟩ = some (.int .i64 a) ∧ wz.cell? ⟨xb, 2, none⟩ = some (.int .i64 B) ∧ wz.cell? ⟨xb, 3, none⟩ = some (.int .i64 C) ∧ wz.cell? ⟨xb, 4, none⟩ = some (.int .u64 V) ∧ wz.cell? ⟨xb, 5, none⟩ = some (.int .i64 M) ∧ wz.cell? ⟨xb, 6, none⟩ = some (.int .i64 W)) ∧ wz.cell? ⟨fb, o + 1 + a, none⟩ = some (.int .u64 X)) (by kernel_rfl) ?_
  rw [hW0]
  have s0 := And.intro (box_cells hb0) ((hn0.cell hl id (o + 1 + a)).trans ca)
  have HN0 := Lib.hid hn0
  have HB0 := Lib.hid hb0
  clear hW0 hn0 hb0 ca
  refine wpAnyH_take (i := 0) (v := ?_) rfl (by kernel_rfl) (by kernel_rfl) (by kernel_rfl) (fun _ _ _ h => h) (Or.inl ⟨by rfl, ?_⟩) s0 ?_
  rotate_left
  · intro w hSw; first | (obtain ⟨s1, s2, s3, s4, s5, s6, s7, s8⟩ := hSw; go_simp; rfl) | (obtain ⟨s1, s2, s3, s4, s5, s6, s7⟩ := hSw; go_simp; rfl) | (obtain ⟨s1, s2, s3⟩ := hSw; go_simp; rfl) | (obtain ⟨s1, s2⟩ := hSw; go_simp; rfl) | (have s1 := hSw; go_simp; rfl)
  go_simp
  refine wpAnyH_take (i := 1) (v := ?_) rfl (by kernel_rfl) (by kernel_rfl) (by kernel_rfl) (fun _ _ _ h => h) (Or.inl ⟨by rfl, ?_⟩) s0 ?_
  rotate_left
  · intro w hSw; first | (obtain ⟨s1, s2, s3, s4, s5, s6, s7, s8⟩ := hSw; go_simp; rfl) | (obtain ⟨s1, s2, s3, s4, s5, s6, s7⟩ := hSw; go_simp; rfl) | (obtain ⟨s1, s2, s3⟩ := hSw; go_simp; rfl) | (obtain ⟨s1, s2⟩ := hSw; go_simp; rfl) | (have s1 := hSw; go_simp; rfl)
  go_simp
  refine wpAnyH_take (i := 3) (v := ?_) rfl (by kernel_rfl) (by kernel_rfl) (by kernel_rfl) (fun _ _ _ h => h) (Or.inl ⟨by rfl, ?_⟩) s0 ?_
  rotate_left
  · intro w hSw; first | (obtain ⟨s1, s2, s3, s4, s5, s6, s7, s8⟩ := hSw; go_simp; rfl) | (obtain ⟨s1, s2, s3, s4, s5, s6, s7⟩ := hSw; go_simp; rfl) | (obtain ⟨s1, s2, s3⟩ := hSw; go_simp; rfl) | (obtain ⟨s1, s2⟩ := hSw; go_simp; rfl) | (have s1 := hSw; go_simp; rfl)
  go_simp
  refine wpAnyH_take (i := 4) (v := ?_) rfl (by kernel_rfl) (by kernel_rfl) (by kernel_rfl) (fun _ _ _ h => h) (Or.inl ⟨by rfl, ?_⟩) s0 ?_
  rotate_left
  · intro w hSw; first | (obtain ⟨s1, s2, s3, s4, s5, s6, s7, s8⟩ := hSw; go_simp; rfl) | (obtain ⟨s1, s2, s3, s4, s5, s6, s7⟩ := hSw; go_simp; rfl) | (obtain ⟨s1, s2, s3⟩ := hSw; go_simp; rfl) | (obtain ⟨s1, s2⟩ := hSw; go_simp; rfl) | (have s1 := hSw; go_simp; rfl)
  go_simp
  refine wpAnyH_take (i := 5) (v := ?_) rfl (by kernel_rfl) (by kernel_rfl) (by kernel_rfl) (fun _ _ _ h => h) (Or.inl ⟨by rfl, ?_⟩) s0 ?_
  rotate_left
  · intro w hSw; first | (obtain ⟨s1, s2, s3, s4, s5, s6, s7, s8⟩ := hSw; go_simp; rfl) | (obtain ⟨s1, s2, s3, s4, s5, s6, s7⟩ := hSw; go_simp; rfl) | (obtain ⟨s1, s2, s3⟩ := hSw; go_simp; rfl) | (obtain ⟨s1, s2⟩ := hSw; go_simp; rfl) | (have s1 := hSw; go_simp; rfl)
  go_simp
  refine wpAnyH_take (i := 6) (v := ?_) rfl (by kernel_rfl) (by kernel_rfl) (by kernel_rfl) (fun _ _ _ h => h) (Or.inl ⟨by rfl, ?_⟩) s0 ?_
  rotate_left
  · intro w hSw; first | (obtain ⟨s1, s2, s3, s4, s5, s6, s7, s8⟩ := hSw; go_simp; rfl) | (obtain ⟨s1, s2, s3, s4, s5, s6, s7⟩ := hSw; go_simp; rfl) | (obtain ⟨s1, s2, s3⟩ := hSw; go_simp; rfl) | (obtain ⟨s1, s2⟩ := hSw; go_simp; rfl) | (have s1 := hSw; go_simp; rfl)
  go_simp
  refine wpAnyH_take (i := 7) (v := ?_) rfl (by kernel_rfl) (by kernel_rfl) (by kernel_rfl) (fun _ _ _ h => h) (Or.inl ⟨by rfl, ?_⟩) s0 ?_
  rotate_left
  · intro w hSw; first | (obtain ⟨s1, s2, s3, s4, s5, s6, s7, s8⟩ := hSw; go_simp; rfl) | (obtain ⟨s1, s2, s3, s4, s5, s6, s7⟩ := hSw; go_simp; rfl) | (obtain ⟨s1, s2, s3⟩ := hSw; go_simp; rfl) | (obtain ⟨s1, s2⟩ := hSw; go_simp; rfl) | (have s1 := hSw; go_simp; rfl)
  go_simp
  refine wpAnyH_take (i := 8) (v := ?_) rfl (by kernel_rfl) (by kernel_rfl) (by kernel_rfl) (fun _ _ _ h => h) (Or.inl ⟨by rfl, ?_⟩) s0 ?_
  rotate_left
  · intro w hSw; first | (obtain ⟨s1, s2, s3, s4, s5, s6, s7, s8⟩ := hSw; go_simp; rfl) | (obtain ⟨s1, s2, s3, s4, s5, s6, s7⟩ := hSw; go_simp; rfl) | (obtain ⟨s1, s2, s3⟩ := hSw; go_simp; rfl) | (obtain ⟨s1, s2⟩ := hSw; go_simp; rfl) | (have s1 := hSw; go_simp; rfl)
  go_simp
  refine wpAnyH_take (i := 9) (v := ?_) rfl (by kernel_rfl) (by kernel_rfl) (by kernel_rfl) (fun _ _ _ h => h) (Or.inl ⟨by rfl, ?_⟩) s0 ?_
  rotate_left
  · intro w hSw; first | (obtain ⟨s1, s2, s3, s4, s5, s6, s7, s8⟩ := hSw; go_simp; rfl) | (obtain ⟨s1, s2, s3, s4, s5, s6, s7⟩ := hSw; go_simp; rfl) | (obtain ⟨s1, s2, s3⟩ := hSw; go_simp; rfl) | (obtain ⟨s1, s2⟩ := hSw; go_simp; rfl) | (have s1 := hSw; go_simp; rfl)
  go_simp
  refine heldOne (i := 2) (by kernel_rfl) rfl (by rfl) (fun K hK => ?_)
  go_simp
  refine (HA.out W0 HN0.out).mono ?_
  rintro e w1 ⟨rfl, hn1⟩
  have hb1 := (hn1.block xb hxl id).trans HB0.out
  have s1 := And.intro (box_cells hb1) ((hn1.cell (lt_of_cell s0.2) id (o + 1 + a)).trans s0.2)
  have HN1 := Lib.hid (HN0.out.trans hn1)
  have HB1 := Lib.hid hb1
  refine hK.out _ _ s1 ?_
  clear hK K s0 hn1 hb1
  refine wpAnyH_take (i := 10) (v := ?_) rfl (by kernel_rfl) (by kernel_rfl) (by kernel_rfl) (fun _ _ _ h => h) (Or.inl ⟨by rfl, ?_⟩) s1 ?_
  rotate_left
  · intro w hSw; first | (obtain ⟨s1, s2, s3, s4, s5, s6, s7, s8⟩ := hSw; go_simp; rfl) | (obtain ⟨s1, s2, s3, s4, s5, s6, s7⟩ := hSw; go_simp; rfl) | (obtain ⟨s1, s2, s3⟩ := hSw; go_simp; rfl) | (obtain ⟨s1, s2⟩ := hSw; go_simp; rfl) | (have s1 := hSw; go_simp; rfl)
  go_simp
  refine wpAnyH_take (i := 11) (v := ?_) rfl (by kernel_rfl) (by kernel_rfl) (by kernel_rfl) (fun _ _ _ h => h) (Or.inl ⟨by rfl, ?_⟩) s1 ?_
  rotate_left
  · intro w hSw; first | (obtain ⟨s1, s2, s3, s4, s5, s6, s7, s8⟩ := hSw; go_simp; rfl) | (obtain ⟨s1, s2, s3, s4, s5, s6, s7⟩ := hSw; go_simp; rfl) | (obtain ⟨s1, s2, s3⟩ := hSw; go_simp; rfl) | (obtain ⟨s1, s2⟩ := hSw; go_simp; rfl) | (have s1 := hSw; go_simp; rfl)
  go_simp
  refine wpAnyH_done (by kernel_rfl) ?_ _
  have x0 : w1.cell? ⟨xb, 0, none⟩ = some (.int .i64 17) := s1.1.1
  clear s1
  go_wp2_with fail
  refine (HMM.out w1 HN1.out).mono ?_
  rintro e w2 ⟨x, er, rfl, hk⟩
  have HK := Lib.hid hk
  clear hk
  go_wp2
  go_ret2
  exact ⟨_, _, rfl, HK.out⟩
set_option maxRecDepth 100000 in
set_option maxHeartbeats 2000000 in
theorem access_swp (fb o mb : Nat) (pc : Int) (rs : List Nat) (v : Value) (a : Nat) (B C : Int) (V : Nat) (M W : Int) (w : World) (h : FrAt w fb o pc rs v) (ha : a < 32) (hV : V < 18446744073709551616) (K : Value → Value → World → Prop)
    (HM : ∀ w', New w w' → Calls Tryd.prog 92 #[.pointer (some ⟨mb, 0, none⟩), .int .u64 (adrN rs B V : Nat), .int .u64 (rs.getD a 0 : Nat)] w' fun e w'' => ∃ x er, e = .returned (.tuple #[x, er]) ∧ K x er w'') :
    Calls Tryd.prog 28 #[.pointer (some ⟨fb, o, none⟩), insV 19 a B C V M W, memV mb] w fun e w' => ∃ x er, e = .returned (.tuple #[x, er]) ∧ K x er w' := by
  have HA := Lib.hid (fun w' (f : New w w') => address_any fb o pc rs v 19 a B C V M W w' (h.new f) hV)
  have HMM := Lib.hid HM
  generalize adrN rs B V = P at HA HMM
  have ca := h.regD ha
  have hl := h.lt
  generalize rs.getD a 0 = X at ca HMM
  have q1 : (0 : Int) ≤ (a : Int) := by omega
  have q2 : (a : Int) < 32 := by omega
  clear h HM
  go_enter Tryd.func28, Tryd.ntmps28
  go_wp2_with fail
  obtain ⟨W0, hW0⟩ : ∃ W0, (w.alloc (.cells #[.int .i64 19, .int .i64 a, .int .i64 B, .int .i64 C, .int .u64 V, .int .i64 M, .int .i64 W] 52)).drew = W0 := ⟨_, rfl⟩
  have hn0 : New w W0 := by rw [← hW0]; exact ((Fr.refl _ _).alloc _).drew
  have hb0 : W0.heap[w.heap.size]? = some (.cells #[.int .i64 19, .int .i64 a, .int .i64 B, .int .i64 C, .int .u64 V, .int .i64 M, .int .i64 W] 52 (0, 0)) := by rw [← hW0]; exact block_alloc_new _ _
  obtain ⟨xb, hxb⟩ : ∃ xb, w.heap.size = xb := ⟨_, rfl⟩
  rw [hxb] at hb0 ⊢
  have hxl := lt_of_block hb0
  refine heldStart (fun wz => (wz.cell? ⟨xb, 0, none⟩ = some (.int .i64 19) ∧ wz.cell? ⟨xb, 1, none⟩ = some (.int .i64 a) ∧ wz.cell? ⟨xb, 2, none⟩ = some (.int .i64 B) ∧ wz.cell? ⟨xb, 3, none⟩ = some (.int .i64 C) ∧ wz.cell? ⟨xb, 4, none⟩ = some (.int .u64 V) ∧ wz.cell? ⟨xb, 5, none⟩ = some (.int .i64 M) ∧ wz.cell? ⟨xb, 6, none⟩ = some (.int .i64 W)) ∧ wz.cell? ⟨fb, o + 1 + a, none⟩ = some (.int .u64 X)) (by kernel_rfl) ?_
  rw [hW0]
  have s0 := And.intro (box_cells hb0) ((hn0.cell hl id (o + 1 + a)).trans ca)
  have HN0 := Lib.hid hn0
  have HB0 := Lib.hid hb0
  clear hW0 hn0 hb0 ca
  refine wpAnyH_take (i := 0) (v := ?_) rfl (by kernel_rfl) (by kernel_rfl) (by kernel_rfl) (fun _ _ _ h => h) (Or.inl ⟨by rfl, ?_⟩) s0 ?_
  rotate_left
  · intro w hSw; first | (obtain ⟨s1, s2, s3, s4, s5, s6, s7, s8⟩ := hSw; go_simp; rfl) | (obtain ⟨s1, s2, s3, s4, s5, s6, s7⟩ := hSw; go_simp; rfl) | (obtain ⟨s1, s2, s3⟩ := hSw; go_simp; rfl) | (obtain ⟨s1, s2⟩ := hSw; go_simp; rfl) | (have s1 := hSw; go_simp; rfl)
  go_simp
  refine wpAnyH_take (i := 1) (v := ?_) rfl (by kernel_rfl) (by kernel_rfl) (by kernel_rfl) (fun _ _ _ h => h) (Or.inl ⟨by rfl, ?_⟩) s0 ?_
  rotate_left
  · intro w hSw; first | (obtain ⟨s1, s2, s3, s4, s5, s6, s7, s8⟩ := hSw; go_simp; rfl) | (obtain ⟨s1, s2, s3, s4, s5, s6, s7⟩ := hSw; go_simp; rfl) | (obtain ⟨s1, s2, s3⟩ := hSw; go_simp; rfl) | (obtain ⟨s1, s2⟩ := hSw; go_simp; rfl) | (have s1 := hSw; go_simp; rfl)
  go_simp
  refine wpAnyH_take (i := 3) (v := ?_) rfl (by kernel_rfl) (by kernel_rfl) (by kernel_rfl) (fun _ _ _ h => h) (Or.inl ⟨by rfl, ?_⟩) s0 ?_
  rotate_left
  · intro w hSw; first | (obtain ⟨s1, s2, s3, s4, s5, s6, s7, s8⟩ := hSw; go_simp; rfl) | (obtain ⟨s1, s2, s3, s4, s5, s6, s7⟩ := hSw; go_simp; rfl) | (obtain ⟨s1, s2, s3⟩ := hSw; go_simp; rfl) | (obtain ⟨s1, s2⟩ := hSw; go_simp; rfl) | (have s1 := hSw; go_simp; rfl)
  go_simp
  refine wpAnyH_take (i := 4) (v := ?_) rfl (by kernel_rfl) (by kernel_rfl) (by kernel_rfl) (fun _ _ _ h => h) (Or.inl ⟨by rfl, ?_⟩) s0 ?_
  rotate_left
  · intro w hSw; first | (obtain ⟨s1, s2, s3, s4, s5, s6, s7, s8⟩ := hSw; go_simp; rfl) | (obtain ⟨s1, s2, s3, s4, s5, s6, s7⟩ := hSw; go_simp; rfl) | (obtain ⟨s1, s2, s3⟩ := hSw; go_simp; rfl) | (obtain ⟨s1, s2⟩ := hSw; go_simp; rfl) | (have s1 := hSw; go_simp; rfl)
  go_simp
  refine wpAnyH_take (i := 5) (v := ?_) rfl (by kernel_rfl) (by kernel_rfl) (by kernel_rfl) (fun _ _ _ h => h) (Or.inl ⟨by rfl, ?_⟩) s0 ?_
  rotate_left
  · intro w hSw; first | (obtain ⟨s1, s2, s3, s4, s5, s6, s7, s8⟩ := hSw; go_simp; rfl) | (obtain ⟨s1, s2, s3, s4, s5, s6, s7⟩ := hSw; go_simp; rfl) | (obtain ⟨s1, s2, s3⟩ := hSw; go_simp; rfl) | (obtain ⟨s1, s2⟩ := hSw; go_simp; rfl) | (have s1 := hSw; go_simp; rfl)
  go_simp
  refine wpAnyH_take (i := 6) (v := ?_) rfl (by kernel_rfl) (by kernel_rfl) (by kernel_rfl) (fun _ _ _ h => h) (Or.inl ⟨by rfl, ?_⟩) s0 ?_
  rotate_left
  · intro w hSw; first | (obtain ⟨s1, s2, s3, s4, s5, s6, s7, s8⟩ := hSw; go_simp; rfl) | (obtain ⟨s1, s2, s3, s4, s5, s6, s7⟩ := hSw; go_simp; rfl) | (obtain ⟨s1, s2, s3⟩ := hSw; go_simp; rfl) | (obtain ⟨s1, s2⟩ := hSw; go_simp; rfl) | (have s1 := hSw; go_simp; rfl)
  go_simp
  refine wpAnyH_take (i := 7) (v := ?_) rfl (by kernel_rfl) (by kernel_rfl) (by kernel_rfl) (fun _ _ _ h => h) (Or.inl ⟨by rfl, ?_⟩) s0 ?_
  rotate_left
  · intro w hSw; first | (obtain ⟨s1, s2, s3, s4, s5, s6, s7, s8⟩ := hSw; go_simp; rfl) | (obtain ⟨s1, s2, s3, s4, s5, s6, s7⟩ := hSw; go_simp; rfl) | (obtain ⟨s1, s2, s3⟩ := hSw; go_simp; rfl) | (obtain ⟨s1, s2⟩ := hSw; go_simp; rfl) | (have s1 := hSw; go_simp; rfl)
  go_simp
  refine wpAnyH_take (i := 8) (v := ?_) rfl (by kernel_rfl) (by kernel_rfl) (by kernel_rfl) (fun _ _ _ h => h) (Or.inl ⟨by rfl, ?_⟩) s0 ?_
  rotate_left
  · intro w hSw; first | (obtain ⟨s1, s2, s3, s4, s5, s6, s7, s8⟩ := hSw; go_simp; rfl) | (obtain ⟨s1, s2, s3, s4, s5, s6, s7⟩ := hSw; go_simp; rfl) | (obtain ⟨s1, s2, s3⟩ := hSw; go_simp; rfl) | (obtain ⟨s1, s2⟩ := hSw; go_simp; rfl) | (have s1 := hSw; go_simp; rfl)
  go_simp
  refine wpAnyH_take (i := 9) (v := ?_) rfl (by kernel_rfl) (by kernel_rfl) (by kernel_rfl) (fun _ _ _ h => h) (Or.inl ⟨by rfl, ?_⟩) s0 ?_
  rotate_left
  · intro w hSw; first | (obtain ⟨s1, s2, s3, s4, s5, s6, s7, s8⟩ := hSw; go_simp; rfl) | (obtain ⟨s1, s2, s3, s4, s5, s6, s7⟩ := hSw; go_simp; rfl) | (obtain ⟨s1, s2, s3⟩ := hSw; go_simp; rfl) | (obtain ⟨s1, s2⟩ := hSw; go_simp; rfl) | (have s1 := hSw; go_simp; rfl)
  go_simp
  refine heldOne (i := 2) (by kernel_rfl) rfl (by rfl) (fun K hK => ?_)
  go_simp
  refine (HA.out W0 HN0.out).mono ?_
  rintro e w1 ⟨rfl, hn1⟩
  have hb1 := (hn1.block xb hxl id).trans HB0.out
  have s1 := And.intro (box_cells hb1) ((hn1.cell (lt_of_cell s0.2) id (o + 1 + a)).trans s0.2)
  have HN1 := Lib.hid (HN0.out.trans hn1)
  have HB1 := Lib.hid hb1
  refine hK.out _ _ s1 ?_
  clear hK K s0 hn1 hb1
  refine wpAnyH_take (i := 10) (v := ?_) rfl (by kernel_rfl) (by kernel_rfl) (by kernel_rfl) (fun _ _ _ h => h) (Or.inl ⟨by rfl, ?_⟩) s1 ?_
  rotate_left
  · intro w hSw; first | (obtain ⟨s1, s2, s3, s4, s5, s6, s7, s8⟩ := hSw; go_simp; rfl) | (obtain ⟨s1, s2, s3, s4, s5, s6, s7⟩ := hSw; go_simp; rfl) | (obtain ⟨s1, s2, s3⟩ := hSw; go_simp; rfl) | (obtain ⟨s1, s2⟩ := hSw; go_simp; rfl) | (have s1 := hSw; go_simp; rfl)
  go_simp
  refine wpAnyH_take (i := 11) (v := ?_) rfl (by kernel_rfl) (by kernel_rfl) (by kernel_rfl) (fun _ _ _ h => h) (Or.inl ⟨by rfl, ?_⟩) s1 ?_
  rotate_left
  · intro w hSw; first | (obtain ⟨s1, s2, s3, s4, s5, s6, s7, s8⟩ := hSw; go_simp; rfl) | (obtain ⟨s1, s2, s3, s4, s5, s6, s7⟩ := hSw; go_simp; rfl) | (obtain ⟨s1, s2, s3⟩ := hSw; go_simp; rfl) | (obtain ⟨s1, s2⟩ := hSw; go_simp; rfl) | (have s1 := hSw; go_simp; rfl)
  go_simp
  refine wpAnyH_done (by kernel_rfl) ?_ _
  have x0 : w1.cell? ⟨xb, 0, none⟩ = some (.int .i64 19) := s1.1.1
  clear s1
  go_wp2_with fail
  refine (HMM.out w1 HN1.out).mono ?_
  rintro e w2 ⟨x, er, rfl, hk⟩
  have HK := Lib.hid hk
  clear hk
  go_wp2
  go_ret2
  exact ⟨_, _, rfl, HK.out⟩
set_option maxRecDepth 100000 in
set_option maxHeartbeats 2000000 in
theorem access_fad (fb o mb : Nat) (pc : Int) (rs : List Nat) (v : Value) (a : Nat) (B C : Int) (V : Nat) (M W : Int) (w : World) (h : FrAt w fb o pc rs v) (ha : a < 32) (hV : V < 18446744073709551616) (K : Value → Value → World → Prop)
    (HM : ∀ w', New w w' → Calls Tryd.prog 90 #[.pointer (some ⟨mb, 0, none⟩), .int .u64 (adrN rs B V : Nat), .int .u64 (rs.getD a 0 : Nat)] w' fun e w'' => ∃ x er, e = .returned (.tuple #[x, er]) ∧ K x er w'') :
    Calls Tryd.prog 28 #[.pointer (some ⟨fb, o, none⟩), insV 20 a B C V M W, memV mb] w fun e w' => ∃ x er, e = .returned (.tuple #[x, er]) ∧ K x er w' := by
  have HA := Lib.hid (fun w' (f : New w w') => address_any fb o pc rs v 20 a B C V M W w' (h.new f) hV)
  have HMM := Lib.hid HM
  generalize adrN rs B V = P at HA HMM
  have ca := h.regD ha
  have hl := h.lt
  generalize rs.getD a 0 = X at ca HMM
  have q1 : (0 : Int) ≤ (a : Int) := by omega
  have q2 : (a : Int) < 32 := by omega
  clear h HM
  go_enter Tryd.func28, Tryd.ntmps28
  go_wp2_with fail
  obtain ⟨W0, hW0⟩ : ∃ W0, (w.alloc (.cells #[.int .i64 20, .int .i64 a, .int .i64 B, .int .i64 C, .int .u64 V, .int .i64 M, .int .i64 W] 52)).drew = W0 := ⟨_, rfl⟩
  have hn0 : New w W0 := by rw [← hW0]; exact ((Fr.refl _ _).alloc _).drew
  have hb0 : W0.heap[w.heap.size]? = some (.cells #[.int .i64 20, .int .i64 a, .int .i64 B, .int .i64 C, .int .u64 V, .int .i64 M, .int .i64 W] 52 (0, 0)) := by rw [← hW0]; exact block_alloc_new _ _
  obtain ⟨xb, hxb⟩ : ∃ xb, w.heap.size = xb := ⟨_, rfl⟩
  rw [hxb] at hb0 ⊢
  have hxl := lt_of_block hb0
  refine heldStart (fun wz => (wz.cell? ⟨xb, 0, none⟩ = some (.int .i64 20) ∧ wz.cell? ⟨xb, 1, none⟩ = some (.int .i64 a) ∧ wz.cell? ⟨xb, 2, none⟩ = some (.int .i64 B) ∧ wz.cell? ⟨xb, 3, none⟩ = some (.int .i64 C) ∧ wz.cell? ⟨xb, 4, none⟩ = some (.int .u64 V) ∧ wz.cell? ⟨xb, 5, none⟩ = some (.int .i64 M) ∧ wz.cell? ⟨xb, 6, none⟩ = some (.int .i64 W)) ∧ wz.cell? ⟨fb, o + 1 + a, none⟩ = some (.int .u64 X)) (by kernel_rfl) ?_
  rw [hW0]
  have s0 := And.intro (box_cells hb0) ((hn0.cell hl id (o + 1 + a)).trans ca)
  have HN0 := Lib.hid hn0
  have HB0 := Lib.hid hb0
  clear hW0 hn0 hb0 ca
  refine wpAnyH_take (i := 0) (v := ?_) rfl (by kernel_rfl) (by kernel_rfl) (by kernel_rfl) (fun _ _ _ h => h) (Or.inl ⟨by rfl, ?_⟩) s0 ?_
  rotate_left
  · intro w hSw; first | (obtain ⟨s1, s2, s3, s4, s5, s6, s7, s8⟩ := hSw; go_simp; rfl) | (obtain ⟨s1, s2, s3, s4, s5, s6, s7⟩ := hSw; go_simp; rfl) | (obtain ⟨s1, s2, s3⟩ := hSw; go_simp; rfl) | (obtain ⟨s1, s2⟩ := hSw; go_simp; rfl) | (have s1 := hSw; go_simp; rfl)
  go_simp
  refine wpAnyH_take (i := 1) (v := ?_) rfl (by kernel_rfl) (by kernel_rfl) (by kernel_rfl) (fun _ _ _ h => h) (Or.inl ⟨by rfl, ?_⟩) s0 ?_
  rotate_left
  · intro w hSw; first | (obtain ⟨s1, s2, s3, s4, s5, s6, s7, s8⟩ := hSw; go_simp; rfl) | (obtain ⟨s1, s2, s3, s4, s5, s6, s7⟩ := hSw; go_simp; rfl) | (obtain ⟨s1, s2, s3⟩ := hSw; go_simp; rfl) | (obtain ⟨s1, s2⟩ := hSw; go_simp; rfl) | (have s1 := hSw; go_simp; rfl)
  go_simp
  refine wpAnyH_take (i := 3) (v := ?_) rfl (by kernel_rfl) (by kernel_rfl) (by kernel_rfl) (fun _ _ _ h => h) (Or.inl ⟨by rfl, ?_⟩) s0 ?_
  rotate_left
  · intro w hSw; first | (obtain ⟨s1, s2, s3, s4, s5, s6, s7, s8⟩ := hSw; go_simp; rfl) | (obtain ⟨s1, s2, s3, s4, s5, s6, s7⟩ := hSw; go_simp; rfl) | (obtain ⟨s1, s2, s3⟩ := hSw; go_simp; rfl) | (obtain ⟨s1, s2⟩ := hSw; go_simp; rfl) | (have s1 := hSw; go_simp; rfl)
  go_simp
  refine wpAnyH_take (i := 4) (v := ?_) rfl (by kernel_rfl) (by kernel_rfl) (by kernel_rfl) (fun _ _ _ h => h) (Or.inl ⟨by rfl, ?_⟩) s0 ?_
  rotate_left
  · intro w hSw; first | (obtain ⟨s1, s2, s3, s4, s5, s6, s7, s8⟩ := hSw; go_simp; rfl) | (obtain ⟨s1, s2, s3, s4, s5, s6, s7⟩ := hSw; go_simp; rfl) | (obtain ⟨s1, s2, s3⟩ := hSw; go_simp; rfl) | (obtain ⟨s1, s2⟩ := hSw; go_simp; rfl) | (have s1 := hSw; go_simp; rfl)
  go_simp
  refine wpAnyH_take (i := 5) (v := ?_) rfl (by kernel_rfl) (by kernel_rfl) (by kernel_rfl) (fun _ _ _ h => h) (Or.inl ⟨by rfl, ?_⟩) s0 ?_
  rotate_left
  · intro w hSw; first | (obtain ⟨s1, s2, s3, s4, s5, s6, s7, s8⟩ := hSw; go_simp; rfl) | (obtain ⟨s1, s2, s3, s4, s5, s6, s7⟩ := hSw; go_simp; rfl) | (obtain ⟨s1, s2, s3⟩ := hSw; go_simp; rfl) | (obtain ⟨s1, s2⟩ := hSw; go_simp; rfl) | (have s1 := hSw; go_simp; rfl)
  go_simp
  refine wpAnyH_take (i := 6) (v := ?_) rfl (by kernel_rfl) (by kernel_rfl) (by kernel_rfl) (fun _ _ _ h => h) (Or.inl ⟨by rfl, ?_⟩) s0 ?_
  rotate_left
  · intro w hSw; first | (obtain ⟨s1, s2, s3, s4, s5, s6, s7, s8⟩ := hSw; go_simp; rfl) | (obtain ⟨s1, s2, s3, s4, s5, s6, s7⟩ := hSw; go_simp; rfl) | (obtain ⟨s1, s2, s3⟩ := hSw; go_simp; rfl) | (obtain ⟨s1, s2⟩ := hSw; go_simp; rfl) | (have s1 := hSw; go_simp; rfl)
  go_simp
  refine wpAnyH_take (i := 7) (v := ?_) rfl (by kernel_rfl) (by kernel_rfl) (by kernel_rfl) (fun _ _ _ h => h) (Or.inl ⟨by rfl, ?_⟩) s0 ?_
  rotate_left
  · intro w hSw; first | (obtain ⟨s1, s2, s3, s4, s5, s6, s7, s8⟩ := hSw; go_simp; rfl) | (obtain ⟨s1, s2, s3, s4, s5, s6, s7⟩ := hSw; go_simp; rfl) | (obtain ⟨s1, s2, s3⟩ := hSw; go_simp; rfl) | (obtain ⟨s1, s2⟩ := hSw; go_simp; rfl) | (have s1 := hSw; go_simp; rfl)
  go_simp
  refine wpAnyH_take (i := 8) (v := ?_) rfl (by kernel_rfl) (by kernel_rfl) (by kernel_rfl) (fun _ _ _ h => h) (Or.inl ⟨by rfl, ?_⟩) s0 ?_
  rotate_left
  · intro w hSw; first | (obtain ⟨s1, s2, s3, s4, s5, s6, s7, s8⟩ := hSw; go_simp; rfl) | (obtain ⟨s1, s2, s3, s4, s5, s6, s7⟩ := hSw; go_simp; rfl) | (obtain ⟨s1, s2, s3⟩ := hSw; go_simp; rfl) | (obtain ⟨s1, s2⟩ := hSw; go_simp; rfl) | (have s1 := hSw; go_simp; rfl)
  go_simp
  refine wpAnyH_take (i := 9) (v := ?_) rfl (by kernel_rfl) (by kernel_rfl) (by kernel_rfl) (fun _ _ _ h => h) (Or.inl ⟨by rfl, ?_⟩) s0 ?_
  rotate_left
  · intro w hSw; first | (obtain ⟨s1, s2, s3, s4, s5, s6, s7, s8⟩ := hSw; go_simp; rfl) | (obtain ⟨s1, s2, s3, s4, s5, s6, s7⟩ := hSw; go_simp; rfl) | (obtain ⟨s1, s2, s3⟩ := hSw; go_simp; rfl) | (obtain ⟨s1, s2⟩ := hSw; go_simp; rfl) | (have s1 := hSw; go_simp; rfl)
  go_simp
  refine heldOne (i := 2) (by kernel_rfl) rfl (by rfl) (fun K hK => ?_)
  go_simp
  refine (HA.out W0 HN0.out).mono ?_
  rintro e w1 ⟨rfl, hn1⟩
  have hb1 := (hn1.block xb hxl id).trans HB0.out
  have s1 := And.intro (box_cells hb1) ((hn1.cell (lt_of_cell s0.2) id (o + 1 + a)).trans s0.2)
  have HN1 := Lib.hid (HN0.out.trans hn1)
  have HB1 := Lib.hid hb1
  refine hK.out _ _ s1 ?_
  clear hK K s0 hn1 hb1
  refine wpAnyH_take (i := 10) (v := ?_) rfl (by kernel_rfl) (by kernel_rfl) (by kernel_rfl) (fun _ _ _ h => h) (Or.inl ⟨by rfl, ?_⟩) s1 ?_
  rotate_left
  · intro w hSw; first | (obtain ⟨s1, s2, s3, s4, s5, s6, s7, s8⟩ := hSw; go_simp; rfl) | (obtain ⟨s1, s2, s3, s4, s5, s6, s7⟩ := hSw; go_simp; rfl) | (obtain ⟨s1, s2, s3⟩ := hSw; go_simp; rfl) | (obtain ⟨s1, s2⟩ := hSw; go_simp; rfl) | (have s1 := hSw; go_simp; rfl)
  go_simp
  refine wpAnyH_take (i := 11) (v := ?_) rfl (by kernel_rfl) (by kernel_rfl) (by kernel_rfl) (fun _ _ _ h => h) (Or.inl ⟨by rfl, ?_⟩) s1 ?_
  rotate_left
  · intro w hSw; first | (obtain ⟨s1, s2, s3, s4, s5, s6, s7, s8⟩ := hSw; go_simp; rfl) | (obtain ⟨s1, s2, s3, s4, s5, s6, s7⟩ := hSw; go_simp; rfl) | (obtain ⟨s1, s2, s3⟩ := hSw; go_simp; rfl) | (obtain ⟨s1, s2⟩ := hSw; go_simp; rfl) | (have s1 := hSw; go_simp; rfl)
  go_simp
  refine wpAnyH_done (by kernel_rfl) ?_ _
  have x0 : w1.cell? ⟨xb, 0, none⟩ = some (.int .i64 20) := s1.1.1
  clear s1
  go_wp2_with fail
  refine (HMM.out w1 HN1.out).mono ?_
  rintro e w2 ⟨x, er, rfl, hk⟩
  have HK := Lib.hid hk
  clear hk
  go_wp2
  go_ret2
  exact ⟨_, _, rfl, HK.out⟩
set_option maxRecDepth 100000 in
set_option maxHeartbeats 2000000 in
theorem access_st (fb o mb : Nat) (pc : Int) (rs : List Nat) (v : Value) (a : Nat) (B C : Int) (V : Nat) (M W : Int) (w : World) (h : FrAt w fb o pc rs v) (ha : a < 32) (hV : V < 18446744073709551616) (K : Value → World → Prop)
    (HM : ∀ w', New w w' → Calls Tryd.prog 23 #[.pointer (some ⟨mb, 0, none⟩), .int .u64 (adrN rs B V : Nat), .int .u64 (rs.getD a 0 : Nat)] w' fun e w'' => ∃ er, e = .returned er ∧ K er w'') :
    Calls Tryd.prog 28 #[.pointer (some ⟨fb, o, none⟩), insV 18 a B C V M W, memV mb] w fun e w' => ∃ er, e = .returned (.tuple #[.int .u64 (rs.getD a 0 : Nat), er]) ∧ K er w' := by
  have HA := Lib.hid (fun w' (f : New w w') => address_any fb o pc rs v 18 a B C V M W w' (h.new f) hV)
  have HMM := Lib.hid HM
  generalize adrN rs B V = P at HA HMM
  have ca := h.regD ha
  have hl := h.lt
  generalize rs.getD a 0 = X at ca HMM ⊢
  have q1 : (0 : Int) ≤ (a : Int) := by omega
  have q2 : (a : Int) < 32 := by omega
  clear h HM
  go_enter Tryd.func28, Tryd.ntmps28
  go_wp2_with fail
  obtain ⟨W0, hW0⟩ : ∃ W0, (w.alloc (.cells #[.int .i64 18, .int .i64 a, .int .i64 B, .int .i64 C, .int .u64 V, .int .i64 M, .int .i64 W] 52)).drew = W0 := ⟨_, rfl⟩
  have hn0 : New w W0 := by rw [← hW0]; exact ((Fr.refl _ _).alloc _).drew
  have hb0 : W0.heap[w.heap.size]? = some (.cells #[.int .i64 18, .int .i64 a, .int .i64 B, .int .i64 C, .int .u64 V, .int .i64 M, .int .i64 W] 52 (0, 0)) := by rw [← hW0]; exact block_alloc_new _ _
  obtain ⟨xb, hxb⟩ : ∃ xb, w.heap.size = xb := ⟨_, rfl⟩
  rw [hxb] at hb0 ⊢
  have hxl := lt_of_block hb0
  refine heldStart (fun wz => (wz.cell? ⟨xb, 0, none⟩ = some (.int .i64 18) ∧ wz.cell? ⟨xb, 1, none⟩ = some (.int .i64 a) ∧ wz.cell? ⟨xb, 2, none⟩ = some (.int .i64 B) ∧ wz.cell? ⟨xb, 3, none⟩ = some (.int .i64 C) ∧ wz.cell? ⟨xb, 4, none⟩ = some (.int .u64 V) ∧ wz.cell? ⟨xb, 5, none⟩ = some (.int .i64 M) ∧ wz.cell? ⟨xb, 6, none⟩ = some (.int .i64 W)) ∧ wz.cell? ⟨fb, o + 1 + a, none⟩ = some (.int .u64 X)) (by kernel_rfl) ?_
  rw [hW0]
  have s0 := And.intro (box_cells hb0) ((hn0.cell hl id (o + 1 + a)).trans ca)
  have HN0 := Lib.hid hn0
  have HB0 := Lib.hid hb0
  clear hW0 hn0 hb0 ca
  refine wpAnyH_take (i := 0) (v := ?_) rfl (by kernel_rfl) (by kernel_rfl) (by kernel_rfl) (fun _ _ _ h => h) (Or.inl ⟨by rfl, ?_⟩) s0 ?_
  rotate_left
  · intro w hSw; first | (obtain ⟨s1, s2, s3, s4, s5, s6, s7, s8⟩ := hSw; go_simp; rfl) | (obtain ⟨s1, s2, s3, s4, s5, s6, s7⟩ := hSw; go_simp; rfl) | (obtain ⟨s1, s2, s3⟩ := hSw; go_simp; rfl) | (obtain ⟨s1, s2⟩ := hSw; go_simp; rfl) | (have s1 := hSw; go_simp; rfl)
  go_simp
  refine wpAnyH_take (i := 1) (v := ?_) rfl (by kernel_rfl) (by kernel_rfl) (by kernel_rfl) (fun _ _ _ h => h) (Or.inl ⟨by rfl, ?_⟩) s0 ?_
  rotate_left
  · intro w hSw; first | (obtain ⟨s1, s2, s3, s4, s5, s6, s7, s8⟩ := hSw; go_simp; rfl) | (obtain ⟨s1, s2, s3, s4, s5, s6, s7⟩ := hSw; go_simp; rfl) | (obtain ⟨s1, s2, s3⟩ := hSw; go_simp; rfl) | (obtain ⟨s1, s2⟩ := hSw; go_simp; rfl) | (have s1 := hSw; go_simp; rfl)
  go_simp
  refine wpAnyH_take (i := 3) (v := ?_) rfl (by kernel_rfl) (by kernel_rfl) (by kernel_rfl) (fun _ _ _ h => h) (Or.inl ⟨by rfl, ?_⟩) s0 ?_
  rotate_left
  · intro w hSw; first | (obtain ⟨s1, s2, s3, s4, s5, s6, s7, s8⟩ := hSw; go_simp; rfl) | (obtain ⟨s1, s2, s3, s4, s5, s6, s7⟩ := hSw; go_simp; rfl) | (obtain ⟨s1, s2, s3⟩ := hSw; go_simp; rfl) | (obtain ⟨s1, s2⟩ := hSw; go_simp; rfl) | (have s1 := hSw; go_simp; rfl)
  go_simp
  refine wpAnyH_take (i := 4) (v := ?_) rfl (by kernel_rfl) (by kernel_rfl) (by kernel_rfl) (fun _ _ _ h => h) (Or.inl ⟨by rfl, ?_⟩) s0 ?_
  rotate_left
  · intro w hSw; first | (obtain ⟨s1, s2, s3, s4, s5, s6, s7, s8⟩ := hSw; go_simp; rfl) | (obtain ⟨s1, s2, s3, s4, s5, s6, s7⟩ := hSw; go_simp; rfl) | (obtain ⟨s1, s2, s3⟩ := hSw; go_simp; rfl) | (obtain ⟨s1, s2⟩ := hSw; go_simp; rfl) | (have s1 := hSw; go_simp; rfl)
  go_simp
  refine wpAnyH_take (i := 5) (v := ?_) rfl (by kernel_rfl) (by kernel_rfl) (by kernel_rfl) (fun _ _ _ h => h) (Or.inl ⟨by rfl, ?_⟩) s0 ?_
  rotate_left
  · intro w hSw; first | (obtain ⟨s1, s2, s3, s4, s5, s6, s7, s8⟩ := hSw; go_simp; rfl) | (obtain ⟨s1, s2, s3, s4, s5, s6, s7⟩ := hSw; go_simp; rfl) | (obtain ⟨s1, s2, s3⟩ := hSw; go_simp; rfl) | (obtain ⟨s1, s2⟩ := hSw; go_simp; rfl) | (have s1 := hSw; go_simp; rfl)
  go_simp
  refine wpAnyH_take (i := 6) (v := ?_) rfl (by kernel_rfl) (by kernel_rfl) (by kernel_rfl) (fun _ _ _ h => h) (Or.inl ⟨by rfl, ?_⟩) s0 ?_
  rotate_left
  · intro w hSw; first | (obtain ⟨s1, s2, s3, s4, s5, s6, s7, s8⟩ := hSw; go_simp; rfl) | (obtain ⟨s1, s2, s3, s4, s5, s6, s7⟩ := hSw; go_simp; rfl) | (obtain ⟨s1, s2, s3⟩ := hSw; go_simp; rfl) | (obtain ⟨s1, s2⟩ := hSw; go_simp; rfl) | (have s1 := hSw; go_simp; rfl)
  go_simp
  refine wpAnyH_take (i := 7) (v := ?_) rfl (by kernel_rfl) (by kernel_rfl) (by kernel_rfl) (fun _ _ _ h => h) (Or.inl ⟨by rfl, ?_⟩) s0 ?_
  rotate_left
  · intro w hSw; first | (obtain ⟨s1, s2, s3, s4, s5, s6, s7, s8⟩ := hSw; go_simp; rfl) | (obtain ⟨s1, s2, s3, s4, s5, s6, s7⟩ := hSw; go_simp; rfl) | (obtain ⟨s1, s2, s3⟩ := hSw; go_simp; rfl) | (obtain ⟨s1, s2⟩ := hSw; go_simp; rfl) | (have s1 := hSw; go_simp; rfl)
  go_simp
  refine wpAnyH_take (i := 8) (v := ?_) rfl (by kernel_rfl) (by kernel_rfl) (by kernel_rfl) (fun _ _ _ h => h) (Or.inl ⟨by rfl, ?_⟩) s0 ?_
  rotate_left
  · intro w hSw; first | (obtain ⟨s1, s2, s3, s4, s5, s6, s7, s8⟩ := hSw; go_simp; rfl) | (obtain ⟨s1, s2, s3, s4, s5, s6, s7⟩ := hSw; go_simp; rfl) | (obtain ⟨s1, s2, s3⟩ := hSw; go_simp; rfl) | (obtain ⟨s1, s2⟩ := hSw; go_simp; rfl) | (have s1 := hSw; go_simp; rfl)
  go_simp
  refine wpAnyH_take (i := 9) (v := ?_) rfl (by kernel_rfl) (by kernel_rfl) (by kernel_rfl) (fun _ _ _ h => h) (Or.inl ⟨by rfl, ?_⟩) s0 ?_
  rotate_left
  · intro w hSw; first | (obtain ⟨s1, s2, s3, s4, s5, s6, s7, s8⟩ := hSw; go_simp; rfl) | (obtain ⟨s1, s2, s3, s4, s5, s6, s7⟩ := hSw; go_simp; rfl) | (obtain ⟨s1, s2, s3⟩ := hSw; go_simp; rfl) | (obtain ⟨s1, s2⟩ := hSw; go_simp; rfl) | (have s1 := hSw; go_simp; rfl)
  go_simp
  refine heldOne (i := 2) (by kernel_rfl) rfl (by rfl) (fun K hK => ?_)
  go_simp
  refine (HA.out W0 HN0.out).mono ?_
  rintro e w1 ⟨rfl, hn1⟩
  have hb1 := (hn1.block xb hxl id).trans HB0.out
  have s1 := And.intro (box_cells hb1) ((hn1.cell (lt_of_cell s0.2) id (o + 1 + a)).trans s0.2)
  have HN1 := Lib.hid (HN0.out.trans hn1)
  have HB1 := Lib.hid hb1
  refine hK.out _ _ s1 ?_
  clear hK K s0 hn1 hb1
  refine wpAnyH_take (i := 10) (v := ?_) rfl (by kernel_rfl) (by kernel_rfl) (by kernel_rfl) (fun _ _ _ h => h) (Or.inl ⟨by rfl, ?_⟩) s1 ?_
  rotate_left
  · intro w hSw; first | (obtain ⟨s1, s2, s3, s4, s5, s6, s7, s8⟩ := hSw; go_simp; rfl) | (obtain ⟨s1, s2, s3, s4, s5, s6, s7⟩ := hSw; go_simp; rfl) | (obtain ⟨s1, s2, s3⟩ := hSw; go_simp; rfl) | (obtain ⟨s1, s2⟩ := hSw; go_simp; rfl) | (have s1 := hSw; go_simp; rfl)
  go_simp
  refine wpAnyH_take (i := 11) (v := ?_) rfl (by kernel_rfl) (by kernel_rfl) (by kernel_rfl) (fun _ _ _ h => h) (Or.inl ⟨by rfl, ?_⟩) s1 ?_
  rotate_left
  · intro w hSw; first | (obtain ⟨s1, s2, s3, s4, s5, s6, s7, s8⟩ := hSw; go_simp; rfl) | (obtain ⟨s1, s2, s3, s4, s5, s6, s7⟩ := hSw; go_simp; rfl) | (obtain ⟨s1, s2, s3⟩ := hSw; go_simp; rfl) | (obtain ⟨s1, s2⟩ := hSw; go_simp; rfl) | (have s1 := hSw; go_simp; rfl)
  go_simp
  refine wpAnyH_done (by kernel_rfl) ?_ _
  have x0 : w1.cell? ⟨xb, 0, none⟩ = some (.int .i64 18) := s1.1.1
  clear s1
  go_wp2_with fail
  refine (HMM.out w1 HN1.out).mono ?_
  rintro e w2 ⟨er, rfl, hk⟩
  have HK := Lib.hid hk
  clear hk
  go_wp2
  go_ret2
  exact ⟨_, rfl, HK.out⟩

set_option maxRecDepth 100000 in
set_option maxHeartbeats 2000000 in
theorem access_cas (fb o mb : Nat) (pc : Int) (rs : List Nat) (v : Value) (a : Nat) (B : Int) (c V : Nat) (M W : Int) (w : World) (h : FrAt w fb o pc rs v) (ha : a < 32) (hc : c < 32) (hV : V < 18446744073709551616) (K : Value → Value → World → Prop)
    (HM : ∀ w', New w w' → Calls Tryd.prog 91 #[.pointer (some ⟨mb, 0, none⟩), .int .u64 (adrN rs B V : Nat), .int .u64 (rs.getD a 0 : Nat), .int .u64 (rs.getD c 0 : Nat)] w' fun e w'' => ∃ x er, e = .returned (.tuple #[x, er]) ∧ K x er w'') :
    Calls Tryd.prog 28 #[.pointer (some ⟨fb, o, none⟩), insV 21 a B c V M W, memV mb] w fun e w' => ∃ x er, e = .returned (.tuple #[x, er]) ∧ K x er w' := by
  have HA := Lib.hid (fun w' (f : New w w') => address_any fb o pc rs v 21 a B c V M W w' (h.new f) hV)
  have HMM := Lib.hid HM
  generalize adrN rs B V = P at HA HMM
  have ca := h.regD ha
  have cc := h.regD hc
  have hl := h.lt
  generalize rs.getD a 0 = X at ca HMM
  generalize rs.getD c 0 = Y at cc HMM
  have q1 : (0 : Int) ≤ (a : Int) := by omega
  have q2 : (a : Int) < 32 := by omega
  have q3 : (0 : Int) ≤ (c : Int) := by omega
  have q4 : (c : Int) < 32 := by omega
  clear h HM
  go_enter Tryd.func28, Tryd.ntmps28
  go_wp2_with fail
  obtain ⟨W0, hW0⟩ : ∃ W0, (w.alloc (.cells #[.int .i64 21, .int .i64 a, .int .i64 B, .int .i64 c, .int .u64 V, .int .i64 M, .int .i64 W] 52)).drew = W0 := ⟨_, rfl⟩
  have hn0 : New w W0 := by rw [← hW0]; exact ((Fr.refl _ _).alloc _).drew
  have hb0 : W0.heap[w.heap.size]? = some (.cells #[.int .i64 21, .int .i64 a, .int .i64 B, .int .i64 c, .int .u64 V, .int .i64 M, .int .i64 W] 52 (0, 0)) := by rw [← hW0]; exact block_alloc_new _ _
  obtain ⟨xb, hxb⟩ : ∃ xb, w.heap.size = xb := ⟨_, rfl⟩
  rw [hxb] at hb0 ⊢
  have hxl := lt_of_block hb0
  refine heldStart (fun wz => (wz.cell? ⟨xb, 0, none⟩ = some (.int .i64 21) ∧ wz.cell? ⟨xb, 1, none⟩ = some (.int .i64 a) ∧ wz.cell? ⟨xb, 2, none⟩ = some (.int .i64 B) ∧ wz.cell? ⟨xb, 3, none⟩ = some (.int .i64 c) ∧ wz.cell? ⟨xb, 4, none⟩ = some (.int .u64 V) ∧ wz.cell? ⟨xb, 5, none⟩ = some (.int .i64 M) ∧ wz.cell? ⟨xb, 6, none⟩ = some (.int .i64 W)) ∧ wz.cell? ⟨fb, o + 1 + a, none⟩ = some (.int .u64 X)) (by kernel_rfl) ?_
  rw [hW0]
  have s0 := And.intro (box_cells hb0) ((hn0.cell hl id (o + 1 + a)).trans ca)
  have HN0 := Lib.hid hn0
  have HB0 := Lib.hid hb0
  clear hW0 hn0 hb0 ca
  refine wpAnyH_take (i := 0) (v := ?_) rfl (by kernel_rfl) (by kernel_rfl) (by kernel_rfl) (fun _ _ _ h => h) (Or.inl ⟨by rfl, ?_⟩) s0 ?_
  rotate_left
  · intro w hSw; first | (obtain ⟨s1, s2, s3, s4, s5, s6, s7, s8⟩ := hSw; go_simp; rfl) | (obtain ⟨s1, s2, s3, s4, s5, s6, s7⟩ := hSw; go_simp; rfl) | (obtain ⟨s1, s2, s3⟩ := hSw; go_simp; rfl) | (obtain ⟨s1, s2⟩ := hSw; go_simp; rfl) | (have s1 := hSw; go_simp; rfl)
  go_simp
  refine wpAnyH_take (i := 1) (v := ?_) rfl (by kernel_rfl) (by kernel_rfl) (by kernel_rfl) (fun _ _ _ h => h) (Or.inl ⟨by rfl, ?_⟩) s0 ?_
  rotate_left
  · intro w hSw; first | (obtain ⟨s1, s2, s3, s4, s5, s6, s7, s8⟩ := hSw; go_simp; rfl) | (obtain ⟨s1, s2, s3, s4, s5, s6, s7⟩ := hSw; go_simp; rfl) | (obtain ⟨s1, s2, s3⟩ := hSw; go_simp; rfl) | (obtain ⟨s1, s2⟩ := hSw; go_simp; rfl) | (have s1 := hSw; go_simp; rfl)
  go_simp
  refine wpAnyH_take (i := 3) (v := ?_) rfl (by kernel_rfl) (by kernel_rfl) (by kernel_rfl) (fun _ _ _ h => h) (Or.inl ⟨by rfl, ?_⟩) s0 ?_
  rotate_left
  · intro w hSw; first | (obtain ⟨s1, s2, s3, s4, s5, s6, s7, s8⟩ := hSw; go_simp; rfl) | (obtain ⟨s1, s2, s3, s4, s5, s6, s7⟩ := hSw; go_simp; rfl) | (obtain ⟨s1, s2, s3⟩ := hSw; go_simp; rfl) | (obtain ⟨s1, s2⟩ := hSw; go_simp; rfl) | (have s1 := hSw; go_simp; rfl)
  go_simp
  refine wpAnyH_take (i := 4) (v := ?_) rfl (by kernel_rfl) (by kernel_rfl) (by kernel_rfl) (fun _ _ _ h => h) (Or.inl ⟨by rfl, ?_⟩) s0 ?_
  rotate_left
  · intro w hSw; first | (obtain ⟨s1, s2, s3, s4, s5, s6, s7, s8⟩ := hSw; go_simp; rfl) | (obtain ⟨s1, s2, s3, s4, s5, s6, s7⟩ := hSw; go_simp; rfl) | (obtain ⟨s1, s2, s3⟩ := hSw; go_simp; rfl) | (obtain ⟨s1, s2⟩ := hSw; go_simp; rfl) | (have s1 := hSw; go_simp; rfl)
  go_simp
  refine wpAnyH_take (i := 5) (v := ?_) rfl (by kernel_rfl) (by kernel_rfl) (by kernel_rfl) (fun _ _ _ h => h) (Or.inl ⟨by rfl, ?_⟩) s0 ?_
  rotate_left
  · intro w hSw; first | (obtain ⟨s1, s2, s3, s4, s5, s6, s7, s8⟩ := hSw; go_simp; rfl) | (obtain ⟨s1, s2, s3, s4, s5, s6, s7⟩ := hSw; go_simp; rfl) | (obtain ⟨s1, s2, s3⟩ := hSw; go_simp; rfl) | (obtain ⟨s1, s2⟩ := hSw; go_simp; rfl) | (have s1 := hSw; go_simp; rfl)
  go_simp
  refine wpAnyH_take (i := 6) (v := ?_) rfl (by kernel_rfl) (by kernel_rfl) (by kernel_rfl) (fun _ _ _ h => h) (Or.inl ⟨by rfl, ?_⟩) s0 ?_
  rotate_left
  · intro w hSw; first | (obtain ⟨s1, s2, s3, s4, s5, s6, s7, s8⟩ := hSw; go_simp; rfl) | (obtain ⟨s1, s2, s3, s4, s5, s6, s7⟩ := hSw; go_simp; rfl) | (obtain ⟨s1, s2, s3⟩ := hSw; go_simp; rfl) | (obtain ⟨s1, s2⟩ := hSw; go_simp; rfl) | (have s1 := hSw; go_simp; rfl)
  go_simp
  refine wpAnyH_take (i := 7) (v := ?_) rfl (by kernel_rfl) (by kernel_rfl) (by kernel_rfl) (fun _ _ _ h => h) (Or.inl ⟨by rfl, ?_⟩) s0 ?_
  rotate_left
  · intro w hSw; first | (obtain ⟨s1, s2, s3, s4, s5, s6, s7, s8⟩ := hSw; go_simp; rfl) | (obtain ⟨s1, s2, s3, s4, s5, s6, s7⟩ := hSw; go_simp; rfl) | (obtain ⟨s1, s2, s3⟩ := hSw; go_simp; rfl) | (obtain ⟨s1, s2⟩ := hSw; go_simp; rfl) | (have s1 := hSw; go_simp; rfl)
  go_simp
  refine wpAnyH_take (i := 8) (v := ?_) rfl (by kernel_rfl) (by kernel_rfl) (by kernel_rfl) (fun _ _ _ h => h) (Or.inl ⟨by rfl, ?_⟩) s0 ?_
  rotate_left
  · intro w hSw; first | (obtain ⟨s1, s2, s3, s4, s5, s6, s7, s8⟩ := hSw; go_simp; rfl) | (obtain ⟨s1, s2, s3, s4, s5, s6, s7⟩ := hSw; go_simp; rfl) | (obtain ⟨s1, s2, s3⟩ := hSw; go_simp; rfl) | (obtain ⟨s1, s2⟩ := hSw; go_simp; rfl) | (have s1 := hSw; go_simp; rfl)
  go_simp
  refine wpAnyH_take (i := 9) (v := ?_) rfl (by kernel_rfl) (by kernel_rfl) (by kernel_rfl) (fun _ _ _ h => h) (Or.inl ⟨by rfl, ?_⟩) s0 ?_
  rotate_left
  · intro w hSw; first | (obtain ⟨s1, s2, s3, s4, s5, s6, s7, s8⟩ := hSw; go_simp; rfl) | (obtain ⟨s1, s2, s3, s4, s5, s6, s7⟩ := hSw; go_simp; rfl) | (obtain ⟨s1, s2, s3⟩ := hSw; go_simp; rfl) | (obtain ⟨s1, s2⟩ := hSw; go_simp; rfl) | (have s1 := hSw; go_simp; rfl)
  go_simp
  refine heldOne (i := 2) (by kernel_rfl) rfl (by rfl) (fun K hK => ?_)
  go_simp
  refine (HA.out W0 HN0.out).mono ?_
  rintro e w1 ⟨rfl, hn1⟩
  have hb1 := (hn1.block xb hxl id).trans HB0.out
  have s1 := And.intro (box_cells hb1) ((hn1.cell (lt_of_cell s0.2) id (o + 1 + a)).trans s0.2)
  have HN1 := Lib.hid (HN0.out.trans hn1)
  have HB1 := Lib.hid hb1
  refine hK.out _ _ s1 ?_
  clear hK K s0 hn1 hb1
  refine wpAnyH_take (i := 10) (v := ?_) rfl (by kernel_rfl) (by kernel_rfl) (by kernel_rfl) (fun _ _ _ h => h) (Or.inl ⟨by rfl, ?_⟩) s1 ?_
  rotate_left
  · intro w hSw; first | (obtain ⟨s1, s2, s3, s4, s5, s6, s7, s8⟩ := hSw; go_simp; rfl) | (obtain ⟨s1, s2, s3, s4, s5, s6, s7⟩ := hSw; go_simp; rfl) | (obtain ⟨s1, s2, s3⟩ := hSw; go_simp; rfl) | (obtain ⟨s1, s2⟩ := hSw; go_simp; rfl) | (have s1 := hSw; go_simp; rfl)
  go_simp
  refine wpAnyH_take (i := 11) (v := ?_) rfl (by kernel_rfl) (by kernel_rfl) (by kernel_rfl) (fun _ _ _ h => h) (Or.inl ⟨by rfl, ?_⟩) s1 ?_
  rotate_left
  · intro w hSw; first | (obtain ⟨s1, s2, s3, s4, s5, s6, s7, s8⟩ := hSw; go_simp; rfl) | (obtain ⟨s1, s2, s3, s4, s5, s6, s7⟩ := hSw; go_simp; rfl) | (obtain ⟨s1, s2, s3⟩ := hSw; go_simp; rfl) | (obtain ⟨s1, s2⟩ := hSw; go_simp; rfl) | (have s1 := hSw; go_simp; rfl)
  go_simp
  refine wpAnyH_done (by kernel_rfl) ?_ _
  have x0 : w1.cell? ⟨xb, 0, none⟩ = some (.int .i64 21) := s1.1.1
  clear s1
  go_wp2_with fail
  have n2 : New w1 w1.drew := (Fr.refl _ _).drew
  have HN2 := Lib.hid (HN1.out.trans n2)
  have s2 : w1.drew.cell? ⟨xb, 3, none⟩ = some (.int .i64 c) ∧ w1.drew.cell? ⟨fb, o + 1 + c, none⟩ = some (.int .u64 Y) := ⟨(box_cells HB1.out).2.2.2.1, (HN1.out.cell hl id _).trans cc⟩
  refine heldStart (fun _ => True) (by kernel_rfl) ?_
  clear x0 cc n2
  refine wpAnyH_take (i := 0) (v := ?_) rfl (by kernel_rfl) (by kernel_rfl) (by kernel_rfl) (fun _ _ _ h => h) (Or.inl ⟨by rfl, ?_⟩) trivial ?_
  rotate_left
  · intro w _; go_simp; rfl
  go_simp
  refine wpAnyH_take (i := 1) (v := ?_) rfl (by kernel_rfl) (by kernel_rfl) (by kernel_rfl) (fun _ _ _ h => h) (Or.inl ⟨by rfl, ?_⟩) trivial ?_
  rotate_left
  · intro w _; go_simp; rfl
  go_simp
  refine wpAnyH_take (i := 2) (v := ?_) rfl (by kernel_rfl) (by kernel_rfl) (by kernel_rfl) (fun _ _ _ h => h) (Or.inl ⟨by rfl, ?_⟩) trivial ?_
  rotate_left
  · intro w _; go_simp; rfl
  go_simp
  refine wpAnyH_take (i := 3) (v := ?_) rfl (by kernel_rfl) (by kernel_rfl) (by kernel_rfl) (fun _ _ _ h => h) (Or.inl ⟨by rfl, ?_⟩) trivial ?_
  rotate_left
  · intro w _; go_simp; rfl
  go_simp
  refine wpAnyH_take (i := 4) (v := ?_) rfl (by kernel_rfl) (by kernel_rfl) (by kernel_rfl) (fun _ _ _ h => h) (Or.inl ⟨by rfl, ?_⟩) trivial ?_
  rotate_left
  · intro w _; go_simp; rfl
  go_simp
  refine wpAnyH_take (i := 6) (v := ?_) rfl (by kernel_rfl) (by kernel_rfl) (by kernel_rfl) (fun _ _ _ h => h) (Or.inl ⟨by rfl, ?_⟩) trivial ?_
  rotate_left
  · intro w _; go_simp; rfl
  go_simp
  refine wpAnyH_take (i := 7) (v := ?_) rfl (by kernel_rfl) (by kernel_rfl) (by kernel_rfl) (fun _ _ _ h => h) (Or.inl ⟨by rfl, ?_⟩) trivial ?_
  rotate_left
  · intro w _; go_simp; rfl
  go_simp
  refine wpAnyH_take (i := 10) (v := ?_) rfl (by kernel_rfl) (by kernel_rfl) (by kernel_rfl) (fun _ _ _ h => h) (Or.inl ⟨by rfl, ?_⟩) trivial ?_
  rotate_left
  · intro w _; go_simp; rfl
  go_simp
  refine wpAnyH_take (i := 11) (v := ?_) rfl (by kernel_rfl) (by kernel_rfl) (by kernel_rfl) (fun _ _ _ h => h) (Or.inl ⟨by rfl, ?_⟩) trivial ?_
  rotate_left
  · intro w _; go_simp; rfl
  go_simp
  refine wpAnyH_take (i := 12) (v := ?_) rfl (by kernel_rfl) (by kernel_rfl) (by kernel_rfl) (fun _ _ _ h => h) (Or.inl ⟨by rfl, ?_⟩) trivial ?_
  rotate_left
  · intro w _; go_simp; rfl
  go_simp
  refine heldOne (i := 5) (by kernel_rfl) rfl (by rfl) (fun K hK => ?_)
  have y3 := s2.1
  have yc := s2.2
  go_simp
  refine hK.out _ _ trivial ?_
  clear hK K
  refine wpAnyH_take (i := 8) (v := ?_) rfl (by kernel_rfl) (by kernel_rfl) (by kernel_rfl) (fun _ _ _ h => h) (Or.inl ⟨by rfl, ?_⟩) trivial ?_
  rotate_left
  · intro w _; go_simp; rfl
  go_simp
  refine heldOne (i := 9) (by kernel_rfl) rfl (by rfl) (fun K hK => ?_)
  go_simp
  refine hK.out _ _ trivial ?_
  clear hK K
  refine heldOne (i := 13) (by kernel_rfl) rfl (by rfl) (fun K hK => ?_)
  go_simp
  go_invoke
  go_simp
  refine (HMM.out _ HN2.out).mono ?_
  rintro e w2 ⟨x, er, rfl, hk⟩
  have HK := Lib.hid hk
  refine hK.out _ _ trivial ?_
  clear hK K hk s2 y3 yc
  refine wpAnyH_take (i := 14) (v := ?_) rfl (by kernel_rfl) (by kernel_rfl) (by kernel_rfl) (fun _ _ _ h => h) (Or.inl ⟨by rfl, ?_⟩) trivial ?_
  rotate_left
  · intro w _; go_simp; rfl
  go_simp
  refine wpAnyH_take (i := 15) (v := ?_) rfl (by kernel_rfl) (by kernel_rfl) (by kernel_rfl) (fun _ _ _ h => h) (Or.inl ⟨by rfl, ?_⟩) trivial ?_
  rotate_left
  · intro w _; go_simp; rfl
  go_simp
  refine wpAnyH_take (i := 16) (v := ?_) rfl (by kernel_rfl) (by kernel_rfl) (by kernel_rfl) (fun _ _ _ h => h) (Or.inl ⟨by rfl, ?_⟩) trivial ?_
  rotate_left
  · intro w _; go_simp; rfl
  go_simp
  refine wpAnyH_take (i := 17) (v := ?_) rfl (by kernel_rfl) (by kernel_rfl) (by kernel_rfl) (fun _ _ _ h => h) (Or.inl ⟨by rfl, ?_⟩) trivial ?_
  rotate_left
  · intro w _; go_simp; rfl
  go_simp
  refine wpAnyH_done (by kernel_rfl) ?_ _
  go_wp2
  go_ret2
  exact ⟨_, _, rfl, HK.out⟩

end Go.Proofs.YtngpcalgjaglmaaDoor
