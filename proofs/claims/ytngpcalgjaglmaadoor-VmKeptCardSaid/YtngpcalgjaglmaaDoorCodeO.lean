/- The document's row of an op, op by op. (Printed by gen_right.py.) -/
import Derived.Test.YtngpcalgjaglmaaDoorCodeF
namespace Go.Proofs.YtngpcalgjaglmaaDoor
open Go.RowKit

/-- The row as a value. -/
abbrev shapeV (a b c v nb nc pl is : Bool) : Value := .agg #[.bool a, .bool b, .bool c, .bool v, .bool nb, .bool nc, .bool pl, .bool is]
set_option maxRecDepth 100000 in
set_option maxHeartbeats 400000 in
theorem of_1 (w : World) : Calls Tryd.prog 53 #[.int .i64 1] w fun e w' => e = .returned (shapeV true false false true false false false true) ∧ New w w' := by
  go_enter Tryd.func53, Tryd.ntmps53
  go_wp2
  exact bodyPost_ret (v := shapeV true false false true false false false true) (by simp [results, Tryd.results53, go_sem]) rfl ⟨rfl, ((Fr.refl _ _).alloc _).alloc _⟩
set_option maxRecDepth 100000 in
set_option maxHeartbeats 400000 in
theorem of_2 (w : World) : Calls Tryd.prog 53 #[.int .i64 2] w fun e w' => e = .returned (shapeV true true false false false false false true) ∧ New w w' := by
  go_enter Tryd.func53, Tryd.ntmps53
  go_wp2
  exact bodyPost_ret (v := shapeV true true false false false false false true) (by simp [results, Tryd.results53, go_sem]) rfl ⟨rfl, ((Fr.refl _ _).alloc _).alloc _⟩
set_option maxRecDepth 100000 in
set_option maxHeartbeats 400000 in
theorem of_3 (w : World) : Calls Tryd.prog 53 #[.int .i64 3] w fun e w' => e = .returned (shapeV true true true true false true false true) ∧ New w w' := by
  go_enter Tryd.func53, Tryd.ntmps53
  go_wp2
  exact bodyPost_ret (v := shapeV true true true true false true false true) (by simp [results, Tryd.results53, go_sem]) rfl ⟨rfl, ((Fr.refl _ _).alloc _).alloc _⟩
set_option maxRecDepth 100000 in
set_option maxHeartbeats 400000 in
theorem of_4 (w : World) : Calls Tryd.prog 53 #[.int .i64 4] w fun e w' => e = .returned (shapeV true true true true false true false true) ∧ New w w' := by
  go_enter Tryd.func53, Tryd.ntmps53
  go_wp2
  exact bodyPost_ret (v := shapeV true true true true false true false true) (by simp [results, Tryd.results53, go_sem]) rfl ⟨rfl, ((Fr.refl _ _).alloc _).alloc _⟩
set_option maxRecDepth 100000 in
set_option maxHeartbeats 400000 in
theorem of_5 (w : World) : Calls Tryd.prog 53 #[.int .i64 5] w fun e w' => e = .returned (shapeV true true true true false true false true) ∧ New w w' := by
  go_enter Tryd.func53, Tryd.ntmps53
  go_wp2
  exact bodyPost_ret (v := shapeV true true true true false true false true) (by simp [results, Tryd.results53, go_sem]) rfl ⟨rfl, ((Fr.refl _ _).alloc _).alloc _⟩
set_option maxRecDepth 100000 in
set_option maxHeartbeats 400000 in
theorem of_6 (w : World) : Calls Tryd.prog 53 #[.int .i64 6] w fun e w' => e = .returned (shapeV true true true true false true false true) ∧ New w w' := by
  go_enter Tryd.func53, Tryd.ntmps53
  go_wp2
  exact bodyPost_ret (v := shapeV true true true true false true false true) (by simp [results, Tryd.results53, go_sem]) rfl ⟨rfl, ((Fr.refl _ _).alloc _).alloc _⟩
set_option maxRecDepth 100000 in
set_option maxHeartbeats 400000 in
theorem of_7 (w : World) : Calls Tryd.prog 53 #[.int .i64 7] w fun e w' => e = .returned (shapeV true true true true false true false true) ∧ New w w' := by
  go_enter Tryd.func53, Tryd.ntmps53
  go_wp2
  exact bodyPost_ret (v := shapeV true true true true false true false true) (by simp [results, Tryd.results53, go_sem]) rfl ⟨rfl, ((Fr.refl _ _).alloc _).alloc _⟩
set_option maxRecDepth 100000 in
set_option maxHeartbeats 400000 in
theorem of_8 (w : World) : Calls Tryd.prog 53 #[.int .i64 8] w fun e w' => e = .returned (shapeV true true true true false true false true) ∧ New w w' := by
  go_enter Tryd.func53, Tryd.ntmps53
  go_wp2
  exact bodyPost_ret (v := shapeV true true true true false true false true) (by simp [results, Tryd.results53, go_sem]) rfl ⟨rfl, ((Fr.refl _ _).alloc _).alloc _⟩
set_option maxRecDepth 100000 in
set_option maxHeartbeats 400000 in
theorem of_9 (w : World) : Calls Tryd.prog 53 #[.int .i64 9] w fun e w' => e = .returned (shapeV true true true true false true false true) ∧ New w w' := by
  go_enter Tryd.func53, Tryd.ntmps53
  go_wp2
  exact bodyPost_ret (v := shapeV true true true true false true false true) (by simp [results, Tryd.results53, go_sem]) rfl ⟨rfl, ((Fr.refl _ _).alloc _).alloc _⟩
set_option maxRecDepth 100000 in
set_option maxHeartbeats 400000 in
theorem of_10 (w : World) : Calls Tryd.prog 53 #[.int .i64 10] w fun e w' => e = .returned (shapeV true true true true false true false true) ∧ New w w' := by
  go_enter Tryd.func53, Tryd.ntmps53
  go_wp2
  exact bodyPost_ret (v := shapeV true true true true false true false true) (by simp [results, Tryd.results53, go_sem]) rfl ⟨rfl, ((Fr.refl _ _).alloc _).alloc _⟩
set_option maxRecDepth 100000 in
set_option maxHeartbeats 400000 in
theorem of_11 (w : World) : Calls Tryd.prog 53 #[.int .i64 11] w fun e w' => e = .returned (shapeV true true true true false true false true) ∧ New w w' := by
  go_enter Tryd.func53, Tryd.ntmps53
  go_wp2
  exact bodyPost_ret (v := shapeV true true true true false true false true) (by simp [results, Tryd.results53, go_sem]) rfl ⟨rfl, ((Fr.refl _ _).alloc _).alloc _⟩
set_option maxRecDepth 100000 in
set_option maxHeartbeats 400000 in
theorem of_12 (w : World) : Calls Tryd.prog 53 #[.int .i64 12] w fun e w' => e = .returned (shapeV false false false true false false true true) ∧ New w w' := by
  go_enter Tryd.func53, Tryd.ntmps53
  go_wp2
  exact bodyPost_ret (v := shapeV false false false true false false true true) (by simp [results, Tryd.results53, go_sem]) rfl ⟨rfl, ((Fr.refl _ _).alloc _).alloc _⟩
set_option maxRecDepth 100000 in
set_option maxHeartbeats 400000 in
theorem of_13 (w : World) : Calls Tryd.prog 53 #[.int .i64 13] w fun e w' => e = .returned (shapeV true false false true false false true true) ∧ New w w' := by
  go_enter Tryd.func53, Tryd.ntmps53
  go_wp2
  exact bodyPost_ret (v := shapeV true false false true false false true true) (by simp [results, Tryd.results53, go_sem]) rfl ⟨rfl, ((Fr.refl _ _).alloc _).alloc _⟩
set_option maxRecDepth 100000 in
set_option maxHeartbeats 400000 in
theorem of_14 (w : World) : Calls Tryd.prog 53 #[.int .i64 14] w fun e w' => e = .returned (shapeV true false false true false false true true) ∧ New w w' := by
  go_enter Tryd.func53, Tryd.ntmps53
  go_wp2
  exact bodyPost_ret (v := shapeV true false false true false false true true) (by simp [results, Tryd.results53, go_sem]) rfl ⟨rfl, ((Fr.refl _ _).alloc _).alloc _⟩
set_option maxRecDepth 100000 in
set_option maxHeartbeats 400000 in
theorem of_15 (w : World) : Calls Tryd.prog 53 #[.int .i64 15] w fun e w' => e = .returned (shapeV false false false true false false true true) ∧ New w w' := by
  go_enter Tryd.func53, Tryd.ntmps53
  go_wp2
  exact bodyPost_ret (v := shapeV false false false true false false true true) (by simp [results, Tryd.results53, go_sem]) rfl ⟨rfl, ((Fr.refl _ _).alloc _).alloc _⟩
set_option maxRecDepth 100000 in
set_option maxHeartbeats 400000 in
theorem of_16 (w : World) : Calls Tryd.prog 53 #[.int .i64 16] w fun e w' => e = .returned (shapeV false false false false false false false true) ∧ New w w' := by
  go_enter Tryd.func53, Tryd.ntmps53
  go_wp2
  exact bodyPost_ret (v := shapeV false false false false false false false true) (by simp [results, Tryd.results53, go_sem]) rfl ⟨rfl, ((Fr.refl _ _).alloc _).alloc _⟩
set_option maxRecDepth 100000 in
set_option maxHeartbeats 400000 in
theorem of_17 (w : World) : Calls Tryd.prog 53 #[.int .i64 17] w fun e w' => e = .returned (shapeV true true false true true false false true) ∧ New w w' := by
  go_enter Tryd.func53, Tryd.ntmps53
  go_wp2
  exact bodyPost_ret (v := shapeV true true false true true false false true) (by simp [results, Tryd.results53, go_sem]) rfl ⟨rfl, ((Fr.refl _ _).alloc _).alloc _⟩
set_option maxRecDepth 100000 in
set_option maxHeartbeats 400000 in
theorem of_18 (w : World) : Calls Tryd.prog 53 #[.int .i64 18] w fun e w' => e = .returned (shapeV true true false true true false false true) ∧ New w w' := by
  go_enter Tryd.func53, Tryd.ntmps53
  go_wp2
  exact bodyPost_ret (v := shapeV true true false true true false false true) (by simp [results, Tryd.results53, go_sem]) rfl ⟨rfl, ((Fr.refl _ _).alloc _).alloc _⟩
set_option maxRecDepth 100000 in
set_option maxHeartbeats 400000 in
theorem of_19 (w : World) : Calls Tryd.prog 53 #[.int .i64 19] w fun e w' => e = .returned (shapeV true true false true true false false true) ∧ New w w' := by
  go_enter Tryd.func53, Tryd.ntmps53
  go_wp2
  exact bodyPost_ret (v := shapeV true true false true true false false true) (by simp [results, Tryd.results53, go_sem]) rfl ⟨rfl, ((Fr.refl _ _).alloc _).alloc _⟩
set_option maxRecDepth 100000 in
set_option maxHeartbeats 400000 in
theorem of_20 (w : World) : Calls Tryd.prog 53 #[.int .i64 20] w fun e w' => e = .returned (shapeV true true false true true false false true) ∧ New w w' := by
  go_enter Tryd.func53, Tryd.ntmps53
  go_wp2
  exact bodyPost_ret (v := shapeV true true false true true false false true) (by simp [results, Tryd.results53, go_sem]) rfl ⟨rfl, ((Fr.refl _ _).alloc _).alloc _⟩
set_option maxRecDepth 100000 in
set_option maxHeartbeats 400000 in
theorem of_21 (w : World) : Calls Tryd.prog 53 #[.int .i64 21] w fun e w' => e = .returned (shapeV true true true true true false false true) ∧ New w w' := by
  go_enter Tryd.func53, Tryd.ntmps53
  go_wp2
  exact bodyPost_ret (v := shapeV true true true true true false false true) (by simp [results, Tryd.results53, go_sem]) rfl ⟨rfl, ((Fr.refl _ _).alloc _).alloc _⟩
set_option maxRecDepth 100000 in
set_option maxHeartbeats 400000 in
theorem of_22 (w : World) : Calls Tryd.prog 53 #[.int .i64 22] w fun e w' => e = .returned (shapeV false false false true false false false true) ∧ New w w' := by
  go_enter Tryd.func53, Tryd.ntmps53
  go_wp2
  exact bodyPost_ret (v := shapeV false false false true false false false true) (by simp [results, Tryd.results53, go_sem]) rfl ⟨rfl, ((Fr.refl _ _).alloc _).alloc _⟩
set_option maxRecDepth 100000 in
set_option maxHeartbeats 400000 in
theorem of_23 (w : World) : Calls Tryd.prog 53 #[.int .i64 23] w fun e w' => e = .returned (shapeV true true false false false false false true) ∧ New w w' := by
  go_enter Tryd.func53, Tryd.ntmps53
  go_wp2
  exact bodyPost_ret (v := shapeV true true false false false false false true) (by simp [results, Tryd.results53, go_sem]) rfl ⟨rfl, ((Fr.refl _ _).alloc _).alloc _⟩
set_option maxRecDepth 100000 in
set_option maxHeartbeats 400000 in
theorem of_24 (w : World) : Calls Tryd.prog 53 #[.int .i64 24] w fun e w' => e = .returned (shapeV true true true false false false false true) ∧ New w w' := by
  go_enter Tryd.func53, Tryd.ntmps53
  go_wp2
  exact bodyPost_ret (v := shapeV true true true false false false false true) (by simp [results, Tryd.results53, go_sem]) rfl ⟨rfl, ((Fr.refl _ _).alloc _).alloc _⟩
set_option maxRecDepth 100000 in
set_option maxHeartbeats 400000 in
theorem of_25 (w : World) : Calls Tryd.prog 53 #[.int .i64 25] w fun e w' => e = .returned (shapeV true true true false false false false true) ∧ New w w' := by
  go_enter Tryd.func53, Tryd.ntmps53
  go_wp2
  exact bodyPost_ret (v := shapeV true true true false false false false true) (by simp [results, Tryd.results53, go_sem]) rfl ⟨rfl, ((Fr.refl _ _).alloc _).alloc _⟩
set_option maxRecDepth 100000 in
set_option maxHeartbeats 400000 in
theorem of_26 (w : World) : Calls Tryd.prog 53 #[.int .i64 26] w fun e w' => e = .returned (shapeV true true true false false false false true) ∧ New w w' := by
  go_enter Tryd.func53, Tryd.ntmps53
  go_wp2
  exact bodyPost_ret (v := shapeV true true true false false false false true) (by simp [results, Tryd.results53, go_sem]) rfl ⟨rfl, ((Fr.refl _ _).alloc _).alloc _⟩
set_option maxRecDepth 100000 in
set_option maxHeartbeats 400000 in
theorem of_27 (w : World) : Calls Tryd.prog 53 #[.int .i64 27] w fun e w' => e = .returned (shapeV true true true false false false false true) ∧ New w w' := by
  go_enter Tryd.func53, Tryd.ntmps53
  go_wp2
  exact bodyPost_ret (v := shapeV true true true false false false false true) (by simp [results, Tryd.results53, go_sem]) rfl ⟨rfl, ((Fr.refl _ _).alloc _).alloc _⟩
set_option maxRecDepth 100000 in
set_option maxHeartbeats 400000 in
theorem of_28 (w : World) : Calls Tryd.prog 53 #[.int .i64 28] w fun e w' => e = .returned (shapeV true false false false false false false true) ∧ New w w' := by
  go_enter Tryd.func53, Tryd.ntmps53
  go_wp2
  exact bodyPost_ret (v := shapeV true false false false false false false true) (by simp [results, Tryd.results53, go_sem]) rfl ⟨rfl, ((Fr.refl _ _).alloc _).alloc _⟩
set_option maxRecDepth 100000 in
set_option maxHeartbeats 400000 in
theorem of_29 (w : World) : Calls Tryd.prog 53 #[.int .i64 29] w fun e w' => e = .returned (shapeV true false false false false false false true) ∧ New w w' := by
  go_enter Tryd.func53, Tryd.ntmps53
  go_wp2
  exact bodyPost_ret (v := shapeV true false false false false false false true) (by simp [results, Tryd.results53, go_sem]) rfl ⟨rfl, ((Fr.refl _ _).alloc _).alloc _⟩
set_option maxRecDepth 100000 in
set_option maxHeartbeats 400000 in
theorem of_30 (w : World) : Calls Tryd.prog 53 #[.int .i64 30] w fun e w' => e = .returned (shapeV true false false false false false false true) ∧ New w w' := by
  go_enter Tryd.func53, Tryd.ntmps53
  go_wp2
  exact bodyPost_ret (v := shapeV true false false false false false false true) (by simp [results, Tryd.results53, go_sem]) rfl ⟨rfl, ((Fr.refl _ _).alloc _).alloc _⟩
set_option maxRecDepth 100000 in
set_option maxHeartbeats 400000 in
theorem of_31 (w : World) : Calls Tryd.prog 53 #[.int .i64 31] w fun e w' => e = .returned (shapeV true true false true true false false true) ∧ New w w' := by
  go_enter Tryd.func53, Tryd.ntmps53
  go_wp2
  exact bodyPost_ret (v := shapeV true true false true true false false true) (by simp [results, Tryd.results53, go_sem]) rfl ⟨rfl, ((Fr.refl _ _).alloc _).alloc _⟩
set_option maxRecDepth 100000 in
set_option maxHeartbeats 400000 in
theorem of_32 (w : World) : Calls Tryd.prog 53 #[.int .i64 32] w fun e w' => e = .returned (shapeV true true true true true false false true) ∧ New w w' := by
  go_enter Tryd.func53, Tryd.ntmps53
  go_wp2
  exact bodyPost_ret (v := shapeV true true true true true false false true) (by simp [results, Tryd.results53, go_sem]) rfl ⟨rfl, ((Fr.refl _ _).alloc _).alloc _⟩
set_option maxRecDepth 100000 in
set_option maxHeartbeats 400000 in
theorem of_33 (w : World) : Calls Tryd.prog 53 #[.int .i64 33] w fun e w' => e = .returned (shapeV false false false false false false false true) ∧ New w w' := by
  go_enter Tryd.func53, Tryd.ntmps53
  go_wp2
  exact bodyPost_ret (v := shapeV false false false false false false false true) (by simp [results, Tryd.results53, go_sem]) rfl ⟨rfl, ((Fr.refl _ _).alloc _).alloc _⟩
set_option maxRecDepth 100000 in
set_option maxHeartbeats 400000 in
theorem of_34 (w : World) : Calls Tryd.prog 53 #[.int .i64 34] w fun e w' => e = .returned (shapeV true false false false false false false true) ∧ New w w' := by
  go_enter Tryd.func53, Tryd.ntmps53
  go_wp2
  exact bodyPost_ret (v := shapeV true false false false false false false true) (by simp [results, Tryd.results53, go_sem]) rfl ⟨rfl, ((Fr.refl _ _).alloc _).alloc _⟩
set_option maxRecDepth 100000 in
set_option maxHeartbeats 400000 in
theorem of_35 (w : World) : Calls Tryd.prog 53 #[.int .i64 35] w fun e w' => e = .returned (shapeV true false false false false false false true) ∧ New w w' := by
  go_enter Tryd.func53, Tryd.ntmps53
  go_wp2
  exact bodyPost_ret (v := shapeV true false false false false false false true) (by simp [results, Tryd.results53, go_sem]) rfl ⟨rfl, ((Fr.refl _ _).alloc _).alloc _⟩
set_option maxRecDepth 100000 in
set_option maxHeartbeats 400000 in
theorem of_36 (w : World) : Calls Tryd.prog 53 #[.int .i64 36] w fun e w' => e = .returned (shapeV true false false false false false false true) ∧ New w w' := by
  go_enter Tryd.func53, Tryd.ntmps53
  go_wp2
  exact bodyPost_ret (v := shapeV true false false false false false false true) (by simp [results, Tryd.results53, go_sem]) rfl ⟨rfl, ((Fr.refl _ _).alloc _).alloc _⟩
set_option maxRecDepth 100000 in
set_option maxHeartbeats 400000 in
theorem of_37 (w : World) : Calls Tryd.prog 53 #[.int .i64 37] w fun e w' => e = .returned (shapeV true false false false false false false true) ∧ New w w' := by
  go_enter Tryd.func53, Tryd.ntmps53
  go_wp2
  exact bodyPost_ret (v := shapeV true false false false false false false true) (by simp [results, Tryd.results53, go_sem]) rfl ⟨rfl, ((Fr.refl _ _).alloc _).alloc _⟩
set_option maxRecDepth 100000 in
set_option maxHeartbeats 400000 in
theorem of_38 (w : World) : Calls Tryd.prog 53 #[.int .i64 38] w fun e w' => e = .returned (shapeV true false false false false false false true) ∧ New w w' := by
  go_enter Tryd.func53, Tryd.ntmps53
  go_wp2
  exact bodyPost_ret (v := shapeV true false false false false false false true) (by simp [results, Tryd.results53, go_sem]) rfl ⟨rfl, ((Fr.refl _ _).alloc _).alloc _⟩
set_option maxRecDepth 100000 in
set_option maxHeartbeats 400000 in
theorem of_39 (w : World) : Calls Tryd.prog 53 #[.int .i64 39] w fun e w' => e = .returned (shapeV true true false false false false false true) ∧ New w w' := by
  go_enter Tryd.func53, Tryd.ntmps53
  go_wp2
  exact bodyPost_ret (v := shapeV true true false false false false false true) (by simp [results, Tryd.results53, go_sem]) rfl ⟨rfl, ((Fr.refl _ _).alloc _).alloc _⟩
set_option maxRecDepth 100000 in
set_option maxHeartbeats 400000 in
theorem of_40 (w : World) : Calls Tryd.prog 53 #[.int .i64 40] w fun e w' => e = .returned (shapeV true false false false false false false true) ∧ New w w' := by
  go_enter Tryd.func53, Tryd.ntmps53
  go_wp2
  exact bodyPost_ret (v := shapeV true false false false false false false true) (by simp [results, Tryd.results53, go_sem]) rfl ⟨rfl, ((Fr.refl _ _).alloc _).alloc _⟩
set_option maxRecDepth 100000 in
set_option maxHeartbeats 400000 in
theorem of_41 (w : World) : Calls Tryd.prog 53 #[.int .i64 41] w fun e w' => e = .returned (shapeV true false false false false false false true) ∧ New w w' := by
  go_enter Tryd.func53, Tryd.ntmps53
  go_wp2
  exact bodyPost_ret (v := shapeV true false false false false false false true) (by simp [results, Tryd.results53, go_sem]) rfl ⟨rfl, ((Fr.refl _ _).alloc _).alloc _⟩
set_option maxRecDepth 100000 in
set_option maxHeartbeats 400000 in
theorem of_42 (w : World) : Calls Tryd.prog 53 #[.int .i64 42] w fun e w' => e = .returned (shapeV true false false false false false false true) ∧ New w w' := by
  go_enter Tryd.func53, Tryd.ntmps53
  go_wp2
  exact bodyPost_ret (v := shapeV true false false false false false false true) (by simp [results, Tryd.results53, go_sem]) rfl ⟨rfl, ((Fr.refl _ _).alloc _).alloc _⟩
set_option maxRecDepth 100000 in
set_option maxHeartbeats 400000 in
theorem of_43 (w : World) : Calls Tryd.prog 53 #[.int .i64 43] w fun e w' => e = .returned (shapeV true true false true true false false true) ∧ New w w' := by
  go_enter Tryd.func53, Tryd.ntmps53
  go_wp2
  exact bodyPost_ret (v := shapeV true true false true true false false true) (by simp [results, Tryd.results53, go_sem]) rfl ⟨rfl, ((Fr.refl _ _).alloc _).alloc _⟩
set_option maxRecDepth 100000 in
set_option maxHeartbeats 400000 in
theorem of_44 (w : World) : Calls Tryd.prog 53 #[.int .i64 44] w fun e w' => e = .returned (shapeV true false false false false false false true) ∧ New w w' := by
  go_enter Tryd.func53, Tryd.ntmps53
  go_wp2
  exact bodyPost_ret (v := shapeV true false false false false false false true) (by simp [results, Tryd.results53, go_sem]) rfl ⟨rfl, ((Fr.refl _ _).alloc _).alloc _⟩
set_option maxRecDepth 100000 in
set_option maxHeartbeats 400000 in
theorem of_45 (w : World) : Calls Tryd.prog 53 #[.int .i64 45] w fun e w' => e = .returned (shapeV true true false true false false false true) ∧ New w w' := by
  go_enter Tryd.func53, Tryd.ntmps53
  go_wp2
  exact bodyPost_ret (v := shapeV true true false true false false false true) (by simp [results, Tryd.results53, go_sem]) rfl ⟨rfl, ((Fr.refl _ _).alloc _).alloc _⟩
set_option maxRecDepth 100000 in
set_option maxHeartbeats 400000 in
theorem of_46 (w : World) : Calls Tryd.prog 53 #[.int .i64 46] w fun e w' => e = .returned (shapeV true false false false false false false true) ∧ New w w' := by
  go_enter Tryd.func53, Tryd.ntmps53
  go_wp2
  exact bodyPost_ret (v := shapeV true false false false false false false true) (by simp [results, Tryd.results53, go_sem]) rfl ⟨rfl, ((Fr.refl _ _).alloc _).alloc _⟩
set_option maxRecDepth 100000 in
set_option maxHeartbeats 400000 in
theorem of_47 (w : World) : Calls Tryd.prog 53 #[.int .i64 47] w fun e w' => e = .returned (shapeV true true false false false false false true) ∧ New w w' := by
  go_enter Tryd.func53, Tryd.ntmps53
  go_wp2
  exact bodyPost_ret (v := shapeV true true false false false false false true) (by simp [results, Tryd.results53, go_sem]) rfl ⟨rfl, ((Fr.refl _ _).alloc _).alloc _⟩
set_option maxRecDepth 100000 in
set_option maxHeartbeats 400000 in
theorem of_48 (w : World) : Calls Tryd.prog 53 #[.int .i64 48] w fun e w' => e = .returned (shapeV true true true false false false false true) ∧ New w w' := by
  go_enter Tryd.func53, Tryd.ntmps53
  go_wp2
  exact bodyPost_ret (v := shapeV true true true false false false false true) (by simp [results, Tryd.results53, go_sem]) rfl ⟨rfl, ((Fr.refl _ _).alloc _).alloc _⟩
set_option maxRecDepth 100000 in
set_option maxHeartbeats 400000 in
theorem of_49 (w : World) : Calls Tryd.prog 53 #[.int .i64 49] w fun e w' => e = .returned (shapeV true true false false false false false true) ∧ New w w' := by
  go_enter Tryd.func53, Tryd.ntmps53
  go_wp2
  exact bodyPost_ret (v := shapeV true true false false false false false true) (by simp [results, Tryd.results53, go_sem]) rfl ⟨rfl, ((Fr.refl _ _).alloc _).alloc _⟩
set_option maxRecDepth 100000 in
set_option maxHeartbeats 400000 in
theorem of_50 (w : World) : Calls Tryd.prog 53 #[.int .i64 50] w fun e w' => e = .returned (shapeV true true false false false false false true) ∧ New w w' := by
  go_enter Tryd.func53, Tryd.ntmps53
  go_wp2
  exact bodyPost_ret (v := shapeV true true false false false false false true) (by simp [results, Tryd.results53, go_sem]) rfl ⟨rfl, ((Fr.refl _ _).alloc _).alloc _⟩
set_option maxRecDepth 100000 in
set_option maxHeartbeats 400000 in
theorem of_51 (w : World) : Calls Tryd.prog 53 #[.int .i64 51] w fun e w' => e = .returned (shapeV true false false false false false false true) ∧ New w w' := by
  go_enter Tryd.func53, Tryd.ntmps53
  go_wp2
  exact bodyPost_ret (v := shapeV true false false false false false false true) (by simp [results, Tryd.results53, go_sem]) rfl ⟨rfl, ((Fr.refl _ _).alloc _).alloc _⟩
set_option maxRecDepth 100000 in
set_option maxHeartbeats 400000 in
theorem of_52 (w : World) : Calls Tryd.prog 53 #[.int .i64 52] w fun e w' => e = .returned (shapeV true false false false false false false true) ∧ New w w' := by
  go_enter Tryd.func53, Tryd.ntmps53
  go_wp2
  exact bodyPost_ret (v := shapeV true false false false false false false true) (by simp [results, Tryd.results53, go_sem]) rfl ⟨rfl, ((Fr.refl _ _).alloc _).alloc _⟩
set_option maxRecDepth 100000 in
set_option maxHeartbeats 400000 in
theorem of_53 (w : World) : Calls Tryd.prog 53 #[.int .i64 53] w fun e w' => e = .returned (shapeV true false false false false false false true) ∧ New w w' := by
  go_enter Tryd.func53, Tryd.ntmps53
  go_wp2
  exact bodyPost_ret (v := shapeV true false false false false false false true) (by simp [results, Tryd.results53, go_sem]) rfl ⟨rfl, ((Fr.refl _ _).alloc _).alloc _⟩
set_option maxRecDepth 100000 in
set_option maxHeartbeats 400000 in
theorem of_54 (w : World) : Calls Tryd.prog 53 #[.int .i64 54] w fun e w' => e = .returned (shapeV true true false false false false false true) ∧ New w w' := by
  go_enter Tryd.func53, Tryd.ntmps53
  go_wp2
  exact bodyPost_ret (v := shapeV true true false false false false false true) (by simp [results, Tryd.results53, go_sem]) rfl ⟨rfl, ((Fr.refl _ _).alloc _).alloc _⟩
set_option maxRecDepth 100000 in
set_option maxHeartbeats 400000 in
theorem of_55 (w : World) : Calls Tryd.prog 53 #[.int .i64 55] w fun e w' => e = .returned (shapeV false false false false false false false true) ∧ New w w' := by
  go_enter Tryd.func53, Tryd.ntmps53
  go_wp2
  exact bodyPost_ret (v := shapeV false false false false false false false true) (by simp [results, Tryd.results53, go_sem]) rfl ⟨rfl, ((Fr.refl _ _).alloc _).alloc _⟩
set_option maxRecDepth 100000 in
set_option maxHeartbeats 400000 in
theorem of_56 (w : World) : Calls Tryd.prog 53 #[.int .i64 56] w fun e w' => e = .returned (shapeV false false false false false false false true) ∧ New w w' := by
  go_enter Tryd.func53, Tryd.ntmps53
  go_wp2
  exact bodyPost_ret (v := shapeV false false false false false false false true) (by simp [results, Tryd.results53, go_sem]) rfl ⟨rfl, ((Fr.refl _ _).alloc _).alloc _⟩
set_option maxRecDepth 100000 in
set_option maxHeartbeats 400000 in
theorem of_57 (w : World) : Calls Tryd.prog 53 #[.int .i64 57] w fun e w' => e = .returned (shapeV true false false false false false false true) ∧ New w w' := by
  go_enter Tryd.func53, Tryd.ntmps53
  go_wp2
  exact bodyPost_ret (v := shapeV true false false false false false false true) (by simp [results, Tryd.results53, go_sem]) rfl ⟨rfl, ((Fr.refl _ _).alloc _).alloc _⟩
set_option maxRecDepth 100000 in
set_option maxHeartbeats 400000 in
theorem of_58 (w : World) : Calls Tryd.prog 53 #[.int .i64 58] w fun e w' => e = .returned (shapeV false false false false false false false true) ∧ New w w' := by
  go_enter Tryd.func53, Tryd.ntmps53
  go_wp2
  exact bodyPost_ret (v := shapeV false false false false false false false true) (by simp [results, Tryd.results53, go_sem]) rfl ⟨rfl, ((Fr.refl _ _).alloc _).alloc _⟩
set_option maxRecDepth 100000 in
set_option maxHeartbeats 1000000 in
theorem of_far (o : Int) (w : World) (h : o < 1 ∨ 58 < o) : Calls Tryd.prog 53 #[.int .i64 o] w fun e w' => e = .returned (shapeV false false false false false false false false) ∧ New w w' := by
  have t1 : (o == 1) = false := beq_eq_false_iff_ne.2 (by omega)
  have t2 : (o == 2) = false := beq_eq_false_iff_ne.2 (by omega)
  have t3 : (o == 3) = false := beq_eq_false_iff_ne.2 (by omega)
  have t4 : (o == 4) = false := beq_eq_false_iff_ne.2 (by omega)
  have t5 : (o == 5) = false := beq_eq_false_iff_ne.2 (by omega)
  have t6 : (o == 6) = false := beq_eq_false_iff_ne.2 (by omega)
  have t7 : (o == 7) = false := beq_eq_false_iff_ne.2 (by omega)
  have t8 : (o == 8) = false := beq_eq_false_iff_ne.2 (by omega)
  have t9 : (o == 9) = false := beq_eq_false_iff_ne.2 (by omega)
  have t10 : (o == 10) = false := beq_eq_false_iff_ne.2 (by omega)
  have t11 : (o == 11) = false := beq_eq_false_iff_ne.2 (by omega)
  have t12 : (o == 12) = false := beq_eq_false_iff_ne.2 (by omega)
  have t13 : (o == 13) = false := beq_eq_false_iff_ne.2 (by omega)
  have t14 : (o == 14) = false := beq_eq_false_iff_ne.2 (by omega)
  have t15 : (o == 15) = false := beq_eq_false_iff_ne.2 (by omega)
  have t16 : (o == 16) = false := beq_eq_false_iff_ne.2 (by omega)
  have t17 : (o == 17) = false := beq_eq_false_iff_ne.2 (by omega)
  have t18 : (o == 18) = false := beq_eq_false_iff_ne.2 (by omega)
  have t19 : (o == 19) = false := beq_eq_false_iff_ne.2 (by omega)
  have t20 : (o == 20) = false := beq_eq_false_iff_ne.2 (by omega)
  have t21 : (o == 21) = false := beq_eq_false_iff_ne.2 (by omega)
  have t22 : (o == 22) = false := beq_eq_false_iff_ne.2 (by omega)
  have t23 : (o == 23) = false := beq_eq_false_iff_ne.2 (by omega)
  have t24 : (o == 24) = false := beq_eq_false_iff_ne.2 (by omega)
  have t25 : (o == 25) = false := beq_eq_false_iff_ne.2 (by omega)
  have t26 : (o == 26) = false := beq_eq_false_iff_ne.2 (by omega)
  have t27 : (o == 27) = false := beq_eq_false_iff_ne.2 (by omega)
  have t28 : (o == 28) = false := beq_eq_false_iff_ne.2 (by omega)
  have t29 : (o == 29) = false := beq_eq_false_iff_ne.2 (by omega)
  have t30 : (o == 30) = false := beq_eq_false_iff_ne.2 (by omega)
  have t31 : (o == 31) = false := beq_eq_false_iff_ne.2 (by omega)
  have t32 : (o == 32) = false := beq_eq_false_iff_ne.2 (by omega)
  have t33 : (o == 33) = false := beq_eq_false_iff_ne.2 (by omega)
  have t34 : (o == 34) = false := beq_eq_false_iff_ne.2 (by omega)
  have t35 : (o == 35) = false := beq_eq_false_iff_ne.2 (by omega)
  have t36 : (o == 36) = false := beq_eq_false_iff_ne.2 (by omega)
  have t37 : (o == 37) = false := beq_eq_false_iff_ne.2 (by omega)
  have t38 : (o == 38) = false := beq_eq_false_iff_ne.2 (by omega)
  have t39 : (o == 39) = false := beq_eq_false_iff_ne.2 (by omega)
  have t40 : (o == 40) = false := beq_eq_false_iff_ne.2 (by omega)
  have t41 : (o == 41) = false := beq_eq_false_iff_ne.2 (by omega)
  have t42 : (o == 42) = false := beq_eq_false_iff_ne.2 (by omega)
  have t43 : (o == 43) = false := beq_eq_false_iff_ne.2 (by omega)
  have t44 : (o == 44) = false := beq_eq_false_iff_ne.2 (by omega)
  have t45 : (o == 45) = false := beq_eq_false_iff_ne.2 (by omega)
  have t46 : (o == 46) = false := beq_eq_false_iff_ne.2 (by omega)
  have t47 : (o == 47) = false := beq_eq_false_iff_ne.2 (by omega)
  have t48 : (o == 48) = false := beq_eq_false_iff_ne.2 (by omega)
  have t49 : (o == 49) = false := beq_eq_false_iff_ne.2 (by omega)
  have t50 : (o == 50) = false := beq_eq_false_iff_ne.2 (by omega)
  have t51 : (o == 51) = false := beq_eq_false_iff_ne.2 (by omega)
  have t52 : (o == 52) = false := beq_eq_false_iff_ne.2 (by omega)
  have t53 : (o == 53) = false := beq_eq_false_iff_ne.2 (by omega)
  have t54 : (o == 54) = false := beq_eq_false_iff_ne.2 (by omega)
  have t55 : (o == 55) = false := beq_eq_false_iff_ne.2 (by omega)
  have t56 : (o == 56) = false := beq_eq_false_iff_ne.2 (by omega)
  have t57 : (o == 57) = false := beq_eq_false_iff_ne.2 (by omega)
  have t58 : (o == 58) = false := beq_eq_false_iff_ne.2 (by omega)
  clear h
  go_enter Tryd.func53, Tryd.ntmps53
  go_wp2
  exact bodyPost_ret (v := shapeV false false false false false false false false) (by simp [results, Tryd.results53, go_sem]) rfl ⟨rfl, ((Fr.refl _ _).alloc _).alloc _⟩
theorem of_any (o : Int) (w : World) : Calls Tryd.prog 53 #[.int .i64 o] w fun e w' => e = .returned (shapeV (fA o) (fB o) (fC o) (fV o) (noB o) (noC o) (plc o) (isOp o)) ∧ New w w' := by
  by_cases h : o < 1 ∨ 58 < o
  · obtain ⟨h1, h2, h3, h4, h5, h6, h7, h8⟩ := far_of o h
    rw [h1, h2, h3, h4, h5, h6, h7, h8]; exact of_far o w h
  · rcases ops_all o h with rfl | rfl | rfl | rfl | rfl | rfl | rfl | rfl | rfl | rfl | rfl | rfl | rfl | rfl | rfl | rfl | rfl | rfl | rfl | rfl | rfl | rfl | rfl | rfl | rfl | rfl | rfl | rfl | rfl | rfl | rfl | rfl | rfl | rfl | rfl | rfl | rfl | rfl | rfl | rfl | rfl | rfl | rfl | rfl | rfl | rfl | rfl | rfl | rfl | rfl | rfl | rfl | rfl | rfl | rfl | rfl | rfl | rfl
    · exact of_1 w
    · exact of_2 w
    · exact of_3 w
    · exact of_4 w
    · exact of_5 w
    · exact of_6 w
    · exact of_7 w
    · exact of_8 w
    · exact of_9 w
    · exact of_10 w
    · exact of_11 w
    · exact of_12 w
    · exact of_13 w
    · exact of_14 w
    · exact of_15 w
    · exact of_16 w
    · exact of_17 w
    · exact of_18 w
    · exact of_19 w
    · exact of_20 w
    · exact of_21 w
    · exact of_22 w
    · exact of_23 w
    · exact of_24 w
    · exact of_25 w
    · exact of_26 w
    · exact of_27 w
    · exact of_28 w
    · exact of_29 w
    · exact of_30 w
    · exact of_31 w
    · exact of_32 w
    · exact of_33 w
    · exact of_34 w
    · exact of_35 w
    · exact of_36 w
    · exact of_37 w
    · exact of_38 w
    · exact of_39 w
    · exact of_40 w
    · exact of_41 w
    · exact of_42 w
    · exact of_43 w
    · exact of_44 w
    · exact of_45 w
    · exact of_46 w
    · exact of_47 w
    · exact of_48 w
    · exact of_49 w
    · exact of_50 w
    · exact of_51 w
    · exact of_52 w
    · exact of_53 w
    · exact of_54 w
    · exact of_55 w
    · exact of_56 w
    · exact of_57 w
    · exact of_58 w

end Go.Proofs.YtngpcalgjaglmaaDoor
