/- Which fields an instruction uses: both sides, op by op. (Printed by gen_code.py.) -/
import Derived.Test.YtngpcalgjaglmaaDoorLib
import Derived.Lib.Hide
namespace Go.Proofs.YtngpcalgjaglmaaDoor
open Go.RowKit

/-! Which fields an op uses; whether B, C may be -1; whether V is a place. -/
def fA (o : Int) : Bool := ([1, 2, 3, 4, 5, 6, 7, 8, 9, 10, 11, 13, 14, 17, 18, 19, 20, 21, 23, 24, 25, 26, 27, 28, 29, 30, 31, 32, 34, 35, 36, 37, 38, 39, 40, 41, 42, 43, 44, 45, 46, 47, 48, 49, 50, 51, 52, 53, 54, 57] : List Int).contains o
def fB (o : Int) : Bool := ([2, 3, 4, 5, 6, 7, 8, 9, 10, 11, 17, 18, 19, 20, 21, 23, 24, 25, 26, 27, 31, 32, 39, 43, 45, 47, 48, 49, 50, 54] : List Int).contains o
def fC (o : Int) : Bool := ([3, 4, 5, 6, 7, 8, 9, 10, 11, 21, 24, 25, 26, 27, 32, 48] : List Int).contains o
def fV (o : Int) : Bool := ([1, 3, 4, 5, 6, 7, 8, 9, 10, 11, 12, 13, 14, 15, 17, 18, 19, 20, 21, 22, 31, 32, 43, 45] : List Int).contains o
def noB (o : Int) : Bool := ([17, 18, 19, 20, 21, 31, 32, 43] : List Int).contains o
def noC (o : Int) : Bool := ([3, 4, 5, 6, 7, 8, 9, 10, 11] : List Int).contains o
def plc (o : Int) : Bool := ([12, 13, 14, 15] : List Int).contains o
def isOp (o : Int) : Bool := decide (1 ≤ o ∧ o ≤ 58)
theorem far_of (o : Int) (h : o < 1 ∨ 58 < o) : fA o = false ∧ fB o = false ∧ fC o = false ∧ fV o = false ∧ noB o = false ∧ noC o = false ∧ plc o = false ∧ isOp o = false := by
  have hl : ∀ l : List Int, (∀ k ∈ l, 1 ≤ k ∧ k ≤ 58) → l.contains o = false := by
    intro l hl
    rw [Bool.eq_false_iff]
    intro hc
    have := hl o (List.contains_iff_mem.1 hc)
    omega
  exact ⟨hl _ (by decide), hl _ (by decide), hl _ (by decide), hl _ (by decide), hl _ (by decide), hl _ (by decide), hl _ (by decide), decide_eq_false (by omega)⟩

set_option maxRecDepth 100000 in
set_option maxHeartbeats 400000 in
theorem fields_1 (w : World) : Calls Tryd.prog 70 #[.int .i64 1] w fun e w' => e = .returned (.tuple #[.bool true, .bool false, .bool false, .bool true]) ∧ w = w' := by
  go_enter Tryd.func70, Tryd.ntmps70
  go_wp2
  exact bodyPost_ret (v := .tuple #[.bool true, .bool false, .bool false, .bool true]) (by simp [results, Tryd.results70, go_sem]) rfl ⟨rfl, rfl⟩
set_option maxRecDepth 100000 in
set_option maxHeartbeats 400000 in
theorem fields_2 (w : World) : Calls Tryd.prog 70 #[.int .i64 2] w fun e w' => e = .returned (.tuple #[.bool true, .bool true, .bool false, .bool false]) ∧ w = w' := by
  go_enter Tryd.func70, Tryd.ntmps70
  go_wp2
  exact bodyPost_ret (v := .tuple #[.bool true, .bool true, .bool false, .bool false]) (by simp [results, Tryd.results70, go_sem]) rfl ⟨rfl, rfl⟩
set_option maxRecDepth 100000 in
set_option maxHeartbeats 400000 in
theorem fields_3 (w : World) : Calls Tryd.prog 70 #[.int .i64 3] w fun e w' => e = .returned (.tuple #[.bool true, .bool true, .bool true, .bool true]) ∧ w = w' := by
  go_enter Tryd.func70, Tryd.ntmps70
  go_wp2
  exact bodyPost_ret (v := .tuple #[.bool true, .bool true, .bool true, .bool true]) (by simp [results, Tryd.results70, go_sem]) rfl ⟨rfl, rfl⟩
set_option maxRecDepth 100000 in
set_option maxHeartbeats 400000 in
theorem fields_4 (w : World) : Calls Tryd.prog 70 #[.int .i64 4] w fun e w' => e = .returned (.tuple #[.bool true, .bool true, .bool true, .bool true]) ∧ w = w' := by
  go_enter Tryd.func70, Tryd.ntmps70
  go_wp2
  exact bodyPost_ret (v := .tuple #[.bool true, .bool true, .bool true, .bool true]) (by simp [results, Tryd.results70, go_sem]) rfl ⟨rfl, rfl⟩
set_option maxRecDepth 100000 in
set_option maxHeartbeats 400000 in
theorem fields_5 (w : World) : Calls Tryd.prog 70 #[.int .i64 5] w fun e w' => e = .returned (.tuple #[.bool true, .bool true, .bool true, .bool true]) ∧ w = w' := by
  go_enter Tryd.func70, Tryd.ntmps70
  go_wp2
  exact bodyPost_ret (v := .tuple #[.bool true, .bool true, .bool true, .bool true]) (by simp [results, Tryd.results70, go_sem]) rfl ⟨rfl, rfl⟩
set_option maxRecDepth 100000 in
set_option maxHeartbeats 400000 in
theorem fields_6 (w : World) : Calls Tryd.prog 70 #[.int .i64 6] w fun e w' => e = .returned (.tuple #[.bool true, .bool true, .bool true, .bool true]) ∧ w = w' := by
  go_enter Tryd.func70, Tryd.ntmps70
  go_wp2
  exact bodyPost_ret (v := .tuple #[.bool true, .bool true, .bool true, .bool true]) (by simp [results, Tryd.results70, go_sem]) rfl ⟨rfl, rfl⟩
set_option maxRecDepth 100000 in
set_option maxHeartbeats 400000 in
theorem fields_7 (w : World) : Calls Tryd.prog 70 #[.int .i64 7] w fun e w' => e = .returned (.tuple #[.bool true, .bool true, .bool true, .bool true]) ∧ w = w' := by
  go_enter Tryd.func70, Tryd.ntmps70
  go_wp2
  exact bodyPost_ret (v := .tuple #[.bool true, .bool true, .bool true, .bool true]) (by simp [results, Tryd.results70, go_sem]) rfl ⟨rfl, rfl⟩
set_option maxRecDepth 100000 in
set_option maxHeartbeats 400000 in
theorem fields_8 (w : World) : Calls Tryd.prog 70 #[.int .i64 8] w fun e w' => e = .returned (.tuple #[.bool true, .bool true, .bool true, .bool true]) ∧ w = w' := by
  go_enter Tryd.func70, Tryd.ntmps70
  go_wp2
  exact bodyPost_ret (v := .tuple #[.bool true, .bool true, .bool true, .bool true]) (by simp [results, Tryd.results70, go_sem]) rfl ⟨rfl, rfl⟩
set_option maxRecDepth 100000 in
set_option maxHeartbeats 400000 in
theorem fields_9 (w : World) : Calls Tryd.prog 70 #[.int .i64 9] w fun e w' => e = .returned (.tuple #[.bool true, .bool true, .bool true, .bool true]) ∧ w = w' := by
  go_enter Tryd.func70, Tryd.ntmps70
  go_wp2
  exact bodyPost_ret (v := .tuple #[.bool true, .bool true, .bool true, .bool true]) (by simp [results, Tryd.results70, go_sem]) rfl ⟨rfl, rfl⟩
set_option maxRecDepth 100000 in
set_option maxHeartbeats 400000 in
theorem fields_10 (w : World) : Calls Tryd.prog 70 #[.int .i64 10] w fun e w' => e = .returned (.tuple #[.bool true, .bool true, .bool true, .bool true]) ∧ w = w' := by
  go_enter Tryd.func70, Tryd.ntmps70
  go_wp2
  exact bodyPost_ret (v := .tuple #[.bool true, .bool true, .bool true, .bool true]) (by simp [results, Tryd.results70, go_sem]) rfl ⟨rfl, rfl⟩
set_option maxRecDepth 100000 in
set_option maxHeartbeats 400000 in
theorem fields_11 (w : World) : Calls Tryd.prog 70 #[.int .i64 11] w fun e w' => e = .returned (.tuple #[.bool true, .bool true, .bool true, .bool true]) ∧ w = w' := by
  go_enter Tryd.func70, Tryd.ntmps70
  go_wp2
  exact bodyPost_ret (v := .tuple #[.bool true, .bool true, .bool true, .bool true]) (by simp [results, Tryd.results70, go_sem]) rfl ⟨rfl, rfl⟩
set_option maxRecDepth 100000 in
set_option maxHeartbeats 400000 in
theorem fields_12 (w : World) : Calls Tryd.prog 70 #[.int .i64 12] w fun e w' => e = .returned (.tuple #[.bool false, .bool false, .bool false, .bool true]) ∧ w = w' := by
  go_enter Tryd.func70, Tryd.ntmps70
  go_wp2
  exact bodyPost_ret (v := .tuple #[.bool false, .bool false, .bool false, .bool true]) (by simp [results, Tryd.results70, go_sem]) rfl ⟨rfl, rfl⟩
set_option maxRecDepth 100000 in
set_option maxHeartbeats 400000 in
theorem fields_13 (w : World) : Calls Tryd.prog 70 #[.int .i64 13] w fun e w' => e = .returned (.tuple #[.bool true, .bool false, .bool false, .bool true]) ∧ w = w' := by
  go_enter Tryd.func70, Tryd.ntmps70
  go_wp2
  exact bodyPost_ret (v := .tuple #[.bool true, .bool false, .bool false, .bool true]) (by simp [results, Tryd.results70, go_sem]) rfl ⟨rfl, rfl⟩
set_option maxRecDepth 100000 in
set_option maxHeartbeats 400000 in
theorem fields_14 (w : World) : Calls Tryd.prog 70 #[.int .i64 14] w fun e w' => e = .returned (.tuple #[.bool true, .bool false, .bool false, .bool true]) ∧ w = w' := by
  go_enter Tryd.func70, Tryd.ntmps70
  go_wp2
  exact bodyPost_ret (v := .tuple #[.bool true, .bool false, .bool false, .bool true]) (by simp [results, Tryd.results70, go_sem]) rfl ⟨rfl, rfl⟩
set_option maxRecDepth 100000 in
set_option maxHeartbeats 400000 in
theorem fields_15 (w : World) : Calls Tryd.prog 70 #[.int .i64 15] w fun e w' => e = .returned (.tuple #[.bool false, .bool false, .bool false, .bool true]) ∧ w = w' := by
  go_enter Tryd.func70, Tryd.ntmps70
  go_wp2
  exact bodyPost_ret (v := .tuple #[.bool false, .bool false, .bool false, .bool true]) (by simp [results, Tryd.results70, go_sem]) rfl ⟨rfl, rfl⟩
set_option maxRecDepth 100000 in
set_option maxHeartbeats 400000 in
theorem fields_16 (w : World) : Calls Tryd.prog 70 #[.int .i64 16] w fun e w' => e = .returned (.tuple #[.bool false, .bool false, .bool false, .bool false]) ∧ w = w' := by
  go_enter Tryd.func70, Tryd.ntmps70
  go_wp2
  exact bodyPost_ret (v := .tuple #[.bool false, .bool false, .bool false, .bool false]) (by simp [results, Tryd.results70, go_sem]) rfl ⟨rfl, rfl⟩
set_option maxRecDepth 100000 in
set_option maxHeartbeats 400000 in
theorem fields_17 (w : World) : Calls Tryd.prog 70 #[.int .i64 17] w fun e w' => e = .returned (.tuple #[.bool true, .bool true, .bool false, .bool true]) ∧ w = w' := by
  go_enter Tryd.func70, Tryd.ntmps70
  go_wp2
  exact bodyPost_ret (v := .tuple #[.bool true, .bool true, .bool false, .bool true]) (by simp [results, Tryd.results70, go_sem]) rfl ⟨rfl, rfl⟩
set_option maxRecDepth 100000 in
set_option maxHeartbeats 400000 in
theorem fields_18 (w : World) : Calls Tryd.prog 70 #[.int .i64 18] w fun e w' => e = .returned (.tuple #[.bool true, .bool true, .bool false, .bool true]) ∧ w = w' := by
  go_enter Tryd.func70, Tryd.ntmps70
  go_wp2
  exact bodyPost_ret (v := .tuple #[.bool true, .bool true, .bool false, .bool true]) (by simp [results, Tryd.results70, go_sem]) rfl ⟨rfl, rfl⟩
set_option maxRecDepth 100000 in
set_option maxHeartbeats 400000 in
theorem fields_19 (w : World) : Calls Tryd.prog 70 #[.int .i64 19] w fun e w' => e = .returned (.tuple #[.bool true, .bool true, .bool false, .bool true]) ∧ w = w' := by
  go_enter Tryd.func70, Tryd.ntmps70
  go_wp2
  exact bodyPost_ret (v := .tuple #[.bool true, .bool true, .bool false, .bool true]) (by simp [results, Tryd.results70, go_sem]) rfl ⟨rfl, rfl⟩
set_option maxRecDepth 100000 in
set_option maxHeartbeats 400000 in
theorem fields_20 (w : World) : Calls Tryd.prog 70 #[.int .i64 20] w fun e w' => e = .returned (.tuple #[.bool true, .bool true, .bool false, .bool true]) ∧ w = w' := by
  go_enter Tryd.func70, Tryd.ntmps70
  go_wp2
  exact bodyPost_ret (v := .tuple #[.bool true, .bool true, .bool false, .bool true]) (by simp [results, Tryd.results70, go_sem]) rfl ⟨rfl, rfl⟩
set_option maxRecDepth 100000 in
set_option maxHeartbeats 400000 in
theorem fields_21 (w : World) : Calls Tryd.prog 70 #[.int .i64 21] w fun e w' => e = .returned (.tuple #[.bool true, .bool true, .bool true, .bool true]) ∧ w = w' := by
  go_enter Tryd.func70, Tryd.ntmps70
  go_wp2
  exact bodyPost_ret (v := .tuple #[.bool true, .bool true, .bool true, .bool true]) (by simp [results, Tryd.results70, go_sem]) rfl ⟨rfl, rfl⟩
set_option maxRecDepth 100000 in
set_option maxHeartbeats 400000 in
theorem fields_22 (w : World) : Calls Tryd.prog 70 #[.int .i64 22] w fun e w' => e = .returned (.tuple #[.bool false, .bool false, .bool false, .bool true]) ∧ w = w' := by
  go_enter Tryd.func70, Tryd.ntmps70
  go_wp2
  exact bodyPost_ret (v := .tuple #[.bool false, .bool false, .bool false, .bool true]) (by simp [results, Tryd.results70, go_sem]) rfl ⟨rfl, rfl⟩
set_option maxRecDepth 100000 in
set_option maxHeartbeats 400000 in
theorem fields_23 (w : World) : Calls Tryd.prog 70 #[.int .i64 23] w fun e w' => e = .returned (.tuple #[.bool true, .bool true, .bool false, .bool false]) ∧ w = w' := by
  go_enter Tryd.func70, Tryd.ntmps70
  go_wp2
  exact bodyPost_ret (v := .tuple #[.bool true, .bool true, .bool false, .bool false]) (by simp [results, Tryd.results70, go_sem]) rfl ⟨rfl, rfl⟩
set_option maxRecDepth 100000 in
set_option maxHeartbeats 400000 in
theorem fields_24 (w : World) : Calls Tryd.prog 70 #[.int .i64 24] w fun e w' => e = .returned (.tuple #[.bool true, .bool true, .bool true, .bool false]) ∧ w = w' := by
  go_enter Tryd.func70, Tryd.ntmps70
  go_wp2
  exact bodyPost_ret (v := .tuple #[.bool true, .bool true, .bool true, .bool false]) (by simp [results, Tryd.results70, go_sem]) rfl ⟨rfl, rfl⟩
set_option maxRecDepth 100000 in
set_option maxHeartbeats 400000 in
theorem fields_25 (w : World) : Calls Tryd.prog 70 #[.int .i64 25] w fun e w' => e = .returned (.tuple #[.bool true, .bool true, .bool true, .bool false]) ∧ w = w' := by
  go_enter Tryd.func70, Tryd.ntmps70
  go_wp2
  exact bodyPost_ret (v := .tuple #[.bool true, .bool true, .bool true, .bool false]) (by simp [results, Tryd.results70, go_sem]) rfl ⟨rfl, rfl⟩
set_option maxRecDepth 100000 in
set_option maxHeartbeats 400000 in
theorem fields_26 (w : World) : Calls Tryd.prog 70 #[.int .i64 26] w fun e w' => e = .returned (.tuple #[.bool true, .bool true, .bool true, .bool false]) ∧ w = w' := by
  go_enter Tryd.func70, Tryd.ntmps70
  go_wp2
  exact bodyPost_ret (v := .tuple #[.bool true, .bool true, .bool true, .bool false]) (by simp [results, Tryd.results70, go_sem]) rfl ⟨rfl, rfl⟩
set_option maxRecDepth 100000 in
set_option maxHeartbeats 400000 in
theorem fields_27 (w : World) : Calls Tryd.prog 70 #[.int .i64 27] w fun e w' => e = .returned (.tuple #[.bool true, .bool true, .bool true, .bool false]) ∧ w = w' := by
  go_enter Tryd.func70, Tryd.ntmps70
  go_wp2
  exact bodyPost_ret (v := .tuple #[.bool true, .bool true, .bool true, .bool false]) (by simp [results, Tryd.results70, go_sem]) rfl ⟨rfl, rfl⟩
set_option maxRecDepth 100000 in
set_option maxHeartbeats 400000 in
theorem fields_28 (w : World) : Calls Tryd.prog 70 #[.int .i64 28] w fun e w' => e = .returned (.tuple #[.bool true, .bool false, .bool false, .bool false]) ∧ w = w' := by
  go_enter Tryd.func70, Tryd.ntmps70
  go_wp2
  exact bodyPost_ret (v := .tuple #[.bool true, .bool false, .bool false, .bool false]) (by simp [results, Tryd.results70, go_sem]) rfl ⟨rfl, rfl⟩
set_option maxRecDepth 100000 in
set_option maxHeartbeats 400000 in
theorem fields_29 (w : World) : Calls Tryd.prog 70 #[.int .i64 29] w fun e w' => e = .returned (.tuple #[.bool true, .bool false, .bool false, .bool false]) ∧ w = w' := by
  go_enter Tryd.func70, Tryd.ntmps70
  go_wp2
  exact bodyPost_ret (v := .tuple #[.bool true, .bool false, .bool false, .bool false]) (by simp [results, Tryd.results70, go_sem]) rfl ⟨rfl, rfl⟩
set_option maxRecDepth 100000 in
set_option maxHeartbeats 400000 in
theorem fields_30 (w : World) : Calls Tryd.prog 70 #[.int .i64 30] w fun e w' => e = .returned (.tuple #[.bool true, .bool false, .bool false, .bool false]) ∧ w = w' := by
  go_enter Tryd.func70, Tryd.ntmps70
  go_wp2
  exact bodyPost_ret (v := .tuple #[.bool true, .bool false, .bool false, .bool false]) (by simp [results, Tryd.results70, go_sem]) rfl ⟨rfl, rfl⟩
set_option maxRecDepth 100000 in
set_option maxHeartbeats 400000 in
theorem fields_31 (w : World) : Calls Tryd.prog 70 #[.int .i64 31] w fun e w' => e = .returned (.tuple #[.bool true, .bool true, .bool false, .bool true]) ∧ w = w' := by
  go_enter Tryd.func70, Tryd.ntmps70
  go_wp2
  exact bodyPost_ret (v := .tuple #[.bool true, .bool true, .bool false, .bool true]) (by simp [results, Tryd.results70, go_sem]) rfl ⟨rfl, rfl⟩
set_option maxRecDepth 100000 in
set_option maxHeartbeats 400000 in
theorem fields_32 (w : World) : Calls Tryd.prog 70 #[.int .i64 32] w fun e w' => e = .returned (.tuple #[.bool true, .bool true, .bool true, .bool true]) ∧ w = w' := by
  go_enter Tryd.func70, Tryd.ntmps70
  go_wp2
  exact bodyPost_ret (v := .tuple #[.bool true, .bool true, .bool true, .bool true]) (by simp [results, Tryd.results70, go_sem]) rfl ⟨rfl, rfl⟩
set_option maxRecDepth 100000 in
set_option maxHeartbeats 400000 in
theorem fields_33 (w : World) : Calls Tryd.prog 70 #[.int .i64 33] w fun e w' => e = .returned (.tuple #[.bool false, .bool false, .bool false, .bool false]) ∧ w = w' := by
  go_enter Tryd.func70, Tryd.ntmps70
  go_wp2
  exact bodyPost_ret (v := .tuple #[.bool false, .bool false, .bool false, .bool false]) (by simp [results, Tryd.results70, go_sem]) rfl ⟨rfl, rfl⟩
set_option maxRecDepth 100000 in
set_option maxHeartbeats 400000 in
theorem fields_34 (w : World) : Calls Tryd.prog 70 #[.int .i64 34] w fun e w' => e = .returned (.tuple #[.bool true, .bool false, .bool false, .bool false]) ∧ w = w' := by
  go_enter Tryd.func70, Tryd.ntmps70
  go_wp2
  exact bodyPost_ret (v := .tuple #[.bool true, .bool false, .bool false, .bool false]) (by simp [results, Tryd.results70, go_sem]) rfl ⟨rfl, rfl⟩
set_option maxRecDepth 100000 in
set_option maxHeartbeats 400000 in
theorem fields_35 (w : World) : Calls Tryd.prog 70 #[.int .i64 35] w fun e w' => e = .returned (.tuple #[.bool true, .bool false, .bool false, .bool false]) ∧ w = w' := by
  go_enter Tryd.func70, Tryd.ntmps70
  go_wp2
  exact bodyPost_ret (v := .tuple #[.bool true, .bool false, .bool false, .bool false]) (by simp [results, Tryd.results70, go_sem]) rfl ⟨rfl, rfl⟩
set_option maxRecDepth 100000 in
set_option maxHeartbeats 400000 in
theorem fields_36 (w : World) : Calls Tryd.prog 70 #[.int .i64 36] w fun e w' => e = .returned (.tuple #[.bool true, .bool false, .bool false, .bool false]) ∧ w = w' := by
  go_enter Tryd.func70, Tryd.ntmps70
  go_wp2
  exact bodyPost_ret (v := .tuple #[.bool true, .bool false, .bool false, .bool false]) (by simp [results, Tryd.results70, go_sem]) rfl ⟨rfl, rfl⟩
set_option maxRecDepth 100000 in
set_option maxHeartbeats 400000 in
theorem fields_37 (w : World) : Calls Tryd.prog 70 #[.int .i64 37] w fun e w' => e = .returned (.tuple #[.bool true, .bool false, .bool false, .bool false]) ∧ w = w' := by
  go_enter Tryd.func70, Tryd.ntmps70
  go_wp2
  exact bodyPost_ret (v := .tuple #[.bool true, .bool false, .bool false, .bool false]) (by simp [results, Tryd.results70, go_sem]) rfl ⟨rfl, rfl⟩
set_option maxRecDepth 100000 in
set_option maxHeartbeats 400000 in
theorem fields_38 (w : World) : Calls Tryd.prog 70 #[.int .i64 38] w fun e w' => e = .returned (.tuple #[.bool true, .bool false, .bool false, .bool false]) ∧ w = w' := by
  go_enter Tryd.func70, Tryd.ntmps70
  go_wp2
  exact bodyPost_ret (v := .tuple #[.bool true, .bool false, .bool false, .bool false]) (by simp [results, Tryd.results70, go_sem]) rfl ⟨rfl, rfl⟩
set_option maxRecDepth 100000 in
set_option maxHeartbeats 400000 in
theorem fields_39 (w : World) : Calls Tryd.prog 70 #[.int .i64 39] w fun e w' => e = .returned (.tuple #[.bool true, .bool true, .bool false, .bool false]) ∧ w = w' := by
  go_enter Tryd.func70, Tryd.ntmps70
  go_wp2
  exact bodyPost_ret (v := .tuple #[.bool true, .bool true, .bool false, .bool false]) (by simp [results, Tryd.results70, go_sem]) rfl ⟨rfl, rfl⟩
set_option maxRecDepth 100000 in
set_option maxHeartbeats 400000 in
theorem fields_40 (w : World) : Calls Tryd.prog 70 #[.int .i64 40] w fun e w' => e = .returned (.tuple #[.bool true, .bool false, .bool false, .bool false]) ∧ w = w' := by
  go_enter Tryd.func70, Tryd.ntmps70
  go_wp2
  exact bodyPost_ret (v := .tuple #[.bool true, .bool false, .bool false, .bool false]) (by simp [results, Tryd.results70, go_sem]) rfl ⟨rfl, rfl⟩
set_option maxRecDepth 100000 in
set_option maxHeartbeats 400000 in
theorem fields_41 (w : World) : Calls Tryd.prog 70 #[.int .i64 41] w fun e w' => e = .returned (.tuple #[.bool true, .bool false, .bool false, .bool false]) ∧ w = w' := by
  go_enter Tryd.func70, Tryd.ntmps70
  go_wp2
  exact bodyPost_ret (v := .tuple #[.bool true, .bool false, .bool false, .bool false]) (by simp [results, Tryd.results70, go_sem]) rfl ⟨rfl, rfl⟩
set_option maxRecDepth 100000 in
set_option maxHeartbeats 400000 in
theorem fields_42 (w : World) : Calls Tryd.prog 70 #[.int .i64 42] w fun e w' => e = .returned (.tuple #[.bool true, .bool false, .bool false, .bool false]) ∧ w = w' := by
  go_enter Tryd.func70, Tryd.ntmps70
  go_wp2
  exact bodyPost_ret (v := .tuple #[.bool true, .bool false, .bool false, .bool false]) (by simp [results, Tryd.results70, go_sem]) rfl ⟨rfl, rfl⟩
set_option maxRecDepth 100000 in
set_option maxHeartbeats 400000 in
theorem fields_43 (w : World) : Calls Tryd.prog 70 #[.int .i64 43] w fun e w' => e = .returned (.tuple #[.bool true, .bool true, .bool false, .bool true]) ∧ w = w' := by
  go_enter Tryd.func70, Tryd.ntmps70
  go_wp2
  exact bodyPost_ret (v := .tuple #[.bool true, .bool true, .bool false, .bool true]) (by simp [results, Tryd.results70, go_sem]) rfl ⟨rfl, rfl⟩
set_option maxRecDepth 100000 in
set_option maxHeartbeats 400000 in
theorem fields_44 (w : World) : Calls Tryd.prog 70 #[.int .i64 44] w fun e w' => e = .returned (.tuple #[.bool true, .bool false, .bool false, .bool false]) ∧ w = w' := by
  go_enter Tryd.func70, Tryd.ntmps70
  go_wp2
  exact bodyPost_ret (v := .tuple #[.bool true, .bool false, .bool false, .bool false]) (by simp [results, Tryd.results70, go_sem]) rfl ⟨rfl, rfl⟩
set_option maxRecDepth 100000 in
set_option maxHeartbeats 400000 in
theorem fields_45 (w : World) : Calls Tryd.prog 70 #[.int .i64 45] w fun e w' => e = .returned (.tuple #[.bool true, .bool true, .bool false, .bool true]) ∧ w = w' := by
  go_enter Tryd.func70, Tryd.ntmps70
  go_wp2
  exact bodyPost_ret (v := .tuple #[.bool true, .bool true, .bool false, .bool true]) (by simp [results, Tryd.results70, go_sem]) rfl ⟨rfl, rfl⟩
set_option maxRecDepth 100000 in
set_option maxHeartbeats 400000 in
theorem fields_46 (w : World) : Calls Tryd.prog 70 #[.int .i64 46] w fun e w' => e = .returned (.tuple #[.bool true, .bool false, .bool false, .bool false]) ∧ w = w' := by
  go_enter Tryd.func70, Tryd.ntmps70
  go_wp2
  exact bodyPost_ret (v := .tuple #[.bool true, .bool false, .bool false, .bool false]) (by simp [results, Tryd.results70, go_sem]) rfl ⟨rfl, rfl⟩
set_option maxRecDepth 100000 in
set_option maxHeartbeats 400000 in
theorem fields_47 (w : World) : Calls Tryd.prog 70 #[.int .i64 47] w fun e w' => e = .returned (.tuple #[.bool true, .bool true, .bool false, .bool false]) ∧ w = w' := by
  go_enter Tryd.func70, Tryd.ntmps70
  go_wp2
  exact bodyPost_ret (v := .tuple #[.bool true, .bool true, .bool false, .bool false]) (by simp [results, Tryd.results70, go_sem]) rfl ⟨rfl, rfl⟩
set_option maxRecDepth 100000 in
set_option maxHeartbeats 400000 in
theorem fields_48 (w : World) : Calls Tryd.prog 70 #[.int .i64 48] w fun e w' => e = .returned (.tuple #[.bool true, .bool true, .bool true, .bool false]) ∧ w = w' := by
  go_enter Tryd.func70, Tryd.ntmps70
  go_wp2
  exact bodyPost_ret (v := .tuple #[.bool true, .bool true, .bool true, .bool false]) (by simp [results, Tryd.results70, go_sem]) rfl ⟨rfl, rfl⟩
set_option maxRecDepth 100000 in
set_option maxHeartbeats 400000 in
theorem fields_49 (w : World) : Calls Tryd.prog 70 #[.int .i64 49] w fun e w' => e = .returned (.tuple #[.bool true, .bool true, .bool false, .bool false]) ∧ w = w' := by
  go_enter Tryd.func70, Tryd.ntmps70
  go_wp2
  exact bodyPost_ret (v := .tuple #[.bool true, .bool true, .bool false, .bool false]) (by simp [results, Tryd.results70, go_sem]) rfl ⟨rfl, rfl⟩
set_option maxRecDepth 100000 in
set_option maxHeartbeats 400000 in
theorem fields_50 (w : World) : Calls Tryd.prog 70 #[.int .i64 50] w fun e w' => e = .returned (.tuple #[.bool true, .bool true, .bool false, .bool false]) ∧ w = w' := by
  go_enter Tryd.func70, Tryd.ntmps70
  go_wp2
  exact bodyPost_ret (v := .tuple #[.bool true, .bool true, .bool false, .bool false]) (by simp [results, Tryd.results70, go_sem]) rfl ⟨rfl, rfl⟩
set_option maxRecDepth 100000 in
set_option maxHeartbeats 400000 in
theorem fields_51 (w : World) : Calls Tryd.prog 70 #[.int .i64 51] w fun e w' => e = .returned (.tuple #[.bool true, .bool false, .bool false, .bool false]) ∧ w = w' := by
  go_enter Tryd.func70, Tryd.ntmps70
  go_wp2
  exact bodyPost_ret (v := .tuple #[.bool true, .bool false, .bool false, .bool false]) (by simp [results, Tryd.results70, go_sem]) rfl ⟨rfl, rfl⟩
set_option maxRecDepth 100000 in
set_option maxHeartbeats 400000 in
theorem fields_52 (w : World) : Calls Tryd.prog 70 #[.int .i64 52] w fun e w' => e = .returned (.tuple #[.bool true, .bool false, .bool false, .bool false]) ∧ w = w' := by
  go_enter Tryd.func70, Tryd.ntmps70
  go_wp2
  exact bodyPost_ret (v := .tuple #[.bool true, .bool false, .bool false, .bool false]) (by simp [results, Tryd.results70, go_sem]) rfl ⟨rfl, rfl⟩
set_option maxRecDepth 100000 in
set_option maxHeartbeats 400000 in
theorem fields_53 (w : World) : Calls Tryd.prog 70 #[.int .i64 53] w fun e w' => e = .returned (.tuple #[.bool true, .bool false, .bool false, .bool false]) ∧ w = w' := by
  go_enter Tryd.func70, Tryd.ntmps70
  go_wp2
  exact bodyPost_ret (v := .tuple #[.bool true, .bool false, .bool false, .bool false]) (by simp [results, Tryd.results70, go_sem]) rfl ⟨rfl, rfl⟩
set_option maxRecDepth 100000 in
set_option maxHeartbeats 400000 in
theorem fields_54 (w : World) : Calls Tryd.prog 70 #[.int .i64 54] w fun e w' => e = .returned (.tuple #[.bool true, .bool true, .bool false, .bool false]) ∧ w = w' := by
  go_enter Tryd.func70, Tryd.ntmps70
  go_wp2
  exact bodyPost_ret (v := .tuple #[.bool true, .bool true, .bool false, .bool false]) (by simp [results, Tryd.results70, go_sem]) rfl ⟨rfl, rfl⟩
set_option maxRecDepth 100000 in
set_option maxHeartbeats 400000 in
theorem fields_55 (w : World) : Calls Tryd.prog 70 #[.int .i64 55] w fun e w' => e = .returned (.tuple #[.bool false, .bool false, .bool false, .bool false]) ∧ w = w' := by
  go_enter Tryd.func70, Tryd.ntmps70
  go_wp2
  exact bodyPost_ret (v := .tuple #[.bool false, .bool false, .bool false, .bool false]) (by simp [results, Tryd.results70, go_sem]) rfl ⟨rfl, rfl⟩
set_option maxRecDepth 100000 in
set_option maxHeartbeats 400000 in
theorem fields_56 (w : World) : Calls Tryd.prog 70 #[.int .i64 56] w fun e w' => e = .returned (.tuple #[.bool false, .bool false, .bool false, .bool false]) ∧ w = w' := by
  go_enter Tryd.func70, Tryd.ntmps70
  go_wp2
  exact bodyPost_ret (v := .tuple #[.bool false, .bool false, .bool false, .bool false]) (by simp [results, Tryd.results70, go_sem]) rfl ⟨rfl, rfl⟩
set_option maxRecDepth 100000 in
set_option maxHeartbeats 400000 in
theorem fields_57 (w : World) : Calls Tryd.prog 70 #[.int .i64 57] w fun e w' => e = .returned (.tuple #[.bool true, .bool false, .bool false, .bool false]) ∧ w = w' := by
  go_enter Tryd.func70, Tryd.ntmps70
  go_wp2
  exact bodyPost_ret (v := .tuple #[.bool true, .bool false, .bool false, .bool false]) (by simp [results, Tryd.results70, go_sem]) rfl ⟨rfl, rfl⟩
set_option maxRecDepth 100000 in
set_option maxHeartbeats 400000 in
theorem fields_58 (w : World) : Calls Tryd.prog 70 #[.int .i64 58] w fun e w' => e = .returned (.tuple #[.bool false, .bool false, .bool false, .bool false]) ∧ w = w' := by
  go_enter Tryd.func70, Tryd.ntmps70
  go_wp2
  exact bodyPost_ret (v := .tuple #[.bool false, .bool false, .bool false, .bool false]) (by simp [results, Tryd.results70, go_sem]) rfl ⟨rfl, rfl⟩
set_option maxRecDepth 100000 in
set_option maxHeartbeats 1000000 in
theorem fields_far (o : Int) (w : World) (h : o < 1 ∨ 58 < o) : Calls Tryd.prog 70 #[.int .i64 o] w fun e w' => e = .returned (.tuple #[.bool false, .bool false, .bool false, .bool false]) ∧ w = w' := by
  have t1 : (o == 1) = false := beq_eq_false_iff_ne.2 (by omega)
  have t2 : (o == 2) = false := beq_eq_false_iff_ne.2 (by omega)
  have t3 : (o == 3) = false := beq_eq_false_iff_ne.2 (by omega)
  have t4 : (o == 4) = false := beq_eq_false_iff_ne.2 (by omega)
  have t5 : (o == 5) = false := beq_eq_false_iff_ne.2 (by omega)
  have t6 : (o == 6) = false := beq_eq_false_iff_ne.2 (by omega)
  have t7 : (o == 7) = false := beq_eq_false_iff_ne.2 (by omega)
  have t8 : (o == 8) = false := beq_eq_false_iff_ne.2 (by omega)
  have t9 : (o == 9) = false := beq_eq_false_iff_ne.2 (by omega)
  have t10 : (o == 10) = false := beq_eq_false_iff_ne.2 (by omega)
  have t11 : (o == 11) = false := beq_eq_false_iff_ne.2 (by omega)
  have t12 : (o == 12) = false := beq_eq_false_iff_ne.2 (by omega)
  have t13 : (o == 13) = false := beq_eq_false_iff_ne.2 (by omega)
  have t14 : (o == 14) = false := beq_eq_false_iff_ne.2 (by omega)
  have t15 : (o == 15) = false := beq_eq_false_iff_ne.2 (by omega)
  have t16 : (o == 16) = false := beq_eq_false_iff_ne.2 (by omega)
  have t17 : (o == 17) = false := beq_eq_false_iff_ne.2 (by omega)
  have t18 : (o == 18) = false := beq_eq_false_iff_ne.2 (by omega)
  have t19 : (o == 19) = false := beq_eq_false_iff_ne.2 (by omega)
  have t20 : (o == 20) = false := beq_eq_false_iff_ne.2 (by omega)
  have t21 : (o == 21) = false := beq_eq_false_iff_ne.2 (by omega)
  have t22 : (o == 22) = false := beq_eq_false_iff_ne.2 (by omega)
  have t23 : (o == 23) = false := beq_eq_false_iff_ne.2 (by omega)
  have t24 : (o == 24) = false := beq_eq_false_iff_ne.2 (by omega)
  have t25 : (o == 25) = false := beq_eq_false_iff_ne.2 (by omega)
  have t26 : (o == 26) = false := beq_eq_false_iff_ne.2 (by omega)
  have t27 : (o == 27) = false := beq_eq_false_iff_ne.2 (by omega)
  have t28 : (o == 28) = false := beq_eq_false_iff_ne.2 (by omega)
  have t29 : (o == 29) = false := beq_eq_false_iff_ne.2 (by omega)
  have t30 : (o == 30) = false := beq_eq_false_iff_ne.2 (by omega)
  have t31 : (o == 31) = false := beq_eq_false_iff_ne.2 (by omega)
  have t32 : (o == 32) = false := beq_eq_false_iff_ne.2 (by omega)
  have t33 : (o == 33) = false := beq_eq_false_iff_ne.2 (by omega)
  have t34 : (o == 34) = false := beq_eq_false_iff_ne.2 (by omega)
  have t35 : (o == 35) = false := beq_eq_false_iff_ne.2 (by omega)
  have t36 : (o == 36) = false := beq_eq_false_iff_ne.2 (by omega)
  have t37 : (o == 37) = false := beq_eq_false_iff_ne.2 (by omega)
  have t38 : (o == 38) = false := beq_eq_false_iff_ne.2 (by omega)
  have t39 : (o == 39) = false := beq_eq_false_iff_ne.2 (by omega)
  have t40 : (o == 40) = false := beq_eq_false_iff_ne.2 (by omega)
  have t41 : (o == 41) = false := beq_eq_false_iff_ne.2 (by omega)
  have t42 : (o == 42) = false := beq_eq_false_iff_ne.2 (by omega)
  have t43 : (o == 43) = false := beq_eq_false_iff_ne.2 (by omega)
  have t44 : (o == 44) = false := beq_eq_false_iff_ne.2 (by omega)
  have t45 : (o == 45) = false := beq_eq_false_iff_ne.2 (by omega)
  have t46 : (o == 46) = false := beq_eq_false_iff_ne.2 (by omega)
  have t47 : (o == 47) = false := beq_eq_false_iff_ne.2 (by omega)
  have t48 : (o == 48) = false := beq_eq_false_iff_ne.2 (by omega)
  have t49 : (o == 49) = false := beq_eq_false_iff_ne.2 (by omega)
  have t50 : (o == 50) = false := beq_eq_false_iff_ne.2 (by omega)
  have t51 : (o == 51) = false := beq_eq_false_iff_ne.2 (by omega)
  have t52 : (o == 52) = false := beq_eq_false_iff_ne.2 (by omega)
  have t53 : (o == 53) = false := beq_eq_false_iff_ne.2 (by omega)
  have t54 : (o == 54) = false := beq_eq_false_iff_ne.2 (by omega)
  have t55 : (o == 55) = false := beq_eq_false_iff_ne.2 (by omega)
  have t56 : (o == 56) = false := beq_eq_false_iff_ne.2 (by omega)
  have t57 : (o == 57) = false := beq_eq_false_iff_ne.2 (by omega)
  have t58 : (o == 58) = false := beq_eq_false_iff_ne.2 (by omega)
  clear h
  go_enter Tryd.func70, Tryd.ntmps70
  go_wp2
  exact bodyPost_ret (v := .tuple #[.bool false, .bool false, .bool false, .bool false]) (by simp [results, Tryd.results70, go_sem]) rfl ⟨rfl, rfl⟩

theorem ops_all (o : Int) (h : ¬ (o < 1 ∨ 58 < o)) : o = 1 ∨ o = 2 ∨ o = 3 ∨ o = 4 ∨ o = 5 ∨ o = 6 ∨ o = 7 ∨ o = 8 ∨ o = 9 ∨ o = 10 ∨ o = 11 ∨ o = 12 ∨ o = 13 ∨ o = 14 ∨ o = 15 ∨ o = 16 ∨ o = 17 ∨ o = 18 ∨ o = 19 ∨ o = 20 ∨ o = 21 ∨ o = 22 ∨ o = 23 ∨ o = 24 ∨ o = 25 ∨ o = 26 ∨ o = 27 ∨ o = 28 ∨ o = 29 ∨ o = 30 ∨ o = 31 ∨ o = 32 ∨ o = 33 ∨ o = 34 ∨ o = 35 ∨ o = 36 ∨ o = 37 ∨ o = 38 ∨ o = 39 ∨ o = 40 ∨ o = 41 ∨ o = 42 ∨ o = 43 ∨ o = 44 ∨ o = 45 ∨ o = 46 ∨ o = 47 ∨ o = 48 ∨ o = 49 ∨ o = 50 ∨ o = 51 ∨ o = 52 ∨ o = 53 ∨ o = 54 ∨ o = 55 ∨ o = 56 ∨ o = 57 ∨ o = 58 := by omega
theorem fields_any (o : Int) (w : World) : Calls Tryd.prog 70 #[.int .i64 o] w fun e w' => e = .returned (.tuple #[.bool (fA o), .bool (fB o), .bool (fC o), .bool (fV o)]) ∧ w = w' := by
  by_cases h : o < 1 ∨ 58 < o
  · obtain ⟨h1, h2, h3, h4, _⟩ := far_of o h
    rw [h1, h2, h3, h4]; exact fields_far o w h
  · rcases ops_all o h with rfl | rfl | rfl | rfl | rfl | rfl | rfl | rfl | rfl | rfl | rfl | rfl | rfl | rfl | rfl | rfl | rfl | rfl | rfl | rfl | rfl | rfl | rfl | rfl | rfl | rfl | rfl | rfl | rfl | rfl | rfl | rfl | rfl | rfl | rfl | rfl | rfl | rfl | rfl | rfl | rfl | rfl | rfl | rfl | rfl | rfl | rfl | rfl | rfl | rfl | rfl | rfl | rfl | rfl | rfl | rfl | rfl | rfl
    · exact fields_1 w
    · exact fields_2 w
    · exact fields_3 w
    · exact fields_4 w
    · exact fields_5 w
    · exact fields_6 w
    · exact fields_7 w
    · exact fields_8 w
    · exact fields_9 w
    · exact fields_10 w
    · exact fields_11 w
    · exact fields_12 w
    · exact fields_13 w
    · exact fields_14 w
    · exact fields_15 w
    · exact fields_16 w
    · exact fields_17 w
    · exact fields_18 w
    · exact fields_19 w
    · exact fields_20 w
    · exact fields_21 w
    · exact fields_22 w
    · exact fields_23 w
    · exact fields_24 w
    · exact fields_25 w
    · exact fields_26 w
    · exact fields_27 w
    · exact fields_28 w
    · exact fields_29 w
    · exact fields_30 w
    · exact fields_31 w
    · exact fields_32 w
    · exact fields_33 w
    · exact fields_34 w
    · exact fields_35 w
    · exact fields_36 w
    · exact fields_37 w
    · exact fields_38 w
    · exact fields_39 w
    · exact fields_40 w
    · exact fields_41 w
    · exact fields_42 w
    · exact fields_43 w
    · exact fields_44 w
    · exact fields_45 w
    · exact fields_46 w
    · exact fields_47 w
    · exact fields_48 w
    · exact fields_49 w
    · exact fields_50 w
    · exact fields_51 w
    · exact fields_52 w
    · exact fields_53 w
    · exact fields_54 w
    · exact fields_55 w
    · exact fields_56 w
    · exact fields_57 w
    · exact fields_58 w

end Go.Proofs.YtngpcalgjaglmaaDoor
