/- Whether an instruction may be: the program's answer, as one formula. (Printed by gen_may.py.) -/
import Derived.Test.YtngpcalgjaglmaaDoorCodeF
namespace Go.Proofs.YtngpcalgjaglmaaDoor
open Go.RowKit
set_option linter.unusedVariables false

/-- A field that is used, or not; less: -1 will do. -/
def regP (r : Int) (used less : Prop) : Prop := (used ∧ 0 ≤ r ∧ r < 32) ∨ (used ∧ less ∧ r = -1) ∨ (¬ used ∧ r = 0)
instance (r : Int) (u l : Prop) [Decidable u] [Decidable l] : Decidable (regP r u l) := by unfold regP; infer_instance
/-- The number of an op. -/
def numP (o B C V n : Int) (used : Prop) : Prop := (plc o = true ∧ V < n) ∨ (plc o = false ∧ o = 22 ∧ V < 1000) ∨ (plc o = false ∧ o ≠ 22 ∧ ((noC o = true ∧ C = -1) ∨ (noC o = false ∧ o = 43 ∧ B = -1) ∨ (noC o = false ∧ o ≠ 43 ∧ used) ∨ V = 0))
instance (o B C V n : Int) (u : Prop) [Decidable u] : Decidable (numP o B C V n u) := by unfold numP; infer_instance
def regB (r : Int) (u l : Bool) : Bool := decide (regP r (u = true) (l = true))
def numB (o B C V n : Int) (u : Bool) : Bool := decide (numP o B C V n (u = true))
def tailB (M W : Int) (a : Bool) : Bool := decide ((0 ≤ M ∧ M ≤ 99 ∧ 0 ≤ W ∧ W ≤ 2) ∧ (W = 0 ∨ (0 < M ∧ a = true)))
def restB (o A B C V M W n : Int) : Bool := regB A (fA o) false && (regB B (fB o) (noB o) && (regB C (fC o) (noC o) && (numB o B C V n (fV o) && tailB M W (fA o))))
def headB (o M : Int) (lib : Bool) : Bool := decide ((1 ≤ o ∧ o ≤ 58) ∧ ¬ (lib = true ∧ o = 22) ∧ (lib = true ∨ (o ≤ 22 ∧ M = 0)))
def mayB (o A B C V M W n : Int) (lib : Bool) : Bool := headB o M lib && restB o A B C V M W n

set_option maxRecDepth 100000 in
set_option maxHeartbeats 400000 in
theorem register_any (r : Int) (u l : Bool) (w : World) : Calls Tryd.prog 71 #[.int .i64 r, .bool u, .bool l] w fun e w' => e = .returned (.bool (regB r u l)) ∧ w = w' := by
  unfold regB regP
  rcases (show (0 ≤ r ∧ r < 32 ∧ r ≠ 0) ∨ r = 0 ∨ r = -1 ∨ (r < -1) ∨ 32 ≤ r by omega) with ⟨h1, h2, h3⟩ | h | h | h | h
  all_goals
    cases u <;> cases l
    all_goals
      go_enter Tryd.func71, Tryd.ntmps71
      go_wp2
      all_goals
        go_ret
        exact ⟨ret_bool (by rw [Bool.eq_iff_iff]; first | (simp; done) | (simp; omega)), rfl⟩

set_option maxRecDepth 100000 in
set_option maxHeartbeats 1000000 in
theorem number_12 (A B C M W : Int) (V n : Nat) (u : Bool) (w : World) (hV : V < 18446744073709551616) (hn : n ≤ 9223372036854775807) : Calls Tryd.prog 72 #[.agg #[.int .i64 12, .int .i64 A, .int .i64 B, .int .i64 C, .int .u64 V, .int .i64 M, .int .i64 W], .bool u, .int .i64 n] w fun e w' => e = .returned (.bool (numB 12 B C V n u)) ∧ New w w' := by
  have HP := Lib.hid (show plc 12 = true by decide)
  have HC := Lib.hid (show noC 12 = false by decide)
  cases u
  all_goals
    go_enter Tryd.func72, Tryd.ntmps72
    go_wp2
    all_goals
      go_ret
      refine ⟨ret_bool ?_, (Fr.refl _ _).alloc _⟩
      unfold numB numP
      rw [Bool.eq_iff_iff]
      simp only [HP.out, HC.out]
      first | (simp; done) | (simp; omega)
set_option maxRecDepth 100000 in
set_option maxHeartbeats 1000000 in
theorem number_13 (A B C M W : Int) (V n : Nat) (u : Bool) (w : World) (hV : V < 18446744073709551616) (hn : n ≤ 9223372036854775807) : Calls Tryd.prog 72 #[.agg #[.int .i64 13, .int .i64 A, .int .i64 B, .int .i64 C, .int .u64 V, .int .i64 M, .int .i64 W], .bool u, .int .i64 n] w fun e w' => e = .returned (.bool (numB 13 B C V n u)) ∧ New w w' := by
  have HP := Lib.hid (show plc 13 = true by decide)
  have HC := Lib.hid (show noC 13 = false by decide)
  cases u
  all_goals
    go_enter Tryd.func72, Tryd.ntmps72
    go_wp2
    all_goals
      go_ret
      refine ⟨ret_bool ?_, (Fr.refl _ _).alloc _⟩
      unfold numB numP
      rw [Bool.eq_iff_iff]
      simp only [HP.out, HC.out]
      first | (simp; done) | (simp; omega)
set_option maxRecDepth 100000 in
set_option maxHeartbeats 1000000 in
theorem number_14 (A B C M W : Int) (V n : Nat) (u : Bool) (w : World) (hV : V < 18446744073709551616) (hn : n ≤ 9223372036854775807) : Calls Tryd.prog 72 #[.agg #[.int .i64 14, .int .i64 A, .int .i64 B, .int .i64 C, .int .u64 V, .int .i64 M, .int .i64 W], .bool u, .int .i64 n] w fun e w' => e = .returned (.bool (numB 14 B C V n u)) ∧ New w w' := by
  have HP := Lib.hid (show plc 14 = true by decide)
  have HC := Lib.hid (show noC 14 = false by decide)
  cases u
  all_goals
    go_enter Tryd.func72, Tryd.ntmps72
    go_wp2
    all_goals
      go_ret
      refine ⟨ret_bool ?_, (Fr.refl _ _).alloc _⟩
      unfold numB numP
      rw [Bool.eq_iff_iff]
      simp only [HP.out, HC.out]
      first | (simp; done) | (simp; omega)
set_option maxRecDepth 100000 in
set_option maxHeartbeats 1000000 in
theorem number_15 (A B C M W : Int) (V n : Nat) (u : Bool) (w : World) (hV : V < 18446744073709551616) (hn : n ≤ 9223372036854775807) : Calls Tryd.prog 72 #[.agg #[.int .i64 15, .int .i64 A, .int .i64 B, .int .i64 C, .int .u64 V, .int .i64 M, .int .i64 W], .bool u, .int .i64 n] w fun e w' => e = .returned (.bool (numB 15 B C V n u)) ∧ New w w' := by
  have HP := Lib.hid (show plc 15 = true by decide)
  have HC := Lib.hid (show noC 15 = false by decide)
  cases u
  all_goals
    go_enter Tryd.func72, Tryd.ntmps72
    go_wp2
    all_goals
      go_ret
      refine ⟨ret_bool ?_, (Fr.refl _ _).alloc _⟩
      unfold numB numP
      rw [Bool.eq_iff_iff]
      simp only [HP.out, HC.out]
      first | (simp; done) | (simp; omega)
set_option maxRecDepth 100000 in
set_option maxHeartbeats 1000000 in
theorem number_22 (A B C M W : Int) (V n : Nat) (u : Bool) (w : World) (hV : V < 18446744073709551616) (hn : n ≤ 9223372036854775807) : Calls Tryd.prog 72 #[.agg #[.int .i64 22, .int .i64 A, .int .i64 B, .int .i64 C, .int .u64 V, .int .i64 M, .int .i64 W], .bool u, .int .i64 n] w fun e w' => e = .returned (.bool (numB 22 B C V n u)) ∧ New w w' := by
  have HP := Lib.hid (show plc 22 = false by decide)
  have HC := Lib.hid (show noC 22 = false by decide)
  cases u
  all_goals
    go_enter Tryd.func72, Tryd.ntmps72
    go_wp2
    all_goals
      go_ret
      refine ⟨ret_bool ?_, (Fr.refl _ _).alloc _⟩
      unfold numB numP
      rw [Bool.eq_iff_iff]
      simp only [HP.out, HC.out]
      first | (simp; done) | (simp; omega)
set_option maxRecDepth 100000 in
set_option maxHeartbeats 1000000 in
theorem number_3 (A B C M W : Int) (V n : Nat) (u : Bool) (w : World) (hV : V < 18446744073709551616) (hn : n ≤ 9223372036854775807) : Calls Tryd.prog 72 #[.agg #[.int .i64 3, .int .i64 A, .int .i64 B, .int .i64 C, .int .u64 V, .int .i64 M, .int .i64 W], .bool u, .int .i64 n] w fun e w' => e = .returned (.bool (numB 3 B C V n u)) ∧ New w w' := by
  have HP := Lib.hid (show plc 3 = false by decide)
  have HC := Lib.hid (show noC 3 = true by decide)
  cases u
  all_goals
    go_enter Tryd.func72, Tryd.ntmps72
    go_wp2
    all_goals
      go_ret
      refine ⟨ret_bool ?_, (Fr.refl _ _).alloc _⟩
      unfold numB numP
      rw [Bool.eq_iff_iff]
      simp only [HP.out, HC.out]
      first | (simp; done) | (simp; omega)
set_option maxRecDepth 100000 in
set_option maxHeartbeats 1000000 in
theorem number_4 (A B C M W : Int) (V n : Nat) (u : Bool) (w : World) (hV : V < 18446744073709551616) (hn : n ≤ 9223372036854775807) : Calls Tryd.prog 72 #[.agg #[.int .i64 4, .int .i64 A, .int .i64 B, .int .i64 C, .int .u64 V, .int .i64 M, .int .i64 W], .bool u, .int .i64 n] w fun e w' => e = .returned (.bool (numB 4 B C V n u)) ∧ New w w' := by
  have HP := Lib.hid (show plc 4 = false by decide)
  have HC := Lib.hid (show noC 4 = true by decide)
  cases u
  all_goals
    go_enter Tryd.func72, Tryd.ntmps72
    go_wp2
    all_goals
      go_ret
      refine ⟨ret_bool ?_, (Fr.refl _ _).alloc _⟩
      unfold numB numP
      rw [Bool.eq_iff_iff]
      simp only [HP.out, HC.out]
      first | (simp; done) | (simp; omega)
set_option maxRecDepth 100000 in
set_option maxHeartbeats 1000000 in
theorem number_5 (A B C M W : Int) (V n : Nat) (u : Bool) (w : World) (hV : V < 18446744073709551616) (hn : n ≤ 9223372036854775807) : Calls Tryd.prog 72 #[.agg #[.int .i64 5, .int .i64 A, .int .i64 B, .int .i64 C, .int .u64 V, .int .i64 M, .int .i64 W], .bool u, .int .i64 n] w fun e w' => e = .returned (.bool (numB 5 B C V n u)) ∧ New w w' := by
  have HP := Lib.hid (show plc 5 = false by decide)
  have HC := Lib.hid (show noC 5 = true by decide)
  cases u
  all_goals
    go_enter Tryd.func72, Tryd.ntmps72
    go_wp2
    all_goals
      go_ret
      refine ⟨ret_bool ?_, (Fr.refl _ _).alloc _⟩
      unfold numB numP
      rw [Bool.eq_iff_iff]
      simp only [HP.out, HC.out]
      first | (simp; done) | (simp; omega)
set_option maxRecDepth 100000 in
set_option maxHeartbeats 1000000 in
theorem number_6 (A B C M W : Int) (V n : Nat) (u : Bool) (w : World) (hV : V < 18446744073709551616) (hn : n ≤ 9223372036854775807) : Calls Tryd.prog 72 #[.agg #[.int .i64 6, .int .i64 A, .int .i64 B, .int .i64 C, .int .u64 V, .int .i64 M, .int .i64 W], .bool u, .int .i64 n] w fun e w' => e = .returned (.bool (numB 6 B C V n u)) ∧ New w w' := by
  have HP := Lib.hid (show plc 6 = false by decide)
  have HC := Lib.hid (show noC 6 = true by decide)
  cases u
  all_goals
    go_enter Tryd.func72, Tryd.ntmps72
    go_wp2
    all_goals
      go_ret
      refine ⟨ret_bool ?_, (Fr.refl _ _).alloc _⟩
      unfold numB numP
      rw [Bool.eq_iff_iff]
      simp only [HP.out, HC.out]
      first | (simp; done) | (simp; omega)
set_option maxRecDepth 100000 in
set_option maxHeartbeats 1000000 in
theorem number_7 (A B C M W : Int) (V n : Nat) (u : Bool) (w : World) (hV : V < 18446744073709551616) (hn : n ≤ 9223372036854775807) : Calls Tryd.prog 72 #[.agg #[.int .i64 7, .int .i64 A, .int .i64 B, .int .i64 C, .int .u64 V, .int .i64 M, .int .i64 W], .bool u, .int .i64 n] w fun e w' => e = .returned (.bool (numB 7 B C V n u)) ∧ New w w' := by
  have HP := Lib.hid (show plc 7 = false by decide)
  have HC := Lib.hid (show noC 7 = true by decide)
  cases u
  all_goals
    go_enter Tryd.func72, Tryd.ntmps72
    go_wp2
    all_goals
      go_ret
      refine ⟨ret_bool ?_, (Fr.refl _ _).alloc _⟩
      unfold numB numP
      rw [Bool.eq_iff_iff]
      simp only [HP.out, HC.out]
      first | (simp; done) | (simp; omega)
set_option maxRecDepth 100000 in
set_option maxHeartbeats 1000000 in
theorem number_8 (A B C M W : Int) (V n : Nat) (u : Bool) (w : World) (hV : V < 18446744073709551616) (hn : n ≤ 9223372036854775807) : Calls Tryd.prog 72 #[.agg #[.int .i64 8, .int .i64 A, .int .i64 B, .int .i64 C, .int .u64 V, .int .i64 M, .int .i64 W], .bool u, .int .i64 n] w fun e w' => e = .returned (.bool (numB 8 B C V n u)) ∧ New w w' := by
  have HP := Lib.hid (show plc 8 = false by decide)
  have HC := Lib.hid (show noC 8 = true by decide)
  cases u
  all_goals
    go_enter Tryd.func72, Tryd.ntmps72
    go_wp2
    all_goals
      go_ret
      refine ⟨ret_bool ?_, (Fr.refl _ _).alloc _⟩
      unfold numB numP
      rw [Bool.eq_iff_iff]
      simp only [HP.out, HC.out]
      first | (simp; done) | (simp; omega)
set_option maxRecDepth 100000 in
set_option maxHeartbeats 1000000 in
theorem number_9 (A B C M W : Int) (V n : Nat) (u : Bool) (w : World) (hV : V < 18446744073709551616) (hn : n ≤ 9223372036854775807) : Calls Tryd.prog 72 #[.agg #[.int .i64 9, .int .i64 A, .int .i64 B, .int .i64 C, .int .u64 V, .int .i64 M, .int .i64 W], .bool u, .int .i64 n] w fun e w' => e = .returned (.bool (numB 9 B C V n u)) ∧ New w w' := by
  have HP := Lib.hid (show plc 9 = false by decide)
  have HC := Lib.hid (show noC 9 = true by decide)
  cases u
  all_goals
    go_enter Tryd.func72, Tryd.ntmps72
    go_wp2
    all_goals
      go_ret
      refine ⟨ret_bool ?_, (Fr.refl _ _).alloc _⟩
      unfold numB numP
      rw [Bool.eq_iff_iff]
      simp only [HP.out, HC.out]
      first | (simp; done) | (simp; omega)
set_option maxRecDepth 100000 in
set_option maxHeartbeats 1000000 in
theorem number_10 (A B C M W : Int) (V n : Nat) (u : Bool) (w : World) (hV : V < 18446744073709551616) (hn : n ≤ 9223372036854775807) : Calls Tryd.prog 72 #[.agg #[.int .i64 10, .int .i64 A, .int .i64 B, .int .i64 C, .int .u64 V, .int .i64 M, .int .i64 W], .bool u, .int .i64 n] w fun e w' => e = .returned (.bool (numB 10 B C V n u)) ∧ New w w' := by
  have HP := Lib.hid (show plc 10 = false by decide)
  have HC := Lib.hid (show noC 10 = true by decide)
  cases u
  all_goals
    go_enter Tryd.func72, Tryd.ntmps72
    go_wp2
    all_goals
      go_ret
      refine ⟨ret_bool ?_, (Fr.refl _ _).alloc _⟩
      unfold numB numP
      rw [Bool.eq_iff_iff]
      simp only [HP.out, HC.out]
      first | (simp; done) | (simp; omega)
set_option maxRecDepth 100000 in
set_option maxHeartbeats 1000000 in
theorem number_11 (A B C M W : Int) (V n : Nat) (u : Bool) (w : World) (hV : V < 18446744073709551616) (hn : n ≤ 9223372036854775807) : Calls Tryd.prog 72 #[.agg #[.int .i64 11, .int .i64 A, .int .i64 B, .int .i64 C, .int .u64 V, .int .i64 M, .int .i64 W], .bool u, .int .i64 n] w fun e w' => e = .returned (.bool (numB 11 B C V n u)) ∧ New w w' := by
  have HP := Lib.hid (show plc 11 = false by decide)
  have HC := Lib.hid (show noC 11 = true by decide)
  cases u
  all_goals
    go_enter Tryd.func72, Tryd.ntmps72
    go_wp2
    all_goals
      go_ret
      refine ⟨ret_bool ?_, (Fr.refl _ _).alloc _⟩
      unfold numB numP
      rw [Bool.eq_iff_iff]
      simp only [HP.out, HC.out]
      first | (simp; done) | (simp; omega)
set_option maxRecDepth 100000 in
set_option maxHeartbeats 1000000 in
theorem number_43 (A B C M W : Int) (V n : Nat) (u : Bool) (w : World) (hV : V < 18446744073709551616) (hn : n ≤ 9223372036854775807) : Calls Tryd.prog 72 #[.agg #[.int .i64 43, .int .i64 A, .int .i64 B, .int .i64 C, .int .u64 V, .int .i64 M, .int .i64 W], .bool u, .int .i64 n] w fun e w' => e = .returned (.bool (numB 43 B C V n u)) ∧ New w w' := by
  have HP := Lib.hid (show plc 43 = false by decide)
  have HC := Lib.hid (show noC 43 = false by decide)
  cases u
  all_goals
    go_enter Tryd.func72, Tryd.ntmps72
    go_wp2
    all_goals
      go_ret
      refine ⟨ret_bool ?_, (Fr.refl _ _).alloc _⟩
      unfold numB numP
      rw [Bool.eq_iff_iff]
      simp only [HP.out, HC.out]
      first | (simp; done) | (simp; omega)
set_option maxRecDepth 100000 in
set_option maxHeartbeats 1000000 in
theorem number_far (A B C M W : Int) (V n : Nat) (o : Int) (u : Bool) (w : World) (hV : V < 18446744073709551616) (hn : n ≤ 9223372036854775807) (h : (o < 3 ∨ (11 < o ∧ o < 12) ∨ (15 < o ∧ o < 22) ∨ (22 < o ∧ o < 43) ∨ 43 < o)) : Calls Tryd.prog 72 #[.agg #[.int .i64 o, .int .i64 A, .int .i64 B, .int .i64 C, .int .u64 V, .int .i64 M, .int .i64 W], .bool u, .int .i64 n] w fun e w' => e = .returned (.bool (numB o B C V n u)) ∧ New w w' := by
  have t12 : (o == 12) = false := beq_eq_false_iff_ne.2 (by omega)
  have t13 : (o == 13) = false := beq_eq_false_iff_ne.2 (by omega)
  have t14 : (o == 14) = false := beq_eq_false_iff_ne.2 (by omega)
  have t15 : (o == 15) = false := beq_eq_false_iff_ne.2 (by omega)
  have t22 : (o == 22) = false := beq_eq_false_iff_ne.2 (by omega)
  have t3 : (o == 3) = false := beq_eq_false_iff_ne.2 (by omega)
  have t4 : (o == 4) = false := beq_eq_false_iff_ne.2 (by omega)
  have t5 : (o == 5) = false := beq_eq_false_iff_ne.2 (by omega)
  have t6 : (o == 6) = false := beq_eq_false_iff_ne.2 (by omega)
  have t7 : (o == 7) = false := beq_eq_false_iff_ne.2 (by omega)
  have t8 : (o == 8) = false := beq_eq_false_iff_ne.2 (by omega)
  have t9 : (o == 9) = false := beq_eq_false_iff_ne.2 (by omega)
  have t10 : (o == 10) = false := beq_eq_false_iff_ne.2 (by omega)
  have t11 : (o == 11) = false := beq_eq_false_iff_ne.2 (by omega)
  have t43 : (o == 43) = false := beq_eq_false_iff_ne.2 (by omega)
  have HP := Lib.hid (show plc o = false by
    rw [Bool.eq_false_iff]; intro hc
    have := List.contains_iff_mem.1 hc
    simp at this; omega)
  have HC := Lib.hid (show noC o = false by
    rw [Bool.eq_false_iff]; intro hc
    have := List.contains_iff_mem.1 hc
    simp at this; omega)
  have HO := Lib.hid (show o ≠ 22 ∧ o ≠ 43 by omega)
  clear h
  cases u
  all_goals
    go_enter Tryd.func72, Tryd.ntmps72
    go_wp2
    all_goals
      go_ret
      refine ⟨ret_bool ?_, (Fr.refl _ _).alloc _⟩
      unfold numB numP
      rw [Bool.eq_iff_iff]
      have ho := HO.out
      simp only [HP.out, HC.out]
      first | (simp; done) | (simp; omega)
theorem number_any (o A B C M W : Int) (V n : Nat) (u : Bool) (w : World) (hV : V < 18446744073709551616) (hn : n ≤ 9223372036854775807) : Calls Tryd.prog 72 #[.agg #[.int .i64 o, .int .i64 A, .int .i64 B, .int .i64 C, .int .u64 V, .int .i64 M, .int .i64 W], .bool u, .int .i64 n] w fun e w' => e = .returned (.bool (numB o B C V n u)) ∧ New w w' := by
  rcases (show o = 12 ∨ o = 13 ∨ o = 14 ∨ o = 15 ∨ o = 22 ∨ o = 3 ∨ o = 4 ∨ o = 5 ∨ o = 6 ∨ o = 7 ∨ o = 8 ∨ o = 9 ∨ o = 10 ∨ o = 11 ∨ o = 43 ∨ (o < 3 ∨ (11 < o ∧ o < 12) ∨ (15 < o ∧ o < 22) ∨ (22 < o ∧ o < 43) ∨ 43 < o) by omega) with rfl | rfl | rfl | rfl | rfl | rfl | rfl | rfl | rfl | rfl | rfl | rfl | rfl | rfl | rfl | h
  · exact number_12 A B C M W V n u w hV hn
  · exact number_13 A B C M W V n u w hV hn
  · exact number_14 A B C M W V n u w hV hn
  · exact number_15 A B C M W V n u w hV hn
  · exact number_22 A B C M W V n u w hV hn
  · exact number_3 A B C M W V n u w hV hn
  · exact number_4 A B C M W V n u w hV hn
  · exact number_5 A B C M W V n u w hV hn
  · exact number_6 A B C M W V n u w hV hn
  · exact number_7 A B C M W V n u w hV hn
  · exact number_8 A B C M W V n u w hV hn
  · exact number_9 A B C M W V n u w hV hn
  · exact number_10 A B C M W V n u w hV hn
  · exact number_11 A B C M W V n u w hV hn
  · exact number_43 A B C M W V n u w hV hn
  · exact number_far A B C M W V n o u w hV hn h

end Go.Proofs.YtngpcalgjaglmaaDoor
