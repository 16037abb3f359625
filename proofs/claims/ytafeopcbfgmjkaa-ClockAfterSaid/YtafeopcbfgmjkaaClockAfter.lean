/- A time and ticks: the statement's walk. -/
import Derived.Test.YtafeopcbfgmjkaaClockC
namespace Go.Proofs.Ytafeopcbfgmjkaa
open Go.RowKit Go.Maps

/-- A time so many ticks on. -/
def aftN (a b : Nat) : Nat := if 18446744073709551615 - a < b then 18446744073709551615 else a + b
theorem aft_facts (a b : Nat) (ha : a < 18446744073709551616) (hb : b < 18446744073709551616) : a ≤ aftN a b ∧ b ≤ aftN a b ∧ aftN b a = aftN a b ∧ aftN a b < 18446744073709551616 := by
  unfold aftN
  by_cases h : 18446744073709551615 - a < b
  · rw [if_pos h, if_pos (by omega)]; omega
  · rw [if_neg h, if_neg (by omega)]; omega

set_option maxRecDepth 100000 in
set_option maxHeartbeats 1000000 in
theorem after_any (a b : Nat) (w : World) (ha : a < 18446744073709551616) (hb : b < 18446744073709551616) : Calls Try.prog 14 #[.int .u64 a, .int .u64 b] w fun e w' => e = .returned (.int .u64 (aftN a b)) ∧ w = w' := by
  by_cases h : 18446744073709551615 - a < b
  · have hr : aftN a b = 18446744073709551615 := by unfold aftN; rw [if_pos h]
    rw [hr]
    have q1 : 18446744073709551615 - (a : Int) < (b : Int) := by omega
    have q2 : 18446744073709551615 - (b : Int) < (a : Int) := by omega
    clear hr h
    go_enter Try.func14, Try.ntmps14
    go_wp2
    go_ret
    exact ⟨rfl, rfl⟩
  · have hr : aftN a b = a + b := by unfold aftN; rw [if_neg h]
    rw [hr]
    have q1 : ¬ 18446744073709551615 - (a : Int) < (b : Int) := by omega
    have q2 : ¬ 18446744073709551615 - (b : Int) < (a : Int) := by omega
    have q3 : (a : Int) + (b : Int) ≤ 18446744073709551615 := by omega
    clear hr h
    go_enter Try.func14, Try.ntmps14
    go_wp2
    go_ret
    exact ⟨ret_int (by omega), rfl⟩
set_option maxRecDepth 100000 in
set_option maxHeartbeats 1000000 in
theorem rafter_any (a b : Nat) (w : World) (ha : a < 18446744073709551616) (hb : b < 18446744073709551616) : Calls Try.prog 15 #[.int .u64 a, .int .u64 b] w fun e w' => e = .returned (.int .u64 (aftN a b)) ∧ w = w' := by
  by_cases h : 18446744073709551615 - a < b
  · have hr : aftN a b = 18446744073709551615 := by unfold aftN; rw [if_pos h]
    rw [hr]
    have q1 : 18446744073709551615 - (a : Int) < (b : Int) := by omega
    have q2 : 18446744073709551615 - (b : Int) < (a : Int) := by omega
    clear hr h
    go_enter Try.func15, Try.ntmps15
    go_wp2
    go_ret
    exact ⟨rfl, rfl⟩
  · have hr : aftN a b = a + b := by unfold aftN; rw [if_neg h]
    rw [hr]
    have q1 : ¬ 18446744073709551615 - (a : Int) < (b : Int) := by omega
    have q2 : ¬ 18446744073709551615 - (b : Int) < (a : Int) := by omega
    have q3 : (a : Int) + (b : Int) ≤ 18446744073709551615 := by omega
    clear hr h
    go_enter Try.func15, Try.ntmps15
    go_wp2
    go_ret
    exact ⟨ret_int (by omega), rfl⟩

set_option maxRecDepth 100000 in
set_option maxHeartbeats 1000000 in
theorem after_walk (a b : Nat) (w : World) (ha : a < 18446744073709551616) (hb : b < 18446744073709551616) :
    Calls Try.prog 5 #[.int .u64 a, .int .u64 b] w fun e w' => e = .returned (.bool true) ∧ New w w' := by
  obtain ⟨f1, f2, f3, f4⟩ := aft_facts a b ha hb
  have h1 := fun w => after_any a b w ha hb
  have h2 := fun w => rafter_any a b w ha hb
  have h3 := fun w => after_any b a w hb ha
  rw [f3] at h3
  obtain ⟨r, hr⟩ : ∃ r, aftN a b = r := ⟨_, rfl⟩
  rw [hr] at h1 h2 h3 f1 f2 f4
  have H1 := Lib.hid h1
  have H2 := Lib.hid h2
  have H3 := Lib.hid h3
  have g1 : (a : Int) ≤ (r : Int) := by omega
  have g2 : (b : Int) ≤ (r : Int) := by omega
  have d1 : decide (a ≤ r) = true := by simpa using f1
  have d2 : decide (b ≤ r) = true := by simpa using f2
  clear h1 h2 h3 hr f3
  go_enter Try.func5, Try.ntmps5
  go_wp2_with fail
  refine (H1.out _).mono ?_
  rintro e w1 ⟨rfl, rfl⟩
  go_wp2_with fail
  refine (H2.out _).mono ?_
  rintro e w1 ⟨rfl, rfl⟩
  have t1 : ((r : Int) == (r : Int)) = true := by simp
  go_wp2_with fail
  refine (H3.out _).mono ?_
  rintro e w1 ⟨rfl, rfl⟩
  go_wp2_with fail
  refine (awake_any _).mono ?_
  rintro e w2 ⟨rfl, hn2⟩
  have HN2 := Lib.hid hn2
  clear hn2
  go_wp2
  go_ret
  exact ⟨rfl, HN2.out⟩

end Go.Proofs.Ytafeopcbfgmjkaa
