/- Any number as one from 0 to n - 1. -/
import Derived.Test.YtngpcalgjaglmaaDoorLib
import Derived.Lib.Hide
namespace Go.Proofs.YtngpcalgjaglmaaDoor
open Go.RowKit

theorem tmod_neg (v n : Int) (hn : 1 ≤ n) (hv : v < 0) : -n < v.tmod n ∧ v.tmod n ≤ 0 ∧ (v.tmod n < 0 → v.tmod n + n = v % n) ∧ (0 ≤ v.tmod n → v.tmod n = v % n) := by
  have h1 := Int.emod_add_mul_ediv v n
  have h2 := Int.tmod_add_mul_tdiv v n
  have h3 : -n < v.tmod n := by
    have := Int.lt_tmod_of_pos v (show 0 < n by omega); omega
  have h4 : v.tmod n ≤ 0 := by
    have := Int.tmod_nonneg (a := -v) n (by omega); rw [Int.neg_tmod] at this; omega
  refine ⟨h3, h4, fun h => ?_, fun h => ?_⟩
  · have e : v % n = (v.tmod n + n) % n := by
      rw [Int.add_emod_right]; conv => lhs; rw [← h2]
      rw [Int.add_mul_emod_self_left]
    rw [e, Int.emod_eq_of_lt (by omega) (by omega)]
  · have e : v % n = v.tmod n % n := by
      conv => lhs; rw [← h2]
      rw [Int.add_mul_emod_self_left]
    rw [e, Int.emod_eq_of_lt (by omega) (by omega)]

set_option maxRecDepth 100000 in
set_option maxHeartbeats 400000 in
theorem within_any (v n : Int) (w : World) (hn : 1 ≤ n) (hn2 : n ≤ 1000000) (hv : -9223372036854775808 ≤ v) (hv2 : v ≤ 9223372036854775807) :
    Calls Tryd.prog 9 #[.int .i64 v, .int .i64 n] w fun e w' => e = .returned (.int .i64 (v % n)) ∧ w = w' := by
  by_cases h0 : 0 ≤ v
  · have := Int.emod_nonneg v (show n ≠ 0 by omega)
    have := Int.emod_lt_of_pos v (show 0 < n by omega)
    go_enter Tryd.func9, Tryd.ntmps9
    go_wp2
    go_ret
    exact ⟨rfl, rfl⟩
  · obtain ⟨h1, h2, h3, h4⟩ := tmod_neg v n hn (by omega)
    have H3 := Lib.hid h3
    have H4 := Lib.hid h4
    clear h3 h4
    by_cases h5 : v.tmod n < 0
    · go_enter Tryd.func9, Tryd.ntmps9
      go_wp2
      go_ret
      exact ⟨ret_int (H3.out h5), rfl⟩
    · go_enter Tryd.func9, Tryd.ntmps9
      go_wp2
      go_ret
      exact ⟨ret_int (H4.out (by omega)), rfl⟩

theorem within_nat (v n : Int) (hn : 1 ≤ n) : ∃ k : Nat, v % n = (k : Int) ∧ (k : Int) < n := by
  have h1 := Int.emod_nonneg v (show n ≠ 0 by omega)
  have h2 := Int.emod_lt_of_pos v (show 0 < n by omega)
  exact ⟨(v % n).toNat, by omega, by omega⟩

end Go.Proofs.YtngpcalgjaglmaaDoor
