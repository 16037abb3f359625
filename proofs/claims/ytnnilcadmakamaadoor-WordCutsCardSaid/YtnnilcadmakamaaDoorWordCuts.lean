/- Words of any width are cut, fit, are summed and taken away as the document says: the statement's walk. -/
import Derived.Test.YtnnilcadmakamaaDoorWordD
namespace Go.Proofs.YtnnilcadmakamaaDoor
open Go.RowKit

set_option maxRecDepth 100000 in
set_option maxHeartbeats 400000 in
theorem meet_any (a b : Nat) (w : World) : Calls Tryd.prog 26 #[.int .u64 a, .int .u64 b] w fun e w' => e = .returned (.bool (bits .and .u64 a b != 0)) ∧ w = w' := by
  go_enter Tryd.func26, Tryd.ntmps26
  go_wp2
  go_ret
  exact ⟨rfl, rfl⟩

set_option maxRecDepth 100000 in
set_option maxHeartbeats 2000000 in
theorem cuts_walk (W : Int) (a b : Nat) (w : World) (hg : Laid w) (ha : a < 18446744073709551616) (hb : b < 18446744073709551616) : Calls Tryd.prog 8 #[.int .i64 W, .int .u64 a, .int .u64 b] w fun e w' => e = .returned (.bool true) ∧ New w w' := by
  have HG := Lib.hid hg
  clear hg
  go_enter Tryd.func8, Tryd.ntmps8
  go_wp2_with fail
  obtain ⟨W0, hW0⟩ : ∃ W0, w.alloc (.cells #[.int .i64 64, .int .i64 32, .int .i64 W] 3) = W0 := ⟨_, rfl⟩
  have hx0 : Arr W0 w.heap.size [.int .i64 64, .int .i64 32, .int .i64 W] := by rw [← hW0]; exact Arr.new _ _ _
  have hn0 : New w W0 := by rw [← hW0]; exact (Fr.refl _ _).alloc _
  rw [hW0]
  have HX := Lib.hid hx0
  have HN := Lib.hid hn0
  have HG0 := Lib.hid (HG.out.keep hn0 id)
  clear hx0 hn0 hW0 HG
  go_loop [12] (fun i => ∃ k : Nat, k ≤ 3 ∧ i = .int .i64 k) (fun i => 3 - (intOf i).toNat)
  case atStart => exact ⟨0, by omega, rfl⟩
  case round =>
    obtain ⟨k, hk, rfl⟩ := hrel
    by_cases hlt : k < 3
    · obtain ⟨V, hV⟩ : ∃ V : Int, W0.cell? ⟨w.heap.size, k, none⟩ = some (.int .i64 V) := by
        match k, hlt with
        | 0, _ => exact ⟨_, HX.out.cell 0 _ rfl⟩
        | 1, _ => exact ⟨_, HX.out.cell 1 _ rfl⟩
        | 2, _ => exact ⟨_, HX.out.cell 2 _ rfl⟩
      go_wp2_with (first
        | (go_at_call 20; refine (cut_any V a _ ha).mono ?_; rintro e w' ⟨rfl, rfl⟩)
        | (go_at_call 22; refine (rcut_any V a _ ha).mono ?_; rintro e w' ⟨rfl, rfl⟩)
        | (go_at_call 21; refine (fits_any V a _ ha).mono ?_; rintro e w' ⟨rfl, rfl⟩)
        | (go_at_call 23; refine (rfits_any V a _ ha).mono ?_; rintro e w' ⟨rfl, rfl⟩)
        | (go_at_call 18; refine (sum_any V a b _ ha hb).mono ?_; rintro e w' ⟨rfl, rfl⟩)
        | (go_at_call 24; refine (rsum_any V a b _ ha hb).mono ?_; rintro e w' ⟨rfl, rfl⟩)
        | (go_at_call 19; refine (less_any V a b _ ha hb).mono ?_; rintro e w' ⟨rfl, rfl⟩)
        | (go_at_call 25; refine (rless_any V a b _ ha hb).mono ?_; rintro e w' ⟨rfl, rfl⟩))
      go_round
      case rel => exact ⟨k + 1, by omega, by go_num⟩
      case measure => simp [intOf]; omega
    · go_wp2_with (first
        | (go_at_call 26; refine (meet_any a b _).mono ?_; rintro e w' ⟨rfl, rfl⟩)
        | (go_at_call 12; refine (awake_any _ HG0.out).mono ?_; rintro e w2 ⟨rfl, hn2⟩; have HN2 := Lib.hid (HN.out.trans hn2); clear hn2))
      go_ret
      exact ⟨rfl, HN2.out⟩

end Go.Proofs.YtnnilcadmakamaaDoor
