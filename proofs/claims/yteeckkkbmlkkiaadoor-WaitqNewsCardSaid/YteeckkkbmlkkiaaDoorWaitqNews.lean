/- How many buckets there may be: the statement's walk. -/
import Derived.Test.YteeckkkbmlkkiaaDoorWaitK
namespace Go.Proofs.YteeckkkbmlkkiaaDoor
open Go.RowKit Go.Maps

set_option maxRecDepth 100000 in
set_option maxHeartbeats 2000000 in
theorem news_bad (n : Int) (w : World) (hg : Laid w) (hn : n < 1 ∨ 64 < n) :
    Calls Tryd.prog 3 #[.int .i64 n] w fun e w' => e = .returned (.bool true) ∧ New w w' := by
  have HG := Lib.hid hg
  clear hg
  rcases hn with hn | hn
  all_goals
    go_enter Tryd.func3, Tryd.ntmps3
    go_wp2_with fail
    refine (new_bad n _ (by omega)).mono ?_
    rintro e w1 ⟨eb, rfl, he, hn1⟩
    have HE := Lib.hid he
    have HN1 := Lib.hid hn1
    clear he hn1
    go_wp2_with fail
    refine (no_any waitL 0 1 _).mono ?_
    rintro e w3 ⟨f, rfl, hf, hn3⟩
    have HSM := Lib.hid (same_says _ f waitL (some (0, 1)) w3 (HG.out.keep (HN1.out.trans hn3) id) (HE.out.new hn3) hf)
    have HN3 := Lib.hid (HN1.out.trans hn3)
    clear hf hn3
    go_wp2_with fail
    refine HSM.out.mono ?_
    rintro e w4 ⟨rfl, hn4⟩
    have HN4 := Lib.hid (HN3.out.trans hn4)
    clear hn4
    go_wp2_with fail
    refine (awake_any _).mono ?_
    rintro e w6 ⟨rfl, hn6⟩
    have HN6 := Lib.hid (HN4.out.trans hn6)
    clear hn6
    go_wp2
    go_ret
    exact ⟨rfl, HN6.out⟩

set_option maxRecDepth 100000 in
set_option maxHeartbeats 2000000 in
theorem news_ok (n : Nat) (w : World) (h1 : 1 ≤ n) (h2 : n ≤ 64) :
    Calls Tryd.prog 3 #[.int .i64 n] w fun e w' => e = .returned (.bool true) ∧ New w w' := by
  go_enter Tryd.func3, Tryd.ntmps3
  go_wp2_with fail
  refine (new_any n _ h1 h2).mono ?_
  rintro e w1 ⟨qb, lb, mb, rfl, hfr, hr, hn1⟩
  have HR := Lib.hid hr
  have HN := Lib.hid hn1
  clear hr hn1 hfr
  go_wp2_with fail
  refine (len_any qb lb mb n [] w1 HR.out).mono ?_
  rintro e w2 ⟨rfl, rfl⟩
  rw [show (([] : List Sl).length : Int) = 0 from rfl]
  go_wp2_with fail
  refine (bucket_list qb lb mb n [] 0 w1 HR.out (by omega)).mono ?_
  rintro e w2 ⟨v, rfl, hown, hn2⟩
  obtain ⟨ao, cap, rfl, _⟩ := owned_form hown
  have HN2 := Lib.hid (HN.out.trans hn2)
  clear hown hn2
  rw [show (inB (bucketN · n) [] 0).length = 0 from rfl]
  go_wp2_with fail
  refine (awake_any _).mono ?_
  rintro e w9 ⟨rfl, hn9⟩
  have HN9 := Lib.hid (HN2.out.trans hn9)
  clear hn9
  go_wp2
  go_ret
  exact ⟨rfl, HN9.out⟩

theorem news_walk (n : Int) (w : World) (hg : Laid w) :
    Calls Tryd.prog 3 #[.int .i64 n] w fun e w' => e = .returned (.bool true) ∧ New w w' := by
  by_cases h : n < 1 ∨ 64 < n
  · exact news_bad n w hg h
  · obtain ⟨m, rfl⟩ : ∃ m : Nat, n = m := ⟨n.toNat, by omega⟩
    exact news_ok m w (by omega) (by omega)

end Go.Proofs.YteeckkkbmlkkiaaDoor
