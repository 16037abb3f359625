/- The document's examples of words. -/
import Derived.Test.YtnnilcadmakamaaDoorWordC
namespace Go.Proofs.YtnnilcadmakamaaDoor
open Go.RowKit

theorem max_le {n : Nat} (h : n ≤ 1000) : n ≤ maxLen := by unfold maxLen; omega

set_option maxRecDepth 100000 in
set_option maxHeartbeats 2000000 in
theorem awake_any (w : World) (hg : Laid w) : Calls Tryd.prog 12 #[] w fun e w' => e = .returned (.bool true) ∧ New w w' := by
  have hp1 := fun w => parse_any ⟨#[48, 120, 49, 102]⟩ w (max_le (by decide))
  rw [show parseL (bytesOf ⟨#[48, 120, 49, 102]⟩) = (31, none) by decide] at hp1
  have hp2 := fun w => parse_any ⟨#[49, 50, 97]⟩ w (max_le (by decide))
  rw [show parseL (bytesOf ⟨#[49, 50, 97]⟩) = (0, some (2, 6)) by decide] at hp2
  have hs := fun w => sum_any 32 4294967295 2 w (by omega) (by omega)
  rw [show sumZ 32 4294967295 2 = 1 by decide] at hs
  have hpr := fun w => print_any 70 w (by omega)
  rw [show digs 70 [] = [55, 48] by simp [digs]] at hpr
  have HP1 := Lib.hid hp1
  have HP2 := Lib.hid hp2
  have HS := Lib.hid hs
  have HPR := Lib.hid hpr
  have HG := Lib.hid hg
  clear hp1 hp2 hs hpr hg
  go_enter Tryd.func12, Tryd.ntmps12
  go_wp2_with fail
  refine (HP1.out _).mono ?_
  rintro e w1 ⟨x1, rfl, hx1, hn1⟩
  obtain rfl : x1 = .nilIface := hx1
  have HN1 := Lib.hid hn1
  clear hn1
  go_wp2_with fail
  refine (HP2.out _).mono ?_
  rintro e w2 ⟨x2, rfl, hx2, hn2⟩
  have HX2 := Lib.hid hx2
  have HN2 := Lib.hid (HN1.out.trans hn2)
  clear hx2 hn2
  go_wp2_with fail
  refine (HS.out _).mono ?_
  rintro e w' ⟨rfl, rfl⟩
  go_wp2_with fail
  refine (no_ref _ _).mono ?_
  rintro e w3 ⟨f, rfl, hf, hn3⟩
  have HSM := Lib.hid (same_says x2 f wordL _ w3 ((HG.out.keep HN2.out id).keep hn3 id) (HX2.out.new hn3) hf)
  have HN3 := Lib.hid (HN2.out.trans hn3)
  clear hf hn3
  go_wp2_with fail
  refine HSM.out.mono ?_
  rintro e w4 ⟨rfl, hn4⟩
  have HN4 := Lib.hid (HN3.out.trans hn4)
  clear hn4
  go_wp2_with fail
  refine (HPR.out _).mono ?_
  rintro e w5 ⟨rfl, hn5⟩
  have HN5 := Lib.hid (HN4.out.trans hn5)
  clear hn5
  go_wp2
  go_ret
  exact ⟨rfl, HN5.out⟩

end Go.Proofs.YtnnilcadmakamaaDoor
