/- Any text is the number, or the error with its place, that the document says: the statement's walk. -/
import Derived.Test.YtnnilcadmakamaaDoorWordD
namespace Go.Proofs.YtnnilcadmakamaaDoor
open Go.RowKit

set_option maxRecDepth 100000 in
set_option maxHeartbeats 1000000 in
theorem reads_walk (s : ByteArray) (w : World) (hg : Laid w) (hs : s.size ≤ maxLen) : Calls Tryd.prog 4 #[.string s] w fun e w' => e = .returned (.bool true) ∧ New w w' := by
  have hp := fun w => parse_any s w hs
  have hr := fun w => rparse_any s w hs
  generalize parseL (bytesOf s) = R at hp hr
  obtain ⟨V, E⟩ := R
  have HP := Lib.hid hp
  have HR := Lib.hid hr
  have HG := Lib.hid hg
  have t1 : ((V : Int) == (V : Int)) = true := by simp
  clear hp hr hg
  go_enter Tryd.func4, Tryd.ntmps4
  go_wp2_with fail
  refine (HP.out _).mono ?_
  rintro e w1 ⟨x, rfl, hx, hn1⟩
  have HX := Lib.hid hx
  have HN1 := Lib.hid hn1
  clear hx hn1
  go_wp2_with fail
  refine (HR.out _).mono ?_
  rintro e w2 ⟨f, rfl, hf, hn2⟩
  have HSM := Lib.hid (same_says x f wordL _ w2 ((HG.out.keep HN1.out id).keep hn2 id) (HX.out.new hn2) hf)
  have HN2 := Lib.hid (HN1.out.trans hn2)
  clear hf hn2
  go_wp2_with fail
  refine HSM.out.mono ?_
  rintro e w3 ⟨rfl, hn3⟩
  have HN3 := Lib.hid (HN2.out.trans hn3)
  clear hn3
  go_wp2_with fail
  refine (awake_any _ (HG.out.keep HN3.out id)).mono ?_
  rintro e w4 ⟨rfl, hn4⟩
  have HN4 := Lib.hid (HN3.out.trans hn4)
  clear hn4
  go_wp2
  go_ret
  exact ⟨rfl, HN4.out⟩

end Go.Proofs.YtnnilcadmakamaaDoor
