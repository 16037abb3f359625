/- A number's text is what the document says: the statement's walk. -/
import Derived.Test.YtnnilcadmakamaaDoorWordD
namespace Go.Proofs.YtnnilcadmakamaaDoor
open Go.RowKit

set_option maxRecDepth 100000 in
set_option maxHeartbeats 1000000 in
theorem prints_walk (v : Nat) (w : World) (hg : Laid w) (hv : v < 18446744073709551616) : Calls Tryd.prog 3 #[.int .u64 v] w fun e w' => e = .returned (.bool true) ∧ New w w' := by
  have hp := fun w => print_any v w hv
  have hr := fun w => rprint_any v w hv
  generalize (⟨(digs v []).toArray⟩ : ByteArray) = s at hp hr
  have HP := Lib.hid hp
  have HR := Lib.hid hr
  have HG := Lib.hid hg
  clear hp hr hg
  go_enter Tryd.func3, Tryd.ntmps3
  go_wp2_with fail
  refine (HP.out _).mono ?_
  rintro e w1 ⟨rfl, hn1⟩
  have HN1 := Lib.hid hn1
  clear hn1
  go_wp2_with fail
  refine (HR.out _).mono ?_
  rintro e w' ⟨rfl, rfl⟩
  go_wp2_with fail
  refine (awake_any _ (HG.out.keep HN1.out id)).mono ?_
  rintro e w2 ⟨rfl, hn2⟩
  have HN2 := Lib.hid (HN1.out.trans hn2)
  clear hn2
  go_wp2
  go_ret
  exact ⟨rfl, HN2.out⟩

end Go.Proofs.YtnnilcadmakamaaDoor
