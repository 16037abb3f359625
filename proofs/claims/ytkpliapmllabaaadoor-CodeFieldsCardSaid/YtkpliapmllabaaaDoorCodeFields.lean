/- Which fields an instruction uses: the statement's walk. -/
import Derived.Test.YtkpliapmllabaaaDoorCodeD
namespace Go.Proofs.YtkpliapmllabaaaDoor
open Go.RowKit

set_option maxRecDepth 100000 in
set_option maxHeartbeats 2000000 in
theorem fieldsLaw_walk (o : Int) (w : World) (hg : Laid w) : Calls Tryd.prog 4 #[.int .i64 o] w fun e w' => e = .returned (.bool true) ∧ New w w' := by
  have h1 := fun w => fields_any o w
  have h2 := fun w => of_any o w
  generalize fA o = a at h1 h2
  generalize fB o = b at h1 h2
  generalize fC o = c at h1 h2
  generalize fV o = v at h1 h2
  generalize noB o = nb at h2
  generalize noC o = nc at h2
  generalize plc o = pl at h2
  generalize isOp o = iz at h2
  have H1 := Lib.hid h1
  have H2 := Lib.hid h2
  have HG := Lib.hid hg
  clear h1 h2 hg
  go_enter Tryd.func4, Tryd.ntmps4
  go_wp2_with fail
  refine (H1.out _).mono ?_
  rintro e w' ⟨rfl, rfl⟩
  go_wp2_with fail
  refine (H2.out _).mono ?_
  rintro e w1 ⟨rfl, hn1⟩
  have HN1 := Lib.hid hn1
  clear hn1
  go_wp2_with fail
  refine (awake_any _ (HG.out.keep (HN1.out.alloc _) id)).mono ?_
  rintro e w2 ⟨rfl, hn2⟩
  have HN2 := Lib.hid ((HN1.out.alloc _).trans hn2)
  clear hn2
  go_wp2
  go_ret
  exact ⟨rfl, HN2.out⟩

end Go.Proofs.YtkpliapmllabaaaDoor
