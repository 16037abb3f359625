/- Any instructions may be, or the first that may not is told: the statement's walk. -/
import Derived.Test.YtkpliapmllabaaaDoorCodeE
namespace Go.Proofs.YtkpliapmllabaaaDoor
open Go.RowKit

set_option maxRecDepth 100000 in
set_option maxHeartbeats 2000000 in
theorem checks_walk (rs : List (List Int)) (ao : Option Addr) (ca : Nat) (lib : Bool) (w : World) (hg : Laid w) (hfit : ∀ r ∈ rs, RecOk insKs r) (ha : Recs insKs w ao rs) (hm : rs.length * 56 ≤ 140737488355328) : Calls Tryd.prog 3 #[.slice ao rs.length ca, .bool lib] w fun e w' => e = .returned (.bool true) ∧ New w w' := by
  have h1 := copy_any rs ao ca w hfit ha hm
  have h2 := fun (bo : Option Addr) (cb : Nat) (w : World) (hb : Recs insKs w bo rs) => check_any rs bo cb lib w hfit hb (by omega)
  have h3 := fun (w' : World) (hn : New w w') => rcheck_any rs ao ca lib w' hfit (ha.keep hn) (by omega)
  have h4 := fun (bo : Option Addr) (cb : Nat) (w' : World) (hn : New w w') (hb : Recs insKs w' bo rs) => codeEq_any rs ao bo ca cb w' hfit (ha.keep hn) hb (by omega)
  generalize checkErr rs lib = E at h2 h3
  have H1 := Lib.hid h1
  have H2 := Lib.hid h2
  have H3 := Lib.hid h3
  have H4 := Lib.hid h4
  have HG := Lib.hid hg
  clear h1 h2 h3 h4 hg ha hfit
  generalize rs.length = L at *
  go_enter Tryd.func3, Tryd.ntmps3
  go_wp2_with fail
  refine H1.out.mono ?_
  rintro e w1 ⟨bo, cb, rfl, hb, hn1⟩
  have HB := Lib.hid hb
  have HN1 := Lib.hid hn1
  clear hb hn1
  go_wp2_with fail
  refine (H2.out _ _ _ HB.out).mono ?_
  rintro e w2 ⟨v, rfl, hv, hn2⟩
  have HV := Lib.hid hv
  have HB := Lib.hid (HB.out.keep hn2)
  have HN2 := Lib.hid (HN1.out.trans hn2)
  clear hv hn2
  go_wp2_with fail
  refine (H3.out _ HN2.out).mono ?_
  rintro e w3 ⟨f, rfl, hf, hn3⟩
  have HSM := Lib.hid (same_says v f codeL E w3 (HG.out.keep (HN2.out.trans hn3) id) (HV.out.new hn3) hf)
  have HB := Lib.hid (HB.out.keep hn3)
  have HN3 := Lib.hid (HN2.out.trans hn3)
  clear hf hn3
  go_wp2_with fail
  refine HSM.out.mono ?_
  rintro e w4 ⟨rfl, hn4⟩
  have HB := Lib.hid (HB.out.keep hn4)
  have HN4 := Lib.hid (HN3.out.trans hn4)
  clear hn4
  go_wp2_with fail
  refine (H4.out _ _ _ HN4.out HB.out).mono ?_
  rintro e w5 ⟨rfl, hn5⟩
  have HN5 := Lib.hid (HN4.out.trans hn5)
  clear hn5
  go_wp2_with fail
  refine (awake_any _ (HG.out.keep HN5.out id)).mono ?_
  rintro e w6 ⟨rfl, hn6⟩
  have HN6 := Lib.hid (HN5.out.trans hn6)
  clear hn6
  go_wp2
  go_ret
  exact ⟨rfl, HN6.out⟩

end Go.Proofs.YtkpliapmllabaaaDoor
