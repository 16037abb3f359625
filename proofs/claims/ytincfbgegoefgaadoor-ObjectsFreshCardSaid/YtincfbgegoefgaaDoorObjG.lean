/- The document's example. -/
import Derived.Test.YtincfbgegoefgaaDoorObjE
namespace Go.Proofs.YtincfbgegoefgaaDoor
open Go.RowKit Go.Shelf

set_option maxRecDepth 100000 in
set_option maxHeartbeats 1000000 in
theorem awake_any (w : World) : Calls Tryd.prog 10 #[] w fun e w' => e = .returned (.bool true) ∧ New w w' := by
  go_enter Tryd.func10, Tryd.ntmps10
  go_wp2_with fail
  refine (new_any 5 _ (by omega) (by omega)).mono ?_
  rintro e w1 ⟨b, rb, rfl, hb, hrb, hr, hn1⟩
  go_wp2_with fail
  refine (make_ok b rb _ 1 50 0 ⟨0, 0, 0, 0⟩ _ hr (by omega) (by omega) rfl (by decide) rfl (by intro q r h; omega)).mono ?_
  rintro e w2 ⟨rfl, hr2, hn2⟩
  clear hr
  go_wp2_with fail
  refine (make_ok b rb _ 2 60 1 ⟨0, 0, 0, 0⟩ _ hr2 (by omega) (by omega) rfl (by decide) rfl (fun q r h e => by (obtain rfl : q = 0 := by omega); cases e; decide)).mono ?_
  rintro e w3 ⟨rfl, hr3, hn3⟩
  clear hr2
  go_wp2_with fail
  refine (gone_ok b rb _ 0 _ _ hr3 (by omega) rfl rfl).mono ?_
  rintro e w4 ⟨rfl, hr4, hn4⟩
  clear hr3
  go_wp2_with fail
  refine (make_ok b rb _ 3 70 0 ⟨1, 0, 0, 0⟩ _ hr4 (by omega) (by omega) rfl (by decide) rfl (by intro q r h; omega)).mono ?_
  rintro e w5 ⟨rfl, hr5, hn5⟩
  clear hr4
  go_wp2_with fail
  refine (len_any b rb _ _ hr5).mono ?_
  rintro e w6 ⟨rfl, hn6⟩
  clear hr5
  have hs1 := hn1.size
  have hs2 := hn2.size
  have hs3 := hn3.size
  have hs4 := hn4.size
  have F := Lib.hid ((((((hn1.then hn2 (fun i hi e => by omega)).then hn3 (fun i hi e => by omega)).then hn4 (fun i hi e => by omega)).then hn5 (fun i hi e => by omega)).trans hn6))
  clear hn1 hn2 hn3 hn4 hn5 hn6
  go_wp2
  go_ret
  exact ⟨rfl, F.out⟩

end Go.Proofs.YtincfbgegoefgaaDoor
