/- Of which sizes there is a memory: the statement's walk. -/
import Derived.Test.YtfppipbdmjnbcaaDoorMemL
import Derived.Test.YtfppipbdmjnbcaaDoorMemF
namespace Go.Proofs.YtfppipbdmjnbcaaDoor
open Go.RowKit

set_option maxRecDepth 100000 in
set_option maxHeartbeats 2000000 in
theorem news_bad (n : Int) (w : World) (hg : Laid w) (h : n < 1 ∨ 65536 < n) :
    Calls Tryd.prog 3 #[.int .i64 n] w fun e w' => e = .returned (.bool true) ∧ New w w' := by
  have HG := Lib.hid hg
  clear hg
  rcases h with h | h
  all_goals
    go_enter Tryd.func3, Tryd.ntmps3
    go_wp2_with fail
    refine (new_bad n _ (by omega)).mono ?_
    rintro e w1 ⟨eb, rfl, he, hn⟩
    have HE := Lib.hid (he.says (by omega) (by omega))
    have HN := Lib.hid hn
    clear he hn
    go_wp2_with fail
    refine (no_ref _ _ _).mono ?_
    rintro e w2 ⟨f, rfl, hf, hn2⟩
    have HSM := Lib.hid (same_says _ f memL _ w2 ((HG.out.keep HN.out id).keep hn2 id) (HE.out.new hn2) hf)
    have HN2 := Lib.hid (HN.out.trans hn2)
    clear hf hn2 HN HE
    go_wp2_with fail
    refine HSM.out.mono ?_
    rintro e w3 ⟨rfl, hn3⟩
    have HN3 := Lib.hid (HN2.out.trans hn3)
    clear hn3 HSM HN2
    go_wp2_with fail
    refine (awake_any _).mono ?_
    rintro e w4 ⟨rfl, hn4⟩
    have HN4 := Lib.hid (HN3.out.trans hn4)
    clear hn4
    go_wp2
    go_ret
    exact ⟨rfl, HN4.out⟩

theorem rep_get (n x p : Nat) (h : p < n) : (List.replicate n x).getD p 0 = x := by simp [List.getD_eq_getElem?_getD, h]

set_option maxRecDepth 100000 in
set_option maxHeartbeats 4000000 in
theorem news_ok (q : Nat) (w : World) (hg : Laid w) (h : q < 65536) :
    Calls Tryd.prog 3 #[.int .i64 ((q : Int) + 1)] w fun e w' => e = .returned (.bool true) ∧ New w w' := by
  have HG := Lib.hid hg
  have hge := lt_of_cell hg
  have hnew := new_any (q + 1) w (by omega) (by omega)
  rw [show (((q + 1 : Nat) : Int)) = (q : Int) + 1 by omega] at hnew
  have HNEW := Lib.hid hnew
  clear hg hnew
  go_enter Tryd.func3, Tryd.ntmps3
  go_wp2_with fail
  refine HNEW.out.mono ?_
  rintro e w1 ⟨b, cb, wb, rfl, hb1, hb2, hb3, hr, hn⟩
  have HR := Lib.hid hr
  have HN := Lib.hid hn
  have hmap := map_ok b cb wb _ _ 0 0 q 1 32 w1 hr (by omega) (by simp) (fun i x _ _ hx => (List.mem_replicate.1 (List.mem_of_getElem? hx)).2) (.inl rfl) (by omega)
  have HMAP := Lib.hid hmap
  clear hr hn hmap HNEW
  go_wp2_with fail
  refine (there_any b cb wb _ _ 0 0 w1 HR.out).mono ?_
  rintro e w' ⟨rfl, rfl⟩
  go_wp2_with fail
  refine (count_any b cb wb _ _ 0 0 w1 HR.out).mono ?_
  rintro e w' ⟨rfl, rfl⟩
  go_wp2_with fail
  refine HMAP.out.mono ?_
  rintro e w2 ⟨rfl, hr2, hf2⟩
  have hws : (fill (List.replicate (q + 1) 0) q 1 32).length = q + 1 := by rw [fill_len]; simp
  have hwq : (fill (List.replicate (q + 1) 0) q 1 32).getD q 0 = 32 := by
    rw [List.getD_eq_getElem?_getD, fill_get _ _ _ _ _ (by simp), if_pos (by omega)]; rfl
  have hwd := width_any b cb wb _ _ _ _ q w2 hr2
  have hmap2 := map_err b cb wb _ _ _ _ ((q : Int) + 1) 1 32 ((q : Int) + 1) 2 w2 hr2 (by omega) (by unfold mapErr rowErr; rw [if_neg (by omega), if_pos (by rw [hws]; omega)])
  rw [hwq] at hwd
  have HR2 := Lib.hid hr2
  have HM2 := Lib.hid hmap2
  have HN2 := Lib.hid (own_then HN.out hf2 (fun i hi => by omega))
  have HWQ := Lib.hid hwq
  clear hr2 hf2 hmap2 HMAP HR HN hws hwq hwd
  go_wp2_with fail
  refine HM2.out.mono ?_
  rintro e w3 ⟨eb, rfl, he, hn3⟩
  have HE := Lib.hid (he.says (by omega) (by omega))
  have HR3 := Lib.hid (HR2.out.keep hn3 id id id)
  have HN3 := Lib.hid (HN2.out.trans hn3)
  clear he hn3 HM2 HR2 HN2
  go_wp2_with fail
  refine (no_ref _ _ _).mono ?_
  rintro e w4 ⟨f, rfl, hf, hn4⟩
  have HSM := Lib.hid (same_says _ f memL _ w4 ((HG.out.keep HN3.out id).keep hn4 id) (HE.out.new hn4) hf)
  have HR4 := Lib.hid (HR3.out.keep hn4 id id id)
  have HN4 := Lib.hid (HN3.out.trans hn4)
  clear hf hn4 HE HR3 HN3
  go_wp2_with fail
  refine HSM.out.mono ?_
  rintro e w5 ⟨rfl, hn5⟩
  have hwd := width_any b cb wb _ _ _ _ q w5 (HR4.out.keep hn5 id id id)
  rw [HWQ.out] at hwd
  have HWD := Lib.hid hwd
  have HR5 := Lib.hid (HR4.out.keep hn5 id id id)
  have HN5 := Lib.hid (HN4.out.trans hn5)
  clear hn5 HSM HR4 HN4 hwd
  go_wp2_with fail
  refine HWD.out.mono ?_
  rintro e w' ⟨rfl, rfl⟩
  go_wp2_with fail
  refine (there_any b cb wb _ _ _ _ _ HR5.out).mono ?_
  rintro e w' ⟨rfl, rfl⟩
  go_wp2_with fail
  refine (awake_any _).mono ?_
  rintro e w6 ⟨rfl, hn6⟩
  have HN6 := Lib.hid (HN5.out.trans hn6)
  clear hn6
  go_wp2
  go_ret
  exact ⟨rfl, HN6.out⟩

theorem news_walk (n : Int) (w : World) (hg : Laid w) :
    Calls Tryd.prog 3 #[.int .i64 n] w fun e w' => e = .returned (.bool true) ∧ New w w' := by
  by_cases h : n < 1 ∨ 65536 < n
  · exact news_bad n w hg h
  · obtain ⟨q, rfl⟩ : ∃ q : Nat, n = (q : Int) + 1 := ⟨(n - 1).toNat, by omega⟩
    exact news_ok q w hg (by omega)

end Go.Proofs.YtfppipbdmjnbcaaDoor
