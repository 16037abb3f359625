/- A handle is found by its own kind alone: the statement's walk. -/
import Derived.Test.YtincfbgegoefgaaDoorErrC
import Derived.Test.YtincfbgegoefgaaDoorObjG
import Derived.Test.YtincfbgegoefgaaDoorObjK
namespace Go.Proofs.YtincfbgegoefgaaDoor
open Go.RowKit Go.Shelf

theorem IsErr.errIs {w : World} {v : Value} {k : Int} (h : IsErr w v k) : ErrIs w v [(⟨#[111, 98, 106, 101, 99, 116, 115]⟩, 0)] k := by
  obtain ⟨b, hv, hb⟩ := h
  exact ⟨b, _, hv, hb, rfl⟩

set_option maxRecDepth 100000 in
set_option maxHeartbeats 2000000 in
theorem kinds_walk (k o : Int) (a : Nat) (w : World) (hg : Laid w) (hk : -9223372036854775808 ≤ k ∧ k ≤ 9223372036854775807) :
    Calls Tryd.prog 6 #[.int .i64 k, .int .i64 o, .int .u64 a] w fun e w' => e = .returned (.bool true) ∧ New w w' := by
  have h0 := lt_of_cell hg
  go_enter Tryd.func6, Tryd.ntmps6
  go_wp2_with fail
  refine (new_any 3 _ (by omega) (by omega)).mono ?_
  rintro e w1 ⟨b, rb, rfl, hb, hrb, hr, hn1⟩
  have hs1 := hn1.size
  have HR := Lib.hid hr
  have HN1 := Lib.hid hn1
  have HG := Lib.hid hg
  clear hr hn1 hg
  by_cases hbad : k < 1 ∨ 6 < k
  · have HL0 := Lib.hid (show told (List.replicate 3 (⟨0, 0, 0, 0⟩ : Row)) = [] from rfl)
    rcases hbad with hb1 | hb1
    all_goals
      go_wp2_with fail
      refine (make_bad b k a _ (by omega)).mono ?_
      rintro e w2 ⟨v, rfl, he, hn2⟩
      have HE := Lib.hid he.errIs
      have HN2 := Lib.hid (HN1.out.trans hn2)
      have HR2 := Lib.hid (HR.out.keep hn2 id id)
      clear he hn2
      go_wp2_with fail
      refine (no_any _ _ _ _).mono ?_
      rintro e w3 ⟨f, rfl, hf, hn3⟩
      go_wp2_with fail
      refine (same_1 v f _ _ _ _ (HG.out.keep (HN2.out.trans hn3) id) (HE.out.new hn3) hf (by omega) (by omega)).mono ?_
      rintro e w4 ⟨rfl, hn4⟩
      have HN4 := Lib.hid ((HN2.out.trans hn3).trans hn4)
      have HR4 := Lib.hid ((HR2.out.keep hn3 id id).keep hn4 id id)
      clear hf hn3 hn4
      go_wp2_with fail
      refine (len_any b rb _ _ HR4.out).mono ?_
      rintro e w5 ⟨rfl, hn5⟩
      rw [HL0.out]
      go_wp2_with (go_at_call 10; refine (awake_any _).mono ?_; rintro e w6 ⟨rfl, hn6⟩)
      go_ret
      exact ⟨rfl, (HN4.out.trans hn5).trans hn6⟩
  · have hk1 : 1 ≤ k := by omega
    have hk2 : k ≤ 6 := by omega
    clear hbad
    go_wp2_with fail
    refine (make_ok b rb _ k a 0 ⟨0, 0, 0, 0⟩ _ HR.out hk1 hk2 rfl (by decide) rfl (fun q r h => by omega)).mono ?_
    rintro e w2 ⟨rfl, hr2, hf2⟩
    have HR2 := Lib.hid hr2
    have HN2 := Lib.hid (HN1.out.then hf2 (fun i hi e => by omega))
    clear hr2 hf2
    by_cases ho : o = k
    · subst ho
      go_wp2_with fail
      refine (find_ok b rb _ 0 _ _ HR2.out (by omega) rfl rfl).mono ?_
      rintro e w3 ⟨rfl, rfl⟩
      go_wp2_with (go_at_call 10; refine (awake_any _).mono ?_; rintro e w6 ⟨rfl, hn6⟩)
      go_ret
      exact ⟨rfl, HN2.out.trans hn6⟩
    · go_wp2_with fail
      refine (find_other b rb _ 0 _ o _ HR2.out (by omega) rfl rfl (fun e => ho e.symm)).mono ?_
      rintro e w3 ⟨v, rfl, he, hn3⟩
      have HE := Lib.hid he.errIs
      have HN3 := Lib.hid (HN2.out.trans hn3)
      have hoe : (o == k) = false := by simpa using ho
      clear he hn3 ho
      go_wp2_with fail
      refine (no_any _ _ _ _).mono ?_
      rintro e w4 ⟨f, rfl, hf, hn4⟩
      go_wp2_with fail
      refine (same_1 v f _ _ _ _ (HG.out.keep (HN3.out.trans hn4) id) (HE.out.new hn4) hf (by omega) (by omega)).mono ?_
      rintro e w5 ⟨rfl, hn5⟩
      go_wp2_with (go_at_call 10; refine (awake_any _).mono ?_; rintro e w6 ⟨rfl, hn6⟩)
      go_ret
      exact ⟨rfl, ((HN3.out.trans hn4).trans hn5).trans hn6⟩

end Go.Proofs.YtincfbgegoefgaaDoor
