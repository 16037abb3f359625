/- The document's example of codes. -/
import Derived.Test.YtkpliapmllabaaaDoorCodeC
namespace Go.Proofs.YtkpliapmllabaaaDoor
open Go.RowKit

theorem recs_one {w : World} {b : Nat} {o A B C : Int} {V : Nat} {M W : Int} (h : Arr w b [.int .i64 o, .int .i64 A, .int .i64 B, .int .i64 C, .int .u64 V, .int .i64 M, .int .i64 W]) : Recs insKs w (some ⟨b, 0, none⟩) [[o, A, B, C, (V : Int), M, W]] := by
  intro i r hr
  obtain rfl : i = 0 := by have := (List.getElem?_eq_some_iff.1 hr).1; simpa using this
  obtain rfl : [o, A, B, C, (V : Int), M, W] = r := by simpa using hr
  refine ⟨b, 0, rfl, h.lt, fun j z k hz hk => ?_⟩
  match j, hz, hk with
  | 0, hz, hk => cases hz; cases hk; exact h.cell 0 _ rfl
  | 1, hz, hk => cases hz; cases hk; exact h.cell 1 _ rfl
  | 2, hz, hk => cases hz; cases hk; exact h.cell 2 _ rfl
  | 3, hz, hk => cases hz; cases hk; exact h.cell 3 _ rfl
  | 4, hz, hk => cases hz; cases hk; exact h.cell 4 _ rfl
  | 5, hz, hk => cases hz; cases hk; exact h.cell 5 _ rfl
  | 6, hz, hk => cases hz; cases hk; exact h.cell 6 _ rfl
  | j + 7, hz, hk => simp at hz

theorem fit_one {r : List Int} (h : RecOk insKs r) : ∀ x ∈ [r], RecOk insKs x := fun x hx => by rw [List.mem_singleton.1 hx]; exact h
theorem recOk_of {o A B C V M W : Int} (h : (Lit.int .i64 o).wf = true ∧ (Lit.int .i64 A).wf = true ∧ (Lit.int .i64 B).wf = true ∧ (Lit.int .i64 C).wf = true ∧ (Lit.int .u64 V).wf = true ∧ (Lit.int .i64 M).wf = true ∧ (Lit.int .i64 W).wf = true) : RecOk insKs [o, A, B, C, V, M, W] := by
  obtain ⟨h0, h1, h2, h3, h4, h5, h6⟩ := h
  refine ⟨rfl, fun j z k hz hk => ?_⟩
  match j, hz, hk with
  | 0, hz, hk => cases hz; cases hk; exact h0
  | 1, hz, hk => cases hz; cases hk; exact h1
  | 2, hz, hk => cases hz; cases hk; exact h2
  | 3, hz, hk => cases hz; cases hk; exact h3
  | 4, hz, hk => cases hz; cases hk; exact h4
  | 5, hz, hk => cases hz; cases hk; exact h5
  | 6, hz, hk => cases hz; cases hk; exact h6
  | j + 7, hz, hk => simp at hz

set_option maxRecDepth 100000 in
set_option maxHeartbeats 2000000 in
theorem awake_any (w : World) (hg : Laid w) : Calls Tryd.prog 16 #[] w fun e w' => e = .returned (.bool true) ∧ New w w' := by
  obtain ⟨W0, hW0⟩ : ∃ W0, (w.alloc (.cells #[.int .i64 3, .int .i64 1, .int .i64 2, .int .i64 (-1), .int .u64 5, .int .i64 0, .int .i64 0] 42)).alloc (.cells #[.int .i64 1, .int .i64 32, .int .i64 0, .int .i64 0, .int .u64 0, .int .i64 0, .int .i64 0] 42) = W0 := ⟨_, rfl⟩
  have hn0 : New w W0 := by rw [← hW0]; exact ((Fr.refl _ _).alloc _).alloc _
  have ha1 : Arr W0 w.heap.size [.int .i64 3, .int .i64 1, .int .i64 2, .int .i64 (-1), .int .u64 ((5 : Nat) : Int), .int .i64 0, .int .i64 0] := by rw [← hW0]; exact (Arr.new _ _ _).alloc _
  have ha2 : Arr W0 (w.heap.size + 1) [.int .i64 1, .int .i64 32, .int .i64 0, .int .i64 0, .int .u64 ((0 : Nat) : Int), .int .i64 0, .int .i64 0] := by
    rw [← hW0]; exact Arr.of_block (block_alloc_new1 _ _ _)
  have r1 := recs_one ha1
  have r2 := recs_one ha2
  have f1 := fit_one (r := [3, 1, 2, -1, ((5 : Nat) : Int), 0, 0]) (recOk_of (by decide))
  have f2 := fit_one (r := [1, 32, 0, 0, ((0 : Nat) : Int), 0, 0]) (recOk_of (by decide))
  have c1 := fun w (h : New W0 w) => check_any _ _ 1 true w f1 (r1.keep h) (by simp)
  have c2 := fun w (h : New W0 w) => check_any _ _ 1 false w f1 (r1.keep h) (by simp)
  have c3 := fun w (h : New W0 w) => check_any _ _ 1 true w f2 (r2.keep h) (by simp)
  rw [show checkErr [[3, 1, 2, -1, ((5 : Nat) : Int), 0, 0]] true = none by decide] at c1
  rw [show checkErr [[3, 1, 2, -1, ((5 : Nat) : Int), 0, 0]] false = none by decide] at c2
  rw [show checkErr [[1, 32, 0, 0, ((0 : Nat) : Int), 0, 0]] true = some (0, 5) by decide] at c3
  have HC1 := Lib.hid c1
  have HC2 := Lib.hid c2
  have HC3 := Lib.hid c3
  have HN0 := Lib.hid hn0
  have HG := Lib.hid hg
  have HW0 := Lib.hid hW0
  clear c1 c2 c3 hn0 hg hW0 ha1 ha2 r1 r2 f1 f2
  go_enter Tryd.func16, Tryd.ntmps16
  go_wp2_with fail
  rw [HW0.out]
  refine (HC1.out _ (Fr.refl _ _)).mono ?_
  rintro e w1 ⟨v1, rfl, hv1, hn1⟩
  obtain rfl : v1 = .nilIface := hv1
  have HN1 := Lib.hid hn1
  clear hn1
  go_wp2_with fail
  refine (HC2.out _ HN1.out).mono ?_
  rintro e w2 ⟨v2, rfl, hv2, hn2⟩
  obtain rfl : v2 = .nilIface := hv2
  have HN2 := Lib.hid (HN1.out.trans hn2)
  clear hn2
  go_wp2_with fail
  refine (HC3.out _ HN2.out).mono ?_
  rintro e w3 ⟨v3, rfl, hv3, hn3⟩
  have HV3 := Lib.hid hv3
  have HN3 := Lib.hid (HN2.out.trans hn3)
  clear hn3 hv3
  go_wp2_with fail
  refine (no_any codeL 0 5 _).mono ?_
  rintro e w4 ⟨f, rfl, hf, hn4⟩
  have HSM := Lib.hid (same_says v3 f codeL (some (0, 5)) w4 ((HG.out.keep (HN0.out.trans HN3.out) id).keep hn4 id) (HV3.out.new hn4) hf)
  have HN4 := Lib.hid (HN3.out.trans hn4)
  clear hf hn4
  go_wp2_with fail
  refine HSM.out.mono ?_
  rintro e w5 ⟨rfl, hn5⟩
  have HN5 := Lib.hid ((HN0.out.trans HN4.out).trans hn5)
  clear hn5
  go_wp2
  go_ret
  exact ⟨rfl, HN5.out⟩

end Go.Proofs.YtkpliapmllabaaaDoor
