/- The statement 'CodeLibraries', for every input: its row and its tied card. Conditions: the listed variable as the card ties it. -/
import Derived.Test.YtkpliapmllabaaaDoorSized
import Derived.Test.YtkpliapmllabaaaDoorOpenLib
import Derived.Test.YtkpliapmllabaaaDoorLibC
import Derived.Test.YtkpliapmllabaaaDoorDoorP
import Derived.Test.YtkpliapmllabaaaDoorCards
import Derived.Test.YtkpliapmllabaaaDoorTie
namespace Go.Proofs.YtkpliapmllabaaaDoor
open Go.ChangeShapes Go.WideShapes Go.ChangeAt Go.RowKit

set_option linter.unusedVariables false in
set_option maxRecDepth 100000 in
theorem codeLibraries_lifted (os : Os) (started : os.Started) (H : Type) (enc : TypeId × Value → H) :
    ReturnsInHanded {} Tryd.checked os 10 .any (fun w args => (Rows.codeLibrariesSpec.pre enc Tryd.prog Tryd.f10 [] false w args ∧ laidMetH Tryd.prog [("errors.errorType", Rows.laid_errors_errorType)] w) ∧ sizedMet enc Tryd.prog Tryd.f10 (OpenSpec.ofChange Rows.codeLibrariesSpec) false w args)
      (Rows.codeLibrariesSpec.post enc Tryd.prog Tryd.f10 false true false false) := by
  refine returnsInHanded_of_change_and (C := Tryd.checked) (X := fun w _ => laidMetH Tryd.prog [("errors.errorType", Rows.laid_errors_errorType)] w) (fun _ _ _ hh h => h.of_heap hh) ownKnobNone started (by kernel_rfl) Tryd.func10
    (ChangeSpec.witness_at (enc := enc) (C := Tryd.checked) (os := os) (X := fun w _ => laidMetH Tryd.prog [("errors.errorType", Rows.laid_errors_errorType)] w) false (laidWorld os) #[.agg #[.slice none 0 0, .int .i64 0, .slice none 0 0]] 8 rfl (by kernel_rfl) (by kernel_rfl) (by kernel_rfl) (by kernel_rfl) (by kernel_rfl) (laidWorld_met os _)) ?_
  intro W base args ds gs before hval0 hW _ hwt0 hL _
  have hval : ∀ (j : Nat) t v, Tryd.f10.params[j]? = some t → args[j]? = some v → Value.okWide Tryd.prog W .any base t v := hval0
  have hW' := hW
  obtain ⟨p, q, hA0, hV, rfl, hfz, hnd⟩ := hW
  have hA : DataW.TrodAll enc Tryd.prog W 0 (fun _ => true) true Tryd.f10.params.toList args.toList ds p := hA0
  rw [Tryd.params10] at hA hval
  have hwt : (DataW.weightsEach Tryd.prog (Tryd.f10.params.toList ++ Rows.codeLibrariesSpec.plain.varTypes Tryd.prog) (ds ++ gs)).all (· ≤ reachBytes) = true := hwt0
  rw [Tryd.params10] at hwt
  obtain ⟨v0, vs0, d0, ds0, p0, q0, hargs, rfl, rfl, h0, r0⟩ := trodAll_cons hA
  obtain ⟨rfl, rfl, rfl⟩ := trodAll_nil r0
  obtain rfl : args = #[v0] := by cases args; simp_all
  obtain ⟨rfl, rfl⟩ := trodVars_none hV
  have k0 := h0
  have lt0 : ∀ x ∈ p0, x.block < W.heap.size := by obtain ⟨m, hm⟩ := k0; exact DataW.trod_lt m _ _ _ hm
  obtain ⟨rs0, ao0, ca0, Lp0, l0, bo0, cb0, rfl, fit0, recs0, rch0, bLp0, rok0, rows0, rchb0⟩ := open_lib (j := 0) (hval 0 57 v0 rfl rfl) h0 hwt rfl rfl
  clear hA0 hval0
  refine (libraries_walk rs0 ao0 bo0 ca0 cb0 Lp0 l0 W (laid_of hL) fit0 recs0 rch0 bLp0 rows0 rok0 rchb0).mono fun e W' ⟨he, nw⟩ => ?_
  have bel : Below W.heap.size W W' := nw.below (Nat.le_refl _) (fun _ h => h.elim)
  subst he
  exact ⟨_, rfl, _, _, _, [], _, [], hW', trodAll_mk1 (shut_bool Tryd.underlying4 _), (trodAll_cons_mk (Below.trod laidOutB_ok (by kernel_rfl) (of_decide_eq_true (by kernel_rfl)) k0 bel lt0) trodAll_mk0), rfl, bel.frame _, fun h => by cases h⟩

theorem codeLibraries_row : Rows.CodeLibrariesSaid :=
  OpenClaim.holds_of_wide 10 Tryd.f10 rfl rfl rfl rfl rfl rfl rfl ⟨rfl, rfl, rfl, rfl, rfl⟩ rfl rfl rfl rfl rfl (by kernel_rfl) Tryd.func10 (by kernel_rfl)
    (of_decide_eq_true (by kernel_rfl)) (by unfold Func.isWrapper; rw [if_neg (of_decide_eq_false (by kernel_rfl))]; exact ⟨rfl, rfl⟩)
    (fun os started H enc _ => codeLibraries_lifted os started H enc)

theorem codeLibraries_holds : Rows.CodeLibrariesCardSaid :=
  Claim7.holds_tied_plain_at .later [] [.handle] true Rows.codeLibrariesCard.stood.harness true
    codeLibraries_row (fun _ h => by cases h) (by kernel_rfl) (fun _ h => by cases h) codeLibraries_row_tie rfl ⟨rfl, rfl⟩ (by kernel_rfl) rfl
    (fun f fn hf hfn => by
      obtain rfl : f = 10 := Option.some.inj ((show Tryd.prog.funcNamed Tryd.f10.name = some 10 by kernel_rfl).symm.trans hf) |>.symm
      obtain rfl : fn = Tryd.f10 := (Option.some.inj (Tryd.func10.symm.trans hfn)).symm
      exact ⟨by kernel_rfl, fun j t ht => by
        rw [Tryd.params10] at ht
        have h3 : Tryd.prog.wantsStandIn t = false := by
          rcases j with _ | j
          · obtain rfl : 57 = t := by simpa using ht
            exact (show Tryd.prog.wantsStandIn 57 = false by kernel_rfl)
          · simp at ht
        exact h3⟩)
    (by kernel_rfl)
#print axioms codeLibraries_holds

end Go.Proofs.YtkpliapmllabaaaDoor
