/- The statement 'TableJoins', for every input: its row and its tied card. Conditions: the listed variable as the card ties it. -/
import Derived.Test.YtpfkfajgbaakoaaDoorTableJoins
import Derived.Test.YtpfkfajgbaakoaaDoorDoorP
import Derived.Test.YtpfkfajgbaakoaaDoorCards
import Derived.Test.YtpfkfajgbaakoaaDoorTie
namespace Go.Proofs.YtpfkfajgbaakoaaDoor
open Go.ChangeShapes Go.WideShapes Go.ChangeAt Go.RowKit

set_option linter.unusedVariables false in
set_option maxRecDepth 100000 in
theorem tableJoins_lifted (os : Os) (started : os.Started) (H : Type) (enc : TypeId × Value → H) :
    ReturnsInHanded {} Tryd.checked os 7 .any (fun w args => (Rows.tableJoinsSpec.pre enc Tryd.prog Tryd.f7 [] false w args ∧ laidMetH Tryd.prog [("errors.errorType", Rows.laid_errors_errorType)] w) ∧ sizedMet enc Tryd.prog Tryd.f7 (OpenSpec.ofChange Rows.tableJoinsSpec) false w args)
      (Rows.tableJoinsSpec.post enc Tryd.prog Tryd.f7 false true false false) := by
  refine returnsInHanded_of_change_and (C := Tryd.checked) (X := fun w _ => laidMetH Tryd.prog [("errors.errorType", Rows.laid_errors_errorType)] w) (fun _ _ _ hh h => h.of_heap hh) ownKnobNone started (by kernel_rfl) Tryd.func7
    (ChangeSpec.witness_at (enc := enc) (C := Tryd.checked) (os := os) (X := fun w _ => laidMetH Tryd.prog [("errors.errorType", Rows.laid_errors_errorType)] w) false (laidWorld os) #[.int .u64 0, .int .u64 0, .bool false] 8 rfl (by kernel_rfl) (by kernel_rfl) (by kernel_rfl) (by kernel_rfl) (by kernel_rfl) (laidWorld_met os _)) ?_
  intro W base args ds gs before hval0 hW _ hwt0 hL _
  have hval : ∀ (j : Nat) t v, Tryd.f7.params[j]? = some t → args[j]? = some v → Value.okWide Tryd.prog W .any base t v := hval0
  have hW' := hW
  obtain ⟨p, q, hA0, hV, rfl, hfz, hnd⟩ := hW
  have hA : DataW.TrodAll enc Tryd.prog W 0 (fun _ => true) true Tryd.f7.params.toList args.toList ds p := hA0
  rw [Tryd.params7] at hA hval
  obtain ⟨v0, vs0, d0, ds0, p0, q0, hargs, rfl, rfl, h0, r0⟩ := trodAll_cons hA
  obtain ⟨v1, vs1, d1, ds1, p1, q1, rfl, rfl, rfl, h1, r1⟩ := trodAll_cons r0
  obtain ⟨v2, vs2, d2, ds2, p2, q2, rfl, rfl, rfl, h2, r2⟩ := trodAll_cons r1
  obtain ⟨rfl, rfl, rfl⟩ := trodAll_nil r2
  obtain rfl : args = #[v0, v1, v2] := by cases args; simp_all
  obtain ⟨rfl, rfl⟩ := trodVars_none hV
  have k0 := h0
  have lt0 : ∀ x ∈ p0, x.block < W.heap.size := by obtain ⟨m, hm⟩ := k0; exact DataW.trod_lt m _ _ _ hm
  obtain ⟨a0, rfl, rfl, rfl, w0⟩ := open_int Tryd.underlying34 (hval 0 34 v0 rfl rfl) h0
  have bd0 := bounds_u64 w0
  obtain ⟨n0, rfl⟩ := Int.eq_ofNat_of_zero_le bd0.1
  have k1 := h1
  have lt1 : ∀ x ∈ p1, x.block < W.heap.size := by obtain ⟨m, hm⟩ := k1; exact DataW.trod_lt m _ _ _ hm
  obtain ⟨a1, rfl, rfl, rfl, w1⟩ := open_int Tryd.underlying34 (hval 1 34 v1 rfl rfl) h1
  have bd1 := bounds_u64 w1
  obtain ⟨n1, rfl⟩ := Int.eq_ofNat_of_zero_le bd1.1
  have k2 := h2
  have lt2 : ∀ x ∈ p2, x.block < W.heap.size := by obtain ⟨m, hm⟩ := k2; exact DataW.trod_lt m _ _ _ hm
  obtain ⟨b2, rfl, rfl, rfl⟩ := open_bool Tryd.underlying4 (hval 2 4 v2 rfl rfl) h2
  clear hA0 hval0
  refine (joins_walk n0 n1 b2 W (laid_of hL)).mono fun e W' ⟨he, nw⟩ => ?_
  have bel : Below W.heap.size W W' := nw.below (Nat.le_refl _) (fun _ h => h.elim)
  subst he
  exact ⟨_, rfl, _, _, _, [], _, [], hW', trodAll_mk1 (shut_bool Tryd.underlying4 _), (trodAll_cons_mk (shut_int Tryd.underlying34 w0) (trodAll_cons_mk (shut_int Tryd.underlying34 w1) (trodAll_cons_mk (shut_bool Tryd.underlying4 b2) trodAll_mk0))), rfl, bel.frame _, fun h => by cases h⟩

theorem tableJoins_row : Rows.TableJoinsSaid :=
  OpenClaim.holds_of_wide 7 Tryd.f7 rfl rfl rfl rfl rfl rfl rfl ⟨rfl, rfl, rfl, rfl, rfl⟩ rfl rfl rfl rfl rfl (by kernel_rfl) Tryd.func7 (by kernel_rfl)
    (of_decide_eq_true (by kernel_rfl)) (by unfold Func.isWrapper; rw [if_neg (of_decide_eq_false (by kernel_rfl))]; exact ⟨rfl, rfl⟩)
    (fun os started H enc _ => tableJoins_lifted os started H enc)

theorem tableJoins_holds : Rows.TableJoinsCardSaid :=
  Claim7.holds_tied_plain_at .later [] [.handle] true Rows.tableJoinsCard.stood.harness true
    tableJoins_row (fun _ h => by cases h) (by kernel_rfl) (fun _ h => by cases h) tableJoins_row_tie rfl ⟨rfl, rfl⟩ (by kernel_rfl) rfl
    (fun f fn hf hfn => by
      obtain rfl : f = 7 := Option.some.inj ((show Tryd.prog.funcNamed Tryd.f7.name = some 7 by kernel_rfl).symm.trans hf) |>.symm
      obtain rfl : fn = Tryd.f7 := (Option.some.inj (Tryd.func7.symm.trans hfn)).symm
      exact ⟨by kernel_rfl, fun j t ht => by
        rw [Tryd.params7] at ht
        have h3 : Tryd.prog.wantsStandIn t = false := by
          rcases j with _ | _ | _ | j
          · obtain rfl : 34 = t := by simpa using ht
            exact (show Tryd.prog.wantsStandIn 34 = false by kernel_rfl)
          · obtain rfl : 34 = t := by simpa using ht
            exact (show Tryd.prog.wantsStandIn 34 = false by kernel_rfl)
          · obtain rfl : 4 = t := by simpa using ht
            exact (show Tryd.prog.wantsStandIn 4 = false by kernel_rfl)
          · simp at ht
        exact h3⟩)
    (by kernel_rfl)
#print axioms tableJoins_holds

end Go.Proofs.YtpfkfajgbaakoaaDoor
