/- The statement 'VmRuns', for every input: its row and its tied card. Conditions: the listed variable as the card ties it. -/
import Derived.Test.YtngpcalgjaglmaaDoorVmRuns
import Derived.Test.YtngpcalgjaglmaaDoorRecs
import Derived.Test.YtngpcalgjaglmaaDoorInts
import Derived.Test.YtngpcalgjaglmaaDoorNums
import Derived.Test.YtngpcalgjaglmaaDoorDoorP
import Derived.Test.YtngpcalgjaglmaaDoorCards
import Derived.Test.YtngpcalgjaglmaaDoorTie
namespace Go.Proofs.YtngpcalgjaglmaaDoor
open Go.ChangeShapes Go.WideShapes Go.ChangeAt Go.RowKit

set_option linter.unusedVariables false in
set_option maxRecDepth 100000 in
theorem vmRuns_lifted (os : Os) (started : os.Started) (H : Type) (enc : TypeId × Value → H) :
    ReturnsInHanded {} Tryd.checked os 3 .any (fun w args => (Rows.vmRunsSpec.pre enc Tryd.prog Tryd.f3 [] false w args ∧ laidMetH Tryd.prog [("errors.errorType", Rows.laid_errors_errorType)] w) ∧ sizedMet enc Tryd.prog Tryd.f3 (OpenSpec.ofChange Rows.vmRunsSpec) false w args)
      (Rows.vmRunsSpec.post enc Tryd.prog Tryd.f3 false true false false) := by
  refine returnsInHanded_of_change_and (C := Tryd.checked) (X := fun w _ => laidMetH Tryd.prog [("errors.errorType", Rows.laid_errors_errorType)] w) (fun _ _ _ hh h => h.of_heap hh) ownKnobNone started (by kernel_rfl) Tryd.func3
    (ChangeSpec.witness_at (enc := enc) (C := Tryd.checked) (os := os) (X := fun w _ => laidMetH Tryd.prog [("errors.errorType", Rows.laid_errors_errorType)] w) false (laidWorld os) #[.slice none 0 0, .int .i64 0, .slice none 0 0, .slice none 0 0, .slice none 0 0, .int .i64 0] 8 rfl (by kernel_rfl) (by kernel_rfl) (by kernel_rfl) (by kernel_rfl) (by kernel_rfl) (laidWorld_met os _)) ?_
  intro W base args ds gs before hval0 hW _ hwt0 hL _
  have hval : ∀ (j : Nat) t v, Tryd.f3.params[j]? = some t → args[j]? = some v → Value.okWide Tryd.prog W .any base t v := hval0
  have hW' := hW
  obtain ⟨p, q, hA0, hV, rfl, hfz, hnd⟩ := hW
  have hA : DataW.TrodAll enc Tryd.prog W 0 (fun _ => true) true Tryd.f3.params.toList args.toList ds p := hA0
  rw [Tryd.params3] at hA hval
  obtain ⟨v0, vs0, d0, ds0, p0, q0, hargs, rfl, rfl, h0, r0⟩ := trodAll_cons hA
  obtain ⟨v1, vs1, d1, ds1, p1, q1, rfl, rfl, rfl, h1, r1⟩ := trodAll_cons r0
  obtain ⟨v2, vs2, d2, ds2, p2, q2, rfl, rfl, rfl, h2, r2⟩ := trodAll_cons r1
  obtain ⟨v3, vs3, d3, ds3, p3, q3, rfl, rfl, rfl, h3, r3⟩ := trodAll_cons r2
  obtain ⟨v4, vs4, d4, ds4, p4, q4, rfl, rfl, rfl, h4, r4⟩ := trodAll_cons r3
  obtain ⟨v5, vs5, d5, ds5, p5, q5, rfl, rfl, rfl, h5, r5⟩ := trodAll_cons r4
  obtain ⟨rfl, rfl, rfl⟩ := trodAll_nil r5
  obtain rfl : args = #[v0, v1, v2, v3, v4, v5] := by cases args; simp_all
  obtain ⟨rfl, rfl⟩ := trodVars_none hV
  have k0 := h0
  have lt0 : ∀ x ∈ p0, x.block < W.heap.size := by obtain ⟨m, hm⟩ := k0; exact DataW.trod_lt m _ _ _ hm
  obtain ⟨ao0, len0, cap0, rfl⟩ := okWide_slice Tryd.underlying22 (hval 0 22 v0 rfl rfl)
  obtain ⟨rs0, rfl, hm0, fit0, recs0⟩ := open_recs [.i64, .i64, .i64, .i64, .u64, .i64, .i64] Tryd.underlying22 Tryd.underlying52 (by kernel_rfl) (by kernel_rfl) (by kernel_rfl) (by decide) h0
  unfold maxLen at hm0
  have k1 := h1
  have lt1 : ∀ x ∈ p1, x.block < W.heap.size := by obtain ⟨m, hm⟩ := k1; exact DataW.trod_lt m _ _ _ hm
  obtain ⟨a1, rfl, rfl, rfl, w1⟩ := open_int Tryd.underlying3 (hval 1 3 v1 rfl rfl) h1
  have bd1 := bounds_i64 w1
  have k2 := h2
  have lt2 : ∀ x ∈ p2, x.block < W.heap.size := by obtain ⟨m, hm⟩ := k2; exact DataW.trod_lt m _ _ _ hm
  obtain ⟨ao2, len2, cap2, rfl⟩ := okWide_slice Tryd.underlying23 (hval 2 23 v2 rfl rfl)
  obtain ⟨xs2, rfl, hm2, fit2, nats2⟩ := open_nats Tryd.underlying23 Tryd.underlying47 (by kernel_rfl) h2
  unfold maxLen at hm2
  have k3 := h3
  have lt3 : ∀ x ∈ p3, x.block < W.heap.size := by obtain ⟨m, hm⟩ := k3; exact DataW.trod_lt m _ _ _ hm
  obtain ⟨ao3, len3, cap3, rfl⟩ := okWide_slice Tryd.underlying24 (hval 3 24 v3 rfl rfl)
  obtain ⟨xs3, rfl, hm3, fit3, ints3⟩ := open_intsl Tryd.underlying24 Tryd.underlying3 (by kernel_rfl) h3
  unfold maxLen at hm3
  have k4 := h4
  have lt4 : ∀ x ∈ p4, x.block < W.heap.size := by obtain ⟨m, hm⟩ := k4; exact DataW.trod_lt m _ _ _ hm
  obtain ⟨ao4, len4, cap4, rfl⟩ := okWide_slice Tryd.underlying23 (hval 4 23 v4 rfl rfl)
  obtain ⟨xs4, rfl, hm4, fit4, nats4⟩ := open_nats Tryd.underlying23 Tryd.underlying47 (by kernel_rfl) h4
  unfold maxLen at hm4
  have k5 := h5
  have lt5 : ∀ x ∈ p5, x.block < W.heap.size := by obtain ⟨m, hm⟩ := k5; exact DataW.trod_lt m _ _ _ hm
  obtain ⟨a5, rfl, rfl, rfl, w5⟩ := open_int Tryd.underlying3 (hval 5 3 v5 rfl rfl) h5
  have bd5 := bounds_i64 w5
  clear hA0 hval0
  refine (runs_walk rs0 ao0 cap0 a1 xs2 ao2 cap2 xs3 ao3 cap3 xs4 ao4 cap4 a5 W (laid_of hL) recs0 fit0 (by omega) nats2 fit2 (by omega) ints3 (by omega) nats4 fit4 (by omega) bd5).mono fun e W' ⟨he, nw⟩ => ?_
  have bel : Below W.heap.size W W' := nw.below (Nat.le_refl _) (fun _ h => h.elim)
  subst he
  exact ⟨_, rfl, _, _, _, [], _, [], hW', trodAll_mk1 (shut_bool Tryd.underlying4 _), (trodAll_cons_mk (Below.trod laidOutB_ok (by kernel_rfl) (of_decide_eq_true (by kernel_rfl)) k0 bel lt0) (trodAll_cons_mk (shut_int Tryd.underlying3 w1) (trodAll_cons_mk (Below.trod laidOutB_ok (by kernel_rfl) (of_decide_eq_true (by kernel_rfl)) k2 bel lt2) (trodAll_cons_mk (Below.trod laidOutB_ok (by kernel_rfl) (of_decide_eq_true (by kernel_rfl)) k3 bel lt3) (trodAll_cons_mk (Below.trod laidOutB_ok (by kernel_rfl) (of_decide_eq_true (by kernel_rfl)) k4 bel lt4) (trodAll_cons_mk (shut_int Tryd.underlying3 w5) trodAll_mk0)))))), rfl, bel.frame _, fun h => by cases h⟩

theorem vmRuns_row : Rows.VmRunsSaid :=
  OpenClaim.holds_of_wide 3 Tryd.f3 rfl rfl rfl rfl rfl rfl rfl ⟨rfl, rfl, rfl, rfl, rfl⟩ rfl rfl rfl rfl rfl (by kernel_rfl) Tryd.func3 (by kernel_rfl)
    (of_decide_eq_true (by kernel_rfl)) (by unfold Func.isWrapper; rw [if_neg (of_decide_eq_false (by kernel_rfl))]; exact ⟨rfl, rfl⟩)
    (fun os started H enc _ => vmRuns_lifted os started H enc)

theorem vmRuns_holds : Rows.VmRunsCardSaid :=
  Claim7.holds_tied_plain_at .later [] [.handle] true Rows.vmRunsCard.stood.harness true
    vmRuns_row (fun _ h => by cases h) (by kernel_rfl) (fun _ h => by cases h) vmRuns_row_tie rfl ⟨rfl, rfl⟩ (by kernel_rfl) rfl
    (fun f fn hf hfn => by
      obtain rfl : f = 3 := Option.some.inj ((show Tryd.prog.funcNamed Tryd.f3.name = some 3 by kernel_rfl).symm.trans hf) |>.symm
      obtain rfl : fn = Tryd.f3 := (Option.some.inj (Tryd.func3.symm.trans hfn)).symm
      exact ⟨by kernel_rfl, fun j t ht => by
        rw [Tryd.params3] at ht
        have h3 : Tryd.prog.wantsStandIn t = false := by
          rcases j with _ | _ | _ | _ | _ | _ | j
          · obtain rfl : 22 = t := by simpa using ht
            exact (show Tryd.prog.wantsStandIn 22 = false by kernel_rfl)
          · obtain rfl : 3 = t := by simpa using ht
            exact (show Tryd.prog.wantsStandIn 3 = false by kernel_rfl)
          · obtain rfl : 23 = t := by simpa using ht
            exact (show Tryd.prog.wantsStandIn 23 = false by kernel_rfl)
          · obtain rfl : 24 = t := by simpa using ht
            exact (show Tryd.prog.wantsStandIn 24 = false by kernel_rfl)
          · obtain rfl : 23 = t := by simpa using ht
            exact (show Tryd.prog.wantsStandIn 23 = false by kernel_rfl)
          · obtain rfl : 3 = t := by simpa using ht
            exact (show Tryd.prog.wantsStandIn 3 = false by kernel_rfl)
          · simp at ht
        exact h3⟩)
    (by kernel_rfl)
#print axioms vmRuns_holds

end Go.Proofs.YtngpcalgjaglmaaDoor
