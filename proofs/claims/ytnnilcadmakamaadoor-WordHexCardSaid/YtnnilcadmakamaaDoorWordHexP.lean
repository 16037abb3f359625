/- The statement 'WordHex', for every input: its row and its tied card. Conditions: the listed variable as the card ties it. -/
import Derived.Test.YtnnilcadmakamaaDoorWordHex
import Derived.Test.YtnnilcadmakamaaDoorDoorP
import Derived.Test.YtnnilcadmakamaaDoorCards
import Derived.Test.YtnnilcadmakamaaDoorTie
namespace Go.Proofs.YtnnilcadmakamaaDoor
open Go.ChangeShapes Go.WideShapes Go.ChangeAt Go.RowKit

set_option linter.unusedVariables false in
set_option maxRecDepth 100000 in
theorem wordHex_lifted (os : Os) (started : os.Started) (H : Type) (enc : TypeId × Value → H) :
    ReturnsInHanded {} Tryd.checked os 6 .any (fun w args => (Rows.wordHexSpec.pre enc Tryd.prog Tryd.f6 [] false w args ∧ laidMetH Tryd.prog [("errors.errorType", Rows.laid_errors_errorType)] w) ∧ sizedMet enc Tryd.prog Tryd.f6 (OpenSpec.ofChange Rows.wordHexSpec) false w args)
      (Rows.wordHexSpec.post enc Tryd.prog Tryd.f6 false true false false) := by
  refine returnsInHanded_of_change_and (C := Tryd.checked) (X := fun w _ => laidMetH Tryd.prog [("errors.errorType", Rows.laid_errors_errorType)] w) (fun _ _ _ hh h => h.of_heap hh) ownKnobNone started (by kernel_rfl) Tryd.func6
    (ChangeSpec.witness_at (enc := enc) (C := Tryd.checked) (os := os) (X := fun w _ => laidMetH Tryd.prog [("errors.errorType", Rows.laid_errors_errorType)] w) false (laidWorld os) #[.int .u64 0, .bool false, .int .i64 0] 8 rfl (by kernel_rfl) (by kernel_rfl) (by kernel_rfl) (by kernel_rfl) (by kernel_rfl) (laidWorld_met os _)) ?_
  intro W base args ds gs before hval0 hW _ _ hL hsz
  have hval : ∀ (j : Nat) t v, Tryd.f6.params[j]? = some t → args[j]? = some v → Value.okWide Tryd.prog W .any base t v := hval0
  have hW' := hW
  obtain ⟨p, q, hA0, hV, rfl, hfz, hnd⟩ := hW
  have hA : DataW.TrodAll enc Tryd.prog W 0 (fun _ => true) true Tryd.f6.params.toList args.toList ds p := hA0
  rw [Tryd.params6] at hA hval
  obtain ⟨v0, vs0, d0, ds0, p0, q0, hargs, rfl, rfl, h0, r0⟩ := trodAll_cons hA
  obtain ⟨v1, vs1, d1, ds1, p1, q1, rfl, rfl, rfl, h1, r1⟩ := trodAll_cons r0
  obtain ⟨v2, vs2, d2, ds2, p2, q2, rfl, rfl, rfl, h2, r2⟩ := trodAll_cons r1
  obtain ⟨rfl, rfl, rfl⟩ := trodAll_nil r2
  obtain rfl : args = #[v0, v1, v2] := by cases args; simp_all
  obtain ⟨rfl, rfl⟩ := trodVars_none hV
  have k0 := h0
  have lt0 : ∀ x ∈ p0, x.block < W.heap.size := by obtain ⟨m, hm⟩ := k0; exact DataW.trod_lt m _ _ _ hm
  obtain ⟨a0, rfl, rfl, rfl, w0⟩ := open_int Tryd.underlying22 (hval 0 22 v0 rfl rfl) h0
  have bd0 := bounds_u64 w0
  obtain ⟨n0, rfl⟩ := Int.eq_ofNat_of_zero_le bd0.1
  have k1 := h1
  have lt1 : ∀ x ∈ p1, x.block < W.heap.size := by obtain ⟨m, hm⟩ := k1; exact DataW.trod_lt m _ _ _ hm
  obtain ⟨b1, rfl, rfl, rfl⟩ := open_bool Tryd.underlying4 (hval 1 4 v1 rfl rfl) h1
  have k2 := h2
  have lt2 : ∀ x ∈ p2, x.block < W.heap.size := by obtain ⟨m, hm⟩ := k2; exact DataW.trod_lt m _ _ _ hm
  obtain ⟨a2, rfl, rfl, rfl, w2⟩ := open_int Tryd.underlying3 (hval 2 3 v2 rfl rfl) h2
  have bd2 := bounds_i64 w2
  clear hA0 hval0
  refine (hex_walk n0 b1 a2 W (laid_of hL) (by omega) bd2).mono fun e W' ⟨he, nw⟩ => ?_
  have bel : Below W.heap.size W W' := nw.below (Nat.le_refl _) (fun _ h => h.elim)
  subst he
  exact ⟨_, rfl, _, _, _, [], _, [], hW', trodAll_mk1 (shut_bool Tryd.underlying4 _), (trodAll_cons_mk (shut_int Tryd.underlying22 w0) (trodAll_cons_mk (shut_bool Tryd.underlying4 b1) (trodAll_cons_mk (shut_int Tryd.underlying3 w2) trodAll_mk0))), rfl, bel.frame _, fun h => by cases h⟩

theorem wordHex_row : Rows.WordHexSaid :=
  OpenClaim.holds_of_wide 6 Tryd.f6 rfl rfl rfl rfl rfl rfl rfl ⟨rfl, rfl, rfl, rfl, rfl⟩ rfl rfl rfl rfl rfl (by kernel_rfl) Tryd.func6 (by kernel_rfl)
    (of_decide_eq_true (by kernel_rfl)) (by unfold Func.isWrapper; rw [if_neg (of_decide_eq_false (by kernel_rfl))]; exact ⟨rfl, rfl⟩)
    (fun os started H enc _ => wordHex_lifted os started H enc)

theorem wordHex_holds : Rows.WordHexCardSaid :=
  Claim7.holds_tied_plain_at .later [] [.handle] true Rows.wordHexCard.stood.harness true
    wordHex_row (fun _ h => by cases h) (by kernel_rfl) (fun _ h => by cases h) wordHex_row_tie rfl ⟨rfl, rfl⟩ (by kernel_rfl) rfl
    (fun f fn hf hfn => by
      obtain rfl : f = 6 := Option.some.inj ((show Tryd.prog.funcNamed Tryd.f6.name = some 6 by kernel_rfl).symm.trans hf) |>.symm
      obtain rfl : fn = Tryd.f6 := (Option.some.inj (Tryd.func6.symm.trans hfn)).symm
      exact ⟨by kernel_rfl, fun j t ht => by
        rw [Tryd.params6] at ht
        have h3 : Tryd.prog.wantsStandIn t = false := by
          rcases j with _ | _ | _ | j
          · obtain rfl : 22 = t := by simpa using ht
            exact (show Tryd.prog.wantsStandIn 22 = false by kernel_rfl)
          · obtain rfl : 4 = t := by simpa using ht
            exact (show Tryd.prog.wantsStandIn 4 = false by kernel_rfl)
          · obtain rfl : 3 = t := by simpa using ht
            exact (show Tryd.prog.wantsStandIn 3 = false by kernel_rfl)
          · simp at ht
        exact h3⟩)
    (by kernel_rfl)
#print axioms wordHex_holds

end Go.Proofs.YtnnilcadmakamaaDoor
