/- The statement 'VmValues', for every input: its row. Conditions: none beside the row's own. -/
import Derived.Test.YtngpcalgjaglmaaRecs
import Derived.Test.YtngpcalgjaglmaaVmValues
import Derived.Test.YtngpcalgjaglmaaPlainP
namespace Go.Proofs.Ytngpcalgjaglmaa
open Go.ChangeShapes Go.WideShapes Go.ChangeAt Go.RowKit

theorem lst7 {l : List Int} (h : l.length = 7) : ∃ x0 x1 x2 x3 x4 x5 x6, l = [x0, x1, x2, x3, x4, x5, x6] := by
  match l, h with
  | [x0, x1, x2, x3, x4, x5, x6], _ => exact ⟨x0, x1, x2, x3, x4, x5, x6, rfl⟩

set_option linter.unusedVariables false in
set_option maxRecDepth 100000 in
theorem vmValues_lifted (os : Os) (started : os.Started) (H : Type) (enc : TypeId × Value → H) :
    ReturnsInHanded {} Try.checked os 3 .any (Rows.vmValuesSpec.pre6 enc Try.prog Try.f3 Rows.vmValuesRow.domain false)
      (Rows.vmValuesSpec.post enc Try.prog Try.f3 false true false false) := by
  refine returnsInHanded_of_change (C := Try.checked) ownKnobNone started (by kernel_rfl) Try.func3
    (ChangeSpec.witness6 (enc := enc) (C := Try.checked) false ⟨#[], #[.agg #[.int .i64 0, .int .i64 0, .int .i64 0, .int .i64 0, .int .u64 0, .int .i64 0, .int .i64 0], .slice none 0 0], []⟩ 8 (by kernel_rfl) (by kernel_rfl) (by kernel_rfl) (by kernel_rfl)) ?_
  intro W base args ds gs before hval0 hW hcnd hsz
  have hval : ∀ (j : Nat) t v, Try.f3.params[j]? = some t → args[j]? = some v → Value.okWide Try.prog W .any base t v := hval0
  have hW' := hW
  obtain ⟨p, q, hA0, hV, rfl, hfz, hnd⟩ := hW
  have hA : DataW.TrodAll enc Try.prog W 0 (fun _ => true) true Try.f3.params.toList args.toList ds p := hA0
  rw [Try.params3] at hA hval
  obtain ⟨v0, vs0, d0, ds0, p0, q0, hargs, rfl, rfl, h0, r0⟩ := trodAll_cons hA
  obtain ⟨v1, vs1, d1, ds1, p1, q1, rfl, rfl, rfl, h1, r1⟩ := trodAll_cons r0
  obtain ⟨rfl, rfl, rfl⟩ := trodAll_nil r1
  obtain rfl : args = #[v0, v1] := by cases args; simp_all
  obtain ⟨rfl, rfl⟩ := trodVars_none hV
  have k0 := h0
  have lt0 : ∀ x ∈ p0, x.block < W.heap.size := by obtain ⟨m, hm⟩ := k0; exact DataW.trod_lt m _ _ _ hm
  obtain ⟨zs0, ⟨hzl0, hzw0⟩, rfl⟩ := open_rec [.i64, .i64, .i64, .i64, .u64, .i64, .i64] Try.underlying24 (by kernel_rfl) (by kernel_rfl) (by kernel_rfl) (hval 0 24 v0 rfl rfl) h0
  obtain ⟨z0_0, z0_1, z0_2, z0_3, z0_4, z0_5, z0_6, rfl⟩ := lst7 hzl0
  have b0_0 := bounds_i64 (hzw0 0 _ .i64 rfl rfl)
  have b0_1 := bounds_i64 (hzw0 1 _ .i64 rfl rfl)
  have b0_2 := bounds_i64 (hzw0 2 _ .i64 rfl rfl)
  have b0_3 := bounds_i64 (hzw0 3 _ .i64 rfl rfl)
  have b0_4 := bounds_u64 (hzw0 4 _ .u64 rfl rfl)
  have b0_5 := bounds_i64 (hzw0 5 _ .i64 rfl rfl)
  have b0_6 := bounds_i64 (hzw0 6 _ .i64 rfl rfl)
  obtain ⟨n0_4, rfl⟩ := Int.eq_ofNat_of_zero_le b0_4.1
  have k1 := h1
  have lt1 : ∀ x ∈ p1, x.block < W.heap.size := by obtain ⟨m, hm⟩ := k1; exact DataW.trod_lt m _ _ _ hm
  obtain ⟨ao1, len1, cap1, rfl⟩ := okWide_slice Try.underlying25 (hval 1 25 v1 rfl rfl)
  obtain ⟨xs1, rfl, hm1, fit1, nats1⟩ := open_nats Try.underlying25 Try.underlying22 (by kernel_rfl) h1
  unfold maxLen at hm1
  clear hA0 hval0
  refine (values_walk z0_0 z0_1 z0_2 z0_3 n0_4 z0_5 z0_6 xs1 ao1 cap1 W (by omega) nats1 fit1 (by omega)).mono fun e W' ⟨he, nw⟩ => ?_
  have bel : Below W.heap.size W W' := nw.below (Nat.le_refl _) (fun _ h => h.elim)
  subst he
  exact ⟨_, rfl, _, _, _, [], _, [], hW', trodAll_mk1 (shut_bool Try.underlying4 _), (trodAll_cons_mk (Below.trod laidOutB_ok (by kernel_rfl) (of_decide_eq_true (by kernel_rfl)) k0 bel lt0) (trodAll_cons_mk (Below.trod laidOutB_ok (by kernel_rfl) (of_decide_eq_true (by kernel_rfl)) k1 bel lt1) trodAll_mk0)), rfl, bel.frame _, fun h => by cases h⟩

theorem vmValues_holds : Rows.VmValuesSaid :=
  OpenClaim.holds_of_wide 3 Try.f3 rfl rfl rfl rfl rfl rfl rfl ⟨rfl, rfl, rfl, rfl, rfl⟩ rfl rfl rfl rfl rfl (by kernel_rfl) Try.func3 (by kernel_rfl)
    (of_decide_eq_true (by kernel_rfl)) (by unfold Func.isWrapper; rw [if_neg (of_decide_eq_false (by kernel_rfl))]; exact ⟨rfl, rfl⟩)
    (fun os started H enc _ => vmValues_lifted os started H enc)
#print axioms vmValues_holds

end Go.Proofs.Ytngpcalgjaglmaa
