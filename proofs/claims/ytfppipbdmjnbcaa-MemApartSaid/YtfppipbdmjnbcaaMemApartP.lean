/- The statement 'MemApart', for every input: its row. Conditions: none beside the row's own. -/
import Derived.Test.YtfppipbdmjnbcaaMemApart
import Derived.Test.YtfppipbdmjnbcaaRecs
import Derived.Test.YtfppipbdmjnbcaaPlainP
namespace Go.Proofs.Ytfppipbdmjnbcaa
open Go.ChangeShapes Go.WideShapes Go.ChangeAt Go.RowKit

theorem lst7 {l : List Int} (h : l.length = 7) : ∃ x0 x1 x2 x3 x4 x5 x6, l = [x0, x1, x2, x3, x4, x5, x6] := by
  match l, h with
  | [x0, x1, x2, x3, x4, x5, x6], _ => exact ⟨x0, x1, x2, x3, x4, x5, x6, rfl⟩

set_option linter.unusedVariables false in
set_option maxRecDepth 100000 in
theorem memApart_lifted (os : Os) (started : os.Started) (H : Type) (enc : TypeId × Value → H) :
    ReturnsInHanded {} Try.checked os 5 .any (Rows.memApartSpec.pre6 enc Try.prog Try.f5 Rows.memApartRow.domain false)
      (Rows.memApartSpec.post enc Try.prog Try.f5 false true false false) := by
  refine returnsInHanded_of_change (C := Try.checked) ownKnobNone started (by kernel_rfl) Try.func5
    (ChangeSpec.witness6 (enc := enc) (C := Try.checked) false ⟨#[], #[.slice none 0 0, .agg #[.int .i64 0, .int .i64 0, .int .i64 0, .int .i64 0, .int .u64 0, .int .u64 0, .int .u64 0]], []⟩ 8 (by kernel_rfl) (by kernel_rfl) (by kernel_rfl) (by kernel_rfl)) ?_
  intro W base args ds gs before hval0 hW hcnd hsz
  have hval : ∀ (j : Nat) t v, Try.f5.params[j]? = some t → args[j]? = some v → Value.okWide Try.prog W .any base t v := hval0
  have hW' := hW
  obtain ⟨p, q, hA0, hV, rfl, hfz, hnd⟩ := hW
  have hA : DataW.TrodAll enc Try.prog W 0 (fun _ => true) true Try.f5.params.toList args.toList ds p := hA0
  rw [Try.params5] at hA hval
  obtain ⟨v0, vs0, d0, ds0, p0, q0, hargs, rfl, rfl, h0, r0⟩ := trodAll_cons hA
  obtain ⟨v1, vs1, d1, ds1, p1, q1, rfl, rfl, rfl, h1, r1⟩ := trodAll_cons r0
  obtain ⟨rfl, rfl, rfl⟩ := trodAll_nil r1
  obtain rfl : args = #[v0, v1] := by cases args; simp_all
  obtain ⟨rfl, rfl⟩ := trodVars_none hV
  have k0 := h0
  have lt0 : ∀ x ∈ p0, x.block < W.heap.size := by obtain ⟨m, hm⟩ := k0; exact DataW.trod_lt m _ _ _ hm
  obtain ⟨ao0, len0, cap0, rfl⟩ := okWide_slice Try.underlying23 (hval 0 23 v0 rfl rfl)
  obtain ⟨xs0, rfl, hm0, fit0, nats0⟩ := open_nats Try.underlying23 Try.underlying22 (by kernel_rfl) h0
  unfold maxLen at hm0
  have k1 := h1
  have lt1 : ∀ x ∈ p1, x.block < W.heap.size := by obtain ⟨m, hm⟩ := k1; exact DataW.trod_lt m _ _ _ hm
  obtain ⟨zs1, ⟨hzl1, hzw1⟩, rfl⟩ := open_rec [.i64, .i64, .i64, .i64, .u64, .u64, .u64] Try.underlying41 (by kernel_rfl) (by kernel_rfl) (by kernel_rfl) (hval 1 41 v1 rfl rfl) h1
  obtain ⟨z1_0, z1_1, z1_2, z1_3, z1_4, z1_5, z1_6, rfl⟩ := lst7 hzl1
  have b1_0 := bounds_i64 (hzw1 0 _ .i64 rfl rfl)
  have b1_1 := bounds_i64 (hzw1 1 _ .i64 rfl rfl)
  have b1_2 := bounds_i64 (hzw1 2 _ .i64 rfl rfl)
  have b1_3 := bounds_i64 (hzw1 3 _ .i64 rfl rfl)
  have b1_4 := bounds_u64 (hzw1 4 _ .u64 rfl rfl)
  have b1_5 := bounds_u64 (hzw1 5 _ .u64 rfl rfl)
  have b1_6 := bounds_u64 (hzw1 6 _ .u64 rfl rfl)
  obtain ⟨n1_4, rfl⟩ := Int.eq_ofNat_of_zero_le b1_4.1
  obtain ⟨n1_5, rfl⟩ := Int.eq_ofNat_of_zero_le b1_5.1
  obtain ⟨n1_6, rfl⟩ := Int.eq_ofNat_of_zero_le b1_6.1
  clear hA0 hval0
  refine (apart_walk xs0 ao0 cap0 z1_0 z1_1 z1_2 z1_3 n1_4 n1_5 n1_6 W fit0 nats0 (by omega) b1_0 (by omega) (by omega) (by omega)).mono fun e W' ⟨he, nw⟩ => ?_
  have bel : Below W.heap.size W W' := nw.below (Nat.le_refl _) (fun _ h => h.elim)
  subst he
  exact ⟨_, rfl, _, _, _, [], _, [], hW', trodAll_mk1 (shut_bool Try.underlying4 _), (trodAll_cons_mk (Below.trod laidOutB_ok (by kernel_rfl) (of_decide_eq_true (by kernel_rfl)) k0 bel lt0) (trodAll_cons_mk (Below.trod laidOutB_ok (by kernel_rfl) (of_decide_eq_true (by kernel_rfl)) k1 bel lt1) trodAll_mk0)), rfl, bel.frame _, fun h => by cases h⟩

theorem memApart_holds : Rows.MemApartSaid :=
  OpenClaim.holds_of_wide 5 Try.f5 rfl rfl rfl rfl rfl rfl rfl ⟨rfl, rfl, rfl, rfl, rfl⟩ rfl rfl rfl rfl rfl (by kernel_rfl) Try.func5 (by kernel_rfl)
    (of_decide_eq_true (by kernel_rfl)) (by unfold Func.isWrapper; rw [if_neg (of_decide_eq_false (by kernel_rfl))]; exact ⟨rfl, rfl⟩)
    (fun os started H enc _ => memApart_lifted os started H enc)
#print axioms memApart_holds

end Go.Proofs.Ytfppipbdmjnbcaa
