/- What a client's code may have beside its calls a library's may, too: the statement's walk. -/
import Derived.Test.YtkpliapmllabaaaDoorCodeW
import Derived.Test.YtkpliapmllabaaaDoorWithin
namespace Go.Proofs.YtkpliapmllabaaaDoor
open Go.RowKit

theorem side_call (A B C V M W n : Int) : mayB 22 A B C V M W n true = false := by
  unfold mayB headB; simp
theorem side_client {o A B C V M W n : Int} (h : mayB o A B C V M W n false = true) (ho : o ≠ 22) : mayB o A B C V M W n true = true ∧ M = 0 ∧ o ≤ 22 := by
  unfold mayB headB at *
  rw [Bool.and_eq_true, decide_eq_true_eq] at h
  simp at h
  refine ⟨?_, by omega, by omega⟩
  rw [Bool.and_eq_true, decide_eq_true_eq]
  exact ⟨⟨h.1.1, by simp [ho], by simp⟩, h.2⟩
theorem side_lib {o A B C V M W n : Int} (h : mayB o A B C V M W n true = true) (ho : o ≤ 22) (hM : M = 0) : mayB o A B C V M W n false = true := by
  unfold mayB headB at *
  rw [Bool.and_eq_true, decide_eq_true_eq] at h
  rw [Bool.and_eq_true, decide_eq_true_eq]
  exact ⟨⟨h.1.1, by simp, .inr ⟨ho, hM⟩⟩, h.2⟩

set_option maxRecDepth 100000 in
set_option maxHeartbeats 4000000 in
theorem sides_walk (o A B C M W : Int) (V : Nat) (nn : Int) (w : World) (hg : Laid w) (hfit : RecOk insKs [o, A, B, C, (V : Int), M, W]) (h1 : -9223372036854775808 ≤ nn) (h2 : nn ≤ 9223372036854775807) :
    Calls Tryd.prog 7 #[insV o A B C V M W, .int .i64 nn] w fun e w' => e = .returned (.bool true) ∧ New w w' := by
  obtain ⟨k0, hk0, hk1⟩ := within_nat nn 20 (by omega)
  have HK := Lib.hid hk0
  have HF := Lib.hid hfit
  have HG := Lib.hid hg
  obtain ⟨n, hn⟩ : ∃ n, k0 + 1 = n := ⟨_, rfl⟩
  have hn1 : 1 ≤ n := by omega
  have hn2 : n ≤ 64 := by omega
  have hr1 := fun w => right1_any o A B C M W V n false w hfit hn1 hn2
  have hr2 := fun w => right1_any o A B C M W V n true w hfit hn1 hn2
  obtain ⟨c, hc⟩ : ∃ c, mayB o A B C V M W n false = c := ⟨_, rfl⟩
  obtain ⟨l, hl⟩ : ∃ l, mayB o A B C V M W n true = l := ⟨_, rfl⟩
  rw [hc] at hr1
  rw [hl] at hr2
  have HC := Lib.hid hc
  have HL := Lib.hid hl
  have HR1 := Lib.hid hr1
  have HR2 := Lib.hid hr2
  have HN := Lib.hid hn
  clear hk0 hfit hg hr1 hr2 hc hl hn
  go_enter Tryd.func7, Tryd.ntmps7
  go_wp2_with fail
  refine (within_any nn 20 _ (by omega) (by omega) (by omega) (by omega)).mono ?_
  rintro e w' ⟨rfl, rfl⟩
  rw [HK.out]
  go_wp2_with fail
  rw [show (1 : Int) + (k0 : Int) = (n : Int) by have := HN.out; omega]
  have hx : Arr (w.alloc (.cells #[.int .i64 o, .int .i64 A, .int .i64 B, .int .i64 C, .int .u64 V, .int .i64 M, .int .i64 W] 42)) w.heap.size [.int .i64 o, .int .i64 A, .int .i64 B, .int .i64 C, .int .u64 V, .int .i64 M, .int .i64 W] := Arr.new w _ _
  have hnw : New w (w.alloc (.cells #[.int .i64 o, .int .i64 A, .int .i64 B, .int .i64 C, .int .u64 V, .int .i64 M, .int .i64 W] 42)) := (Fr.refl _ _).alloc _
  generalize w.alloc (.cells #[.int .i64 o, .int .i64 A, .int .i64 B, .int .i64 C, .int .u64 V, .int .i64 M, .int .i64 W] 42) = W0 at hx hnw ⊢
  obtain ⟨xb, hxb⟩ : ∃ xb, w.heap.size = xb := ⟨_, rfl⟩
  rw [hxb] at hx ⊢
  have HNW := Lib.hid hnw
  have HX := Lib.hid hx
  clear hnw hxb
  refine heldStart (fun W1 => W1.cell? ⟨xb, 0, none⟩ = some (.int .i64 o) ∧ W1.cell? ⟨xb, 1, none⟩ = some (.int .i64 A) ∧ W1.cell? ⟨xb, 2, none⟩ = some (.int .i64 B) ∧ W1.cell? ⟨xb, 3, none⟩ = some (.int .i64 C) ∧ W1.cell? ⟨xb, 4, none⟩ = some (.int .u64 V) ∧ W1.cell? ⟨xb, 5, none⟩ = some (.int .i64 M) ∧ W1.cell? ⟨xb, 6, none⟩ = some (.int .i64 W)) (by kernel_rfl) ?_
  have hS : ∀ W1, Arr W1 xb [.int .i64 o, .int .i64 A, .int .i64 B, .int .i64 C, .int .u64 V, .int .i64 M, .int .i64 W] → (fun W1 : World => W1.cell? ⟨xb, 0, none⟩ = some (.int .i64 o) ∧ W1.cell? ⟨xb, 1, none⟩ = some (.int .i64 A) ∧ W1.cell? ⟨xb, 2, none⟩ = some (.int .i64 B) ∧ W1.cell? ⟨xb, 3, none⟩ = some (.int .i64 C) ∧ W1.cell? ⟨xb, 4, none⟩ = some (.int .u64 V) ∧ W1.cell? ⟨xb, 5, none⟩ = some (.int .i64 M) ∧ W1.cell? ⟨xb, 6, none⟩ = some (.int .i64 W)) W1 :=
    fun W1 h => ⟨h.cell 0 _ rfl, h.cell 1 _ rfl, h.cell 2 _ rfl, h.cell 3 _ rfl, h.cell 4 _ rfl, h.cell 5 _ rfl, h.cell 6 _ rfl⟩
  have HS := Lib.hid hS
  have HX0 := Lib.hid (hx.drew)
  have HN0 := Lib.hid ((HNW.out).drew)
  have hS0 := hS _ HX0.out
  clear hx hS HX HNW
  generalize W0.drew = V0 at HX0 HN0 hS0 ⊢
  refine wpAnyH_take (i := 0) (v := ?_) rfl (by kernel_rfl) (by kernel_rfl) (by kernel_rfl) (fun _ _ _ h => h) (Or.inl ⟨by rfl, ?_⟩) hS0 ?_
  rotate_left
  · intro w hSw; first | (obtain ⟨s1, s2, s3, s4, s5, s6, s7⟩ := hSw; go_simp; rfl) | (obtain ⟨s1, s2, s3⟩ := hSw; go_simp; rfl) | (obtain ⟨s1, s2⟩ := hSw; go_simp; rfl) | (have s1 := hSw; go_simp; rfl)
  go_simp
  refine wpAnyH_take (i := 1) (v := ?_) rfl (by kernel_rfl) (by kernel_rfl) (by kernel_rfl) (fun _ _ _ h => h) (Or.inl ⟨by rfl, ?_⟩) hS0 ?_
  rotate_left
  · intro w hSw; first | (obtain ⟨s1, s2, s3, s4, s5, s6, s7⟩ := hSw; go_simp; rfl) | (obtain ⟨s1, s2, s3⟩ := hSw; go_simp; rfl) | (obtain ⟨s1, s2⟩ := hSw; go_simp; rfl) | (have s1 := hSw; go_simp; rfl)
  go_simp
  refine wpAnyH_take (i := 3) (v := ?_) rfl (by kernel_rfl) (by kernel_rfl) (by kernel_rfl) (fun _ _ _ h => h) (Or.inl ⟨by rfl, ?_⟩) hS0 ?_
  rotate_left
  · intro w hSw; first | (obtain ⟨s1, s2, s3, s4, s5, s6, s7⟩ := hSw; go_simp; rfl) | (obtain ⟨s1, s2, s3⟩ := hSw; go_simp; rfl) | (obtain ⟨s1, s2⟩ := hSw; go_simp; rfl) | (have s1 := hSw; go_simp; rfl)
  go_simp
  refine wpAnyH_take (i := 4) (v := ?_) rfl (by kernel_rfl) (by kernel_rfl) (by kernel_rfl) (fun _ _ _ h => h) (Or.inl ⟨by rfl, ?_⟩) hS0 ?_
  rotate_left
  · intro w hSw; first | (obtain ⟨s1, s2, s3, s4, s5, s6, s7⟩ := hSw; go_simp; rfl) | (obtain ⟨s1, s2, s3⟩ := hSw; go_simp; rfl) | (obtain ⟨s1, s2⟩ := hSw; go_simp; rfl) | (have s1 := hSw; go_simp; rfl)
  go_simp
  refine heldOne (i := 2) (by kernel_rfl) rfl (by rfl) (fun K hK => ?_)
  go_simp
  refine (HR1.out _).mono ?_
  rintro e w1 ⟨rfl, hn1'⟩
  have HX1 := Lib.hid (HX0.out.keep hn1' id)
  have HN1 := Lib.hid (HN0.out.trans hn1')
  have hS1 := HS.out _ HX1.out
  refine hK.out _ _ hS1 ?_
  clear hK K hn1' hS0 HX0 HN0
  refine heldOne (i := 5) (by kernel_rfl) rfl (by rfl) (fun K hK => ?_)
  go_simp
  refine (HR2.out _).mono ?_
  rintro e w2 ⟨rfl, hn2'⟩
  have HX2 := Lib.hid (HX1.out.keep hn2' id)
  have HN2 := Lib.hid (HN1.out.trans hn2')
  have hS2 := HS.out _ HX2.out
  refine hK.out _ _ hS2 ?_
  clear hK K hn2' hS1 HX1 HN1
  refine wpAnyH_take (i := 6) (v := ?_) rfl (by kernel_rfl) (by kernel_rfl) (by kernel_rfl) (fun _ _ _ h => h) (Or.inl ⟨by rfl, ?_⟩) hS2 ?_
  rotate_left
  · intro w hSw; first | (obtain ⟨s1, s2, s3, s4, s5, s6, s7⟩ := hSw; go_simp; rfl) | (obtain ⟨s1, s2, s3⟩ := hSw; go_simp; rfl) | (obtain ⟨s1, s2⟩ := hSw; go_simp; rfl) | (have s1 := hSw; go_simp; rfl)
  go_simp
  refine wpAnyH_take (i := 7) (v := ?_) rfl (by kernel_rfl) (by kernel_rfl) (by kernel_rfl) (fun _ _ _ h => h) (Or.inl ⟨by rfl, ?_⟩) hS2 ?_
  rotate_left
  · intro w hSw; first | (obtain ⟨s1, s2, s3, s4, s5, s6, s7⟩ := hSw; go_simp; rfl) | (obtain ⟨s1, s2, s3⟩ := hSw; go_simp; rfl) | (obtain ⟨s1, s2⟩ := hSw; go_simp; rfl) | (have s1 := hSw; go_simp; rfl)
  go_simp
  refine wpAnyH_done (by kernel_rfl) ?_ _
  obtain ⟨x0, _, _, _, _, x5, _⟩ := hS2
  have lx := HX2.out.lt
  by_cases ho : o = 22
  · subst ho
    obtain rfl : l = false := by rw [← HL.out]; exact side_call _ _ _ _ _ _ _
    go_wp2_with fail
    refine (awake_any _ (HG.out.keep HN2.out id)).mono ?_
    rintro e w3 ⟨rfl, hn3⟩
    have HN3 := Lib.hid (HN2.out.trans hn3)
    clear hn3
    go_wp2
    go_ret
    exact ⟨rfl, HN3.out⟩
  · have q1 : (o == 22) = false := by rw [beq_eq_false_iff_ne]; exact ho
    cases c with
    | true =>
      obtain ⟨e1, e2, e3⟩ := side_client HC.out ho
      obtain rfl : l = true := by rw [← HL.out]; exact e1
      subst e2
      have q2 : decide (22 < o) = false := by simp; omega
      have q3 : ¬ 22 < o := by omega
      clear e1
      go_wp2_with fail
      refine (awake_any _ (HG.out.keep HN2.out id)).mono ?_
      rintro e w3 ⟨rfl, hn3⟩
      have HN3 := Lib.hid (HN2.out.trans hn3)
      clear hn3
      go_wp2
      go_ret
      exact ⟨rfl, HN3.out⟩
    | false =>
      cases l with
      | false =>
        go_wp2_with fail
        refine (awake_any _ (HG.out.keep HN2.out id)).mono ?_
        rintro e w3 ⟨rfl, hn3⟩
        have HN3 := Lib.hid (HN2.out.trans hn3)
        clear hn3
        go_wp2
        go_ret
        exact ⟨rfl, HN3.out⟩
      | true =>
        by_cases hM : M = 0
        · subst hM
          have q3 : 22 < o := by
            by_cases h : o ≤ 22
            · have := side_lib HL.out h rfl; rw [HC.out] at this; cases this
            · omega
          have q2 : decide (22 < o) = true := by simpa using q3
          go_wp2_with fail
          refine (awake_any _ (HG.out.keep HN2.out id)).mono ?_
          rintro e w3 ⟨rfl, hn3⟩
          have HN3 := Lib.hid (HN2.out.trans hn3)
          clear hn3
          go_wp2
          go_ret
          exact ⟨rfl, HN3.out⟩
        · have q2 : (M != 0) = true := by simpa using hM
          go_wp2_with fail
          refine (awake_any _ (HG.out.keep HN2.out id)).mono ?_
          rintro e w3 ⟨rfl, hn3⟩
          have HN3 := Lib.hid (HN2.out.trans hn3)
          clear hn3
          go_wp2
          go_ret
          exact ⟨rfl, HN3.out⟩

end Go.Proofs.YtkpliapmllabaaaDoor
