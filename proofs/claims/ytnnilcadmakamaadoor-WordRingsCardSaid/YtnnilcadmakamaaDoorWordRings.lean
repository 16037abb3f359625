/- Sums may be turned round, grouped, and taken back: the statement's walk. -/
import Derived.Test.YtnnilcadmakamaaDoorWordD
namespace Go.Proofs.YtnnilcadmakamaaDoor
open Go.RowKit

set_option linter.unusedSectionVars false
section
variable (W : Int) (a b c : Nat) (hW : W = 32 ∨ W = 64) (ha : a < 18446744073709551616) (hb : b < 18446744073709551616) (hc : c < 18446744073709551616)
include hW ha hb hc
theorem ring_comm : sumZ W b a = sumZ W a b := by unfold sumZ cutZ; rcases hW with rfl | rfl <;> simp <;> omega
theorem ring_assoc : sumZ W a (sumZ W b c) = sumZ W (sumZ W a b) c := by unfold sumZ cutZ; rcases hW with rfl | rfl <;> simp <;> omega
theorem ring_back : lessZ W (sumZ W a b) b = cutZ W a := by unfold lessZ sumZ cutZ; rcases hW with rfl | rfl <;> simp <;> omega
theorem ring_less : sumZ W (lessZ W a b) b = cutZ W a := by unfold lessZ sumZ cutZ; rcases hW with rfl | rfl <;> simp <;> omega
theorem ring_fits : fitsZ W (sumZ W a b) = true := by unfold fitsZ sumZ cutZ; rcases hW with rfl | rfl <;> simp <;> omega
theorem cut_twice : cutZ 32 (cutZ 64 a) = cutZ 32 a := by simp [cutZ]
end

set_option maxRecDepth 100000 in
set_option maxHeartbeats 4000000 in
theorem rings_walk (a b c : Nat) (w : World) (hg : Laid w) (ha : a < 18446744073709551616) (hb : b < 18446744073709551616) (hc : c < 18446744073709551616) : Calls Tryd.prog 7 #[.int .u64 a, .int .u64 b, .int .u64 c] w fun e w' => e = .returned (.bool true) ∧ New w w' := by
  have HG := Lib.hid hg
  clear hg
  go_enter Tryd.func7, Tryd.ntmps7
  go_wp2_with fail
  obtain ⟨W0, hW0⟩ : ∃ W0, w.alloc (.cells #[.int .i64 64, .int .i64 32] 3) = W0 := ⟨_, rfl⟩
  have hx0 : Arr W0 w.heap.size [.int .i64 64, .int .i64 32] := by rw [← hW0]; exact Arr.new _ _ _
  have hn0 : New w W0 := by rw [← hW0]; exact (Fr.refl _ _).alloc _
  rw [hW0]
  have HX := Lib.hid hx0
  have HN := Lib.hid hn0
  have HG0 := Lib.hid (HG.out.keep hn0 id)
  clear hx0 hn0 hW0 HG
  go_loop [11] (fun i => ∃ k : Nat, k ≤ 2 ∧ i = .int .i64 k) (fun i => 2 - (intOf i).toNat)
  case atStart => exact ⟨0, by omega, rfl⟩
  case round =>
    obtain ⟨k, hk, rfl⟩ := hrel
    by_cases hlt : k < 2
    · obtain ⟨V, hV, hW⟩ : ∃ V : Int, W0.cell? ⟨w.heap.size, k, none⟩ = some (.int .i64 V) ∧ (V = 32 ∨ V = 64) := by
        match k, hlt with
        | 0, _ => exact ⟨_, HX.out.cell 0 _ rfl, .inr rfl⟩
        | 1, _ => exact ⟨_, HX.out.cell 1 _ rfl, .inl rfl⟩
      have HW := Lib.hid hW
      have s1 := fun w => sum_any V a b w ha hb
      have s2 := fun w => sum_any V b a w hb ha
      have s3 := fun w => sum_any V (sumZ V a b) c w (sumZ_lt _ _ _) hc
      have s4 := fun w => sum_any V b c w hb hc
      have s5 := fun w => sum_any V a (sumZ V b c) w ha (sumZ_lt _ _ _)
      have s6 := fun w => less_any V (sumZ V a b) b w (sumZ_lt _ _ _) hb
      have s7 := fun w => cut_any V a w ha
      have s8 := fun w => less_any V a b w ha hb
      have s9 := fun w => sum_any V (lessZ V a b) b w (lessZ_lt _ _ _) hb
      have s10 := fun w => fits_any V (sumZ V a b) w (sumZ_lt _ _ _)
      rw [ring_comm V a b c hW ha hb hc] at s2
      rw [ring_assoc V a b c hW ha hb hc] at s5
      rw [ring_back V a b c hW ha hb hc] at s6
      rw [ring_less V a b c hW ha hb hc] at s9
      rw [ring_fits V a b c hW ha hb hc] at s10
      generalize sumZ V (sumZ V a b) c = x3 at s3 s5
      generalize sumZ V a b = x1 at s1 s2 s3 s6 s10
      generalize sumZ V b c = x4 at s4 s5
      generalize cutZ V a = x7 at s6 s7 s9
      generalize lessZ V a b = x8 at s8 s9
      have h1 := Lib.hid s1
      have h2 := Lib.hid s2
      have h3 := Lib.hid s3
      have h4 := Lib.hid s4
      have h5 := Lib.hid s5
      have h6 := Lib.hid s6
      have h7 := Lib.hid s7
      have h8 := Lib.hid s8
      have h9 := Lib.hid s9
      have h10 := Lib.hid s10
      clear s1 s2 s3 s4 s5 s6 s7 s8 s9 s10 hW
      go_wp2_with fail
      refine (h1.out _).mono ?_
      rintro e w' ⟨rfl, rfl⟩
      go_wp2_with fail
      refine (h2.out _).mono ?_
      rintro e w' ⟨rfl, rfl⟩
      go_wp2_with fail
      refine (h1.out _).mono ?_
      rintro e w' ⟨rfl, rfl⟩
      go_wp2_with fail
      refine (h3.out _).mono ?_
      rintro e w' ⟨rfl, rfl⟩
      go_wp2_with fail
      refine (h4.out _).mono ?_
      rintro e w' ⟨rfl, rfl⟩
      go_wp2_with fail
      refine (h5.out _).mono ?_
      rintro e w' ⟨rfl, rfl⟩
      go_wp2_with fail
      refine (h1.out _).mono ?_
      rintro e w' ⟨rfl, rfl⟩
      go_wp2_with fail
      refine (h6.out _).mono ?_
      rintro e w' ⟨rfl, rfl⟩
      go_wp2_with fail
      refine (h7.out _).mono ?_
      rintro e w' ⟨rfl, rfl⟩
      go_wp2_with fail
      refine (h8.out _).mono ?_
      rintro e w' ⟨rfl, rfl⟩
      go_wp2_with fail
      refine (h9.out _).mono ?_
      rintro e w' ⟨rfl, rfl⟩
      go_wp2_with fail
      refine (h7.out _).mono ?_
      rintro e w' ⟨rfl, rfl⟩
      go_wp2_with fail
      refine (h1.out _).mono ?_
      rintro e w' ⟨rfl, rfl⟩
      go_wp2_with fail
      refine (h10.out _).mono ?_
      rintro e w' ⟨rfl, rfl⟩
      go_wp2
      go_round
      case rel => exact ⟨k + 1, by omega, by go_num⟩
      case measure => simp [intOf]; omega
    · have s1 := fun w => cut_any 64 a w ha
      have s2 := fun w => cut_any 32 (cutZ 64 a) w (cutZ_lt _ _ ha)
      have s3 := fun w => cut_any 32 a w ha
      rw [show cutZ 32 (cutZ 64 a) = cutZ 32 a by simp [cutZ]] at s2
      generalize cutZ 64 a = x1 at s1 s2
      generalize cutZ 32 a = x2 at s2 s3
      have h1 := Lib.hid s1
      have h2 := Lib.hid s2
      have h3 := Lib.hid s3
      clear s1 s2 s3
      go_wp2_with fail
      refine (h1.out _).mono ?_
      rintro e w' ⟨rfl, rfl⟩
      go_wp2_with fail
      refine (h2.out _).mono ?_
      rintro e w' ⟨rfl, rfl⟩
      go_wp2_with fail
      refine (h3.out _).mono ?_
      rintro e w' ⟨rfl, rfl⟩
      go_wp2_with fail
      refine (awake_any _ HG0.out).mono ?_
      rintro e w2 ⟨rfl, hn2⟩
      have HN2 := Lib.hid (HN.out.trans hn2)
      clear hn2
      go_wp2
      go_ret
      exact ⟨rfl, HN2.out⟩

end Go.Proofs.YtnnilcadmakamaaDoor
