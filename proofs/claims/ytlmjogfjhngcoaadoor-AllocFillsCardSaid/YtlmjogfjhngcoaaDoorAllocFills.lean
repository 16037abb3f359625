/- Blocks of one size fill a room one behind the other, as many as it has: the statement's walk. -/
import Derived.Test.YtlmjogfjhngcoaaDoorAllocI
import Derived.Test.YtlmjogfjhngcoaaDoorWithin
namespace Go.Proofs.YtlmjogfjhngcoaaDoor
open Go.RowKit

def fillB (s j : Nat) : Bk := ⟨((j * s : Nat) : Int), (s : Int), 64⟩
def fillL (s i : Nat) : List Bk := (List.range i).map (fillB s)
theorem fillL_len (s i : Nat) : (fillL s i).length = i := by simp [fillL]
theorem fillL_get (s i j : Nat) (h : j < i) : (fillL s i)[j]? = some (fillB s j) := by simp [fillL, h]
theorem fillL_end (s i j : Nat) (h : j ≤ i) : endA 0 (fillL s i) j = ((j * s : Nat) : Int) := by
  cases j with
  | zero => show (0 : Int) = _; simp
  | succ j =>
    rw [endA_succ (fillL_get s i j (by omega))]
    show ((j * s : Nat) : Int) + (s : Int) = _
    rw [Nat.succ_mul]; omega
theorem fillL_gap (s i j : Nat) (h : j < i) : gapA 0 100 (fillL s i) j = 0 := by
  unfold gapA startA
  rw [fillL_end s i j (by omega), fillL_get s i j h]
  show ((j * s : Nat) : Int) - _ = 0
  omega
theorem fillL_gapE (s i : Nat) : gapA 0 100 (fillL s i) i = 100 - ((i * s : Nat) : Int) := by
  unfold gapA startA
  rw [fillL_end s i i (Nat.le_refl _), List.getElem?_eq_none (by rw [fillL_len]; exact Nat.le_refl _)]
theorem fillL_free (s i : Nat) (hs : 1 ≤ s) (h : (i + 1) * s ≤ 100) : getI 0 100 (fillL s i) (s : Int) = some i := by
  rw [Nat.succ_mul] at h
  obtain ⟨j, hj⟩ := getI_ex (F := 0) (T := 100) (l := fillL s i) (n := (s : Int)) ⟨i, by rw [fillL_len]; omega, by rw [fillL_gapE]; omega⟩
  obtain ⟨h1, h2, h3⟩ := getI_some hj
  rw [fillL_len] at h1
  by_cases e : j = i
  · rw [hj, e]
  · rw [fillL_gap s i j (by omega)] at h2; omega
theorem fillL_full (s q : Nat) (h : 100 < (q + 1) * s) (hq : q * s ≤ 100) (hs : 1 ≤ s) : getI 0 100 (fillL s q) (s : Int) = none := by
  rw [Nat.succ_mul] at h
  cases hx : getI 0 100 (fillL s q) (s : Int) with
  | none => rfl
  | some j =>
    obtain ⟨h1, h2, h3⟩ := getI_some hx
    rw [fillL_len] at h1
    by_cases e : j = q
    · rw [e, fillL_gapE] at h2; omega
    · rw [fillL_gap s q j (by omega)] at h2; omega
theorem fillL_ins (s i : Nat) : insA (fillL s i) i ⟨((i * s : Nat) : Int), (s : Int), 64⟩ = fillL s (i + 1) := by
  unfold insA
  rw [List.take_of_length_le (by rw [fillL_len]; exact Nat.le_refl _), List.drop_eq_nil_of_le (by rw [fillL_len]; exact Nat.le_refl _)]
  show fillL s i ++ [fillB s i] = _
  unfold fillL
  rw [List.range_succ, List.map_append]; rfl
theorem fillL_used (s : Nat) : ∀ i, usedN (fillL s i) = ((i * s : Nat) : Int)
  | 0 => by simp [fillL, usedN]
  | i + 1 => by
    rw [← fillL_ins, show insA (fillL s i) i ⟨((i * s : Nat) : Int), (s : Int), 64⟩ = fillL s i ++ [fillB s i] by
      unfold insA
      rw [List.take_of_length_le (by rw [fillL_len]; exact Nat.le_refl _), List.drop_eq_nil_of_le (by rw [fillL_len]; exact Nat.le_refl _)]; rfl]
    rw [usedN_snoc, fillL_used s i, Nat.succ_mul]
    show _ + (s : Int) = _
    omega
theorem fillL_wide0 (s q : Nat) : ∀ k, k ≤ q → wideN 0 100 (fillL s q) k = 0
  | 0, _ => rfl
  | k + 1, h => by
    show max (wideN 0 100 (fillL s q) k) (gapA 0 100 (fillL s q) k) = 0
    rw [fillL_wide0 s q k (by omega), fillL_gap s q k (by omega)]; rfl
theorem fillL_wide (s q : Nat) (h : q * s ≤ 100) : wideN 0 100 (fillL s q) ((fillL s q).length + 1) = 100 - ((q * s : Nat) : Int) := by
  rw [fillL_len]
  show max (wideN 0 100 (fillL s q) q) (gapA 0 100 (fillL s q) q) = _
  rw [fillL_wide0 s q q (Nat.le_refl _), fillL_gapE]; omega

set_option maxRecDepth 100000 in
set_option maxHeartbeats 4000000 in
theorem fills_walk (n : Int) (w : World) (hg : Laid w) (hn1 : -9223372036854775808 ≤ n) (hn2 : n ≤ 9223372036854775807) :
    Calls Tryd.prog 7 #[.int .i64 n] w fun e w' => e = .returned (.bool true) ∧ New w w' := by
  obtain ⟨m, hm, hm2⟩ := within_nat n 50 (by omega)
  have hin := within_any n 50 w (by omega) (by omega) hn1 hn2
  rw [hm] at hin
  obtain ⟨s, hs⟩ : ∃ s, m + 1 = s := ⟨_, rfl⟩
  have hs1 : 1 ≤ s ∧ s ≤ 50 := by omega
  have hss : (1 : Int) + (m : Int) = (s : Int) := by omega
  obtain ⟨q, hq⟩ : ∃ q, 100 / s = q := ⟨_, rfl⟩
  obtain ⟨r, hr⟩ : ∃ r, 100 % s = r := ⟨_, rfl⟩
  have hdm := Nat.div_add_mod 100 s
  have hrl := Nat.mod_lt 100 (show 0 < s by omega)
  rw [hq, hr, Nat.mul_comm] at hdm
  rw [hr] at hrl
  have hq1 : q ≤ 100 := by rw [← hq]; exact Nat.div_le_self _ _
  have hqs : q * s ≤ 100 := by omega
  have t1 : (100 : Int).tdiv (s : Int) = (q : Int) := by rw [← hq]; rfl
  have t2 : (100 : Int).tmod (s : Int) = (r : Int) := by rw [← hr]; rfl
  have t3 : ((s : Int) == 0) = false := by rw [beq_eq_false_iff_ne]; omega
  have HIN := Lib.hid hin
  have HG := Lib.hid hg
  have HDM := Lib.hid hdm
  clear hg hin hm hm2 hq hr
  go_enter Tryd.func7, Tryd.ntmps7
  go_wp2_with fail
  refine HIN.out.mono ?_
  rintro e w2 ⟨rfl, rfl⟩
  go_wp2_with fail
  refine (room_any w).mono ?_
  rintro e w1 ⟨ab, mb, cb, wb, rfl, r1⟩
  have R1 := Lib.hid r1
  clear r1
  simp only [hss]
  go_wp2_with fail
  clear hss hs
  go_loopw [5] (fun i wr => ∃ k : Nat, k ≤ q ∧ i = .int .i64 k ∧ Rm w wr ab mb cb wb 0 100 (fillL s k) 100) (fun i _ => q - (intOf i).toNat)
  case atStart => exact ⟨0, by omega, rfl, R1.out⟩
  case round =>
    clear R1
    obtain ⟨k, hk, rfl, rk⟩ := hrel
    have RK := Lib.hid rk
    clear rk
    have hll := fillL_len s k
    by_cases hlt : k < q
    · have hks : (k + 1) * s ≤ 100 := Nat.le_trans (Nat.mul_le_mul_right s (show k + 1 ≤ q by omega)) hqs
      have HF := Lib.hid (rm_got RK.out (by omega) (n := (s : Int)) (W := 64) (by unfold badArg; omega) (fillL_free s k hs1.1 hks) (fillL_end s k k (Nat.le_refl _)) (fillL_ins s k))
      rw [Nat.succ_mul] at hks
      have tm : (k : Int) * (s : Int) = ((k * s : Nat) : Int) := by rw [Int.natCast_mul]
      generalize k * s = P at hks tm HF
      go_wp2_with fail
      refine HF.out.mono ?_
      rintro e w3 ⟨rfl, r3, _⟩
      have R3 := Lib.hid r3
      clear r3 HF
      go_wp2
      go_roundw
      case rel => exact ⟨k + 1, by omega, by go_num, R3.out⟩
      case measure => simp [intOf]; omega
    · obtain rfl : k = q := by omega
      have HF := Lib.hid (rm_full RK.out (by omega) (n := (s : Int)) (W := 64) (by unfold badArg; omega) (fillL_full s k (by rw [Nat.succ_mul]; omega) hqs hs1.1))
      have HU := Lib.hid (fillL_used s k)
      have HW := Lib.hid (fillL_wide s k hqs)
      have tm : (k : Int) * (s : Int) = ((k * s : Nat) : Int) := by rw [Int.natCast_mul]
      generalize k * s = P at hdm hqs tm HF HU HW
      have t4 : ¬ (s = 0) := by omega
      have t5 : IntKind.i64.wrap (k : Int) = (k : Int) := IntWalk.i64_in _ (by omega)
      have t6 : IntKind.i64.wrap (P : Int) = (P : Int) := IntWalk.i64_in _ (by omega)
      have t7 : IntKind.i64.wrap (r : Int) = (r : Int) := IntWalk.i64_in _ (by omega)
      have tr : (100 : Int) - (P : Int) = (r : Int) := by omega
      rw [tr] at HW
      go_wp2_with fail
      refine HF.out.mono ?_
      rintro e w4 ⟨x, rfl, hx, r4⟩
      have R4 := Lib.hid r4
      have HX := Lib.hid hx
      clear r4 hx RK HF
      go_wp2_with fail
      have R5 := Lib.hid (R4.out.new ((Fr.refl _ _).drew))
      have HX5 := Lib.hid (HX.out.new ((Fr.refl _ _).drew))
      refine heldStart (fun _ => True) (by kernel_rfl) ?_
      clear R4 HX
      generalize w4.drew = V0 at R5 HX5 ⊢
      refine wpAnyH_take (i := 0) (v := ?_) rfl (by kernel_rfl) (by kernel_rfl) (by kernel_rfl) (fun _ _ _ h => h) (Or.inl ⟨by rfl, ?_⟩) trivial ?_
      rotate_left
      · intro w _; go_simp; rfl
      go_simp
      refine heldOne (i := 1) (by kernel_rfl) rfl (by rfl) (fun K hK => ?_)
      go_simp
      refine (no_says alL 0 3 V0).mono ?_
      rintro e w8 ⟨f, rfl, hf, hn⟩
      have HSM := Lib.hid (same_tells x f (some ([(alL, 0)], 3)) _ (laid_rm HG.out (R5.out.new hn)) (HX5.out.new hn) (failN_of hf) (.inl ⟨_, rfl⟩))
      have R6 := Lib.hid (R5.out.new hn)
      refine hK.out _ _ trivial ?_
      clear R5 HX5 hf hn hK K
      refine heldOne (i := 2) (by kernel_rfl) rfl (by rfl) (fun K hK => ?_)
      go_simp
      refine HSM.out.mono ?_
      rintro e w9 ⟨rfl, hn⟩
      have R7 := Lib.hid (R6.out.new hn)
      refine hK.out _ _ trivial ?_
      clear hn R6 HSM hK K
      refine wpAnyH_take (i := 3) (v := ?_) rfl (by kernel_rfl) (by kernel_rfl) (by kernel_rfl) (fun _ _ _ h => h) (Or.inl ⟨by rfl, ?_⟩) trivial ?_
      rotate_left
      · intro w _; go_simp; rfl
      go_simp
      refine wpAnyH_take (i := 4) (v := ?_) rfl (by kernel_rfl) (by kernel_rfl) (by kernel_rfl) (fun _ _ _ h => h) (Or.inl ⟨by rfl, ?_⟩) trivial ?_
      rotate_left
      · intro w _; go_simp; rfl
      go_simp
      refine wpAnyH_take (i := 6) (v := ?_) rfl (by kernel_rfl) (by kernel_rfl) (by kernel_rfl) (fun _ _ _ h => h) (Or.inl ⟨by rfl, ?_⟩) trivial ?_
      rotate_left
      · intro w _; go_simp; rfl
      go_simp
      refine wpAnyH_take (i := 8) (v := ?_) rfl (by kernel_rfl) (by kernel_rfl) (by kernel_rfl) (fun _ _ _ h => h) (Or.inl ⟨by rfl, ?_⟩) trivial ?_
      rotate_left
      · intro w _; go_simp; rfl
      go_simp
      refine wpAnyH_take (i := 7) (v := ?_) rfl (by kernel_rfl) (by kernel_rfl) (by kernel_rfl) (fun _ _ _ h => h) (Or.inl ⟨by rfl, ?_⟩) trivial ?_
      rotate_left
      · intro w _; go_simp; rfl
      go_simp
      refine wpAnyH_take (i := 9) (v := ?_) rfl (by kernel_rfl) (by kernel_rfl) (by kernel_rfl) (fun _ _ _ h => h) (Or.inl ⟨by rfl, ?_⟩) trivial ?_
      rotate_left
      · intro w _; go_simp; rfl
      go_simp
      refine heldOne (i := 5) (by kernel_rfl) rfl (by rfl) (fun K hK => ?_)
      go_simp
      refine (rm_used R7.out HU.out).mono ?_
      rintro e w10 ⟨rfl, hn⟩
      have R8 := Lib.hid (R7.out.new hn)
      refine hK.out _ _ trivial ?_
      clear hn R7 hK K
      refine wpAnyH_take (i := 10) (v := ?_) rfl (by kernel_rfl) (by kernel_rfl) (by kernel_rfl) (fun _ _ _ h => h) (Or.inl ⟨by rfl, ?_⟩) trivial ?_
      rotate_left
      · intro w _; go_simp; rfl
      go_simp
      refine wpAnyH_take (i := 11) (v := ?_) rfl (by kernel_rfl) (by kernel_rfl) (by kernel_rfl) (fun _ _ _ h => h) (Or.inl ⟨by rfl, ?_⟩) trivial ?_
      rotate_left
      · intro w _; go_simp; rfl
      go_simp
      refine wpAnyH_take (i := 12) (v := ?_) rfl (by kernel_rfl) (by kernel_rfl) (by kernel_rfl) (fun _ _ _ h => h) (Or.inl ⟨by rfl, ?_⟩) trivial ?_
      rotate_left
      · intro w _; go_simp; rfl
      go_simp
      refine wpAnyH_take (i := 13) (v := ?_) rfl (by kernel_rfl) (by kernel_rfl) (by kernel_rfl) (fun _ _ _ h => h) (Or.inl ⟨by rfl, ?_⟩) trivial ?_
      rotate_left
      · intro w _; go_simp; rfl
      go_simp
      refine wpAnyH_take (i := 15) (v := ?_) rfl (by kernel_rfl) (by kernel_rfl) (by kernel_rfl) (fun _ _ _ h => h) (Or.inl ⟨by rfl, ?_⟩) trivial ?_
      rotate_left
      · intro w _; go_simp; rfl
      go_simp
      refine wpAnyH_take (i := 16) (v := ?_) rfl (by kernel_rfl) (by kernel_rfl) (by kernel_rfl) (fun _ _ _ h => h) (Or.inl ⟨by rfl, ?_⟩) trivial ?_
      rotate_left
      · intro w _; go_simp; rfl
      go_simp
      refine heldOne (i := 14) (by kernel_rfl) rfl (by rfl) (fun K hK => ?_)
      go_simp
      refine (rm_widest R8.out HW.out).mono ?_
      rintro e w11 ⟨rfl, hn⟩
      have R9 := Lib.hid (R8.out.new hn)
      refine hK.out _ _ trivial ?_
      clear hn R8 hK K
      refine wpAnyH_take (i := 17) (v := ?_) rfl (by kernel_rfl) (by kernel_rfl) (by kernel_rfl) (fun _ _ _ h => h) (Or.inl ⟨by rfl, ?_⟩) trivial ?_
      rotate_left
      · intro w _; go_simp; rfl
      go_simp
      refine wpAnyH_take (i := 18) (v := ?_) rfl (by kernel_rfl) (by kernel_rfl) (by kernel_rfl) (fun _ _ _ h => h) (Or.inl ⟨by rfl, ?_⟩) trivial ?_
      rotate_left
      · intro w _; go_simp; rfl
      go_simp
      refine wpAnyH_take (i := 19) (v := ?_) rfl (by kernel_rfl) (by kernel_rfl) (by kernel_rfl) (fun _ _ _ h => h) (Or.inl ⟨by rfl, ?_⟩) trivial ?_
      rotate_left
      · intro w _; go_simp; rfl
      go_simp
      refine heldOne (i := 20) (by kernel_rfl) rfl (by rfl) (fun K hK => ?_)
      go_simp
      refine (awake_any _ (laid_rm HG.out R9.out)).mono ?_
      rintro e w12 ⟨rfl, hn⟩
      have N9 := Lib.hid (R9.out.n.trans hn)
      refine hK.out _ _ trivial ?_
      clear hn R9 hK K
      refine wpAnyH_take (i := 21) (v := ?_) rfl (by kernel_rfl) (by kernel_rfl) (by kernel_rfl) (fun _ _ _ h => h) (Or.inl ⟨by rfl, ?_⟩) trivial ?_
      rotate_left
      · intro w _; go_simp; rfl
      go_simp
      refine wpAnyH_take (i := 22) (v := ?_) rfl (by kernel_rfl) (by kernel_rfl) (by kernel_rfl) (fun _ _ _ h => h) (Or.inl ⟨by rfl, ?_⟩) trivial ?_
      rotate_left
      · intro w _; go_simp; rfl
      go_simp
      refine wpAnyH_done (by kernel_rfl) ?_ _
      go_wp2
      go_ret
      exact ⟨rfl, N9.out⟩

end Go.Proofs.YtlmjogfjhngcoaaDoor
