/- A row that is long enough is found; one that is longer than the longest is not: the statement's walk. -/
import Derived.Test.YtlmjogfjhngcoaaDoorAllocG
import Derived.Test.YtlmjogfjhngcoaaDoorInts
import Derived.Test.YtlmjogfjhngcoaaDoorWithin
namespace Go.Proofs.YtlmjogfjhngcoaaDoor
open Go.RowKit

set_option maxRecDepth 100000 in
set_option maxHeartbeats 4000000 in
theorem finds_walk (xs ys : List Int) (ao bo : Option Addr) (ca cb0 : Nat) (n : Int) (w : World) (hg : Laid w) (hc : IntsI w ao xs) (hml : xs.length ≤ 9223372036854775807) (hxb : ∀ x ∈ xs, -9223372036854775808 ≤ x ∧ x ≤ 9223372036854775807)
    (hd : IntsI w bo ys) (hmy : ys.length ≤ 9223372036854775807) (hyb : ∀ x ∈ ys, -9223372036854775808 ≤ x ∧ x ≤ 9223372036854775807) (hn1 : -9223372036854775808 ≤ n) (hn2 : n ≤ 9223372036854775807) :
    Calls Tryd.prog 3 #[.slice ao xs.length ca, .slice bo ys.length cb0, .int .i64 n] w fun e w' => e = .returned (.bool true) ∧ New w w' := by
  obtain ⟨K, hK⟩ : ∃ K, xs.length = K := ⟨_, rfl⟩
  obtain ⟨L, hL⟩ : ∃ L, ys.length = L := ⟨_, rfl⟩
  rw [hK] at hml ⊢
  rw [hL] at hmy ⊢
  have HG := Lib.hid hg
  have HC := Lib.hid hc
  have HD := Lib.hid hd
  have HK := Lib.hid hK
  have HL := Lib.hid hL
  have HXB := Lib.hid hxb
  have HYB := Lib.hid hyb
  clear hg hc hd hK hL hxb hyb
  go_enter Tryd.func3, Tryd.ntmps3
  go_wp2_with fail
  refine (room_any w).mono ?_
  rintro e w1 ⟨ab, mb, cb, wb, rfl, r1⟩
  have R1 := Lib.hid r1
  clear r1
  go_wp2_with fail
  go_loopw [9] (fun i wr => ∃ (k : Nat) (l : List Bk), k ≤ K ∧ k ≤ 40 ∧ l.length ≤ k ∧ i = .int .i64 k ∧ Rm w wr ab mb cb wb 0 100 l 100) (fun i _ => K - (intOf i).toNat)
  case atStart => exact ⟨0, [], by omega, by omega, by simp, rfl, R1.out⟩
  case round =>
    clear R1
    obtain ⟨k, l, hk, hk4, hl, rfl, rk⟩ := hrel
    have RK := Lib.hid rk
    clear rk
    by_cases hend : k < K ∧ k < 40
    · obtain ⟨hlt, hlt4⟩ := hend
      obtain ⟨s, hs⟩ : ∃ s, xs[k]? = some s := ⟨xs[k]'(by rw [HK.out]; exact hlt), by simp⟩
      obtain ⟨g, off, rfl, hg1, c0⟩ := HC.out.keep RK.out.n k s hs
      have hsb := HXB.out s (List.mem_of_getElem? hs)
      clear hs
      have q1 : (0 : Int) ≤ (k : Int) := by omega
      have q2 : (k : Int) < (K : Int) := by omega
      go_wp2_with fail
      refine (within_any s 20 _ (by omega) (by omega) hsb.1 hsb.2).mono ?_
      rintro e w2 ⟨rfl, rfl⟩
      obtain ⟨m, hm, hm2⟩ := within_nat s 20 (by omega)
      rw [hm]
      have hm3 : m < 20 := by omega
      clear hm hm2 c0 hsb
      go_wp2_with fail
      refine (rm_get RK.out (by omega)).mono ?_
      rintro e w3 ⟨x, rfl, hx, r3, _⟩
      have R3 := Lib.hid r3
      have hl3 := gL_len 0 100 l (1 + (m : Int)) 64
      clear r3 hx
      by_cases hkl : k < L
      · obtain ⟨t, ht⟩ : ∃ s, ys[k]? = some s := ⟨ys[k]'(by rw [HL.out]; exact hkl), by simp⟩
        obtain ⟨g2, off2, rfl, hg2, c2⟩ := HD.out.keep R3.out.n k t ht
        have htb := HYB.out t (List.mem_of_getElem? ht)
        clear ht
        have q3 : (k : Int) < (L : Int) := by omega
        go_wp2_with fail
        refine (within_any t 100 _ (by omega) (by omega) htb.1 htb.2).mono ?_
        rintro e w4 ⟨rfl, rfl⟩
        clear c2 htb
        go_wp2_with fail
        refine (rm_put R3.out).mono ?_
        rintro e w5 ⟨y, rfl, hy, r5, _⟩
        have R5 := Lib.hid r5
        have hl5 := pL_len (gL 0 100 l (1 + (m : Int)) 64) (t % 100)
        clear r5 hy
        go_wp2
        go_roundw
        case rel => exact ⟨k + 1, _, by omega, by omega, by omega, by go_num, R5.out⟩
        case measure => simp [intOf]; omega
      · go_wp2
        go_roundw
        case rel => exact ⟨k + 1, _, by omega, by omega, by omega, by go_num, R3.out⟩
        case measure => simp [intOf]; omega
    · have hlo := hl
      obtain ⟨m, hm, hm2⟩ := within_nat n 100 (by omega)
      have hm3 : m < 100 := by omega
      have hwb := wideN_bound RK.out.fits (l.length + 1) (Nat.le_refl _)
      obtain ⟨Wd, hWd⟩ : ∃ Wd, wideN 0 100 l (l.length + 1) = Wd := ⟨_, rfl⟩
      have HWd := Lib.hid hWd
      have HM := Lib.hid hm
      have hin := (within_any n 100 wr (by omega) (by omega) hn1 hn2)
      rw [hm] at hin
      have HIN := Lib.hid hin
      rw [hWd] at hwb
      by_cases hwide : Wd < 1 + (m : Int)
      · have HF := Lib.hid (fun (w' : World) (r : Rm w w' ab mb cb wb 0 100 l 100) => rm_full r (by omega) (n := 1 + (m : Int)) (W := 64) (by unfold badArg; omega) (getI_wide (hWd ▸ hwide)))
        clear hWd hm hin
        by_cases hkl : k < K
        all_goals
          go_wp2_with fail
          refine HIN.out.mono ?_
          rintro e w2 ⟨rfl, rfl⟩
          go_wp2_with fail
          refine (rm_widest RK.out HWd.out).mono ?_
          rintro e w3 ⟨rfl, hn3⟩
          have R3 := Lib.hid (RK.out.new hn3)
          clear hn3 RK
          go_wp2_with fail
          refine (HF.out _ R3.out).mono ?_
          rintro e w4 ⟨x, rfl, hx, r4⟩
          have R4 := Lib.hid r4
          have HX := Lib.hid hx
          clear r4 R3 hx
          go_wp2_with fail
          refine (no_says alL 0 3 w4).mono ?_
          rintro e w8 ⟨f, rfl, hf, hn⟩
          have HSM := Lib.hid (same_tells x f (some ([(alL, 0)], 3)) _ (laid_rm HG.out (R4.out.new hn)) (HX.out.new hn) (failN_of hf) (.inl ⟨_, rfl⟩))
          have R6 := Lib.hid (R4.out.new hn)
          clear R4 HX hf hn
          go_wp2_with fail
          refine HSM.out.mono ?_
          rintro e w9 ⟨rfl, hn⟩
          have R7 := Lib.hid (R6.out.new hn)
          clear hn R6 HSM
          go_wp2_with fail
          refine (awake_any _ (laid_rm HG.out R7.out)).mono ?_
          rintro e w10 ⟨rfl, hn⟩
          go_wp2
          go_ret
          exact ⟨rfl, R7.out.n.trans hn⟩
      · obtain ⟨i, hi, hgi⟩ := wideN_ex 0 100 l (1 + (m : Int)) (by omega) (l.length + 1) (by rw [hWd]; omega)
        obtain ⟨j, hj⟩ := getI_ex ⟨i, hi, hgi⟩
        obtain ⟨j1, j2, _⟩ := getI_some hj
        have je := RK.out.fits.end_ j1
        have js := RK.out.fits.start j
        unfold gapA at j2
        obtain ⟨q, hq⟩ : ∃ q, endA 0 l j = q := ⟨_, rfl⟩
        rw [hq] at je j2
        have HF := Lib.hid (fun (w' : World) (r : Rm w w' ab mb cb wb 0 100 l 100) => rm_got r (by omega) (n := 1 + (m : Int)) (W := 64) (by unfold badArg; omega) hj hq rfl)
        generalize startA 100 l j = sj at js j2
        clear hWd hm hin hj hgi hi hq
        by_cases hkl : k < K
        all_goals
          go_wp2_with fail
          refine HIN.out.mono ?_
          rintro e w2 ⟨rfl, rfl⟩
          go_wp2_with fail
          refine (rm_widest RK.out HWd.out).mono ?_
          rintro e w3 ⟨rfl, hn3⟩
          have R3 := Lib.hid (RK.out.new hn3)
          clear hn3 RK
          go_wp2_with fail
          refine (HF.out _ R3.out).mono ?_
          rintro e w4 ⟨rfl, r4, _⟩
          have R4 := Lib.hid r4
          clear r4 R3
          go_wp2_with fail
          refine (awake_any _ (laid_rm HG.out R4.out)).mono ?_
          rintro e w10 ⟨rfl, hn⟩
          go_wp2
          go_ret
          exact ⟨rfl, R4.out.n.trans hn⟩

end Go.Proofs.YtlmjogfjhngcoaaDoor
