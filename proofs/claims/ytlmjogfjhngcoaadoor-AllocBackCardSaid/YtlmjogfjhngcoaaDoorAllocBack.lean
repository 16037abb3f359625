/- What is taken and given back at once leaves all as it was: the statement's walk. -/
import Derived.Test.YtlmjogfjhngcoaaDoorAllocI
import Derived.Test.YtlmjogfjhngcoaaDoorInts
import Derived.Test.YtlmjogfjhngcoaaDoorWithin
import Derived.Deep.CutBlock
namespace Go.Proofs.YtlmjogfjhngcoaaDoor
open Go.RowKit

theorem ins_get {l : List Bk} {i : Nat} {b : Bk} (hi : i ≤ l.length) : (insA l i b)[i]? = some b := by
  unfold insA
  rw [List.getElem?_append_right (by simp; omega)]
  simp only [List.length_take, Nat.min_eq_left hi, Nat.sub_self, List.getElem?_cons_zero]
theorem ins_erase {l : List Bk} {i : Nat} {b : Bk} (hi : i ≤ l.length) : (insA l i b).eraseIdx i = l := by
  unfold insA
  rw [List.eraseIdx_append_of_length_le (by simp; omega)]
  simp only [List.length_take, Nat.min_eq_left hi, Nat.sub_self, List.eraseIdx_cons_zero]
  exact List.take_append_drop i l
theorem pos_ins {F T : Int} {l : List Bk} {i : Nat} {n W : Int} (hf : Fits F T l) (hi : i ≤ l.length) (hn : 1 ≤ n) (hg : n ≤ gapA F T l i) :
    posI (insA l i ⟨endA F l i, n, W⟩) (endA F l i) = some i ∧ posI l (endA F l i) = none := by
  have hfi := hf.ins hi hn hg (W := W)
  have hg' := ins_get (b := ⟨endA F l i, n, W⟩) hi
  obtain ⟨li, ei⟩ := List.getElem?_eq_some_iff.1 hg'
  constructor
  · refine List.findIdx?_eq_some_iff_getElem.2 ⟨li, by rw [ei]; simp, fun j hj => ?_⟩
    have h1 := List.pairwise_iff_getElem.1 hfi.srt j i (by omega) li hj
    have h2 := hfi.inn _ (List.getElem_mem (show j < _ by omega))
    rw [ei] at h1
    simp only [beq_eq_false_iff_ne, ne_eq, Bool.not_eq_true]
    simp only at h1
    omega
  · refine List.findIdx?_eq_none_iff.2 fun x hx => ?_
    have hp := List.pairwise_append.1 hfi.srt
    rw [beq_eq_false_iff_ne]
    rw [← List.take_append_drop i l] at hx
    rcases List.mem_append.1 hx with hx | hx
    · have h1 := hp.2.2 x hx ⟨endA F l i, n, W⟩ (by simp)
      have h2 := hf.inn x (List.mem_of_mem_take hx)
      simp only at h1
      omega
    · have h1 := (List.pairwise_cons.1 hp.2.1).1 x hx
      simp only at h1
      omega
theorem rm_fail {w0 w : World} {ab mb cb wb M : Nat} {F T n W : Int} {l : List Bk} (h : Rm w0 w ab mb cb wb F T l M) (hfw : l.length < 100000) (hb : badArg n W ∨ getI F T l n = none) :
    Calls Tryd.prog 11 #[.pointer (some ⟨ab, 0, none⟩), .int .i64 n, .int .i64 W] w fun e w' => ∃ x, e = .returned (.tuple #[.int .i64 0, x]) ∧ ((∃ k', x = .iface 37 (.int .i64 k')) ∨ ∃ eb, x = .iface 80 (.pointer (some ⟨eb, 0, none⟩))) ∧ Rm w0 w' ab mb cb wb F T l M := by
  obtain ⟨k, h1, h2, h3⟩ : ∃ k, gE F T l n W = some ([(alL, 0)], k) ∧ gP F T l n W = 0 ∧ gL F T l n W = l := by
    by_cases hx : badArg n W
    · exact ⟨1, gE_bad hx⟩
    · exact ⟨3, gE_none hx (hb.resolve_left hx)⟩
  refine (rm_get h hfw).mono ?_
  rintro e w' ⟨x, rfl, hx, hr, _⟩
  rw [h1] at hx
  rw [h3] at hr
  rw [h2]
  exact ⟨x, rfl, errIs_form hx.1, hr⟩

set_option maxRecDepth 100000 in
set_option maxHeartbeats 4000000 in
theorem back_walk (xs : List Int) (ao : Option Addr) (ca : Nat) (n : Int) (w : World) (hg : Laid w) (hc : IntsI w ao xs) (hml : xs.length ≤ 9223372036854775807) (hxb : ∀ x ∈ xs, -9223372036854775808 ≤ x ∧ x ≤ 9223372036854775807) :
    Calls Tryd.prog 9 #[.slice ao xs.length ca, .int .i64 n] w fun e w' => e = .returned (.bool true) ∧ New w w' := by
  obtain ⟨K, hK⟩ : ∃ K, xs.length = K := ⟨_, rfl⟩
  rw [hK] at hml ⊢
  have HG := Lib.hid hg
  have HC := Lib.hid hc
  have HK := Lib.hid hK
  have HXB := Lib.hid hxb
  clear hg hc hK hxb
  go_enter Tryd.func9, Tryd.ntmps9
  go_wp2_with fail
  refine (room_any w).mono ?_
  rintro e w1 ⟨ab, mb, cb, wb, rfl, r1⟩
  have R1 := Lib.hid r1
  clear r1
  go_upto_block 0 with fail
  go_cut [7] (fun i wx => ∃ l : List Bk, l.length ≤ 30 ∧ Rm w wx ab mb cb wb 0 100 l 100)
  case first => as_aux_lemma =>
    go_wp2_with fail
    go_loopw [7] (fun i wr => ∃ (k : Nat) (l : List Bk), k ≤ K ∧ k ≤ 30 ∧ l.length ≤ k ∧ i = .int .i64 k ∧ Rm w wr ab mb cb wb 0 100 l 100) (fun i _ => K - (intOf i).toNat)
    case atStart => exact ⟨0, [], by omega, by omega, by simp, rfl, R1.out⟩
    case round =>
      clear R1
      obtain ⟨k, l, hk, hk4, hl, rfl, rk⟩ := hrel
      have RK := Lib.hid rk
      clear rk
      by_cases hend : k < K ∧ k < 30
      · obtain ⟨hlt, hlt4⟩ := hend
        obtain ⟨s, hs⟩ : ∃ s, xs[k]? = some s := ⟨xs[k]'(by rw [HK.out]; exact hlt), by simp⟩
        obtain ⟨g, off, rfl, hg1, c0⟩ := HC.out.keep RK.out.n k s hs
        have hsb := HXB.out s (List.mem_of_getElem? hs)
        clear hs
        have q1 : (0 : Int) ≤ (k : Int) := by omega
        have q2 : (k : Int) < (K : Int) := by omega
        go_wp2_with fail
        refine (within_any s 9 _ (by omega) (by omega) hsb.1 hsb.2).mono ?_
        rintro e w2 ⟨rfl, rfl⟩
        obtain ⟨m, hm, hm2⟩ := within_nat s 9 (by omega)
        rw [hm]
        have hm3 : m < 9 := by omega
        clear hm hm2 c0 hsb
        go_wp2_with fail
        refine (rm_get RK.out (by omega)).mono ?_
        rintro e w3 ⟨x, rfl, hx, r3, _⟩
        have R3 := Lib.hid r3
        have hl3 := gL_len 0 100 l (1 + (m : Int)) 32
        clear r3 hx
        go_wp2
        go_roundw
        case rel => exact ⟨k + 1, _, by omega, by omega, by omega, by go_num, R3.out⟩
        case measure => simp [intOf]; omega
      · by_cases hkl : k < K
        all_goals
          go_wp2_with fail
          go_meet
          exact ⟨l, by omega, RK.out⟩
  obtain ⟨l, hl, rk⟩ := hcut
  obtain ⟨Ud, hUd⟩ : ∃ Ud, usedN l = Ud := ⟨_, rfl⟩
  obtain ⟨Wd, hWd⟩ : ∃ Wd, wideN 0 100 l (l.length + 1) = Wd := ⟨_, rfl⟩
  obtain ⟨N, hN⟩ : ∃ N, l.length = N := ⟨_, rfl⟩
  have HN := Lib.hid hN
  have HU := Lib.hid hUd
  have HW := Lib.hid hWd
  have HT := Lib.hid (show l.take 1000 = l from List.take_of_length_le (by omega))
  have RK := Lib.hid rk
  have hfit := rk.fits
  have tU : (Ud == Ud) = true := by simp
  have tU2 : (Ud != Ud) = false := by simp
  have tW2 : (Wd != Wd) = false := by simp
  have tN : ((N : Int) == (N : Int)) = true := by simp
  have HFIT := Lib.hid hfit
  rw [hN] at hl
  clear rk hUd hWd hN hfit
  go_wp2_with fail
  refine (rm_blocks RK.out (most := 1000) (by omega) (by omega)).mono ?_
  rintro e w2 ⟨v2, rfl, ho2, hn⟩
  rw [HT.out, HN.out] at ho2
  obtain ⟨ao2, ca2, rfl, _⟩ := owned_form ho2
  have R2 := Lib.hid (RK.out.new hn)
  have HO2 := Lib.hid (RK.out.kept hn ho2)
  clear hn ho2 RK
  go_wp2_with fail
  refine (rm_used R2.out HU.out).mono ?_
  rintro e w3 ⟨rfl, hn⟩
  have R3 := Lib.hid (R2.out.new hn)
  have HO3 := Lib.hid (HO2.out.new R2.out.lt hn)
  clear hn R2 HO2
  go_wp2_with fail
  refine (rm_widest R3.out HW.out).mono ?_
  rintro e w4 ⟨rfl, hn⟩
  have R4 := Lib.hid (R3.out.new hn)
  have HO4 := Lib.hid (HO3.out.new R3.out.lt hn)
  clear hn R3 HO3
  go_wp2_with fail
  refine (rm_there R4.out HU.out).mono ?_
  rintro e w5 ⟨rfl, rfl⟩
  by_cases hb : badArg n 64 ∨ getI 0 100 l n = none
  · have HF := Lib.hid (fun (w' : World) (r : Rm w w' ab mb cb wb 0 100 l 100) => rm_fail r (by rw [HN.out]; omega) hb)
    clear hb
    go_wp2_with fail
    refine (HF.out _ R4.out).mono ?_
    rintro e w5 ⟨x, rfl, hx, r5⟩
    have R5 := Lib.hid r5
    clear r5 R4 HF
    rcases hx with ⟨k', rfl⟩ | ⟨eb, rfl⟩
    all_goals
      go_wp2_with fail
      refine (rm_used R5.out HU.out).mono ?_
      rintro e w6 ⟨rfl, hn⟩
      have R6 := Lib.hid (R5.out.new hn)
      clear hn R5
      go_wp2_with fail
      refine (rm_there R6.out HU.out).mono ?_
      rintro e w7 ⟨rfl, rfl⟩
      go_wp2_with fail
      refine (awake_any _ (laid_rm HG.out R6.out)).mono ?_
      rintro e w8 ⟨rfl, hn⟩
      go_wp2
      go_ret
      exact ⟨rfl, R6.out.n.trans hn⟩
  · have hb1 : ¬ badArg n 64 := fun e => hb (.inl e)
    obtain ⟨i, hi⟩ : ∃ i, getI 0 100 l n = some i := by
      cases h : getI 0 100 l n with
      | none => exact absurd (.inr h) hb
      | some i => exact ⟨i, rfl⟩
    obtain ⟨i1, i2, _⟩ := getI_some hi
    obtain ⟨p1, p2⟩ := pos_ins HFIT.out i1 (goodArg hb1).1 i2 (W := 64)
    have he := ins_erase (b := ⟨endA 0 l i, n, 64⟩) i1
    have hq0 := HFIT.out.end_ i1
    obtain ⟨q, hq⟩ : ∃ q, endA 0 l i = q := ⟨_, rfl⟩
    rw [hq] at p1 p2 he hq0
    have HF := Lib.hid (fun (w' : World) (r : Rm w w' ab mb cb wb 0 100 l 100) => rm_got r (by rw [HN.out]; omega) hb1 hi hq rfl)
    obtain ⟨l2, hl2⟩ : ∃ l2, insA l i ⟨q, n, 64⟩ = l2 := ⟨_, rfl⟩
    rw [hl2] at p1 he HF
    have HP := Lib.hid (show pE l2 q = none ∧ pL l2 q = l by unfold pE pL; rw [p1]; exact ⟨rfl, he⟩)
    have HP2 := Lib.hid (show pE l q = some ([(alL, q)], 4) ∧ pL l q = l by unfold pE pL; rw [p2]; exact ⟨rfl, rfl⟩)
    clear hb hb1 hi i1 i2 p1 p2 he hq hl2
    go_wp2_with fail
    refine (HF.out _ R4.out).mono ?_
    rintro e w5 ⟨rfl, r5, _, st⟩
    have R5 := Lib.hid r5
    have HO5 := Lib.hid (HO4.out.stay st)
    clear r5 HF R4 HO4 st
    go_wp2_with fail
    refine (rm_put R5.out).mono ?_
    rintro e w6 ⟨y, rfl, hy, r6, _, st⟩
    have HO6 := Lib.hid (HO5.out.stay st)
    clear HO5 st
    rw [HP.out.1] at hy
    obtain rfl : y = .nilIface := hy
    rw [HP.out.2] at r6
    have R6 := Lib.hid r6
    clear r6 R5 HP
    go_wp2_with fail
    refine (rm_used R6.out HU.out).mono ?_
    rintro e w7 ⟨rfl, hn⟩
    have R7 := Lib.hid (R6.out.new hn)
    have HO7 := Lib.hid (HO6.out.new R6.out.lt hn)
    clear hn R6 HO6
    go_wp2_with fail
    refine (rm_widest R7.out HW.out).mono ?_
    rintro e w8 ⟨rfl, hn⟩
    have R8 := Lib.hid (R7.out.new hn)
    have HO8 := Lib.hid (HO7.out.new R7.out.lt hn)
    clear hn R7 HO7
    go_wp2_with fail
    refine (rm_there R8.out HU.out).mono ?_
    rintro e w9 ⟨rfl, rfl⟩
    go_wp2_with fail
    refine (rm_blocks R8.out (most := 1000) (by omega) (by omega)).mono ?_
    rintro e w9 ⟨v9, rfl, ho9, hn⟩
    rw [HT.out, HN.out] at ho9
    obtain ⟨ao9, ca9, rfl, _⟩ := owned_form ho9
    have R9 := Lib.hid (R8.out.new hn)
    have HO9 := Lib.hid (HO8.out.new R8.out.lt hn)
    have HP9 := Lib.hid (R8.out.kept hn ho9)
    clear hn R8 HO8 ho9
    go_wp2_with fail
    go_loopw [15] (fun i wz => ∃ j : Nat, j ≤ N ∧ i = .int .i64 j ∧ New w9 wz) (fun i _ => N - (intOf i).toNat)
    case atStart => exact ⟨0, by omega, rfl, Fr.refl _ _⟩
    case round =>
      obtain ⟨j, hj, rfl, hn⟩ := hrel
      by_cases hlt : j < N
      · obtain ⟨b, hb⟩ : ∃ b, l[j]? = some b := ⟨l[j]'(by rw [HN.out]; exact hlt), by simp⟩
        obtain ⟨g2, rfl, hg2, hc2⟩ := (HO9.out.new R9.out.lt hn) j b hb
        have x0 : wr.cell? ⟨g2, j * 3, none⟩ = some (.int .i64 b.pos) := hc2 0 _ rfl
        have x1 : wr.cell? ⟨g2, j * 3 + 1, none⟩ = some (.int .i64 b.num) := hc2 1 _ rfl
        have x2 : wr.cell? ⟨g2, j * 3 + 2, none⟩ = some (.int .i64 b.wid) := hc2 2 _ rfl
        obtain ⟨g3, rfl, hg3, hc3⟩ := (HP9.out.new R9.out.lt hn) j b hb
        have y0 : wr.cell? ⟨g3, j * 3, none⟩ = some (.int .i64 b.pos) := hc3 0 _ rfl
        have y1 : wr.cell? ⟨g3, j * 3 + 1, none⟩ = some (.int .i64 b.num) := hc3 1 _ rfl
        have y2 : wr.cell? ⟨g3, j * 3 + 2, none⟩ = some (.int .i64 b.wid) := hc3 2 _ rfl
        have q1 : (0 : Int) ≤ (j : Int) := by omega
        have q2 : (j : Int) < (N : Int) := by omega
        have HNW := Lib.hid hn
        clear hc2 hc3 hb hn
        go_wp2_with fail
        go_quiet (fail)
        go_wp2
        go_roundw
        case rel => exact ⟨j + 1, by omega, by go_num, HNW.out.drewN nq⟩
        case measure => simp [intOf]; omega
      · obtain rfl : j = N := by omega
        have RA := Lib.hid (R9.out.new hn)
        clear hn R9
        go_wp2_with fail
        refine (rm_put RA.out).mono ?_
        rintro e w10 ⟨y, rfl, hy, r10, _⟩
        rw [HP2.out.1] at hy
        rw [HP2.out.2] at r10
        have HX := Lib.hid hy
        have R10 := Lib.hid r10
        clear hy r10 RA
        go_wp2_with fail
        refine (no_says alL q 4 w10).mono ?_
        rintro e w11 ⟨f, rfl, hf, hn⟩
        have HSM := Lib.hid (same_tells y f (some ([(alL, q)], 4)) _ (laid_rm HG.out (R10.out.new hn)) (HX.out.new hn) (failN_of hf) (.inl ⟨_, rfl⟩))
        have R11 := Lib.hid (R10.out.new hn)
        clear R10 HX hf hn
        go_wp2_with fail
        refine HSM.out.mono ?_
        rintro e w12 ⟨rfl, hn⟩
        have R12 := Lib.hid (R11.out.new hn)
        clear hn R11 HSM
        go_wp2_with fail
        refine (awake_any _ (laid_rm HG.out R12.out)).mono ?_
        rintro e w13 ⟨rfl, hn⟩
        go_wp2
        go_ret
        exact ⟨rfl, R12.out.n.trans hn⟩

end Go.Proofs.YtlmjogfjhngcoaaDoor
