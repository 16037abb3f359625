/- Blocks are told by their places; broken off anywhere they are the first ones; they may be gone through again: the statement's walk. -/
import Derived.Test.YtlmjogfjhngcoaaDoorAllocI
import Derived.Test.YtlmjogfjhngcoaaDoorInts
import Derived.Test.YtlmjogfjhngcoaaDoorWithin
import Derived.Deep.CutBlock
namespace Go.Proofs.YtlmjogfjhngcoaaDoor
open Go.RowKit

set_option maxRecDepth 100000 in
set_option maxHeartbeats 4000000 in
theorem tells_walk (xs : List Int) (ao : Option Addr) (ca : Nat) (n : Int) (w : World) (hg : Laid w) (hc : IntsI w ao xs) (hml : xs.length ≤ 9223372036854775807) (hxb : ∀ x ∈ xs, -9223372036854775808 ≤ x ∧ x ≤ 9223372036854775807)
    (hn1 : -9223372036854775808 ≤ n) (hn2 : n ≤ 9223372036854775807) :
    Calls Tryd.prog 4 #[.slice ao xs.length ca, .int .i64 n] w fun e w' => e = .returned (.bool true) ∧ New w w' := by
  obtain ⟨K, hK⟩ : ∃ K, xs.length = K := ⟨_, rfl⟩
  rw [hK] at hml ⊢
  obtain ⟨m, hm, hm2⟩ := within_nat n 20 (by omega)
  have hm3 : m < 20 := by omega
  have hin := fun w => within_any n 20 w (by omega) (by omega) hn1 hn2
  rw [hm] at hin
  have HIN := Lib.hid hin
  have HG := Lib.hid hg
  have HC := Lib.hid hc
  have HK := Lib.hid hK
  have HXB := Lib.hid hxb
  clear hg hc hK hxb hin hm hm2
  go_enter Tryd.func4, Tryd.ntmps4
  go_wp2_with fail
  refine (room_any w).mono ?_
  rintro e w1 ⟨ab, mb, cb, wb, rfl, r1⟩
  have R1 := Lib.hid r1
  clear r1
  go_upto_block 0 with fail
  go_cut [7] (fun i wx => ∃ l : List Bk, l.length ≤ 30 ∧ Rm w wx ab mb cb wb 0 100 l 100)
  case first => as_aux_lemma =>
    go_wp2_with fail
    go_loopw [7] (fun i wr => ∃ (k : Nat) (l : List Bk), k ≤ K ∧ k ≤ 30 ∧ l.length ≤ k ∧ i = .int .i64 k ∧ Rm w wr ab mb cb wb 0 100 l 100) (fun i _ => K - (intOf i).toNat)
    case atStart => exact ⟨0, [], by omega, by omega, by simp, rfl, R1.out⟩
    case round =>
      clear R1
      obtain ⟨k, l, hk, hk4, hl, rfl, rk⟩ := hrel
      have RK := Lib.hid rk
      clear rk
      by_cases hend : k < K ∧ k < 30
      · obtain ⟨hlt, hlt4⟩ := hend
        obtain ⟨s, hs⟩ : ∃ s, xs[k]? = some s := ⟨xs[k]'(by rw [HK.out]; exact hlt), by simp⟩
        obtain ⟨g, off, rfl, hg1, c0⟩ := HC.out.keep RK.out.n k s hs
        have hsb := HXB.out s (List.mem_of_getElem? hs)
        clear hs
        have q1 : (0 : Int) ≤ (k : Int) := by omega
        have q2 : (k : Int) < (K : Int) := by omega
        go_wp2_with fail
        refine (within_any s 9 _ (by omega) (by omega) hsb.1 hsb.2).mono ?_
        rintro e w2 ⟨rfl, rfl⟩
        obtain ⟨m, hm, hm2⟩ := within_nat s 9 (by omega)
        rw [hm]
        have hm3 : m < 9 := by omega
        clear hm hm2 c0 hsb
        go_wp2_with fail
        refine (rm_get RK.out (by omega)).mono ?_
        rintro e w3 ⟨x, rfl, hx, r3, _⟩
        have R3 := Lib.hid r3
        have hl3 := gL_len 0 100 l (1 + (m : Int)) 64
        clear r3 hx
        go_wp2
        go_roundw
        case rel => exact ⟨k + 1, _, by omega, by omega, by omega, by go_num, R3.out⟩
        case measure => simp [intOf]; omega
      · by_cases hkl : k < K
        all_goals
          go_wp2_with fail
          go_meet
          exact ⟨l, by omega, RK.out⟩
  obtain ⟨l, hl, rk⟩ := hcut
  have RK := Lib.hid rk
  have hfit := rk.fits
  clear rk
  obtain ⟨N, hN⟩ : ∃ N, l.length = N := ⟨_, rfl⟩
  have ht : l.take 1000 = l := List.take_of_length_le (by omega)
  have HT := Lib.hid ht
  have HFIT := Lib.hid hfit
  have HNl := Lib.hid hN
  obtain ⟨M, hM⟩ : ∃ M, (l.take (m + 1)).length = M := ⟨_, rfl⟩
  have hMm : M = min (m + 1) N := by rw [← hM, List.length_take, hN]
  have HM := Lib.hid hM
  have HMm := Lib.hid hMm
  have hmin : ((N : Int) < 1 + (m : Int) ∧ ((M : Int) != (N : Int)) = false) ∨ (¬ (N : Int) < 1 + (m : Int) ∧ ((M : Int) != 1 + (m : Int)) = false) := by
    simp only [bne_eq_false_iff_eq]; omega
  rw [hN] at hl
  have hMN : M ≤ N := by omega
  clear ht hfit hN hM hMm
  go_wp2_with fail
  refine (rm_blocks RK.out (most := 1000) (by omega) (by omega)).mono ?_
  rintro e w2 ⟨v2, rfl, ho2, hn⟩
  rw [HT.out, HNl.out] at ho2
  obtain ⟨ao2, ca2, rfl, _⟩ := owned_form ho2
  have R2 := Lib.hid (RK.out.new hn)
  have HO2 := Lib.hid ho2
  clear hn ho2 RK
  go_wp2_with fail
  refine (HIN.out w2).mono ?_
  rintro e w3 ⟨rfl, rfl⟩
  have hb := rm_blocks R2.out (most := m + 1) (by omega) (by omega)
  rw [show ((m + 1 : Nat) : Int) = (1 : Int) + (m : Int) by omega] at hb
  have HB := Lib.hid hb
  clear hb
  go_wp2_with fail
  refine HB.out.mono ?_
  rintro e w3 ⟨v3, rfl, ho3, hn⟩
  rw [HM.out] at ho3
  obtain ⟨ao3, ca3, rfl, _⟩ := owned_form ho3
  have R3 := Lib.hid (R2.out.new hn)
  have HO3 := Lib.hid ho3
  have HO2' := Lib.hid (own_keep HO2.out hn (fun _ _ => id))
  clear hn ho3 R2 HO2 HB
  rcases hmin with ⟨tm, tmin⟩ | ⟨tm, tmin⟩
  all_goals
    go_wp2_with fail
    go_loopw [11] (fun i wz => ∃ j : Nat, j ≤ N ∧ i = .int .i64 j ∧ New w3 wz) (fun i _ => N - (intOf i).toNat)
    case atStart => exact ⟨0, by omega, rfl, Fr.refl _ _⟩
    case round =>
      obtain ⟨j, hj, rfl, hn⟩ := hrel
      by_cases hlt : j < N
      · obtain ⟨b, hb⟩ : ∃ b, l[j]? = some b := ⟨l[j]'(by rw [HNl.out]; exact hlt), by simp⟩
        obtain ⟨g2, rfl, hg2, hc2⟩ := flat_at bC 3 bC_len (own_keep HO2'.out hn (fun _ _ => id)) hb (by omega)
        have x0 : wr.cell? ⟨g2, j * 3, none⟩ = some (.int .i64 b.pos) := hc2 0 _ rfl
        have x1 : wr.cell? ⟨g2, j * 3 + 1, none⟩ = some (.int .i64 b.num) := hc2 1 _ rfl
        have x2 : wr.cell? ⟨g2, j * 3 + 2, none⟩ = some (.int .i64 b.wid) := hc2 2 _ rfl
        have q1 : (0 : Int) ≤ (j : Int) := by omega
        have q2 : (j : Int) < (N : Int) := by omega
        have hy : j < M → ∃ g3, ao3 = some ⟨g3, 0, none⟩ ∧ g3 < wr.heap.size ∧ wr.cell? ⟨g3, j * 3, none⟩ = some (.int .i64 b.pos) ∧ wr.cell? ⟨g3, j * 3 + 1, none⟩ = some (.int .i64 b.num) ∧ wr.cell? ⟨g3, j * 3 + 2, none⟩ = some (.int .i64 b.wid) := fun hjM => by
          obtain ⟨g3, e, hg3, hc3⟩ := flat_at bC 3 bC_len (own_keep HO3.out hn (fun _ _ => id)) (show (l.take (m + 1))[j]? = some b by rw [List.getElem?_take_of_lt (by have := HMm.out; omega)]; exact hb) (by omega)
          exact ⟨g3, e, hg3, hc3 0 _ rfl, hc3 1 _ rfl, hc3 2 _ rfl⟩
        have hz : 0 < j → ∃ (i : Nat) (p : Int), (j : Int) - 1 = (i : Int) ∧ i < N ∧ wr.cell? ⟨g2, i * 3, none⟩ = some (.int .i64 p) ∧ p < b.pos := fun h0 => by
          obtain ⟨i, rfl⟩ : ∃ i, j = i + 1 := ⟨j - 1, by omega⟩
          obtain ⟨b', hb'⟩ : ∃ b', l[i]? = some b' := ⟨l[i]'(by rw [HNl.out]; omega), by simp⟩
          obtain ⟨_, e, _, hc4⟩ := flat_at bC 3 bC_len (own_keep HO2'.out hn (fun _ _ => id)) hb' (by omega)
          cases e
          refine ⟨i, b'.pos, by omega, by omega, hc4 0 _ rfl, ?_⟩
          obtain ⟨l1, e1⟩ := List.getElem?_eq_some_iff.1 hb'
          obtain ⟨l2, e2⟩ := List.getElem?_eq_some_iff.1 hb
          have h1 := List.pairwise_iff_getElem.1 HFIT.out.srt i (i + 1) l1 l2 (by omega)
          have h2 := HFIT.out.inn b' (List.mem_of_getElem? hb')
          rw [e1, e2] at h1
          omega
        have HNW := Lib.hid hn
        clear hc2 hb hn
        go_upto_region 16 with fail
        go_cut [89] (fun r wx => r = .bool false ∧ New w3 wx)
        case first => as_aux_lemma =>
          by_cases hjM : j < M
          · obtain ⟨g3, rfl, hg3, y0, y1, y2⟩ := hy hjM
            have q3 : (j : Int) < (M : Int) := by omega
            rcases Nat.eq_zero_or_pos j with e0 | e0
            · have t0 : ¬ 0 < j := by omega
              clear e0 hz hy
              go_quiet (fail)
              go_wp2
              go_meet
              exact ⟨rfl, HNW.out.drewN nq⟩
            · obtain ⟨i, p, q6, q7, z0, hp⟩ := hz e0
              have q4 : (0 : Int) ≤ (i : Int) := by omega
              have q5 : (i : Int) < (N : Int) := by omega
              have q8 : IntKind.i64.wrap (i : Int) = (i : Int) := IntWalk.i64_in _ (by omega)
              clear hz hy
              go_quiet (fail)
              go_wp2
              go_meet
              exact ⟨by rw [decide_eq_false (by omega)], HNW.out.drewN nq⟩
          · have q3 : ¬ j < M := hjM
            have q3' : ¬ (j : Int) < (M : Int) := by omega
            rcases Nat.eq_zero_or_pos j with e0 | e0
            · have t0 : ¬ 0 < j := by omega
              clear e0 hz hy
              go_quiet (fail)
              go_wp2
              go_meet
              exact ⟨rfl, HNW.out.drewN nq⟩
            · obtain ⟨i, p, q6, q7, z0, hp⟩ := hz e0
              have q4 : (0 : Int) ≤ (i : Int) := by omega
              have q5 : (i : Int) < (N : Int) := by omega
              have q8 : IntKind.i64.wrap (i : Int) = (i : Int) := IntWalk.i64_in _ (by omega)
              clear hz hy
              go_quiet (fail)
              go_wp2
              go_meet
              exact ⟨by rw [decide_eq_false (by omega)], HNW.out.drewN nq⟩
        obtain ⟨rfl, hn⟩ := hcut
        have HN2 := Lib.hid hn
        clear hn
        go_wp2
        go_roundw
        case rel => exact ⟨j + 1, by omega, by go_num, HN2.out⟩
        case measure => simp [intOf]; omega
      · obtain rfl : j = N := by omega
        have R4 := Lib.hid (R3.out.new hn)
        have tj : ((j : Int) == (j : Int)) = true := by simp
        clear hn
        go_wp2_with fail
        refine (rm_blocks R4.out (most := 1000) (by omega) (by omega)).mono ?_
        rintro e w4 ⟨v4, rfl, ho4, hn⟩
        rw [HT.out, HNl.out] at ho4
        obtain ⟨ao4, ca4, rfl, _⟩ := owned_form ho4
        have R5 := Lib.hid (R4.out.new hn)
        clear hn ho4 R4
        go_wp2_with fail
        refine (awake_any _ (laid_rm HG.out R5.out)).mono ?_
        rintro e w5 ⟨rfl, hn⟩
        go_wp2
        go_ret
        exact ⟨rfl, R5.out.n.trans hn⟩

end Go.Proofs.YtlmjogfjhngcoaaDoor
