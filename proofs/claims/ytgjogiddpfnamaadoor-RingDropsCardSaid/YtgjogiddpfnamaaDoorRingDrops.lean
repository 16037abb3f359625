/- Of those alike the first goes; the others keep their order: the statement's walk. -/
import Derived.Test.YtgjogiddpfnamaaDoorRingE
import Derived.Test.YtgjogiddpfnamaaDoorNums
import Derived.BigQuiet
import Derived.Deep.QuietTactic
namespace Go.Proofs.YtgjogiddpfnamaaDoor
open Go.RowKit Go.Shelf

/-- The place of the first v among the first k; -1: none. -/
def fstAt (p k : Nat) : Int := if p < k then (p : Int) else -1
theorem idx_le : ∀ {xs : List Nat} {v j : Nat}, xs[j]? = some v → xs.idxOf v ≤ j
  | [], v, j, h => by simp at h
  | a :: r, v, 0, h => by
    obtain rfl : a = v := by simpa using h
    simp
  | a :: r, v, j + 1, h => by
    by_cases e : a = v
    · subst e; simp
    · rw [List.idxOf_cons, show (a == v) = false by simpa using e, cond_false]
      have := idx_le (xs := r) (v := v) (j := j) (by simpa using h)
      omega
theorem idx_at {xs : List Nat} {v : Nat} (h : xs.idxOf v < xs.length) : xs[xs.idxOf v]? = some v := by
  rw [List.getElem?_eq_getElem h, List.getElem_idxOf h]
theorem erase_idx : ∀ (xs : List Nat) (v : Nat), xs.erase v = xs.eraseIdx (xs.idxOf v)
  | [], v => rfl
  | a :: r, v => by
    by_cases e : a = v
    · subst e; simp
    · rw [List.idxOf_cons, show (a == v) = false by simpa using e, cond_false, List.erase_cons_tail (by simpa using e), erase_idx r v]; rfl
theorem contains_idx (xs : List Nat) (v : Nat) : xs.contains v = decide (xs.idxOf v < xs.length) := by
  rw [Bool.eq_iff_iff]; simp [List.idxOf_lt_length_iff]

set_option maxRecDepth 100000 in
set_option maxHeartbeats 1000000 in
theorem drops_far (xs : List Nat) (ao : Option Addr) (ca v : Nat) (w : World) (hg : Laid w) (hm : xs.length ≤ 9223372036854775807) (h1 : 100 < xs.length) :
    Calls Tryd.prog 6 #[.slice ao xs.length ca, .int .u64 v] w fun e w' => e = .returned (.bool true) ∧ New w w' := by
  obtain ⟨L, hL⟩ : ∃ L, xs.length = L := ⟨_, rfl⟩
  rw [hL] at hm h1 ⊢
  have HG := Lib.hid hg
  clear hg hL
  go_enter Tryd.func6, Tryd.ntmps6
  go_wp2_with fail
  refine (new_any 100 _ (by omega) (by omega)).mono ?_
  rintro e w1 ⟨b, lb, rfl, hb, hlb, hr, hn1⟩
  have HN := Lib.hid hn1
  clear hr hn1
  go_wp2_with fail
  refine (awake_any _ (HG.out.keep HN.out id)).mono ?_
  rintro e w2 ⟨rfl, hn2⟩
  have HN2 := Lib.hid (HN.out.trans hn2)
  clear hn2
  go_wp2
  go_ret
  exact ⟨rfl, HN2.out⟩

set_option maxRecDepth 100000 in
set_option maxHeartbeats 4000000 in
theorem drops_near (xs : List Nat) (ao : Option Addr) (ca v : Nat) (w : World) (hg : Laid w) (hfit : ∀ x ∈ xs, x < 18446744073709551616) (hc : Nats w ao xs) (hv : v < 18446744073709551616) (h1 : xs.length ≤ 100) :
    Calls Tryd.prog 6 #[.slice ao xs.length ca, .int .u64 v] w fun e w' => e = .returned (.bool true) ∧ New w w' := by
  obtain ⟨L, hL⟩ : ∃ L, xs.length = L := ⟨_, rfl⟩
  obtain ⟨p, hp⟩ : ∃ p, xs.idxOf v = p := ⟨_, rfl⟩
  rw [hL] at h1 ⊢
  have hple : p ≤ L := by rw [← hp, ← hL]; exact List.idxOf_le_length
  have HG := Lib.hid hg
  have HC := Lib.hid hc
  have HFIT := Lib.hid hfit
  have HL := Lib.hid hL
  have HP := Lib.hid hp
  clear hg hc hfit hL hp
  go_enter Tryd.func6, Tryd.ntmps6
  go_wp2_with fail
  refine (new_any 100 _ (by omega) (by omega)).mono ?_
  rintro e w1 ⟨b, lb, rfl, hb, hlb, hr, hn1⟩
  have HR := Lib.hid hr
  have HN := Lib.hid hn1
  clear hr hn1
  go_wp2_with fail
  go_loopw [7, 8] (fun s i wr => ∃ k : Nat, k ≤ L ∧ i = .int .i64 k ∧ s = .int .i64 (fstAt p k) ∧ (∃ cs, RingRep wr b lb cs 0 k ∧ cs.length = 100 ∧ ringL cs 0 k = xs.take k) ∧ New w wr) (fun _ i _ => L - (intOf i).toNat)
  case atStart => exact ⟨0, by omega, rfl, by simp [fstAt], ⟨_, HR.out, by simp, rfl⟩, HN.out⟩
  case round =>
    clear HR HN
    obtain ⟨k, hk, rfl, rfl, ⟨cs, hr, hcs, hrl⟩, hnr⟩ := hrel
    have HR := Lib.hid hr
    have HCS := Lib.hid hcs
    have HRL := Lib.hid hrl
    have HNR := Lib.hid hnr
    clear hr hcs hrl
    by_cases hlt : k < L
    · obtain ⟨x, hx⟩ : ∃ x, xs[k]? = some x := ⟨xs[k]'(by rw [HL.out]; exact hlt), by simp⟩
      have hfx := HFIT.out x (List.mem_of_getElem? hx)
      obtain ⟨g, off, rfl, hg1, hc1⟩ := (HC.out.keep hnr) k x hx
      have HX := Lib.hid hx
      have HM := Lib.hid (put_ok b lb cs 0 k x wr HR.out (by rw [HCS.out]; omega) hfx)
      clear hnr hx
      go_wp2_with fail
      refine HM.out.mono ?_
      rintro e w3 ⟨rfl, hr3, hf3⟩
      have hn3 := HNR.out.then hf3 (fun i hi e => by unfold inRing at e; omega)
      have HN3 := Lib.hid hn3
      have hpu := ringL_put cs 0 k x HR.out.pos (by rw [HCS.out]; omega)
      rw [HRL.out, ← show xs.take (k + 1) = xs.take k ++ [x] from take_step HX.out] at hpu
      have HR3 := Lib.hid (show ∃ cs, RingRep w3 b lb cs 0 (k + 1) ∧ cs.length = 100 ∧ ringL cs 0 (k + 1) = xs.take (k + 1) from ⟨_, hr3, by rw [List.length_set]; exact HCS.out, hpu⟩)
      obtain ⟨g1, off1, e1, hg2, hc2⟩ := (HC.out.keep hn3) k x HX.out
      obtain ⟨rfl, rfl⟩ : g = g1 ∧ off = off1 := by cases e1; exact ⟨rfl, rfl⟩
      clear hr3 hf3 hn3 hpu e1 hc1 hg1 HM
      by_cases hxv : x = v
      · have t1 : ((x : Int) == (v : Int)) = true := by rw [hxv]; simp
        have hpk : p ≤ k := by rw [← HP.out]; exact idx_le (by rw [HX.out, hxv])
        by_cases hpe : p = k
        · have hf1 : fstAt p k = -1 := by unfold fstAt; rw [if_neg (by omega)]
          have hf2 : fstAt p (k + 1) = (k : Int) := by unfold fstAt; rw [if_pos (by omega), hpe]
          rw [hf1]
          have HF2 := Lib.hid hf2
          clear hf1 hf2 hpe hpk hxv
          go_wp2_with fail
          go_roundw
          case rel => exact ⟨k + 1, by omega, by go_num, by rw [HF2.out], HR3.out, HN3.out⟩
          case measure => simp [intOf]; omega
        · have hf1 : fstAt p k = (p : Int) := by unfold fstAt; rw [if_pos (by omega)]
          have hf2 : fstAt p (k + 1) = (p : Int) := by unfold fstAt; rw [if_pos (by omega)]
          rw [hf1]
          have HF2 := Lib.hid hf2
          have hp0 : ¬ ((p : Int) < 0) := by omega
          clear hf1 hf2 hxv
          go_wp2_with fail
          go_roundw
          case rel => exact ⟨k + 1, by omega, by go_num, by rw [HF2.out], HR3.out, HN3.out⟩
          case measure => simp [intOf]; omega
      · have t1 : ((x : Int) == (v : Int)) = false := by rw [beq_eq_false_iff_ne]; omega
        have hf : fstAt p (k + 1) = fstAt p k := by
          have hne : p ≠ k := by
            intro e
            have := idx_at (xs := xs) (v := v) (by rw [HP.out, HL.out]; omega)
            rw [HP.out, e, HX.out] at this
            exact hxv (Option.some.inj this)
          unfold fstAt
          by_cases h : p < k
          · rw [if_pos h, if_pos (by omega)]
          · rw [if_neg h, if_neg (by omega)]
        have HF := Lib.hid hf
        generalize fstAt p k = z at HF
        clear hf
        go_wp2_with fail
        go_roundw
        case rel => exact ⟨k + 1, by omega, by go_num, by rw [HF.out], HR3.out, HN3.out⟩
        case measure => simp [intOf]; omega
    · obtain rfl : k = L := by omega
      have hd := drop_any b lb cs 0 k v wr HR.out hv
      rw [HRL.out, List.take_of_length_le (by rw [HL.out]; omega), contains_idx, HP.out, HL.out, erase_idx, HP.out] at hd
      obtain ⟨ys, hys⟩ : ∃ ys, xs.eraseIdx p = ys := ⟨_, rfl⟩
      rw [hys] at hd
      have hyl : ys.length = if p < k then k - 1 else k := by rw [← hys, List.length_eraseIdx, HL.out]
      have hyk : ys.length ≤ 100 := by rw [hyl]; split <;> omega
      have HY := Lib.hid hys
      have HYL := Lib.hid hyl
      have HD := Lib.hid hd
      clear hd hnr hys hyl
      have hfs : fstAt p k = if p < k then (p : Int) else -1 := rfl
      rw [hfs]
      clear hfs
      obtain ⟨zf, hzf⟩ : ∃ z : Int, (if p < k then (p : Int) else -1) = z := ⟨_, rfl⟩
      rw [hzf]
      have hz2 : decide (0 ≤ zf) = decide (p < k) := by
        rw [← hzf]
        by_cases h : p < k
        · rw [if_pos h]; simp [h]
        · rw [if_neg h]; simp [h]
      have hz3 : zf < 101 := by rw [← hzf]; split <;> omega
      have hz4 : -1 ≤ zf := by rw [← hzf]; split <;> omega
      have HZ2 := Lib.hid hz2
      have HZ := Lib.hid hzf
      clear hzf hz2
      go_upto_region 12 with fail
      obtain ⟨bb, hbb⟩ : ∃ bb, decide (p < k) = bb := ⟨_, rfl⟩
      have t0 : decide (0 ≤ zf) = bb := HZ2.out.trans hbb
      have t00 : (bb != bb) = false := by simp
      have hd := HD.out
      rw [hbb] at hd
      have HD := Lib.hid hd
      clear hd hbb
      go_wp2_with fail
      refine HD.out.mono ?_
      rintro e w3 ⟨rfl, ⟨cs', hcl, hrl', hr3⟩, hf3⟩
      have HR3 := Lib.hid hr3
      have HRL3 := Lib.hid hrl'
      have HN3 := Lib.hid (HNR.out.then hf3 (fun i hi e => by unfold inRing at e; omega))
      clear hr3 hrl' hf3 HD hcl HR HRL HCS HNR
      go_wp2_with fail
      have ha := allL_any b lb cs' 0 ys.length 1000 w3 HR3.out (by omega) (by omega)
      rw [HRL3.out, List.take_of_length_le (by omega)] at ha
      have HA := Lib.hid ha
      clear ha
      refine HA.out.mono ?_
      rintro e w4 ⟨vv, rfl, hown, hn4⟩
      obtain ⟨bo, cb, rfl, hheld⟩ := held_own hown
      have HH := Lib.hid hheld
      have HN4 := Lib.hid (HN3.out.trans hn4)
      clear hown hheld hn4 HA HR3 HRL3
      obtain ⟨N, hN⟩ : ∃ N, ys.length = N := ⟨_, rfl⟩
      have hyl := HYL.out
      rw [hN] at hyl hyk ⊢
      have HNN := Lib.hid hN
      have HYL := Lib.hid hyl
      clear hN hyl
      go_wp2_with fail
      go_loopw [11, 12] (fun s i wr => ∃ j kk : Nat, j ≤ k ∧ i = .int .i64 j ∧ s = .int .i64 kk ∧ kk = (if p < k ∧ p < j then j - 1 else j) ∧ New w4 wr) (fun _ i _ => k - (intOf i).toNat)
      case atStart => exact ⟨0, 0, by omega, rfl, rfl, by split <;> omega, Fr.refl _ _⟩
      case round =>
        obtain ⟨j, kk, hj, rfl, rfl, hkk, hn5⟩ := hrel
        have HN5 := Lib.hid hn5
        by_cases hjl : j < k
        · obtain ⟨x, hx⟩ : ∃ x, xs[j]? = some x := ⟨xs[j]'(by rw [HL.out]; exact hjl), by simp⟩
          obtain ⟨g, off, rfl, hg1, hc1⟩ := (HC.out.keep (HN4.out.trans hn5)) j x hx
          by_cases hjp : j = p ∧ p < k
          · have t1 : ((j : Int) == zf) = true := by rw [← HZ.out, if_pos hjp.2, hjp.1]; simp
            have hk2 : kk = if p < k ∧ p < j + 1 then j + 1 - 1 else j + 1 := by rw [if_pos (by omega)]; rw [if_neg (by omega)] at hkk; omega
            have HK2 := Lib.hid hk2
            clear hkk hk2 hx hn5 hjp
            go_wp2_with fail
            go_roundw
            case rel => exact ⟨j + 1, kk, by omega, by go_num, rfl, HK2.out, HN5.out⟩
            case measure => simp [intOf]; omega
          · have t1 : ((j : Int) == zf) = false := by
              rw [beq_eq_false_iff_ne, ← HZ.out]
              split <;> omega
            have hkN : kk < N := by have := HYL.out; split at hkk <;> split at this <;> omega
            have hyx : ys[kk]? = some x := by
              rw [← HY.out, List.getElem?_eraseIdx, ← hx]
              by_cases h : p < k ∧ p < j
              · rw [if_pos h] at hkk; rw [if_neg (by omega)]; congr 1; omega
              · rw [if_neg h] at hkk
                rw [if_pos (by omega), hkk]
            obtain ⟨g2, rfl, hg2, hc2⟩ := HH.out.cell hyx
            have hc3 := (hn5.cell hg2 id _).trans hc2
            have hg3 := Nat.lt_of_lt_of_le hg2 hn5.size
            have hk2 : kk + 1 = if p < k ∧ p < j + 1 then j + 1 - 1 else j + 1 := by split at hkk <;> split <;> omega
            have HK2 := Lib.hid hk2
            have hd0 : decide (N ≤ kk) = false := by simp; omega
            have t2 : ((x : Int) != (x : Int)) = false := by simp
            have q1 : (0 : Int) ≤ (kk : Int) := by omega
            have q2 : (kk : Int) < (N : Int) := by omega
            have q3 : (0 : Int) ≤ (j : Int) := by omega
            have q4 : (j : Int) < (k : Int) := by omega
            clear hkk hk2 hx hyx hn5 hc2
            go_wp2_with fail
            go_quiet (fail)
            go_wp2
            go_roundw
            case rel => exact ⟨j + 1, kk + 1, by omega, by go_num, by go_num, HK2.out, HN5.out.drewN _⟩
            case measure => simp [intOf]; omega
        · obtain rfl : j = k := by omega
          have hkN : kk = N := by have := HYL.out; split at hkk <;> split at this <;> omega
          have t1 : ((kk : Int) == (N : Int)) = true := by rw [hkN]; simp
          clear hkk hn5 hkN
          go_wp2_with fail
          refine (awake_any _ (HG.out.keep (HN4.out.trans HN5.out) id)).mono ?_
          rintro e w6 ⟨rfl, hn6⟩
          have HN6 := Lib.hid ((HN4.out.trans HN5.out).trans hn6)
          clear hn6
          go_wp2
          go_ret
          exact ⟨rfl, HN6.out⟩

theorem drops_walk (xs : List Nat) (ao : Option Addr) (ca v : Nat) (w : World) (hg : Laid w) (hfit : ∀ x ∈ xs, x < 18446744073709551616) (hc : Nats w ao xs) (hv : v < 18446744073709551616) (hm : xs.length ≤ 9223372036854775807) :
    Calls Tryd.prog 6 #[.slice ao xs.length ca, .int .u64 v] w fun e w' => e = .returned (.bool true) ∧ New w w' := by
  by_cases h : 100 < xs.length
  · exact drops_far xs ao ca v w hg hm h
  · exact drops_near xs ao ca v w hg hfit hc hv (by omega)

end Go.Proofs.YtgjogiddpfnamaaDoor
