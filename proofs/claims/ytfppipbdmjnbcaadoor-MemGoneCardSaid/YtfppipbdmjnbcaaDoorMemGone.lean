/- What was unmapped and mapped again holds 0: the statement's walk. -/
import Derived.Test.YtfppipbdmjnbcaaDoorMemL
import Derived.Test.YtfppipbdmjnbcaaDoorMemF
import Derived.Test.YtfppipbdmjnbcaaDoorWithin
namespace Go.Proofs.YtfppipbdmjnbcaaDoor
open Go.RowKit

theorem load_keep (b cb wb : Nat) (cs ws : List Nat) (th ct p W c : Nat) (w : World) (h : MemRep w b cb wb cs ws th ct) (hw : ws[p]? = some W) (hW : W = 32 ∨ W = 64) (hc : cs[p]? = some c) (hct : ct + 1 < 1000000000) :
    Calls Tryd.prog 19 #[.pointer (some ⟨b, 0, none⟩), .int .u64 p] w fun e w' => e = .returned (.tuple #[.int .u64 c, .nilIface]) ∧
      MemRep w' b cb wb cs ws th (ct + 1) ∧ Fr (fun k => k = b ∨ k = cb) w w' :=
  (load_any b cb wb cs ws th ct p W c w h hw hW hc hct).mono fun e w' ⟨h1, h2, h3⟩ => ⟨h1, by rw [show laidBy 0 W c 0 0 = c from rfl, set_self hc] at h2; exact h2, h3⟩
theorem get_rep {n x p : Nat} (h : p < n) : (List.replicate n x)[p]? = some x := by simp [h]
theorem fill_at (n x a m y i : Nat) (h : i < n) : (fill (List.replicate n x) a m y)[i]? = some (if a ≤ i ∧ i < a + m then y else x) := by
  rw [fill_get _ _ _ _ _ (by simpa using h), List.getD_eq_getElem?_getD, get_rep h]; rfl
theorem fill_twice (xs : List Nat) (a m x y : Nat) : fill (fill xs a m x) a m y = fill xs a m y := by
  apply List.ext_getElem?
  intro i
  by_cases h : i < xs.length
  · rw [fill_get _ _ _ _ _ (by rw [fill_len]; exact h), fill_get _ _ _ _ _ h, List.getD_eq_getElem?_getD, fill_get _ _ _ _ _ h]
    by_cases h2 : a ≤ i ∧ i < a + m
    · rw [if_pos h2, if_pos h2]
    · rw [if_neg h2, if_neg h2, if_neg h2]; rfl
  · rw [List.getElem?_eq_none (by rw [fill_len, fill_len]; omega), List.getElem?_eq_none (by rw [fill_len]; omega)]

set_option maxRecDepth 100000 in
set_option maxHeartbeats 8000000 in
theorem gone_walk (a n : Int) (v : Nat) (w : World) (hg : Laid w) (ha : -9223372036854775808 ≤ a ∧ a ≤ 9223372036854775807) (hn : -9223372036854775808 ≤ n ∧ n ≤ 9223372036854775807) (hv : v < 18446744073709551616) :
    Calls Tryd.prog 4 #[.int .i64 a, .int .i64 n, .int .u64 v] w fun e w' => e = .returned (.bool true) ∧ New w w' := by
  obtain ⟨p, hp1, hp2⟩ := within_nat a 32 (by omega)
  have hwp := fun w => within_any a 32 w (by omega) (by omega) ha.1 ha.2
  rw [hp1] at hwp
  obtain ⟨q, hq1, hq2⟩ := within_nat n (32 - p) (by omega)
  have hwq := fun w => within_any n (32 - p) w (by omega) (by omega) hn.1 hn.2
  rw [hq1] at hwq
  have hge := lt_of_cell hg
  have HP := Lib.hid hwp
  have HQ := Lib.hid hwq
  have HG := Lib.hid hg
  clear hwp hwq hp1 hq1 hg
  go_enter Tryd.func4, Tryd.ntmps4
  go_wp2_with fail
  refine (full_any 32 _ (by omega) (by omega)).mono ?_
  rintro e w1 ⟨b, cb, wb, rfl, ⟨hb1, hb2, hb3⟩, hr, hn1⟩
  have HR := Lib.hid hr
  have HN := Lib.hid hn1
  clear hr hn1
  go_wp2_with (first
    | (go_at_call 16; ((with_reducible refine (HP.out _).mono ?_); rintro e w' ⟨rfl, rfl⟩))
    | (go_at_call 16; ((with_reducible refine (HQ.out _).mono ?_); rintro e w' ⟨rfl, rfl⟩)))
  go_loopw [8] (fun i wr => ∃ k : Nat, k ≤ 32 ∧ i = .int .u64 k ∧ MemRep wr b cb wb (fill (List.replicate 32 0) 0 k v) (List.replicate 32 64) 32 k ∧ New w wr) (fun i _ => 32 - (intOf i).toNat)
  case atStart => exact ⟨0, by omega, rfl, by rw [fill_zero]; exact HR.out, HN.out⟩
  case round =>
    obtain ⟨k, hk, rfl, hr, hn⟩ := hrel
    have HNR := Lib.hid hn
    by_cases hlt : k < 32
    · have hst := store_any b cb wb _ _ 32 k k 64 _ v wr hr (get_rep hlt) (.inr rfl) (fill_at 32 0 0 k v k hlt) (by omega) hv
      have e1 : ∀ c, laidBy 1 64 c 0 v = v := fun c => rfl
      have e2 := fill_succ (List.replicate 32 0) 0 k v
      rw [Nat.zero_add] at e2
      rw [e1, e2] at hst
      have HST := Lib.hid hst
      clear hst hr hn e1 e2 HR HN
      go_wp2_with fail
      refine HST.out.mono ?_
      rintro e w2 ⟨rfl, hr2, hf2⟩
      have HR2 := Lib.hid hr2
      have HN2 := Lib.hid (own_then HNR.out hf2 (fun i hi => by omega))
      clear hr2 hf2 HST HNR
      go_wp2
      go_roundw
      case rel => exact ⟨k + 1, by omega, by go_num, HR2.out, HN2.out⟩
      case measure => simp [intOf]; omega
    · obtain rfl : k = 32 := by omega
      rw [fill_all] at hr
      rw [show ((32 : Nat) : Int) = 32 from rfl]
      have hum := unmap_ok b cb wb _ _ 32 32 p (q + 1) wr hr (by omega) (by simp; omega) (fun i x _ _ hx => by rw [(List.mem_replicate.1 (List.mem_of_getElem? hx)).2]; rfl) (by omega)
      rw [show (((q + 1 : Nat) : Int)) = 1 + (q : Int) by omega] at hum
      have HUM := Lib.hid hum
      have hsub : (32 : Int) - (1 + (q : Int)) = ((32 - (q + 1) : Nat) : Int) := by omega
      have HSUB := Lib.hid hsub
      clear hum hr hn HR HN hlt hsub
      go_wp2_with fail
      refine HUM.out.mono ?_
      rintro e w2 ⟨rfl, hr2, hf2⟩
      have hth := there_any b cb wb _ _ _ _ w2 hr2
      rw [← HSUB.out] at hth
      have hwd := width_any b cb wb _ _ _ _ p w2 hr2
      have hw0 : (fill (List.replicate 32 64) p (q + 1) 0).getD p 0 = 0 := by rw [List.getD_eq_getElem?_getD, fill_at _ _ _ _ _ _ (by omega), if_pos (by omega)]; rfl
      rw [hw0] at hwd
      have hld := load_all b cb wb _ _ _ _ p w2 hr2 (by omega) (by omega)
      rw [show accErr (fill (List.replicate 32 64) p (q + 1) 0) p = some ((p : Int), 2) by unfold accErr gonePlace; rw [if_pos hw0, if_pos (by omega)],
        show accVal (fill (List.replicate 32 v) p (q + 1) 0) (fill (List.replicate 32 64) p (q + 1) 0) p = 0 by unfold accVal; rw [if_pos hw0],
        show accCs 0 (fill (List.replicate 32 v) p (q + 1) 0) (fill (List.replicate 32 64) p (q + 1) 0) p 0 0 = fill (List.replicate 32 v) p (q + 1) 0 by unfold accCs; rw [if_pos hw0],
        show accN (fill (List.replicate 32 64) p (q + 1) 0) p 32 = 32 by unfold accN; rw [if_pos hw0]] at hld
      have HTH := Lib.hid hth
      have HWD := Lib.hid hwd
      have HLD := Lib.hid hld
      have HN2 := Lib.hid (own_then HNR.out hf2 (fun i hi => by omega))
      have tt : (((32 : Int) - (1 + (q : Int))) != (32 - (1 + (q : Int)))) = false := by simp
      clear hth hwd hld hr2 hf2 hw0 HUM HNR
      go_wp2_with fail
      refine HTH.out.mono ?_
      rintro e w' ⟨rfl, rfl⟩
      go_wp2_with fail
      refine HWD.out.mono ?_
      rintro e w' ⟨rfl, rfl⟩
      go_wp2_with fail
      refine HLD.out.mono ?_
      rintro e w3 ⟨x, rfl, hx, hr3, hf3⟩
      have HX := Lib.hid hx
      have HR3 := Lib.hid hr3
      have HN3 := Lib.hid (own_then HN2.out hf3 (fun i hi => by omega))
      clear hx hr3 hf3 HLD HTH HWD HN2 tt
      go_wp2_with fail
      refine (no_ref _ _ _).mono ?_
      rintro e w4 ⟨f, rfl, hf, hn4⟩
      have HSM := Lib.hid (same_says x f memL _ w4 ((HG.out.keep HN3.out id).keep hn4 id) (HX.out.new hn4) hf)
      have HR4 := Lib.hid (HR3.out.keep hn4 id id id)
      have HN4 := Lib.hid (HN3.out.trans hn4)
      clear hf hn4 HX HR3 HN3
      go_wp2_with fail
      refine HSM.out.mono ?_
      rintro e w5 ⟨rfl, hn5⟩
      have hr5 := HR4.out.keep hn5 id id id
      have hmp := map_ok b cb wb _ _ _ _ p (q + 1) 32 w5 hr5 (by omega) (by rw [fill_len]; simp; omega) (fun i x h1 h2 hx => by rw [fill_at _ _ _ _ _ _ (by omega), if_pos ⟨h1, h2⟩] at hx; exact (Option.some.inj hx).symm) (.inl rfl) (by omega)
      rw [fill_twice, fill_twice, show (((q + 1 : Nat) : Int)) = 1 + (q : Int) by omega] at hmp
      have HMP := Lib.hid hmp
      have HN5 := Lib.hid (HN4.out.trans hn5)
      clear hn5 hr5 hmp HSM HR4 HN4
      go_wp2_with fail
      refine HMP.out.mono ?_
      rintro e w6 ⟨rfl, hr6, hf6⟩
      have HR6 := Lib.hid hr6
      have HN6 := Lib.hid (own_then HN5.out hf6 (fun i hi => by omega))
      clear hr6 hf6 HMP HN5
      go_wp2_with fail
      go_loopw [11] (fun i wq => ∃ k : Nat, k ≤ 32 ∧ i = .int .i64 k ∧ MemRep wq b cb wb (fill (List.replicate 32 v) p (q + 1) 0) (fill (List.replicate 32 64) p (q + 1) 32) (32 - (q + 1) + (q + 1)) (32 + k) ∧ New w wq) (fun i _ => 32 - (intOf i).toNat)
      case atStart => exact ⟨0, by omega, rfl, HR6.out, HN6.out⟩
      case round =>
        clear HR6 HN6 HSUB
        obtain ⟨k, hk, rfl, hr, hn⟩ := hrel
        have HNR := Lib.hid hn
        by_cases hlt : k < 32
        · have h1 := fill_at 32 v p (q + 1) 0 k hlt
          have h2 := fill_at 32 64 p (q + 1) 32 k hlt
          rcases (show k < p ∨ (p ≤ k ∧ k < p + (1 + q)) ∨ (p ≤ k ∧ p + (1 + q) ≤ k) by omega) with h3 | ⟨h3, h4⟩ | ⟨h3, h4⟩
          · rw [if_neg (by omega)] at h1 h2
            have hld := load_keep b cb wb _ _ _ _ k 64 v wr hr h2 (.inr rfl) h1 (by omega)
            have t1 : ((v : Int) != (v : Int)) = false := by simp
            have HLD := Lib.hid hld
            clear hld hr hn h1 h2
            go_wp2_with fail
            refine HLD.out.mono ?_
            rintro e w7 ⟨rfl, hr7, hf7⟩
            have HR7 := Lib.hid hr7
            have HN7 := Lib.hid (own_then HNR.out hf7 (fun i hi => by omega))
            clear hr7 hf7
            go_wp2
            go_roundw
            case rel => exact ⟨k + 1, by omega, by go_num, HR7.out, HN7.out⟩
            case measure => simp [intOf]; omega
          · rw [if_pos (by omega)] at h1 h2
            have hld := load_keep b cb wb _ _ _ _ k 32 0 wr hr h2 (.inl rfl) h1 (by omega)
            have HLD := Lib.hid hld
            clear hld hr hn h1 h2
            go_wp2_with fail
            refine HLD.out.mono ?_
            rintro e w7 ⟨rfl, hr7, hf7⟩
            have HR7 := Lib.hid hr7
            have HN7 := Lib.hid (own_then HNR.out hf7 (fun i hi => by omega))
            clear hr7 hf7
            go_wp2
            go_roundw
            case rel => exact ⟨k + 1, by omega, by go_num, HR7.out, HN7.out⟩
            case measure => simp [intOf]; omega
          · rw [if_neg (by omega)] at h1 h2
            have hld := load_keep b cb wb _ _ _ _ k 64 v wr hr h2 (.inr rfl) h1 (by omega)
            have t1 : ((v : Int) != (v : Int)) = false := by simp
            have HLD := Lib.hid hld
            clear hld hr hn h1 h2
            go_wp2_with fail
            refine HLD.out.mono ?_
            rintro e w7 ⟨rfl, hr7, hf7⟩
            have HR7 := Lib.hid hr7
            have HN7 := Lib.hid (own_then HNR.out hf7 (fun i hi => by omega))
            clear hr7 hf7
            go_wp2
            go_roundw
            case rel => exact ⟨k + 1, by omega, by go_num, HR7.out, HN7.out⟩
            case measure => simp [intOf]; omega
        · clear hr hn
          go_wp2_with fail
          refine (awake_any _).mono ?_
          rintro e w8 ⟨rfl, hn8⟩
          have HN8 := Lib.hid (HNR.out.trans hn8)
          clear hn8
          go_wp2
          go_ret
          exact ⟨rfl, HN8.out⟩

end Go.Proofs.YtfppipbdmjnbcaaDoor
