/- Of those that want to change a cell just the first does. -/
import Derived.Test.YtfppipbdmjnbcaaMemF
import Derived.Test.YtfppipbdmjnbcaaNums
namespace Go.Proofs.Ytfppipbdmjnbcaa
open Go.RowKit

theorem cas_first (W v x : Nat) (hW : W = 64) : laidBy 4 W v v x = x := by subst hW; simp [laidBy, cutN]
theorem cas_later (W c v x : Nat) (hW : W = 64) (h : c ≠ v) : laidBy 4 W c v x = c := by subst hW; simp [laidBy, cutN, h]

set_option maxRecDepth 100000 in
set_option maxHeartbeats 2000000 in
theorem wins_walk (was : Nat) (xs : List Nat) (ao : Option Addr) (cap : Nat) (w : World) (hwas : was < 18446744073709551616) (hfit : ∀ x ∈ xs, x < 18446744073709551616) (hc : Nats w ao xs) (hm : xs.length ≤ 9223372036854775807) :
    Calls Try.prog 3 #[.int .u64 was, .slice ao xs.length cap] w fun e w' => e = .returned (.bool true) ∧ New w w' := by
  obtain ⟨L, hL⟩ : ∃ L, xs.length = L := ⟨_, rfl⟩
  rw [hL] at hm ⊢
  have HC := Lib.hid hc
  have HFIT := Lib.hid hfit
  have HL := Lib.hid hL
  clear hc hfit
  rcases (show L = 0 ∨ 1 ≤ L by omega) with h0 | h0
  · subst h0
    go_enter Try.func3, Try.ntmps3
    go_wp2_with fail
    refine (full_any 2 _ (by omega) (by omega)).mono ?_
    rintro e w1 ⟨b, cb, wb, rfl, ⟨hb, hcb, hwb⟩, hr, hn⟩
    have HN := Lib.hid hn
    clear hr hn hL
    go_wp2_with fail
    refine (awake_any _).mono ?_
    rintro e w2 ⟨rfl, hn2⟩
    have HN2 := Lib.hid hn2
    clear hn2
    go_wp2
    go_ret
    exact ⟨rfl, HN.out.trans HN2.out⟩
  have t0 : ((L : Int) == 0) = false := by rw [beq_eq_false_iff_ne]; omega
  rcases (show 100 < L ∨ L ≤ 100 by omega) with h1 | h1
  · go_enter Try.func3, Try.ntmps3
    go_wp2_with fail
    refine (full_any 2 _ (by omega) (by omega)).mono ?_
    rintro e w1 ⟨b, cb, wb, rfl, ⟨hb, hcb, hwb⟩, hr, hn⟩
    have HN := Lib.hid hn
    clear hr hn hL
    go_wp2_with fail
    refine (awake_any _).mono ?_
    rintro e w2 ⟨rfl, hn2⟩
    have HN2 := Lib.hid hn2
    clear hn2
    go_wp2
    go_ret
    exact ⟨rfl, HN.out.trans HN2.out⟩
  obtain ⟨x0, hx0⟩ : ∃ x0, xs[0]? = some x0 := ⟨xs[0]'(by omega), by simp⟩
  obtain ⟨g, off, rfl, hg, hcell⟩ := HC.out 0 x0 hx0
  have hfx0 := HFIT.out x0 (List.mem_of_getElem? hx0)
  rw [Nat.add_zero] at hcell
  have HX0 := Lib.hid hx0
  rcases (show x0 = was ∨ x0 ≠ was by omega) with h2 | h2
  · have t1 : ((x0 : Int) == (was : Int)) = true := by rw [h2]; simp
    go_enter Try.func3, Try.ntmps3
    go_wp2_with fail
    refine (full_any 2 _ (by omega) (by omega)).mono ?_
    rintro e w1 ⟨b, cb, wb, rfl, ⟨hb, hcb, hwb⟩, hr, hn⟩
    have hcell1 := (hn.cell (lt_of_cell hcell) id _).trans hcell
    have HN := Lib.hid hn
    clear hr hn hL hx0 h2 hcell
    go_wp2_with fail
    refine (awake_any _).mono ?_
    rintro e w2 ⟨rfl, hn2⟩
    have HN2 := Lib.hid hn2
    clear hn2
    go_wp2
    go_ret
    exact ⟨rfl, HN.out.trans HN2.out⟩
  have t1 : ((x0 : Int) == (was : Int)) = false := by rw [beq_eq_false_iff_ne]; omega
  go_enter Try.func3, Try.ntmps3
  go_wp2_with fail
  refine (full_any 2 _ (by omega) (by omega)).mono ?_
  rintro e w1 ⟨b, cb, wb, rfl, ⟨hb, hcb, hwb⟩, hr, hn⟩
  have hcell1 := (hn.cell (lt_of_cell hcell) id _).trans hcell
  have HN := Lib.hid hn
  have HS := Lib.hid (store_any b cb wb _ _ _ _ 0 64 0 was w1 hr rfl (.inr rfl) rfl (by omega) hwas)
  have H2 := Lib.hid h2
  clear hr hn hL hx0 hcell h2
  go_wp2_with fail
  refine HS.out.mono ?_
  rintro e w2 ⟨rfl, hr2, hf2⟩
  have HR2 := Lib.hid hr2
  have HN2 := Lib.hid (own_then HN.out hf2 (fun i hi => by omega))
  clear hr2 hf2 HS HN hcell1
  go_wp2_with fail
  go_loopw [6] (fun i wr => ∃ k : Nat, k ≤ L ∧ i = .int .i64 k ∧ MemRep wr b cb wb [if k = 0 then was else x0, 0] [64, 64] 2 (1 + k) ∧ New w wr) (fun i _ => L - (intOf i).toNat)
  case atStart => exact ⟨0, by omega, rfl, by have := HR2.out; rw [show laidBy 1 64 0 0 was = was from rfl] at this; exact this, HN2.out⟩
  case round =>
    obtain ⟨k, hk, rfl, hr, hn⟩ := hrel
    have HR := Lib.hid hr
    have HN := Lib.hid hn
    by_cases hlt : k < L
    · obtain ⟨x, hx⟩ : ∃ x, xs[k]? = some x := ⟨xs[k]'(by rw [HL.out]; exact hlt), by simp⟩
      have hfx := HFIT.out x (List.mem_of_getElem? hx)
      obtain ⟨g1, off1, e1, hg1, hc1⟩ := (HC.out.keep hn) k x hx
      obtain ⟨rfl, rfl⟩ : g = g1 ∧ off = off1 := by cases e1; exact ⟨rfl, rfl⟩
      have hcs := cas_any b cb wb _ _ _ _ 0 64 (if k = 0 then was else x0) was x wr hr rfl (.inr rfl) rfl (by omega) hfx hwas
      rcases (show k = 0 ∨ k ≠ 0 by omega) with hk0 | hk0
      · have t2 : (((if k = 0 then was else x0 : Nat) : Int) == (was : Int)) = true := by rw [if_pos hk0]; simp
        have t3 : ((k : Int) == 0) = true := by rw [hk0]; rfl
        have hxx : x = x0 := by rw [hk0, HX0.out] at hx; exact (Option.some.inj hx).symm
        have HXX := Lib.hid hxx
        have e4 : laidBy 4 64 (if k = 0 then was else x0) was x = x0 := by rw [if_pos hk0, cas_first _ _ _ rfl, hxx]
        rw [e4] at hcs
        have HCS := Lib.hid hcs
        generalize (if k = 0 then was else x0) = y at t2 HR HCS
        clear hxx
        have HK0 := Lib.hid hk0
        clear hr hn hcs hx e1 HR hk0 e4
        go_wp2_with fail
        refine HCS.out.mono ?_
        rintro e w3 ⟨rfl, hr3, hf3⟩
        have HR3 := Lib.hid hr3
        have HN3 := Lib.hid (own_then HN.out hf3 (fun i hi => by omega))
        clear hr3 hf3
        go_wp2
        go_roundw
        case rel => exact ⟨k + 1, by omega, by go_num, by rw [if_neg (by omega)]; exact HR3.out, HN3.out⟩
        case measure => simp [intOf]; omega
      · have t2 : (((if k = 0 then was else x0 : Nat) : Int) == (was : Int)) = false := by rw [if_neg hk0]; exact t1
        have t3 : ((k : Int) == 0) = false := by rw [beq_eq_false_iff_ne]; omega
        have e4 : laidBy 4 64 (if k = 0 then was else x0) was x = x0 := by rw [if_neg hk0, cas_later _ _ _ _ rfl H2.out]
        rw [e4] at hcs
        have HCS := Lib.hid hcs
        generalize (if k = 0 then was else x0) = y at t2 HR HCS
        have HK0 := Lib.hid hk0
        clear hr hn hcs hx e1 HR hk0 e4
        go_wp2_with fail
        refine HCS.out.mono ?_
        rintro e w3 ⟨rfl, hr3, hf3⟩
        have HR3 := Lib.hid hr3
        have HN3 := Lib.hid (own_then HN.out hf3 (fun i hi => by omega))
        clear hr3 hf3
        go_wp2
        go_roundw
        case rel => exact ⟨k + 1, by omega, by go_num, by rw [if_neg (by omega)]; exact HR3.out, HN3.out⟩
        case measure => simp [intOf]; omega
    · have hkL : k = L := by omega
      rw [if_neg (by omega)] at hr
      obtain ⟨g1, off1, e1, hg1, hc1⟩ := (HC.out.keep hn) 0 x0 HX0.out
      obtain ⟨rfl, rfl⟩ : g = g1 ∧ off = off1 := by cases e1; exact ⟨rfl, rfl⟩
      rw [Nat.add_zero] at hc1
      have HS := Lib.hid (load_any b cb wb _ _ _ _ 0 64 x0 wr hr rfl (.inr rfl) rfl (by omega))
      have t4 : ((x0 : Int) == (x0 : Int)) = true := by simp
      clear hr hn HR e1
      go_wp2_with fail
      refine HS.out.mono ?_
      rintro e w3 ⟨rfl, hr3, hf3⟩
      have hN3 := own_then HN.out hf3 (fun i hi => by omega)
      have HN3 := Lib.hid hN3
      obtain ⟨g1, off1, e1, hg2, hc2⟩ := (HC.out.keep hN3) 0 x0 HX0.out
      obtain ⟨rfl, rfl⟩ : g = g1 ∧ off = off1 := by cases e1; exact ⟨rfl, rfl⟩
      rw [Nat.add_zero] at hc2
      clear hr3 hf3 e1 hN3 hc1 hg1 HS
      go_wp2_with fail
      refine (awake_any _).mono ?_
      rintro e w4 ⟨rfl, hn4⟩
      have HN4 := Lib.hid hn4
      clear hn4
      go_wp2
      go_ret
      exact ⟨rfl, HN3.out.trans HN4.out⟩

end Go.Proofs.Ytfppipbdmjnbcaa
