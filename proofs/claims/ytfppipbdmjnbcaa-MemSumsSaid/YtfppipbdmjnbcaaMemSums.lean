/- What is added is there at the end. -/
import Derived.Test.YtfppipbdmjnbcaaMemF
import Derived.Test.YtfppipbdmjnbcaaNums
namespace Go.Proofs.Ytfppipbdmjnbcaa
open Go.RowKit

/-- The sum of the first k numbers, in a cell of W digits. -/
def sumTo (W : Nat) (xs : List Nat) : Nat → Nat
  | 0 => 0
  | k + 1 => sumN W (sumTo W xs k) (xs.getD k 0)
theorem sumTo_lt (W : Nat) (hW : W = 32 ∨ W = 64) (xs : List Nat) : ∀ k, sumTo W xs k < 18446744073709551616 ∧ (W = 32 → sumTo W xs k < 4294967296)
  | 0 => ⟨by simp [sumTo], fun _ => by simp [sumTo]⟩
  | k + 1 => ⟨sumN_le _ _ _, fun h => by simp only [sumTo, sumN, cutN]; rw [if_pos h, if_pos h, if_pos h]; omega⟩
theorem sumTo_wide (xs : List Nat) (k x : Nat) (hx : xs[k]? = some x) : ((sumTo 64 xs (k + 1) : Nat) : Int) = (((sumTo 64 xs k + x) % 18446744073709551616 : Nat) : Int) := by
  simp [sumTo, sumN, cutN, List.getD_eq_getElem?_getD, hx]
theorem sumTo_narrow (xs : List Nat) (k x : Nat) (hx : xs[k]? = some x) : ((sumTo 32 xs (k + 1) : Nat) : Int) = (((sumTo 32 xs k + x) % 18446744073709551616 % 4294967296 : Nat) : Int) := by
  simp [sumTo, sumN, cutN, List.getD_eq_getElem?_getD, hx]

set_option maxRecDepth 100000 in
set_option maxHeartbeats 1000000 in
theorem sums_far (nar : Bool) (xs : List Nat) (ao : Option Addr) (cap : Nat) (w : World) (hfit : ∀ x ∈ xs, x < 18446744073709551616) (hc : Nats w ao xs) (hm : xs.length ≤ 9223372036854775807) (h1 : 200 < xs.length) :
    Calls Try.prog 4 #[.slice ao xs.length cap, .bool nar] w fun e w' => e = .returned (.bool true) ∧ New w w' := by
  obtain ⟨L, hL⟩ : ∃ L, xs.length = L := ⟨_, rfl⟩
  rw [hL] at hm h1 ⊢
  have HC := Lib.hid hc
  have HFIT := Lib.hid hfit
  have HL := Lib.hid hL
  clear hc hfit
  · go_enter Try.func4, Try.ntmps4
    go_wp2_with fail
    refine (new_any 4 _ (by omega) (by omega)).mono ?_
    rintro e w1 ⟨b, cb, wb, rfl, hb, hcb, hwb, hr, hn⟩
    have HN := Lib.hid hn
    clear hr hn hL
    go_wp2_with fail
    refine (awake_any _).mono ?_
    rintro e w2 ⟨rfl, hn2⟩
    have HN2 := Lib.hid hn2
    clear hn2
    go_wp2
    go_ret
    exact ⟨rfl, HN.out.trans HN2.out⟩

set_option maxRecDepth 100000 in
set_option maxHeartbeats 2000000 in
theorem sums_wide (xs : List Nat) (ao : Option Addr) (cap : Nat) (w : World) (hfit : ∀ x ∈ xs, x < 18446744073709551616) (hc : Nats w ao xs) (hm : xs.length ≤ 9223372036854775807) (h1 : xs.length ≤ 200) :
    Calls Try.prog 4 #[.slice ao xs.length cap, .bool false] w fun e w' => e = .returned (.bool true) ∧ New w w' := by
  obtain ⟨L, hL⟩ : ∃ L, xs.length = L := ⟨_, rfl⟩
  rw [hL] at hm h1 ⊢
  have HC := Lib.hid hc
  have HFIT := Lib.hid hfit
  have HL := Lib.hid hL
  have HB := Lib.hid (sumTo_lt 64 (by omega) xs)
  clear hc hfit
  go_enter Try.func4, Try.ntmps4
  go_wp2_with fail
  refine (new_any 4 _ (by omega) (by omega)).mono ?_
  rintro e w1 ⟨b, cb, wb, rfl, hb, hcb, hwb, hr, hn⟩
  have HM := Lib.hid (map_ok b cb wb _ _ 0 0 1 1 64 w1 hr (by omega) (by simp) (fun i x _ _ hx => (List.mem_replicate.1 (List.mem_of_getElem? hx)).2) (by omega) (by omega))
  have HN := Lib.hid hn
  clear hr hn hL
  go_wp2_with fail
  refine HM.out.mono ?_
  rintro e w2 ⟨rfl, hr2, hf2⟩
  have HR2 := Lib.hid (show MemRep w2 b cb wb [0, 0, 0, 0] [0, 64, 0, 0] 1 0 from hr2)
  have HN2 := Lib.hid (own_then HN.out hf2 (fun i hi => by omega))
  clear hr2 hf2 HM HN
  go_wp2_with fail
  go_loopw [9, 10] (fun s i wr => ∃ k : Nat, k ≤ L ∧ i = .int .i64 k ∧ s = .int .u64 (sumTo 64 xs k : Nat) ∧ MemRep wr b cb wb [0, sumTo 64 xs k, 0, 0] [0, 64, 0, 0] 1 k ∧ New w wr) (fun _ i _ => L - (intOf i).toNat)
  case atStart => exact ⟨0, by omega, rfl, rfl, HR2.out, HN2.out⟩
  case round =>
    obtain ⟨k, hk, rfl, rfl, hr, hn⟩ := hrel
    have HR := Lib.hid hr
    have HN := Lib.hid hn
    have hs1 := (HB.out k).1
    have hs2 := (HB.out k).2
    by_cases hlt : k < L
    · obtain ⟨x, hx⟩ : ∃ x, xs[k]? = some x := ⟨xs[k]'(by rw [HL.out]; exact hlt), by simp⟩
      have hfx := HFIT.out x (List.mem_of_getElem? hx)
      obtain ⟨g, off, rfl, hg1, hc1⟩ := (HC.out.keep hn) k x hx
      have hadd := add_any b cb wb _ _ _ _ 1 64 (sumTo 64 xs k) x wr hr rfl (by omega) rfl (by omega) hfx
      have e4 : laidBy 3 64 (sumTo 64 xs k) 0 x = sumTo 64 xs (k + 1) := by simp [laidBy, sumTo, List.getD_eq_getElem?_getD, hx]
      rw [e4] at hadd
      have HADD := Lib.hid hadd
      have HSUM := Lib.hid (sumTo_wide xs k x hx)
      have HCC := Lib.hid ((HC.out.keep hn) k x hx)
      generalize hS : sumTo 64 xs k = s at hs1 hs2 HADD HSUM
      have hne : ((s : Int) != (s : Int)) = false := by simp
      have HS := Lib.hid hS
      clear hr hn hadd e4 HR hS hs2
      go_wp2_with fail
      refine HADD.out.mono ?_
      rintro e w3 ⟨rfl, hr3, hf3⟩
      have hnn := own_then HN.out hf3 (fun i hi => by omega)
      have HR3 := Lib.hid hr3
      have HN3 := Lib.hid hnn
      obtain ⟨g1, off1, e1, hg2, hc2⟩ := (HC.out.keep hnn) k x hx
      obtain ⟨rfl, rfl⟩ : g = g1 ∧ off = off1 := by cases e1; exact ⟨rfl, rfl⟩
      clear hr3 hf3 hnn e1 hc1 hx
      go_wp2
      go_roundw
      case rel => exact ⟨k + 1, by omega, by go_num, by rw [HSUM.out]; first | rfl | (congr 1; simp [IntKind.wrap, IntKind.signed, IntKind.bits]), HR3.out, HN3.out⟩
      case measure => simp [intOf]; omega
    · have hkL : k = L := by omega
      have hld := load_any b cb wb _ _ _ _ 1 64 (sumTo 64 xs k) wr hr rfl (by omega) rfl (by omega)
      have HLD := Lib.hid hld
      generalize hS : sumTo 64 xs k = s at hs1 hs2 HLD
      have t4 : ((s : Int) == (s : Int)) = true := by simp
      have hL1 : ((k : Int) + 1 == (L : Int) + 1) = true := by rw [hkL]; simp
      have HKL := Lib.hid hkL
      clear hr hn HR hld hS hs2 hkL
      go_wp2_with fail
      refine HLD.out.mono ?_
      rintro e w3 ⟨rfl, hr3, hf3⟩
      have HR3 := Lib.hid hr3
      have HN3 := Lib.hid (own_then HN.out hf3 (fun i hi => by omega))
      clear hr3 hf3 HLD
      go_wp2_with fail
      refine (count_any b cb wb _ _ _ _ _ HR3.out).mono ?_
      rintro e w5 ⟨rfl, rfl⟩
      go_wp2_with fail
      refine (awake_any _).mono ?_
      rintro e w4 ⟨rfl, hn4⟩
      have HN4 := Lib.hid hn4
      clear hn4
      go_wp2
      go_ret
      exact ⟨rfl, HN3.out.trans HN4.out⟩

set_option maxRecDepth 100000 in
set_option maxHeartbeats 2000000 in
theorem sums_narrow (xs : List Nat) (ao : Option Addr) (cap : Nat) (w : World) (hfit : ∀ x ∈ xs, x < 18446744073709551616) (hc : Nats w ao xs) (hm : xs.length ≤ 9223372036854775807) (h1 : xs.length ≤ 200) :
    Calls Try.prog 4 #[.slice ao xs.length cap, .bool true] w fun e w' => e = .returned (.bool true) ∧ New w w' := by
  obtain ⟨L, hL⟩ : ∃ L, xs.length = L := ⟨_, rfl⟩
  rw [hL] at hm h1 ⊢
  have HC := Lib.hid hc
  have HFIT := Lib.hid hfit
  have HL := Lib.hid hL
  have HB := Lib.hid (sumTo_lt 32 (by omega) xs)
  clear hc hfit
  go_enter Try.func4, Try.ntmps4
  go_wp2_with fail
  refine (new_any 4 _ (by omega) (by omega)).mono ?_
  rintro e w1 ⟨b, cb, wb, rfl, hb, hcb, hwb, hr, hn⟩
  have HM := Lib.hid (map_ok b cb wb _ _ 0 0 1 1 32 w1 hr (by omega) (by simp) (fun i x _ _ hx => (List.mem_replicate.1 (List.mem_of_getElem? hx)).2) (by omega) (by omega))
  have HN := Lib.hid hn
  clear hr hn hL
  go_wp2_with fail
  refine HM.out.mono ?_
  rintro e w2 ⟨rfl, hr2, hf2⟩
  have HR2 := Lib.hid (show MemRep w2 b cb wb [0, 0, 0, 0] [0, 32, 0, 0] 1 0 from hr2)
  have HN2 := Lib.hid (own_then HN.out hf2 (fun i hi => by omega))
  clear hr2 hf2 HM HN
  go_wp2_with fail
  go_loopw [9, 10] (fun s i wr => ∃ k : Nat, k ≤ L ∧ i = .int .i64 k ∧ s = .int .u64 (sumTo 32 xs k : Nat) ∧ MemRep wr b cb wb [0, sumTo 32 xs k, 0, 0] [0, 32, 0, 0] 1 k ∧ New w wr) (fun _ i _ => L - (intOf i).toNat)
  case atStart => exact ⟨0, by omega, rfl, rfl, HR2.out, HN2.out⟩
  case round =>
    obtain ⟨k, hk, rfl, rfl, hr, hn⟩ := hrel
    have HR := Lib.hid hr
    have HN := Lib.hid hn
    have hs1 := (HB.out k).1
    have hs2 := (HB.out k).2
    by_cases hlt : k < L
    · obtain ⟨x, hx⟩ : ∃ x, xs[k]? = some x := ⟨xs[k]'(by rw [HL.out]; exact hlt), by simp⟩
      have hfx := HFIT.out x (List.mem_of_getElem? hx)
      obtain ⟨g, off, rfl, hg1, hc1⟩ := (HC.out.keep hn) k x hx
      have hadd := add_any b cb wb _ _ _ _ 1 32 (sumTo 32 xs k) x wr hr rfl (by omega) rfl (by omega) hfx
      have e4 : laidBy 3 32 (sumTo 32 xs k) 0 x = sumTo 32 xs (k + 1) := by simp [laidBy, sumTo, List.getD_eq_getElem?_getD, hx]
      rw [e4] at hadd
      have HADD := Lib.hid hadd
      have HSUM := Lib.hid (sumTo_narrow xs k x hx)
      have HCC := Lib.hid ((HC.out.keep hn) k x hx)
      generalize hS : sumTo 32 xs k = s at hs1 hs2 HADD HSUM
      have hne : ((s : Int) != (s : Int)) = false := by simp
      have HS := Lib.hid hS
      clear hr hn hadd e4 HR hS hs2
      go_wp2_with fail
      refine HADD.out.mono ?_
      rintro e w3 ⟨rfl, hr3, hf3⟩
      have hnn := own_then HN.out hf3 (fun i hi => by omega)
      have HR3 := Lib.hid hr3
      have HN3 := Lib.hid hnn
      obtain ⟨g1, off1, e1, hg2, hc2⟩ := (HC.out.keep hnn) k x hx
      obtain ⟨rfl, rfl⟩ : g = g1 ∧ off = off1 := by cases e1; exact ⟨rfl, rfl⟩
      clear hr3 hf3 hnn e1 hc1 hx
      go_wp2
      go_roundw
      case rel => exact ⟨k + 1, by omega, by go_num, by rw [HSUM.out]; first | rfl | (congr 1; simp [IntKind.wrap, IntKind.signed, IntKind.bits]), HR3.out, HN3.out⟩
      case measure => simp [intOf]; omega
    · have hkL : k = L := by omega
      have hld := load_any b cb wb _ _ _ _ 1 32 (sumTo 32 xs k) wr hr rfl (by omega) rfl (by omega)
      have HLD := Lib.hid hld
      generalize hS : sumTo 32 xs k = s at hs1 hs2 HLD
      have t4 : ((s : Int) == (s : Int)) = true := by simp
      have hL1 : ((k : Int) + 1 == (L : Int) + 1) = true := by rw [hkL]; simp
      have HKL := Lib.hid hkL
      clear hr hn HR hld hS hs2 hkL
      go_wp2_with fail
      refine HLD.out.mono ?_
      rintro e w3 ⟨rfl, hr3, hf3⟩
      have HR3 := Lib.hid hr3
      have HN3 := Lib.hid (own_then HN.out hf3 (fun i hi => by omega))
      clear hr3 hf3 HLD
      go_wp2_with fail
      refine (count_any b cb wb _ _ _ _ _ HR3.out).mono ?_
      rintro e w5 ⟨rfl, rfl⟩
      go_wp2_with fail
      refine (awake_any _).mono ?_
      rintro e w4 ⟨rfl, hn4⟩
      have HN4 := Lib.hid hn4
      clear hn4
      go_wp2
      go_ret
      exact ⟨rfl, HN3.out.trans HN4.out⟩

theorem sums_walk (nar : Bool) (xs : List Nat) (ao : Option Addr) (cap : Nat) (w : World) (hfit : ∀ x ∈ xs, x < 18446744073709551616) (hc : Nats w ao xs) (hm : xs.length ≤ 9223372036854775807) :
    Calls Try.prog 4 #[.slice ao xs.length cap, .bool nar] w fun e w' => e = .returned (.bool true) ∧ New w w' := by
  by_cases h : 200 < xs.length
  · exact sums_far nar xs ao cap w hfit hc hm h
  · cases nar
    · exact sums_wide xs ao cap w hfit hc hm (by omega)
    · exact sums_narrow xs ao cap w hfit hc hm (by omega)

end Go.Proofs.Ytfppipbdmjnbcaa
