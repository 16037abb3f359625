/- A number in digits to sixteen reads as in digits to ten: the statement's walk. -/
import Derived.Test.YtnnilcadmakamaaDoorWordD
import Derived.Test.YtnnilcadmakamaaDoorWithin
namespace Go.Proofs.YtnnilcadmakamaaDoor
open Go.RowKit

def fold16 (l : List Nat) (v : Nat) : Nat := l.foldl (fun a c => a * 16 + dig c) v
theorem pgo16_ok : ∀ (l : List Nat) (i V : Nat), (∀ c ∈ l, dig c < 16) → 2 ≤ i → i + l.length ≤ 18 → V < 16 ^ (i - 2) → pgo 16 16 2 l i V = (fold16 l V, none)
  | [], _, _, _, _, _, _ => rfl
  | c :: r, i, V, hd, h2, hl, hV => by
    have h1 := hd c (by simp)
    simp at hl
    have h3 := hex_fits i V (dig c) hV (by omega) h1
    have h4 := hex_next i V (dig c) hV h2 h1
    unfold pgo
    rw [if_neg (by omega)]
    exact pgo16_ok r (i + 1) _ (fun c hc => hd c (by simp [hc])) (by omega) (by omega) h4
theorem pgo16_long : ∀ (l : List Nat) (i V : Nat), (∀ c ∈ l, dig c < 16) → 2 ≤ i → i ≤ 18 → 18 < i + l.length → V < 16 ^ (i - 2) → pgo 16 16 2 l i V = (0, some (18, 6))
  | [], i, _, _, _, h1, h2, _ => by simp at h2; omega
  | c :: r, i, V, hd, h2, h6, hl, hV => by
    have h1 := hd c (by simp)
    simp at hl
    unfold pgo
    by_cases h : i = 18
    · subst h
      rw [if_pos (by omega)]; rfl
    · have h3 := hex_fits i V (dig c) hV (by omega) h1
      have h4 := hex_next i V (dig c) hV h2 h1
      rw [if_neg (by omega)]
      exact pgo16_long r (i + 1) _ (fun c hc => hd c (by simp [hc])) (by omega) (by omega) (by omega) h4
theorem isHex_pre (l : List Nat) : isHex (48 :: 120 :: l) = true := by
  apply decide_eq_true
  exact ⟨by simp, rfl, rfl⟩
theorem parse16_ok {l : List Nat} (h : ∀ c ∈ l, dig c < 16) (h0 : 1 ≤ l.length) (hl : l.length ≤ 16) : parseL (48 :: 120 :: l) = (fold16 l 0, none) := by
  unfold parseL
  rw [isHex_pre]
  simp only [if_true]
  rw [if_neg (by simp only [List.length_cons]; omega)]
  exact pgo16_ok l 2 0 h (by omega) (by omega) (by simp)
theorem parse16_long {l : List Nat} (h : ∀ c ∈ l, dig c < 16) (hl : 16 < l.length) : parseL (48 :: 120 :: l) = (0, some (18, 6)) := by
  unfold parseL
  rw [isHex_pre]
  simp only [if_true]
  rw [if_neg (by simp only [List.length_cons]; omega)]
  exact pgo16_long l 2 0 h (by omega) (by omega) (by omega) (by simp)

/-- The signs for sixteen digits. -/
abbrev alls (large : Bool) : ByteArray := if large then ⟨#[48, 49, 50, 51, 52, 53, 54, 55, 56, 57, 65, 66, 67, 68, 69, 70]⟩ else ⟨#[48, 49, 50, 51, 52, 53, 54, 55, 56, 57, 97, 98, 99, 100, 101, 102]⟩
theorem alls_dig (large : Bool) (d : Nat) (hd : d < 16) (s : ByteArray) : ∃ c, dig c = d ∧ bytesOf ((alls large).extract d (d + 1) ++ s) = c :: bytesOf s := by
  have h1 : ∀ d, d < 16 → ∃ c, c < 256 ∧ dig c = d ∧ ((alls large).extract d (d + 1)).data.toList.map UInt8.toNat = [c] := by
    cases large
    · intro d hd
      match d, hd with
      | 0, _ => exact ⟨48, by decide⟩
      | 1, _ => exact ⟨49, by decide⟩
      | 2, _ => exact ⟨50, by decide⟩
      | 3, _ => exact ⟨51, by decide⟩
      | 4, _ => exact ⟨52, by decide⟩
      | 5, _ => exact ⟨53, by decide⟩
      | 6, _ => exact ⟨54, by decide⟩
      | 7, _ => exact ⟨55, by decide⟩
      | 8, _ => exact ⟨56, by decide⟩
      | 9, _ => exact ⟨57, by decide⟩
      | 10, _ => exact ⟨97, by decide⟩
      | 11, _ => exact ⟨98, by decide⟩
      | 12, _ => exact ⟨99, by decide⟩
      | 13, _ => exact ⟨100, by decide⟩
      | 14, _ => exact ⟨101, by decide⟩
      | 15, _ => exact ⟨102, by decide⟩
      | n + 16, h => omega
    · intro d hd
      match d, hd with
      | 0, _ => exact ⟨48, by decide⟩
      | 1, _ => exact ⟨49, by decide⟩
      | 2, _ => exact ⟨50, by decide⟩
      | 3, _ => exact ⟨51, by decide⟩
      | 4, _ => exact ⟨52, by decide⟩
      | 5, _ => exact ⟨53, by decide⟩
      | 6, _ => exact ⟨54, by decide⟩
      | 7, _ => exact ⟨55, by decide⟩
      | 8, _ => exact ⟨56, by decide⟩
      | 9, _ => exact ⟨57, by decide⟩
      | 10, _ => exact ⟨65, by decide⟩
      | 11, _ => exact ⟨66, by decide⟩
      | 12, _ => exact ⟨67, by decide⟩
      | 13, _ => exact ⟨68, by decide⟩
      | 14, _ => exact ⟨69, by decide⟩
      | 15, _ => exact ⟨70, by decide⟩
      | n + 16, h => omega
  obtain ⟨c, _, h2, h3⟩ := h1 d hd
  refine ⟨c, h2, ?_⟩
  unfold bytesOf
  rw [ByteArray.data_append, Array.toList_append, List.map_append, h3]; rfl
theorem hex_pre (s : ByteArray) : bytesOf ((⟨#[48, 120]⟩ : ByteArray) ++ s) = 48 :: 120 :: bytesOf s := by
  unfold bytesOf
  rw [ByteArray.data_append, Array.toList_append, List.map_append]; rfl
/-- k digits of v are written so far, x is what is left. -/
structure HexTo (v k : Nat) (s : ByteArray) (x : Nat) : Prop where
  len : (bytesOf s).length = k
  digs : ∀ c ∈ bytesOf s, dig c < 16
  val : ∀ V, fold16 (bytesOf s) V = V * 16 ^ k + v % 16 ^ k
  left : x = v / 16 ^ k
theorem HexTo.zero (v : Nat) : HexTo v 0 ⟨#[]⟩ v := ⟨rfl, fun c hc => by simp [bytesOf] at hc, fun V => by simp [bytesOf, fold16, Nat.mod_one], by simp⟩
theorem HexTo.next {v k : Nat} {s : ByteArray} {x : Nat} (h : HexTo v k s x) (large : Bool) : HexTo v (k + 1) ((alls large).extract (x % 16) (x % 16 + 1) ++ s) (x / 16) := by
  obtain ⟨c, h1, h2⟩ := alls_dig large (x % 16) (by omega) s
  refine ⟨by rw [h2]; simp [h.len], fun d hd => ?_, fun V => ?_, ?_⟩
  · rw [h2] at hd
    rcases List.mem_cons.1 hd with rfl | hd
    · omega
    · exact h.digs d hd
  · rw [h2]
    show fold16 (bytesOf s) (V * 16 + dig c) = _
    rw [h.val, h1, h.left, Nat.pow_succ, Nat.mod_mul, Nat.add_mul, Nat.mul_assoc V 16, Nat.mul_comm 16 (16 ^ k), Nat.mul_comm (v / 16 ^ k % 16)]
    omega
  · rw [h.left, Nat.div_div_eq_div_mul, Nat.pow_succ]

theorem hex_mod (v k : Nat) (hv : v < 18446744073709551616) (hk : k = 16) : v % 16 ^ k = v := by
  subst hk
  exact Nat.mod_eq_of_lt (by have h : (16 : Nat) ^ 16 = 18446744073709551616 := by decide
                             omega)

theorem hex_shift (k : Nat) (hk : k < 15) : IntKind.u64.wrap (2 ^ (4 * (1 + k))) = ((16 ^ (1 + k) : Nat) : Int) := by
  rw [wrapUI]
  have h1 : (2 : Int) ^ (4 * (1 + k)) = ((16 ^ (1 + k) : Nat) : Int) := by rw [Int.pow_mul]; push_cast; rfl
  have h2 : 16 ^ (1 + k) ≤ 16 ^ 15 := Nat.pow_le_pow_right (by omega) (by omega)
  have h3 : (16 : Nat) ^ 15 = 1152921504606846976 := by decide
  rw [h1]
  generalize 16 ^ (1 + k) = M at h2
  omega

set_option maxRecDepth 100000 in
set_option maxHeartbeats 4000000 in
theorem hex_large (v : Nat) (n : Int) (w : World) (hg : Laid w) (hv : v < 18446744073709551616) (hn : -9223372036854775808 ≤ n ∧ n ≤ 9223372036854775807) : Calls Tryd.prog 6 #[.int .u64 v, .bool true, .int .i64 n] w fun e w' => e = .returned (.bool true) ∧ New w w' := by
  obtain ⟨k, hk1, hk2⟩ := within_nat n 17 (by omega)
  have hw := fun w => within_any n 17 w (by omega) (by omega) hn.1 hn.2
  rw [hk1] at hw
  have HW := Lib.hid hw
  have HG := Lib.hid hg
  clear hw hk1 hg
  go_enter Tryd.func6, Tryd.ntmps6
  go_wp2_with (go_at_call 16; refine (HW.out _).mono ?_; rintro e w' ⟨rfl, rfl⟩)
  go_loop [8, 10, 11] (fun s x i => ∃ (q X : Nat) (S : ByteArray), q ≤ 1 + k ∧ i = .int .i64 q ∧ s = .string S ∧ x = .int .u64 X ∧ X < 18446744073709551616 ∧ HexTo v q S X) (fun _ _ i => 1 + k - (intOf i).toNat)
  case atStart => exact ⟨0, v, ⟨#[]⟩, by omega, rfl, rfl, rfl, hv, HexTo.zero v⟩
  case round =>
    obtain ⟨q, X, S, hq, rfl, rfl, rfl, hX, ht⟩ := hrel
    have hsz : S.size ≤ 17 := by have h1 := ht.len; have h2 := bytes_len S; omega
    have HT := Lib.hid ht
    clear ht
    by_cases hlt : q < 1 + k
    · go_wp2
      go_round
      case rel => exact ⟨q + 1, X / 16, _, by omega, by go_num, rfl, by go_num, by omega, HT.out.next true⟩
      case measure => simp [intOf]; omega
    · go_wp2_with fail
      obtain ⟨T, hT⟩ : ∃ T, (⟨#[48, 120]⟩ : ByteArray) ++ S = T := ⟨_, rfl⟩
      have hbT : bytesOf T = 48 :: 120 :: bytesOf S := by rw [← hT]; exact hex_pre S
      have hTs : T.size = 2 + S.size := by rw [← bytes_len T, hbT, List.length_cons, List.length_cons, bytes_len]; omega
      have hlen := HT.out.len
      have hval := HT.out.val 0
      rw [Nat.zero_mul, Nat.zero_add] at hval
      rw [hT]
      have hpt := fun w => parse_any T w (max_le (by omega))
      obtain rfl : q = 1 + k := by omega
      rcases (show k = 16 ∨ k = 15 ∨ k < 15 by omega) with h16 | h15 | h14
      · rw [hbT, parse16_long HT.out.digs (by omega)] at hpt
        have HPT := Lib.hid hpt
        have hk2 : 16 < 1 + k := by omega
        clear hpt hT hbT hTs hlen hval h16 HT
        refine (HPT.out _).mono ?_
        rintro e w1 ⟨x, rfl, hx, hn1⟩
        have HX := Lib.hid hx
        have HN1 := Lib.hid hn1
        clear hx hn1
        go_wp2_with fail
        refine (no_ref _ _).mono ?_
        rintro e w2 ⟨f, rfl, hf, hn2⟩
        have HSM := Lib.hid (same_says x f wordL _ w2 ((HG.out.keep HN1.out id).keep hn2 id) (HX.out.new hn2) hf)
        have HN2 := Lib.hid (HN1.out.trans hn2)
        clear hf hn2
        go_wp2_with fail
        refine HSM.out.mono ?_
        rintro e w3 ⟨rfl, hn3⟩
        have HN3 := Lib.hid (HN2.out.trans hn3)
        clear hn3
        go_wp2_with fail
        refine (awake_any _ (HG.out.keep HN3.out id)).mono ?_
        rintro e w4 ⟨rfl, hn4⟩
        have HN4 := Lib.hid (HN3.out.trans hn4)
        clear hn4
        go_wp2
        go_ret
        exact ⟨rfl, HN4.out⟩
      · rw [hbT, parse16_ok HT.out.digs (by omega) (by omega), hval, hex_mod v (1 + k) hv (by omega)] at hpt
        have HPT := Lib.hid hpt
        have hk2 : 15 < 1 + k := by omega
        have hk3 : 1 + k ≤ 16 := by omega
        have t9 : ((v : Int) == (v : Int)) = true := by simp
        clear hpt hT hbT hTs hlen hval h15 HT
        refine (HPT.out _).mono ?_
        rintro e w1 ⟨x, rfl, hx, hn1⟩
        obtain rfl : x = .nilIface := hx
        have HN1 := Lib.hid hn1
        clear hn1
        go_wp2_with fail
        refine (awake_any _ (HG.out.keep HN1.out id)).mono ?_
        rintro e w4 ⟨rfl, hn4⟩
        have HN4 := Lib.hid (HN1.out.trans hn4)
        clear hn4
        go_wp2
        go_ret
        exact ⟨rfl, HN4.out⟩
      · rw [hbT, parse16_ok HT.out.digs (by omega) (by omega), hval] at hpt
        have hwr := hex_shift k (by omega)
        have hM : 0 < 16 ^ (1 + k) := Nat.pow_pos (by omega)
        generalize 16 ^ (1 + k) = M at hpt hwr hM
        have HPT := Lib.hid hpt
        have hk2 : 1 + k < 16 := by omega
        have hM0 : ((M : Int) == 0) = false := beq_eq_false_iff_ne.2 (by omega)
        have hM1 : 0 < (M : Int) := by omega
        clear hpt hT hbT hTs hlen hval HT
        refine (HPT.out _).mono ?_
        rintro e w1 ⟨x, rfl, hx, hn1⟩
        obtain rfl : x = .nilIface := hx
        have HN1 := Lib.hid hn1
        clear hn1
        go_wp2_with fail
        refine (awake_any _ (HG.out.keep HN1.out id)).mono ?_
        rintro e w4 ⟨rfl, hn4⟩
        have HN4 := Lib.hid (HN1.out.trans hn4)
        clear hn4
        go_wp2
        go_ret
        exact ⟨rfl, HN4.out⟩

set_option maxRecDepth 100000 in
set_option maxHeartbeats 4000000 in
theorem hex_small (v : Nat) (n : Int) (w : World) (hg : Laid w) (hv : v < 18446744073709551616) (hn : -9223372036854775808 ≤ n ∧ n ≤ 9223372036854775807) : Calls Tryd.prog 6 #[.int .u64 v, .bool false, .int .i64 n] w fun e w' => e = .returned (.bool true) ∧ New w w' := by
  obtain ⟨k, hk1, hk2⟩ := within_nat n 17 (by omega)
  have hw := fun w => within_any n 17 w (by omega) (by omega) hn.1 hn.2
  rw [hk1] at hw
  have HW := Lib.hid hw
  have HG := Lib.hid hg
  clear hw hk1 hg
  go_enter Tryd.func6, Tryd.ntmps6
  go_wp2_with (go_at_call 16; refine (HW.out _).mono ?_; rintro e w' ⟨rfl, rfl⟩)
  go_loop [8, 10, 11] (fun s x i => ∃ (q X : Nat) (S : ByteArray), q ≤ 1 + k ∧ i = .int .i64 q ∧ s = .string S ∧ x = .int .u64 X ∧ X < 18446744073709551616 ∧ HexTo v q S X) (fun _ _ i => 1 + k - (intOf i).toNat)
  case atStart => exact ⟨0, v, ⟨#[]⟩, by omega, rfl, rfl, rfl, hv, HexTo.zero v⟩
  case round =>
    obtain ⟨q, X, S, hq, rfl, rfl, rfl, hX, ht⟩ := hrel
    have hsz : S.size ≤ 17 := by have h1 := ht.len; have h2 := bytes_len S; omega
    have HT := Lib.hid ht
    clear ht
    by_cases hlt : q < 1 + k
    · go_wp2
      go_round
      case rel => exact ⟨q + 1, X / 16, _, by omega, by go_num, rfl, by go_num, by omega, HT.out.next false⟩
      case measure => simp [intOf]; omega
    · go_wp2_with fail
      obtain ⟨T, hT⟩ : ∃ T, (⟨#[48, 120]⟩ : ByteArray) ++ S = T := ⟨_, rfl⟩
      have hbT : bytesOf T = 48 :: 120 :: bytesOf S := by rw [← hT]; exact hex_pre S
      have hTs : T.size = 2 + S.size := by rw [← bytes_len T, hbT, List.length_cons, List.length_cons, bytes_len]; omega
      have hlen := HT.out.len
      have hval := HT.out.val 0
      rw [Nat.zero_mul, Nat.zero_add] at hval
      rw [hT]
      have hpt := fun w => parse_any T w (max_le (by omega))
      obtain rfl : q = 1 + k := by omega
      rcases (show k = 16 ∨ k = 15 ∨ k < 15 by omega) with h16 | h15 | h14
      · rw [hbT, parse16_long HT.out.digs (by omega)] at hpt
        have HPT := Lib.hid hpt
        have hk2 : 16 < 1 + k := by omega
        clear hpt hT hbT hTs hlen hval h16 HT
        refine (HPT.out _).mono ?_
        rintro e w1 ⟨x, rfl, hx, hn1⟩
        have HX := Lib.hid hx
        have HN1 := Lib.hid hn1
        clear hx hn1
        go_wp2_with fail
        refine (no_ref _ _).mono ?_
        rintro e w2 ⟨f, rfl, hf, hn2⟩
        have HSM := Lib.hid (same_says x f wordL _ w2 ((HG.out.keep HN1.out id).keep hn2 id) (HX.out.new hn2) hf)
        have HN2 := Lib.hid (HN1.out.trans hn2)
        clear hf hn2
        go_wp2_with fail
        refine HSM.out.mono ?_
        rintro e w3 ⟨rfl, hn3⟩
        have HN3 := Lib.hid (HN2.out.trans hn3)
        clear hn3
        go_wp2_with fail
        refine (awake_any _ (HG.out.keep HN3.out id)).mono ?_
        rintro e w4 ⟨rfl, hn4⟩
        have HN4 := Lib.hid (HN3.out.trans hn4)
        clear hn4
        go_wp2
        go_ret
        exact ⟨rfl, HN4.out⟩
      · rw [hbT, parse16_ok HT.out.digs (by omega) (by omega), hval, hex_mod v (1 + k) hv (by omega)] at hpt
        have HPT := Lib.hid hpt
        have hk2 : 15 < 1 + k := by omega
        have hk3 : 1 + k ≤ 16 := by omega
        have t9 : ((v : Int) == (v : Int)) = true := by simp
        clear hpt hT hbT hTs hlen hval h15 HT
        refine (HPT.out _).mono ?_
        rintro e w1 ⟨x, rfl, hx, hn1⟩
        obtain rfl : x = .nilIface := hx
        have HN1 := Lib.hid hn1
        clear hn1
        go_wp2_with fail
        refine (awake_any _ (HG.out.keep HN1.out id)).mono ?_
        rintro e w4 ⟨rfl, hn4⟩
        have HN4 := Lib.hid (HN1.out.trans hn4)
        clear hn4
        go_wp2
        go_ret
        exact ⟨rfl, HN4.out⟩
      · rw [hbT, parse16_ok HT.out.digs (by omega) (by omega), hval] at hpt
        have hwr := hex_shift k (by omega)
        have hM : 0 < 16 ^ (1 + k) := Nat.pow_pos (by omega)
        generalize 16 ^ (1 + k) = M at hpt hwr hM
        have HPT := Lib.hid hpt
        have hk2 : 1 + k < 16 := by omega
        have hM0 : ((M : Int) == 0) = false := beq_eq_false_iff_ne.2 (by omega)
        have hM1 : 0 < (M : Int) := by omega
        clear hpt hT hbT hTs hlen hval HT
        refine (HPT.out _).mono ?_
        rintro e w1 ⟨x, rfl, hx, hn1⟩
        obtain rfl : x = .nilIface := hx
        have HN1 := Lib.hid hn1
        clear hn1
        go_wp2_with fail
        refine (awake_any _ (HG.out.keep HN1.out id)).mono ?_
        rintro e w4 ⟨rfl, hn4⟩
        have HN4 := Lib.hid (HN1.out.trans hn4)
        clear hn4
        go_wp2
        go_ret
        exact ⟨rfl, HN4.out⟩

theorem hex_walk (v : Nat) (lg : Bool) (n : Int) (w : World) (hg : Laid w) (hv : v < 18446744073709551616) (hn : -9223372036854775808 ≤ n ∧ n ≤ 9223372036854775807) : Calls Tryd.prog 6 #[.int .u64 v, .bool lg, .int .i64 n] w fun e w' => e = .returned (.bool true) ∧ New w w' := by
  cases lg
  · exact hex_small v n w hg hv hn
  · exact hex_large v n w hg hv hn

end Go.Proofs.YtnnilcadmakamaaDoor
