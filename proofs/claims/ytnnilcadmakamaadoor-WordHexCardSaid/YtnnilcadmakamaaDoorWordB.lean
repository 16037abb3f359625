/- A text read as a number: both sides answer by one rule. -/
import Derived.Test.YtnnilcadmakamaaDoorWordA
namespace Go.Proofs.YtnnilcadmakamaaDoor
open Go.RowKit

/-- The bytes c from place i on, v being what came before. -/
def pgo (base most from_ : Nat) : List Nat → Nat → Nat → Nat × Option (Int × Int)
  | [], _, v => (v, none)
  | c :: r, i, v => if base ≤ dig c ∨ most ≤ i - from_ ∨ (18446744073709551615 - dig c) / base < v then (0, some ((i : Int), 6)) else pgo base most from_ r (i + 1) (v * base + dig c)
def bytesOf (s : ByteArray) : List Nat := s.data.toList.map UInt8.toNat
def isHex (l : List Nat) : Bool := decide (2 ≤ l.length ∧ l.getD 0 0 = 48 ∧ l.getD 1 0 = 120)
def parseL (l : List Nat) : Nat × Option (Int × Int) :=
  if isHex l then (if l.length = 2 then (0, some (2, 6)) else pgo 16 16 2 (l.drop 2) 2 0) else (if l.length = 0 then (0, some (0, 6)) else pgo 10 20 0 l 0 0)

theorem pgo_kind (base most from_ : Nat) : ∀ (l : List Nat) (i v : Nat) (n k : Int), (pgo base most from_ l i v).2 = some (n, k) → k = 6
  | [], _, _, _, _, h => by cases h
  | c :: r, i, v, n, k, h => by
    unfold pgo at h
    split at h
    · simp at h; exact h.2.symm
    · exact pgo_kind base most from_ r _ _ n k h

theorem bytes_len (s : ByteArray) : (bytesOf s).length = s.size := by
  show (s.data.toList.map UInt8.toNat).length = s.data.size
  rw [List.length_map, Array.length_toList]
theorem bytes_at (s : ByteArray) (k : Nat) (h : k < s.size) : (bytesOf s)[k]? = some s[k].toNat := by
  show (s.data.toList.map UInt8.toNat)[k]? = _
  rw [List.getElem?_map, Array.getElem?_toList, Array.getElem?_eq_getElem (show k < s.data.size from h)]; rfl
theorem bytes_drop (s : ByteArray) (k : Nat) (h : k < s.size) : (bytesOf s).drop k = s[k].toNat :: (bytesOf s).drop (k + 1) := by
  rw [List.drop_eq_getElem_cons (by rw [bytes_len]; exact h)]
  congr 1
  have := bytes_at s k h
  rw [List.getElem?_eq_getElem (by rw [bytes_len]; exact h)] at this
  exact Option.some.inj this

theorem isHex_of (s : ByteArray) : isHex (bytesOf s) = true → ∃ (_ : 0 < s.size) (_ : 1 < s.size), 2 ≤ s.size ∧ ((s[0].toNat : Int) == 48) = true ∧ ((s[1].toNat : Int) == 120) = true := by
  intro h
  obtain ⟨h1, h2, h3⟩ := of_decide_eq_true h
  rw [bytes_len] at h1
  refine ⟨by omega, by omega, h1, ?_, ?_⟩
  · rw [List.getD_eq_getElem?_getD, bytes_at s 0 (by omega)] at h2; rw [beq_iff_eq]; simp only [Option.getD_some] at h2; omega
  · rw [List.getD_eq_getElem?_getD, bytes_at s 1 (by omega)] at h3; rw [beq_iff_eq]; simp only [Option.getD_some] at h3; omega
theorem notHex_of (s : ByteArray) (h : isHex (bytesOf s) = false) : s.size < 2 ∨ ∃ (_ : 0 < s.size) (_ : 1 < s.size), 2 ≤ s.size ∧ (((s[0].toNat : Int) == 48) = false ∨ (((s[0].toNat : Int) == 48) = true ∧ ((s[1].toNat : Int) == 120) = false)) := by
  by_cases hs : s.size < 2
  · exact .inl hs
  · refine .inr ⟨by omega, by omega, by omega, ?_⟩
    have h' := of_decide_eq_false h
    rw [bytes_len, List.getD_eq_getElem?_getD, bytes_at s 0 (by omega), List.getD_eq_getElem?_getD, bytes_at s 1 (by omega)] at h'
    simp only [Option.getD_some] at h'
    rw [beq_eq_false_iff_ne, beq_iff_eq, beq_eq_false_iff_ne]
    omega

/-- One byte more. -/
theorem pgo_step (base most from_ : Nat) (s : ByteArray) (k v : Nat) (h : k < s.size) :
    pgo base most from_ ((bytesOf s).drop k) k v = if base ≤ dig s[k].toNat ∨ most ≤ k - from_ ∨ (18446744073709551615 - dig s[k].toNat) / base < v then (0, some ((k : Int), 6)) else pgo base most from_ ((bytesOf s).drop (k + 1)) (k + 1) (v * base + dig s[k].toNat) := by
  rw [bytes_drop s k h]; rfl
theorem pgo_end (base most from_ : Nat) (s : ByteArray) (v : Nat) : pgo base most from_ ((bytesOf s).drop s.size) s.size v = (v, none) := by
  rw [List.drop_eq_nil_of_le (by rw [bytes_len]; omega)]; rfl
theorem byte_lt (c : UInt8) : c.toNat < 256 := c.toNat_lt
/-- The loop's own rule: what is still to come answers as the whole. -/
def Same2 (base most from_ : Nat) (s : ByteArray) (k v : Nat) (R : Nat × Option (Int × Int)) : Prop := pgo base most from_ ((bytesOf s).drop k) k v = R
def ParseTold (w w' : World) (R : Nat × Option (Int × Int)) (e : Ending) : Prop := ∃ x, e = .returned (.tuple #[.int .u64 (R.1 : Nat), x]) ∧ Says w' wordL x R.2 ∧ New w w'
def RParseTold (w w' : World) (R : Nat × Option (Int × Int)) (e : Ending) : Prop := ∃ x, e = .returned (.tuple #[.int .u64 (R.1 : Nat), x]) ∧ SaysF w' wordL x R.2 ∧ New w w'

set_option maxRecDepth 100000 in
set_option maxHeartbeats 4000000 in
theorem parse_dec (s : ByteArray) (R : Nat × Option (Int × Int)) (w : World) (hs : s.size ≤ maxLen) (hx : isHex (bytesOf s) = (10 == 16)) (h0 : 0 < s.size) (hR : Same2 10 20 0 s 0 0 R) :
    Calls Tryd.prog 13 #[.string s] w fun e w' => ParseTold w w' R e := by
  unfold maxLen at hs
  have HR := Lib.hid hR
  clear hR
  rcases notHex_of s hx with h2 | ⟨g0, g1, h1, h2 | ⟨h2, h3⟩⟩
  all_goals
    clear hx
    go_enter Tryd.func13, Tryd.ntmps13
    go_wp2_with fail
    go_loop [7, 8] (fun v i => ∃ k V : Nat, 0 ≤ k ∧ k ≤ s.size ∧ i = .int .i64 k ∧ v = .int .u64 V ∧ V < 18446744073709551616 ∧ Same2 10 20 0 s k V R) (fun _ i => s.size - (intOf i).toNat)
    case atStart => exact ⟨0, 0, by omega, by omega, rfl, rfl, by omega, HR.out⟩
    case round =>
      obtain ⟨k, V, hk1, hk2, rfl, rfl, hV, hr⟩ := hrel
      by_cases hlt : k < s.size
      · have hst := pgo_step 10 20 0 s k V hlt
        rw [show pgo 10 20 0 ((bytesOf s).drop k) k V = R from hr] at hst
        have hcb := byte_lt s[k]
        have hdc := fun w => digit_any s[k].toNat 10 w hcb (by omega)
        have hd99 : dig s[k].toNat ≤ 99 := by unfold dig; split <;> (try split) <;> (try split) <;> omega
        generalize dig s[k].toNat = d at hst hdc hd99
        clear hr
        rcases (show 10 ≤ d ∨ (d < 10 ∧ 20 ≤ k - 0) ∨ (d < 10 ∧ k - 0 < 20 ∧ 18446744073709551615 < V * 10 + d) ∨ (d < 10 ∧ k - 0 < 20 ∧ V * 10 + d ≤ 18446744073709551615) by omega) with h4 | ⟨h4, h5⟩ | ⟨h4, h5, h6⟩ | ⟨h4, h5, h6⟩
        · rw [if_pos (by omega)] at hst
          simp only [decide_eq_false (show ¬ d < 10 by omega)] at hdc
          have HST := Lib.hid hst
          have HDC := Lib.hid hdc
          clear hst hdc
          go_wp2_with (first
            | (go_at_call 29; refine (HDC.out _).mono ?_; rintro e w' ⟨rfl, rfl⟩)
            | (go_at_call 30; refine (fail_any _ _ _ (by omega) (by omega)).mono ?_; rintro e w1 ⟨eb, rfl, he, hn⟩))
          all_goals
            go_ret2
            exact ⟨_, by rw [HST.out]; first | done | rfl, by rw [HST.out]; exact he, hn⟩
        · rw [if_pos (by omega)] at hst
          simp only [decide_eq_true h4] at hdc
          have HST := Lib.hid hst
          have HDC := Lib.hid hdc
          clear hst hdc
          go_wp2_with (first
            | (go_at_call 29; refine (HDC.out _).mono ?_; rintro e w' ⟨rfl, rfl⟩)
            | (go_at_call 30; refine (fail_any _ _ _ (by omega) (by omega)).mono ?_; rintro e w1 ⟨eb, rfl, he, hn⟩))
          all_goals
            go_ret2
            exact ⟨_, by rw [HST.out]; first | done | rfl, by rw [HST.out]; exact he, hn⟩
        · rw [if_pos (by omega)] at hst
          simp only [decide_eq_true h4] at hdc
          have hq : (18446744073709551615 - (d : Int)) / 10 < (V : Int) := by omega
          have HST := Lib.hid hst
          have HDC := Lib.hid hdc
          clear hst hdc
          go_wp2_with (first
            | (go_at_call 29; refine (HDC.out _).mono ?_; rintro e w' ⟨rfl, rfl⟩)
            | (go_at_call 30; refine (fail_any _ _ _ (by omega) (by omega)).mono ?_; rintro e w1 ⟨eb, rfl, he, hn⟩))
          all_goals
            go_ret2
            exact ⟨_, by rw [HST.out]; first | done | rfl, by rw [HST.out]; exact he, hn⟩
        · rw [if_neg (by omega)] at hst
          simp only [decide_eq_true h4] at hdc
          have hq : (V : Int) ≤ (18446744073709551615 - (d : Int)) / 10 := by omega
          have HST := Lib.hid hst
          have HDC := Lib.hid hdc
          clear hst hdc
          go_wp2_with (go_at_call 29; refine (HDC.out _).mono ?_; rintro e w' ⟨rfl, rfl⟩)
          go_round
          case rel => exact ⟨k + 1, V * 10 + d, by omega, by omega, by go_num, by go_num, by omega, HST.out.symm⟩
          case measure => simp [intOf]; omega
      · obtain rfl : k = s.size := by omega
        have hst := (pgo_end 10 20 0 s V).symm.trans hr
        have HST := Lib.hid hst
        have t5 : ((s.size : Int) == 0) = false := by rw [beq_eq_false_iff_ne]; omega
        clear hr hst hlt
        go_wp2
        go_ret2
        exact ⟨_, by rw [← HST.out]; first | done | rfl, by rw [← HST.out]; rfl, Fr.refl _ _⟩

set_option maxRecDepth 100000 in
set_option maxHeartbeats 4000000 in
theorem parse_hex (s : ByteArray) (R : Nat × Option (Int × Int)) (w : World) (hs : s.size ≤ maxLen) (hx : isHex (bytesOf s) = (16 == 16)) (h0 : 2 < s.size) (hR : Same2 16 16 2 s 2 0 R) :
    Calls Tryd.prog 13 #[.string s] w fun e w' => ParseTold w w' R e := by
  unfold maxLen at hs
  have HR := Lib.hid hR
  clear hR
  obtain ⟨g0, g1, h1, h2, h3⟩ := isHex_of s hx
  all_goals
    clear hx
    go_enter Tryd.func13, Tryd.ntmps13
    go_wp2_with fail
    go_loop [7, 8] (fun v i => ∃ k V : Nat, 2 ≤ k ∧ k ≤ s.size ∧ i = .int .i64 k ∧ v = .int .u64 V ∧ V < 18446744073709551616 ∧ Same2 16 16 2 s k V R) (fun _ i => s.size - (intOf i).toNat)
    case atStart => exact ⟨2, 0, by omega, by omega, rfl, rfl, by omega, HR.out⟩
    case round =>
      obtain ⟨k, V, hk1, hk2, rfl, rfl, hV, hr⟩ := hrel
      by_cases hlt : k < s.size
      · have hst := pgo_step 16 16 2 s k V hlt
        rw [show pgo 16 16 2 ((bytesOf s).drop k) k V = R from hr] at hst
        have hcb := byte_lt s[k]
        have hdc := fun w => digit_any s[k].toNat 16 w hcb (by omega)
        have hd99 : dig s[k].toNat ≤ 99 := by unfold dig; split <;> (try split) <;> (try split) <;> omega
        generalize dig s[k].toNat = d at hst hdc hd99
        clear hr
        rcases (show 16 ≤ d ∨ (d < 16 ∧ 16 ≤ k - 2) ∨ (d < 16 ∧ k - 2 < 16 ∧ 18446744073709551615 < V * 16 + d) ∨ (d < 16 ∧ k - 2 < 16 ∧ V * 16 + d ≤ 18446744073709551615) by omega) with h4 | ⟨h4, h5⟩ | ⟨h4, h5, h6⟩ | ⟨h4, h5, h6⟩
        · rw [if_pos (by omega)] at hst
          simp only [decide_eq_false (show ¬ d < 16 by omega)] at hdc
          have HST := Lib.hid hst
          have HDC := Lib.hid hdc
          clear hst hdc
          go_wp2_with (first
            | (go_at_call 29; refine (HDC.out _).mono ?_; rintro e w' ⟨rfl, rfl⟩)
            | (go_at_call 30; refine (fail_any _ _ _ (by omega) (by omega)).mono ?_; rintro e w1 ⟨eb, rfl, he, hn⟩))
          all_goals
            go_ret2
            exact ⟨_, by rw [HST.out]; first | done | rfl, by rw [HST.out]; exact he, hn⟩
        · rw [if_pos (by omega)] at hst
          simp only [decide_eq_true h4] at hdc
          have HST := Lib.hid hst
          have HDC := Lib.hid hdc
          clear hst hdc
          go_wp2_with (first
            | (go_at_call 29; refine (HDC.out _).mono ?_; rintro e w' ⟨rfl, rfl⟩)
            | (go_at_call 30; refine (fail_any _ _ _ (by omega) (by omega)).mono ?_; rintro e w1 ⟨eb, rfl, he, hn⟩))
          all_goals
            go_ret2
            exact ⟨_, by rw [HST.out]; first | done | rfl, by rw [HST.out]; exact he, hn⟩
        · rw [if_pos (by omega)] at hst
          simp only [decide_eq_true h4] at hdc
          have hq : (18446744073709551615 - (d : Int)) / 16 < (V : Int) := by omega
          have HST := Lib.hid hst
          have HDC := Lib.hid hdc
          clear hst hdc
          go_wp2_with (first
            | (go_at_call 29; refine (HDC.out _).mono ?_; rintro e w' ⟨rfl, rfl⟩)
            | (go_at_call 30; refine (fail_any _ _ _ (by omega) (by omega)).mono ?_; rintro e w1 ⟨eb, rfl, he, hn⟩))
          all_goals
            go_ret2
            exact ⟨_, by rw [HST.out]; first | done | rfl, by rw [HST.out]; exact he, hn⟩
        · rw [if_neg (by omega)] at hst
          simp only [decide_eq_true h4] at hdc
          have hq : (V : Int) ≤ (18446744073709551615 - (d : Int)) / 16 := by omega
          have HST := Lib.hid hst
          have HDC := Lib.hid hdc
          clear hst hdc
          go_wp2_with (go_at_call 29; refine (HDC.out _).mono ?_; rintro e w' ⟨rfl, rfl⟩)
          go_round
          case rel => exact ⟨k + 1, V * 16 + d, by omega, by omega, by go_num, by go_num, by omega, HST.out.symm⟩
          case measure => simp [intOf]; omega
      · obtain rfl : k = s.size := by omega
        have hst := (pgo_end 16 16 2 s V).symm.trans hr
        have HST := Lib.hid hst
        have t5 : ((s.size : Int) == 2) = false := by rw [beq_eq_false_iff_ne]; omega
        clear hr hst hlt
        go_wp2
        go_ret2
        exact ⟨_, by rw [← HST.out]; first | done | rfl, by rw [← HST.out]; rfl, Fr.refl _ _⟩

theorem no_ref (n : Int) (w : World) :
    Calls Tryd.prog 17 #[.string wordL, .int .i64 n, .int .i64 6] w fun e w' => ∃ f, e = .returned f ∧ SaysF w' wordL f (some (n, 6)) ∧ New w w' := no_any wordL n 6 w
theorem hex_fits (k V d : Nat) (hV : V < 16 ^ (k - 2)) (hk : k - 2 < 16) (hd : d < 16) : V * 16 + d ≤ 18446744073709551615 := by
  have h1 : 16 ^ (k - 2) ≤ 16 ^ 15 := Nat.pow_le_pow_right (by omega) (by omega)
  have h2 : (16 : Nat) ^ 15 = 1152921504606846976 := by decide
  omega
theorem hex_next (k V d : Nat) (hV : V < 16 ^ (k - 2)) (hk : 2 ≤ k) (hd : d < 16) : V * 16 + d < 16 ^ (k + 1 - 2) := by
  rw [show k + 1 - 2 = (k - 2) + 1 by omega, Nat.pow_succ]
  omega

set_option maxRecDepth 100000 in
set_option maxHeartbeats 4000000 in
theorem rparse_dec (s : ByteArray) (R : Nat × Option (Int × Int)) (w : World) (hs : s.size ≤ maxLen) (hx : isHex (bytesOf s) = (10 == 16)) (h0 : 0 < s.size) (hR : Same2 10 20 0 s 0 0 R) :
    Calls Tryd.prog 14 #[.string s] w fun e w' => RParseTold w w' R e := by
  unfold maxLen at hs
  have HR := Lib.hid hR
  clear hR
  rcases notHex_of s hx with h2 | ⟨g0, g1, h1, h2 | ⟨h2, h3⟩⟩
  all_goals
    clear hx
    go_enter Tryd.func14, Tryd.ntmps14
    go_wp2_with fail
    go_loop [7, 8] (fun v i => ∃ k V : Nat, 0 ≤ k ∧ k ≤ s.size ∧ i = .int .i64 k ∧ v = .int .u64 V ∧ V < 18446744073709551616 ∧ (True) ∧ Same2 10 20 0 s k V R) (fun _ i => s.size - (intOf i).toNat)
    case atStart => exact ⟨0, 0, by omega, by omega, rfl, rfl, by omega, trivial, HR.out⟩
    case round =>
      obtain ⟨k, V, hk1, hk2, rfl, rfl, hV, hinv, hr⟩ := hrel
      have HINV := Lib.hid hinv
      clear hinv
      by_cases hlt : k < s.size
      · have hst := pgo_step 10 20 0 s k V hlt
        rw [show pgo 10 20 0 ((bytesOf s).drop k) k V = R from hr] at hst
        have hcb := byte_lt s[k]
        have hdc := fun w => rdigit_any s[k].toNat w hcb
        have hd99 : dig s[k].toNat ≤ 99 := by unfold dig; split <;> (try split) <;> (try split) <;> omega
        generalize dig s[k].toNat = d at hst hdc hd99
        clear hr
        rcases (show 10 ≤ d ∨ (d < 10 ∧ 20 ≤ k - 0) ∨ (d < 10 ∧ k - 0 < 20 ∧ 18446744073709551615 < V * 10 + d) ∨ (d < 10 ∧ k - 0 < 20 ∧ V * 10 + d ≤ 18446744073709551615) by omega) with h4 | ⟨h4, h5⟩ | ⟨h4, h5, h6⟩ | ⟨h4, h5, h6⟩
        · rw [if_pos (by omega)] at hst
          have HST := Lib.hid hst
          have HDC := Lib.hid hdc
          clear hst hdc
          go_wp2_with (first
            | (go_at_call 31; refine (HDC.out _).mono ?_; rintro e w' ⟨rfl, rfl⟩)
            | (go_at_call 17; refine (no_ref _ _).mono ?_; rintro e w1 ⟨eb, rfl, he, hn⟩))
          all_goals
            go_ret2
            exact ⟨_, by rw [HST.out]; first | done | rfl, by rw [HST.out]; exact he, hn⟩
        · rw [if_pos (by omega)] at hst
          have HST := Lib.hid hst
          have HDC := Lib.hid hdc
          clear hst hdc
          go_wp2_with (first
            | (go_at_call 31; refine (HDC.out _).mono ?_; rintro e w' ⟨rfl, rfl⟩)
            | (go_at_call 17; refine (no_ref _ _).mono ?_; rintro e w1 ⟨eb, rfl, he, hn⟩))
          all_goals
            go_ret2
            exact ⟨_, by rw [HST.out]; first | done | rfl, by rw [HST.out]; exact he, hn⟩
        · rw [if_pos (by omega)] at hst
          rcases (show 1844674407370955161 < V ∨ (V ≤ 1844674407370955161 ∧ 18446744073709551615 - d < V * 10) by omega) with h7 | ⟨h7, h8⟩
          all_goals
            have HST := Lib.hid hst
            have HDC := Lib.hid hdc
            clear hst hdc
            go_wp2_with (first
              | (go_at_call 31; refine (HDC.out _).mono ?_; rintro e w' ⟨rfl, rfl⟩)
              | (go_at_call 17; refine (no_ref _ _).mono ?_; rintro e w1 ⟨eb, rfl, he, hn⟩))
            all_goals
              go_ret2
              exact ⟨_, by rw [HST.out]; first | done | rfl, by rw [HST.out]; exact he, hn⟩
        · rw [if_neg (by omega)] at hst
          have h7 : V ≤ 1844674407370955161 := by omega
          have HST := Lib.hid hst
          have HDC := Lib.hid hdc
          clear hst hdc
          go_wp2_with (go_at_call 31; refine (HDC.out _).mono ?_; rintro e w' ⟨rfl, rfl⟩)
          go_round
          case rel => exact ⟨k + 1, V * 10 + d, by omega, by omega, by go_num, by go_num, by omega, trivial, HST.out.symm⟩
          case measure => simp [intOf]; omega
      · obtain rfl : k = s.size := by omega
        have hst := (pgo_end 10 20 0 s V).symm.trans hr
        have HST := Lib.hid hst
        have t5 : ((s.size : Int) == 0) = false := by rw [beq_eq_false_iff_ne]; omega
        clear hr hst hlt
        go_wp2
        go_ret2
        exact ⟨_, by rw [← HST.out]; first | done | rfl, by rw [← HST.out]; rfl, Fr.refl _ _⟩

set_option maxRecDepth 100000 in
set_option maxHeartbeats 4000000 in
theorem rparse_hex (s : ByteArray) (R : Nat × Option (Int × Int)) (w : World) (hs : s.size ≤ maxLen) (hx : isHex (bytesOf s) = (16 == 16)) (h0 : 2 < s.size) (hR : Same2 16 16 2 s 2 0 R) :
    Calls Tryd.prog 14 #[.string s] w fun e w' => RParseTold w w' R e := by
  unfold maxLen at hs
  have HR := Lib.hid hR
  clear hR
  obtain ⟨g0, g1, h1, h2, h3⟩ := isHex_of s hx
  all_goals
    clear hx
    go_enter Tryd.func14, Tryd.ntmps14
    go_wp2_with fail
    go_loop [7, 8] (fun v i => ∃ k V : Nat, 2 ≤ k ∧ k ≤ s.size ∧ i = .int .i64 k ∧ v = .int .u64 V ∧ V < 18446744073709551616 ∧ (V < 16 ^ (k - 2)) ∧ Same2 16 16 2 s k V R) (fun _ i => s.size - (intOf i).toNat)
    case atStart => exact ⟨2, 0, by omega, by omega, rfl, rfl, by omega, (by simp), HR.out⟩
    case round =>
      obtain ⟨k, V, hk1, hk2, rfl, rfl, hV, hinv, hr⟩ := hrel
      have HINV := Lib.hid hinv
      clear hinv
      by_cases hlt : k < s.size
      · have hst := pgo_step 16 16 2 s k V hlt
        rw [show pgo 16 16 2 ((bytesOf s).drop k) k V = R from hr] at hst
        have hcb := byte_lt s[k]
        have hdc := fun w => rdigit_any s[k].toNat w hcb
        have hd99 : dig s[k].toNat ≤ 99 := by unfold dig; split <;> (try split) <;> (try split) <;> omega
        generalize dig s[k].toNat = d at hst hdc hd99
        clear hr
        rcases (show 16 ≤ d ∨ (d < 16 ∧ 16 ≤ k - 2) ∨ (d < 16 ∧ k - 2 < 16 ∧ 18446744073709551615 < V * 16 + d) ∨ (d < 16 ∧ k - 2 < 16 ∧ V * 16 + d ≤ 18446744073709551615) by omega) with h4 | ⟨h4, h5⟩ | ⟨h4, h5, h6⟩ | ⟨h4, h5, h6⟩
        · rw [if_pos (by omega)] at hst
          have HST := Lib.hid hst
          have HDC := Lib.hid hdc
          clear hst hdc
          go_wp2_with (first
            | (go_at_call 31; refine (HDC.out _).mono ?_; rintro e w' ⟨rfl, rfl⟩)
            | (go_at_call 17; refine (no_ref _ _).mono ?_; rintro e w1 ⟨eb, rfl, he, hn⟩))
          all_goals
            go_ret2
            exact ⟨_, by rw [HST.out]; first | done | rfl, by rw [HST.out]; exact he, hn⟩
        · rw [if_pos (by omega)] at hst
          have HST := Lib.hid hst
          have HDC := Lib.hid hdc
          clear hst hdc
          go_wp2_with (first
            | (go_at_call 31; refine (HDC.out _).mono ?_; rintro e w' ⟨rfl, rfl⟩)
            | (go_at_call 17; refine (no_ref _ _).mono ?_; rintro e w1 ⟨eb, rfl, he, hn⟩))
          all_goals
            go_ret2
            exact ⟨_, by rw [HST.out]; first | done | rfl, by rw [HST.out]; exact he, hn⟩
        · rw [if_pos (by omega)] at hst
          exact absurd (hex_fits k V d HINV.out h5 h4) (by omega)
          all_goals
            have HST := Lib.hid hst
            have HDC := Lib.hid hdc
            clear hst hdc
            go_wp2_with (first
              | (go_at_call 31; refine (HDC.out _).mono ?_; rintro e w' ⟨rfl, rfl⟩)
              | (go_at_call 17; refine (no_ref _ _).mono ?_; rintro e w1 ⟨eb, rfl, he, hn⟩))
            all_goals
              go_ret2
              exact ⟨_, by rw [HST.out]; first | done | rfl, by rw [HST.out]; exact he, hn⟩
        · rw [if_neg (by omega)] at hst
          have h7 := hex_next k V d HINV.out hk1 h4
          have HST := Lib.hid hst
          have HDC := Lib.hid hdc
          clear hst hdc
          go_wp2_with (go_at_call 31; refine (HDC.out _).mono ?_; rintro e w' ⟨rfl, rfl⟩)
          go_round
          case rel => exact ⟨k + 1, V * 16 + d, by omega, by omega, by go_num, by go_num, by omega, h7, HST.out.symm⟩
          case measure => simp [intOf]; omega
      · obtain rfl : k = s.size := by omega
        have hst := (pgo_end 16 16 2 s V).symm.trans hr
        have HST := Lib.hid hst
        have t5 : ((s.size : Int) == 2) = false := by rw [beq_eq_false_iff_ne]; omega
        clear hr hst hlt
        go_wp2
        go_ret2
        exact ⟨_, by rw [← HST.out]; first | done | rfl, by rw [← HST.out]; rfl, Fr.refl _ _⟩


end Go.Proofs.YtnnilcadmakamaaDoor
