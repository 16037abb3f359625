/- What is printed is read again, with noughts ahead, too: the statement's walk. -/
import Derived.Test.YtnnilcadmakamaaDoorWordD
import Derived.Test.YtnnilcadmakamaaDoorWithin
namespace Go.Proofs.YtnnilcadmakamaaDoor
open Go.RowKit

def fold10 (l : List Nat) (v : Nat) : Nat := l.foldl (fun a c => a * 10 + dig c) v
theorem fold10_ge : ∀ (l : List Nat) (v : Nat), v ≤ fold10 l v
  | [], v => Nat.le_refl _
  | c :: r, v => by
    have := fold10_ge r (v * 10 + dig c)
    show v ≤ fold10 r (v * 10 + dig c)
    omega
theorem dig_dec {c : Nat} (h : 48 ≤ c ∧ c ≤ 57) : dig c = c - 48 := by unfold dig; rw [if_pos h]
theorem pgo_ok : ∀ (l : List Nat) (i V : Nat), (∀ c ∈ l, 48 ≤ c ∧ c ≤ 57) → i + l.length ≤ 20 → fold10 l V ≤ 18446744073709551615 → pgo 10 20 0 l i V = (fold10 l V, none)
  | [], _, _, _, _, _ => rfl
  | c :: r, i, V, hd, hl, hf => by
    have h1 := hd c (by simp)
    have h2 := dig_dec h1
    have h3 : fold10 (c :: r) V = fold10 r (V * 10 + dig c) := rfl
    have h4 := fold10_ge r (V * 10 + dig c)
    rw [h3] at hf
    simp at hl
    unfold pgo
    rw [if_neg (by omega), h3]
    exact pgo_ok r (i + 1) _ (fun c hc => hd c (by simp [hc])) (by omega) hf
theorem pgo_long : ∀ (l : List Nat) (i V : Nat), (∀ c ∈ l, 48 ≤ c ∧ c ≤ 57) → i ≤ 20 → 20 < i + l.length → fold10 l V ≤ 18446744073709551615 → pgo 10 20 0 l i V = (0, some (20, 6))
  | [], i, _, _, h1, h2, _ => by simp at h2; omega
  | c :: r, i, V, hd, h1, hl, hf => by
    have h5 := hd c (by simp)
    have h2 := dig_dec h5
    have h3 : fold10 (c :: r) V = fold10 r (V * 10 + dig c) := rfl
    have h4 := fold10_ge r (V * 10 + dig c)
    rw [h3] at hf
    simp at hl
    unfold pgo
    by_cases h : i = 20
    · subst h
      rw [if_pos (by omega)]; rfl
    · rw [if_neg (by omega)]
      exact pgo_long r (i + 1) _ (fun c hc => hd c (by simp [hc])) (by omega) (by omega) hf
theorem notHex {l : List Nat} (h : ∀ c ∈ l, 48 ≤ c ∧ c ≤ 57) : isHex l = false := by
  apply decide_eq_false
  rintro ⟨h1, _, h3⟩
  rw [List.getD_eq_getElem?_getD, List.getElem?_eq_getElem (by omega)] at h3
  have := h _ (List.getElem_mem (show 1 < l.length by omega))
  simp only [Option.getD_some] at h3
  omega
theorem parse_ok {l : List Nat} (h : ∀ c ∈ l, 48 ≤ c ∧ c ≤ 57) (h0 : l ≠ []) (hl : l.length ≤ 20) (hf : fold10 l 0 ≤ 18446744073709551615) : parseL l = (fold10 l 0, none) := by
  unfold parseL
  rw [notHex h]
  simp only [Bool.false_eq_true, if_false]
  rw [if_neg (by simpa using h0), pgo_ok l 0 0 h (by omega) hf]
theorem parse_long {l : List Nat} (h : ∀ c ∈ l, 48 ≤ c ∧ c ≤ 57) (hl : 20 < l.length) (hf : fold10 l 0 ≤ 18446744073709551615) : parseL l = (0, some (20, 6)) := by
  unfold parseL
  rw [notHex h]
  simp only [Bool.false_eq_true, if_false]
  rw [if_neg (by omega), pgo_long l 0 0 h (by omega) (by omega) hf]

def nat8 (l : List UInt8) : List Nat := l.map UInt8.toNat
theorem digit8 (d : Nat) (h : d < 10) : (UInt8.ofNat (48 + d)).toNat = 48 + d := by rw [UInt8.toNat_ofNat']; omega
theorem digs_fold (v : Nat) : ∀ acc : List UInt8, fold10 (nat8 (digs v acc)) 0 = fold10 (nat8 acc) v := by
  induction v using Nat.strongRecOn with
  | _ v ih =>
    intro acc
    rw [digs_step]
    split
    · have hd := digit8 (v % 10) (by omega)
      show fold10 ((UInt8.ofNat (48 + v % 10)).toNat :: nat8 acc) 0 = _
      rw [hd]
      show fold10 (nat8 acc) (0 * 10 + dig (48 + v % 10)) = _
      rw [dig_dec (by omega)]
      congr 1; omega
    · rw [ih (v / 10) (by omega)]
      have hd := digit8 (v % 10) (by omega)
      show fold10 ((UInt8.ofNat (48 + v % 10)).toNat :: nat8 acc) (v / 10) = _
      rw [hd]
      show fold10 (nat8 acc) (v / 10 * 10 + dig (48 + v % 10)) = _
      rw [dig_dec (by omega)]
      congr 1; omega
theorem digs_dec (v : Nat) : ∀ acc : List UInt8, (∀ c ∈ nat8 acc, 48 ≤ c ∧ c ≤ 57) → ∀ c ∈ nat8 (digs v acc), 48 ≤ c ∧ c ≤ 57 := by
  induction v using Nat.strongRecOn with
  | _ v ih =>
    intro acc h
    have hd := digit8 (v % 10) (by omega)
    have h' : ∀ c ∈ nat8 (UInt8.ofNat (48 + v % 10) :: acc), 48 ≤ c ∧ c ≤ 57 := by
      intro c hc
      rcases List.mem_cons.1 (show c ∈ (UInt8.ofNat (48 + v % 10)).toNat :: nat8 acc from hc) with rfl | hc
      · omega
      · exact h c hc
    rw [digs_step]
    split
    · exact h'
    · exact ih (v / 10) (by omega) _ h'
theorem digs_len (v : Nat) : ∀ (m : Nat) (acc : List UInt8), v < 10 ^ m → 1 ≤ m → 1 + acc.length ≤ (digs v acc).length ∧ (digs v acc).length ≤ m + acc.length := by
  induction v using Nat.strongRecOn with
  | _ v ih =>
    intro m acc h hm
    rw [digs_step]
    split
    · simp; omega
    · have hp := pow_down h (by omega)
      have := ih (v / 10) (by omega) (m - 1) (UInt8.ofNat (48 + v % 10) :: acc) hp.2 (by omega)
      simp only [List.length_cons] at this; omega
theorem digs_head (v : Nat) : ∀ (acc : List UInt8), ∃ h r, digs v acc = h :: r ∧ (h.toNat = 48 ↔ v = 0) := by
  induction v using Nat.strongRecOn with
  | _ v ih =>
    intro acc
    rw [digs_step]
    split
    · refine ⟨_, _, rfl, ?_⟩
      rw [digit8 _ (by omega)]; omega
    · obtain ⟨h, r, e, hh⟩ := ih (v / 10) (by omega) (UInt8.ofNat (48 + v % 10) :: acc)
      exact ⟨h, r, e, by rw [hh]; omega⟩

/-- What is printed. -/
theorem digs_all (v : Nat) (hv : v < 18446744073709551616) : ∃ s : ByteArray, (⟨(digs v []).toArray⟩ : ByteArray) = s ∧ ∃ h0 : 0 < s.size, s.size ≤ 20 ∧ (∀ c ∈ bytesOf s, 48 ≤ c ∧ c ≤ 57) ∧ fold10 (bytesOf s) 0 = v ∧ (s[0].toNat = 48 ↔ v = 0) := by
  have hp : v < 10 ^ 20 := by
    have h : (10 : Nat) ^ 20 = 100000000000000000000 := by decide
    omega
  obtain ⟨l1, l2⟩ := digs_len v 20 [] hp (by omega)
  obtain ⟨h, r, e, hh⟩ := digs_head v []
  have hb : bytesOf ⟨(digs v []).toArray⟩ = nat8 (digs v []) := rfl
  refine ⟨_, rfl, ?_, ?_, ?_, ?_, ?_⟩
  · show 0 < (digs v []).toArray.size
    rw [List.size_toArray]; simp at l1; omega
  · show (digs v []).toArray.size ≤ 20
    rw [List.size_toArray]; simp at l2; omega
  · rw [hb]; exact digs_dec v [] (fun c hc => by simp [nat8] at hc)
  · rw [hb, digs_fold]; rfl
  · rw [← hh]
    have h0 : 0 < (digs v []).length := by omega
    have : (digs v [])[0] = h := by simp only [e]; rfl
    show (digs v []).toArray[0].toNat = 48 ↔ _
    rw [List.getElem_toArray, this]
/-- Noughts ahead. -/
theorem noughts (k : Nat) (s : ByteArray) (hk : k ≤ 20) : bytesOf ((⟨#[48, 48, 48, 48, 48, 48, 48, 48, 48, 48, 48, 48, 48, 48, 48, 48, 48, 48, 48, 48]⟩ : ByteArray).extract 0 k ++ s) = List.replicate k 48 ++ bytesOf s := by
  have h1 : ((⟨#[48, 48, 48, 48, 48, 48, 48, 48, 48, 48, 48, 48, 48, 48, 48, 48, 48, 48, 48, 48]⟩ : ByteArray).extract 0 k).data.toList.map UInt8.toNat = List.replicate k 48 := by
    have : ∀ k, k ≤ 20 → ((⟨#[48, 48, 48, 48, 48, 48, 48, 48, 48, 48, 48, 48, 48, 48, 48, 48, 48, 48, 48, 48]⟩ : ByteArray).extract 0 k).data.toList.map UInt8.toNat = List.replicate k 48 := by decide
    exact this k hk
  unfold bytesOf
  rw [ByteArray.data_append, Array.toList_append, List.map_append, h1]
theorem fold_noughts (l : List Nat) : ∀ k, fold10 (List.replicate k 48 ++ l) 0 = fold10 l 0
  | 0 => rfl
  | k + 1 => fold_noughts l k

set_option maxRecDepth 100000 in
set_option maxHeartbeats 4000000 in
theorem back_walk (v : Nat) (n : Int) (w : World) (hg : Laid w) (hv : v < 18446744073709551616) (hn : -9223372036854775808 ≤ n ∧ n ≤ 9223372036854775807) : Calls Tryd.prog 5 #[.int .u64 v, .int .i64 n] w fun e w' => e = .returned (.bool true) ∧ New w w' := by
  obtain ⟨k, hk1, hk2⟩ := within_nat n 21 (by omega)
  have hw := fun w => within_any n 21 w (by omega) (by omega) hn.1 hn.2
  rw [hk1] at hw
  have hp := fun w => print_any v w hv
  obtain ⟨s, hs, h0, hs20, hdec, hfold, hhead⟩ := digs_all v hv
  rw [hs] at hp
  have hps := fun w => parse_any s w (max_le (by omega))
  have hbl := bytes_len s
  rw [parse_ok hdec (fun e => by rw [e] at hbl; simp at hbl; omega) (by omega) (by omega), hfold] at hps
  have hbn := noughts k s (by omega)
  have hdec2 : ∀ c ∈ List.replicate k 48 ++ bytesOf s, 48 ≤ c ∧ c ≤ 57 := by
    intro c hc
    rcases List.mem_append.1 hc with hc | hc
    · have := (List.mem_replicate.1 hc).2; omega
    · exact hdec c hc
  have hf2 := fold_noughts (bytesOf s) k
  rw [hfold] at hf2
  have HBN := Lib.hid hbn
  have HDEC := Lib.hid hdec2
  have HF2 := Lib.hid hf2
  have HW := Lib.hid hw
  have HP := Lib.hid hp
  have HPS := Lib.hid hps
  have HBL := Lib.hid hbl
  have HG := Lib.hid hg
  have hcase : (((s[0].toNat : Int) == 48) = true ∧ ((v : Int) != 0) = false) ∨ ((s[0].toNat : Int) == 48) = false := by
    rw [beq_iff_eq, beq_eq_false_iff_ne, bne_eq_false_iff_eq]; omega
  have t0 : ((v : Int) != (v : Int)) = false := by simp
  have t9 : ((v : Int) == (v : Int)) = true := by simp
  clear hw hp hps hbn hdec2 hf2 hbl hdec hfold hhead hs hk1 hg
  rcases hcase with ⟨t1, t2⟩ | t1
  all_goals
    go_enter Tryd.func5, Tryd.ntmps5
    go_wp2_with fail
    refine (HP.out _).mono ?_
    rintro e w1 ⟨rfl, hn1⟩
    have HN1 := Lib.hid hn1
    clear hn1
    go_wp2_with fail
    refine (HW.out _).mono ?_
    rintro e w' ⟨rfl, rfl⟩
    go_wp2_with fail
    obtain ⟨T, hT⟩ : ∃ T, (⟨#[48, 48, 48, 48, 48, 48, 48, 48, 48, 48, 48, 48, 48, 48, 48, 48, 48, 48, 48, 48]⟩ : ByteArray).extract 0 k ++ s = T := ⟨_, rfl⟩
    have hbT : bytesOf T = List.replicate k 48 ++ bytesOf s := by rw [← hT]; exact HBN.out
    have hTs : T.size = k + s.size := by rw [← bytes_len T, hbT, List.length_append, List.length_replicate, HBL.out]
    rw [hT]
    rcases (show 20 < T.size ∨ T.size ≤ 20 by omega) with h20 | h20
    · have hpt := fun w => parse_any T w (max_le (by omega))
      rw [hbT, parse_long HDEC.out (by rw [← hbT, bytes_len]; exact h20) (by rw [HF2.out]; omega)] at hpt
      have HPT := Lib.hid hpt
      clear hpt hT hbT hTs
      refine (HPS.out _).mono ?_
      rintro e w2 ⟨x, rfl, hx, hn2⟩
      obtain rfl : x = .nilIface := hx
      have HN2 := Lib.hid (HN1.out.trans hn2)
      clear hn2
      go_wp2_with fail
      refine (HPT.out _).mono ?_
      rintro e w3 ⟨x, rfl, hx, hn3⟩
      obtain ⟨eb, rfl⟩ := Says.at hx
      have HN3 := Lib.hid (HN2.out.trans hn3)
      clear hn3 hx
      go_wp2_with fail
      refine (awake_any _ (HG.out.keep HN3.out id)).mono ?_
      rintro e w4 ⟨rfl, hn4⟩
      have HN4 := Lib.hid (HN3.out.trans hn4)
      clear hn4
      go_wp2
      go_ret
      exact ⟨rfl, HN4.out⟩
    · have hpt := fun w => parse_any T w (max_le (by omega))
      rw [hbT, parse_ok HDEC.out (fun e => by have h1 := congrArg List.length e; rw [← hbT, bytes_len, hTs] at h1; simp only [List.length_nil] at h1; omega) (by rw [← hbT, bytes_len]; exact h20) (by rw [HF2.out]; omega), HF2.out] at hpt
      have HPT := Lib.hid hpt
      clear hpt hT hbT hTs
      refine (HPS.out _).mono ?_
      rintro e w2 ⟨x, rfl, hx, hn2⟩
      obtain rfl : x = .nilIface := hx
      have HN2 := Lib.hid (HN1.out.trans hn2)
      clear hn2
      go_wp2_with fail
      refine (HPT.out _).mono ?_
      rintro e w3 ⟨x, rfl, hx, hn3⟩
      obtain rfl : x = .nilIface := hx
      have HN3 := Lib.hid (HN2.out.trans hn3)
      clear hn3
      go_wp2_with fail
      refine (awake_any _ (HG.out.keep HN3.out id)).mono ?_
      rintro e w4 ⟨rfl, hn4⟩
      have HN4 := Lib.hid (HN3.out.trans hn4)
      clear hn4
      go_wp2
      go_ret
      exact ⟨rfl, HN4.out⟩

end Go.Proofs.YtnnilcadmakamaaDoor
