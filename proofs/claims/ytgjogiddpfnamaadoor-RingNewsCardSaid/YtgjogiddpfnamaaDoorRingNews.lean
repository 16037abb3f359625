/- Which bounds a ring may have: the statement's walk. -/
import Derived.Test.YtgjogiddpfnamaaDoorRingE
namespace Go.Proofs.YtgjogiddpfnamaaDoor
open Go.RowKit Go.Shelf

def upTo (n k : Nat) : List Nat := (List.range n).map fun j => if j < k then j else 0
theorem upTo_len (n k : Nat) : (upTo n k).length = n := by simp [upTo]
theorem upTo_zero (n : Nat) : upTo n 0 = List.replicate n 0 := by
  unfold upTo
  apply List.ext_getElem?
  intro j
  by_cases h : j < n <;> simp [h]
theorem upTo_set (n k : Nat) (h : k < n) : (upTo n k).set ((0 + k) % (upTo n k).length) k = upTo n (k + 1) := by
  rw [upTo_len, Nat.zero_add, Nat.mod_eq_of_lt h]
  apply List.ext_getElem?
  intro j
  by_cases e : k = j
  · subst e; rw [List.getElem?_set_self (by rw [upTo_len]; exact h)]; simp [upTo, h]
  · rw [List.getElem?_set_ne e]
    by_cases hj : j < n
    · simp only [upTo, List.getElem?_map, List.getElem?_range hj, Option.map_some]
      by_cases h1 : j < k
      · rw [if_pos h1, if_pos (by omega)]
      · rw [if_neg h1, if_neg (by omega)]
    · rw [List.getElem?_eq_none (by rw [upTo_len]; omega), List.getElem?_eq_none (by rw [upTo_len]; omega)]
theorem upTo_first (n k : Nat) : (upTo n k).getD 0 0 = 0 := by
  unfold upTo
  cases n with
  | zero => rfl
  | succ n => simp [List.range_succ_eq_map]

set_option maxRecDepth 100000 in
set_option maxHeartbeats 2000000 in
theorem news_bad (n : Int) (w : World) (hg : Laid w) (hn : n < 1 ∨ 4096 < n) :
    Calls Tryd.prog 3 #[.int .i64 n] w fun e w' => e = .returned (.bool true) ∧ New w w' := by
  have HG := Lib.hid hg
  clear hg
  rcases hn with hn | hn
  all_goals
    go_enter Tryd.func3, Tryd.ntmps3
    go_wp2_with fail
    refine (new_bad n _ (by omega)).mono ?_
    rintro e w1 ⟨eb, rfl, he, hn1⟩
    have HE := Lib.hid (he.says (by omega) (by omega))
    have HN1 := Lib.hid hn1
    clear he hn1
    go_wp2_with fail
    refine (no_any ringS 0 1 _).mono ?_
    rintro e w3 ⟨f, rfl, hf, hn3⟩
    have HSM := Lib.hid (same_says _ f ringS (some (0, 1)) w3 (HG.out.keep (HN1.out.trans hn3) id) (HE.out.new hn3) hf)
    have HN3 := Lib.hid (HN1.out.trans hn3)
    clear hf hn3
    go_wp2_with fail
    refine HSM.out.mono ?_
    rintro e w4 ⟨rfl, hn4⟩
    have HN4 := Lib.hid (HN3.out.trans hn4)
    clear hn4
    go_wp2_with fail
    refine (awake_any _ (HG.out.keep HN4.out id)).mono ?_
    rintro e w6 ⟨rfl, hn6⟩
    have HN6 := Lib.hid (HN4.out.trans hn6)
    clear hn6
    go_wp2
    go_ret
    exact ⟨rfl, HN6.out⟩

set_option maxRecDepth 100000 in
set_option maxHeartbeats 2000000 in
theorem news_ok (n : Nat) (w : World) (hg : Laid w) (h1 : 1 ≤ n) (h2 : n ≤ 4096) :
    Calls Tryd.prog 3 #[.int .i64 n] w fun e w' => e = .returned (.bool true) ∧ New w w' := by
  have HG := Lib.hid hg
  clear hg
  go_enter Tryd.func3, Tryd.ntmps3
  go_wp2_with fail
  refine (new_any n _ h1 h2).mono ?_
  rintro e w1 ⟨b, lb, rfl, hb, hlb, hr, hn1⟩
  have HR := Lib.hid hr
  have HN := Lib.hid hn1
  clear hr hn1
  go_wp2_with fail
  refine (len_any b lb _ 0 0 w1 HR.out).mono ?_
  rintro e w2 ⟨rfl, hn2⟩
  have hr2 := HR.out.keep hn2 id id
  rw [← upTo_zero] at hr2
  have HR2 := Lib.hid hr2
  have HN2 := Lib.hid (HN.out.trans hn2)
  clear hr2 hn2 HR HN
  rw [show (((0 : Nat)) : Int) = 0 from rfl]
  go_wp2_with fail
  go_loopw [5] (fun i wr => ∃ k : Nat, k ≤ n ∧ i = .int .i64 k ∧ RingRep wr b lb (upTo n k) 0 k ∧ New w wr) (fun i _ => n - (intOf i).toNat)
  case atStart => exact ⟨0, by omega, rfl, HR2.out, HN2.out⟩
  case round =>
    obtain ⟨k, hk, rfl, hrk, hnk⟩ := hrel
    have HRK := Lib.hid hrk
    have HNK := Lib.hid hnk
    clear hrk hnk
    by_cases hlt : k < n
    · have HM := Lib.hid (put_ok b lb (upTo n k) 0 k k wr HRK.out (by rw [upTo_len]; exact hlt) (by omega))
      go_wp2_with fail
      refine HM.out.mono ?_
      rintro e w3 ⟨rfl, hr3, hf3⟩
      rw [upTo_set n k hlt] at hr3
      have HR3 := Lib.hid hr3
      have HN3 := Lib.hid (HNK.out.then hf3 (fun i hi e => by unfold inRing at e; omega))
      clear hr3 hf3
      go_wp2_with fail
      go_roundw
      case rel => exact ⟨k + 1, by omega, by go_num, HR3.out, HN3.out⟩
      case measure => simp [intOf]; omega
    · obtain rfl : k = n := by omega
      obtain ⟨m, rfl⟩ : ∃ m, k = m + 1 := ⟨k - 1, by omega⟩
      have HT := Lib.hid (take_ok b lb (upTo (m + 1) (m + 1)) 0 m wr HRK.out)
      go_wp2_with fail
      refine HT.out.mono ?_
      rintro e w3 ⟨rfl, hr3, hf3⟩
      rw [upTo_first, show (((0 : Nat)) : Int) = 0 from rfl]
      have HR3 := Lib.hid hr3
      have HN3 := Lib.hid (HNK.out.then hf3 (fun i hi e => by unfold inRing at e; omega))
      clear hr3 hf3 HT HRK HNK
      obtain ⟨f, hf⟩ : ∃ f, (0 + 1) % (upTo (m + 1) (m + 1)).length = f := ⟨_, rfl⟩
      rw [hf] at HR3
      clear hf
      go_wp2_with fail
      refine (put_ok b lb (upTo (m + 1) (m + 1)) f m 9 w3 HR3.out (by rw [upTo_len]; omega) (by omega)).mono ?_
      rintro e w4 ⟨rfl, hr4, hf4⟩
      obtain ⟨cs, hcs⟩ : ∃ cs, (upTo (m + 1) (m + 1)).set ((f + m) % (upTo (m + 1) (m + 1)).length) 9 = cs := ⟨_, rfl⟩
      have hlen : cs.length = m + 1 := by rw [← hcs, List.length_set, upTo_len]
      rw [hcs] at hr4
      have HR4 := Lib.hid hr4
      have HL := Lib.hid hlen
      have HN4 := Lib.hid (HN3.out.then hf4 (fun i hi e => by unfold inRing at e; omega))
      clear hr4 hf4 hcs hlen HR3 HN3
      go_wp2_with fail
      refine (put_full b lb cs f (m + 1) 9 w4 HR4.out HL.out.symm).mono ?_
      rintro e w5 ⟨eb, rfl, he, hn5⟩
      have HE := Lib.hid (he.says (by omega) (by omega))
      have HR5 := Lib.hid (HR4.out.keep hn5 id id)
      have HN5 := Lib.hid (HN4.out.trans hn5)
      clear he hn5 HR4 HN4
      go_wp2_with fail
      refine (no_any ringS 0 3 _).mono ?_
      rintro e w6 ⟨f', rfl, hf, hn6⟩
      have HSM := Lib.hid (same_says _ f' ringS (some (0, 3)) w6 (HG.out.keep (HN5.out.trans hn6) id) (HE.out.new hn6) hf)
      have HR6 := Lib.hid (HR5.out.keep hn6 id id)
      have HN6 := Lib.hid (HN5.out.trans hn6)
      clear hf hn6 HR5 HN5 HE
      go_wp2_with fail
      refine HSM.out.mono ?_
      rintro e w7 ⟨rfl, hn7⟩
      have HR7 := Lib.hid (HR6.out.keep hn7 id id)
      have HN7 := Lib.hid (HN6.out.trans hn7)
      clear hn7 HR6 HN6 HSM
      go_wp2_with fail
      refine (len_any b lb cs f (m + 1) w7 HR7.out).mono ?_
      rintro e w8 ⟨rfl, hn8⟩
      have HN8 := Lib.hid (HN7.out.trans hn8)
      clear hn8 HR7 HN7
      have t1 : (((m : Int) + 1) == ((m : Int) + 1)) = true := by simp
      go_wp2_with fail
      refine (awake_any _ (HG.out.keep HN8.out id)).mono ?_
      rintro e w9 ⟨rfl, hn9⟩
      have HN9 := Lib.hid (HN8.out.trans hn9)
      clear hn9
      go_wp2
      go_ret
      exact ⟨rfl, HN9.out⟩

theorem news_walk (n : Int) (w : World) (hg : Laid w) :
    Calls Tryd.prog 3 #[.int .i64 n] w fun e w' => e = .returned (.bool true) ∧ New w w' := by
  by_cases h : n < 1 ∨ 4096 < n
  · exact news_bad n w hg h
  · obtain ⟨m, rfl⟩ : ∃ m : Nat, n = m := ⟨n.toNat, by omega⟩
    exact news_ok m w hg (by omega) (by omega)

end Go.Proofs.YtgjogiddpfnamaaDoor
