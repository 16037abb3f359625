/- How many places there may be: the statement's walk. -/
import Derived.Test.YtincfbgegoefgaaDoorKinds
namespace Go.Proofs.YtincfbgegoefgaaDoor
open Go.RowKit Go.Shelf

def rowsN (n i : Nat) : List Row := (List.range n).map fun j => if j < i then ⟨1, j + 1, 2, j⟩ else ⟨0, 0, 0, 0⟩
theorem rowsN_zero (n : Nat) : rowsN n 0 = List.replicate n ⟨0, 0, 0, 0⟩ := by
  unfold rowsN
  apply List.ext_getElem?
  intro j
  by_cases h : j < n
  · simp [h]
  · simp [h]
theorem rowsN_len (n i : Nat) : (rowsN n i).length = n := by simp [rowsN]
theorem rowsN_get (n i : Nat) (h : i < n) : (rowsN n i)[i]? = some ⟨0, 0, 0, 0⟩ := by simp [rowsN, h]
theorem rowsN_lt (n i q : Nat) (r : Row) (hq : q < i) (h : (rowsN n i)[q]? = some r) : r.handle ≠ 0 := by
  have hl : q < n := by have := (List.getElem?_eq_some_iff.1 h).1; rwa [rowsN_len] at this
  simp [rowsN, hl, hq] at h
  subst h; simp
theorem rowsN_succ (n i : Nat) : (rowsN n i).set i ⟨0 + 1, i + 1 + 64 * 0, 2, i⟩ = rowsN n (i + 1) := by
  apply List.ext_getElem?
  intro q
  by_cases hq : q < n
  · by_cases e : i = q
    · subst e; simp [rowsN, hq]
    · rw [List.getElem?_set_ne e]; simp only [rowsN, List.getElem?_map, List.getElem?_range hq, Option.map_some]
      by_cases h1 : q < i
      · rw [if_pos h1, if_pos (by omega)]
      · rw [if_neg h1, if_neg (by omega)]
  · rw [List.getElem?_eq_none (by rw [List.length_set, rowsN_len]; omega), List.getElem?_eq_none (by rw [rowsN_len]; omega)]
theorem rowsN_all (n : Nat) : ∀ r ∈ rowsN n n, r.handle ≠ 0 := by
  intro r hr
  obtain ⟨q, hq⟩ := List.mem_iff_getElem?.1 hr
  have hl : q < n := by have := (List.getElem?_eq_some_iff.1 hq).1; rwa [rowsN_len] at this
  exact rowsN_lt n n q r hl hq
theorem rowsN_told (n : Nat) : (told (rowsN n n)).length = n := by
  unfold told
  rw [List.length_map, List.filter_eq_self.2 (fun r hr => by have := rowsN_all n r hr; simpa using this), rowsN_len]

set_option maxRecDepth 100000 in
set_option maxHeartbeats 2000000 in
theorem news_bad (n : Int) (w : World) (hg : Laid w) (hn : n < 1 ∨ 64 < n) :
    Calls Tryd.prog 3 #[.int .i64 n] w fun e w' => e = .returned (.bool true) ∧ New w w' := by
  have HG := Lib.hid hg
  clear hg
  rcases hn with hn | hn
  all_goals
    go_enter Tryd.func3, Tryd.ntmps3
    go_wp2_with fail
    refine (new_bad n _ (by omega)).mono ?_
    rintro e w1 ⟨v, rfl, he, hn1⟩
    have HE := Lib.hid he.errIs
    have HN1 := Lib.hid hn1
    clear he hn1
    go_wp2_with fail
    refine (no_any _ _ _ _).mono ?_
    rintro e w3 ⟨f, rfl, hf, hn3⟩
    go_wp2_with fail
    refine (same_1 v f _ _ _ _ (HG.out.keep (HN1.out.trans hn3) id) (HE.out.new hn3) hf (by omega) (by omega)).mono ?_
    rintro e w4 ⟨rfl, hn4⟩
    have HN4 := Lib.hid ((HN1.out.trans hn3).trans hn4)
    clear hf hn3 hn4
    go_wp2_with (go_at_call 10; refine (awake_any _).mono ?_; rintro e w6 ⟨rfl, hn6⟩)
    go_ret
    exact ⟨rfl, HN4.out.trans hn6⟩

set_option maxRecDepth 100000 in
set_option maxHeartbeats 2000000 in
theorem news_ok (n : Nat) (w : World) (hg : Laid w) (h1 : 1 ≤ n) (h2 : n ≤ 64) :
    Calls Tryd.prog 3 #[.int .i64 n] w fun e w' => e = .returned (.bool true) ∧ New w w' := by
  have h0 := lt_of_cell hg
  have HG := Lib.hid hg
  clear hg
  go_enter Tryd.func3, Tryd.ntmps3
  go_wp2_with fail
  refine (new_any n _ h1 h2).mono ?_
  rintro e w1 ⟨b, rb, rfl, hb, hrb, hr, hn1⟩
  rw [← rowsN_zero] at hr
  have HR := Lib.hid hr
  have HN := Lib.hid hn1
  clear hr hn1
  go_wp2_with fail
  go_loopw [5] (fun i wr => ∃ k : Nat, k ≤ n ∧ i = .int .i64 k ∧ ObjRep wr b rb (rowsN n k) ∧ New w wr) (fun i _ => n - (intOf i).toNat)
  case atStart => exact ⟨0, by omega, rfl, HR.out, HN.out⟩
  case round =>
    obtain ⟨k, hk, rfl, hrk, hnk⟩ := hrel
    have HRK := Lib.hid hrk
    have HNK := Lib.hid hnk
    clear hrk hnk
    by_cases hlt : k < n
    · have HM := Lib.hid (make_ok b rb (rowsN n k) 2 k k ⟨0, 0, 0, 0⟩ wr HRK.out (by omega) (by omega) (rowsN_get n k hlt) (by decide) rfl (fun q r h => rowsN_lt n k q r h))
      go_wp2_with (go_at_call 11; refine HM.out.mono ?_; rintro e w2 ⟨rfl, hr2, hf2⟩; rw [rowsN_succ] at hr2; have HR2 := Lib.hid hr2; have HF2 := Lib.hid hf2; clear hr2 hf2)
      go_roundw
      case rel => exact ⟨k + 1, by omega, by go_num, HR2.out, HNK.out.then HF2.out (fun i hi e => by omega)⟩
      case measure => simp [intOf]; omega
    · obtain rfl : k = n := by omega
      have HT := Lib.hid (rowsN_told k)
      go_wp2_with fail
      refine (make_full b rb _ 2 1 _ HRK.out (by omega) (by omega) (rowsN_all k)).mono ?_
      rintro e w2 ⟨v, rfl, he, hn2⟩
      have HE := Lib.hid he.errIs
      have HN2 := Lib.hid (HNK.out.trans hn2)
      have HR2 := Lib.hid (HRK.out.keep hn2 id id)
      clear he hn2
      go_wp2_with fail
      refine (no_any _ _ _ _).mono ?_
      rintro e w3 ⟨f, rfl, hf, hn3⟩
      go_wp2_with fail
      refine (same_1 v f _ _ _ _ (HG.out.keep (HN2.out.trans hn3) id) (HE.out.new hn3) hf (by omega) (by omega)).mono ?_
      rintro e w4 ⟨rfl, hn4⟩
      have HN4 := Lib.hid ((HN2.out.trans hn3).trans hn4)
      have HR4 := Lib.hid ((HR2.out.keep hn3 id id).keep hn4 id id)
      clear hf hn3 hn4
      go_wp2_with fail
      refine (len_any b rb _ _ HR4.out).mono ?_
      rintro e w5 ⟨rfl, hn5⟩
      rw [HT.out]
      go_wp2_with (go_at_call 10; refine (awake_any _).mono ?_; rintro e w6 ⟨rfl, hn6⟩)
      go_ret
      exact ⟨rfl, (HN4.out.trans hn5).trans hn6⟩

theorem news_walk (n : Int) (w : World) (hg : Laid w) :
    Calls Tryd.prog 3 #[.int .i64 n] w fun e w' => e = .returned (.bool true) ∧ New w w' := by
  by_cases h : n < 1 ∨ 64 < n
  · exact news_bad n w hg h
  · obtain ⟨m, rfl⟩ : ∃ m : Nat, n = m := ⟨n.toNat, by omega⟩
    exact news_ok m w hg (by omega) (by omega)

end Go.Proofs.YtincfbgegoefgaaDoor
