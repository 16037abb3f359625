/- How many places there may be: the statement's walk. -/
import Derived.Test.YtpfkfajgbaakoaaDoorTabI
namespace Go.Proofs.YtpfkfajgbaakoaaDoor
open Go.RowKit

theorem free_at {l : List TR} {p : Nat} {r : TR} (hp : l[p]? = some r) (ht : r.taken = false) (hq : ∀ q x, q < p → l[q]? = some x → x.taken = true) : freeAt l = some p := by
  rcases free_cases l with ⟨_, h2⟩ | ⟨q, x, h1, h2, h3, h4⟩
  · rw [h2 r (List.mem_of_getElem? hp)] at ht; cases ht
  · rcases Nat.lt_trichotomy p q with h | h | h
    · rw [h4 p r h hp] at ht; cases ht
    · rw [h1, h]
    · rw [hq q x h h2] at h3; cases h3
theorem free_no {l : List TR} (h : ∀ r ∈ l, r.taken = true) : freeAt l = none := by
  rcases free_cases l with ⟨h1, _⟩ | ⟨q, x, _, h2, h3, _⟩
  · exact h1
  · rw [h x (List.mem_of_getElem? h2)] at h3; cases h3
def bornN (j : Nat) : TR := ⟨1, true, false, 64 + j, 1, j, 0, 0, false, false⟩
def rowsN (n i : Nat) : List TR := (List.range n).map fun j => if j < i then bornN j else noneR
theorem rowsN_zero (n : Nat) : rowsN n 0 = List.replicate n noneR := by
  unfold rowsN
  apply List.ext_getElem?
  intro j
  by_cases h : j < n
  · simp [h]
  · simp [h]
theorem rowsN_len (n i : Nat) : (rowsN n i).length = n := by simp [rowsN]
theorem rowsN_get (n i : Nat) (h : i < n) : (rowsN n i)[i]? = some noneR := by simp [rowsN, h]
theorem rowsN_lt (n i q : Nat) (r : TR) (hq : q < i) (h : (rowsN n i)[q]? = some r) : r.taken = true := by
  have hl : q < n := by have := (List.getElem?_eq_some_iff.1 h).1; rwa [rowsN_len] at this
  simp [rowsN, hl, hq] at h
  subst h; rfl
theorem rowsN_free (n i : Nat) (h : i < n) : freeAt (rowsN n i) = some i := free_at (rowsN_get n i h) rfl (fun q x hq hx => rowsN_lt n i q x hq hx)
theorem rowsN_small (n i : Nat) : ∀ r ∈ rowsN n i, r.times < 999999 := by
  intro r hr
  simp only [rowsN, List.mem_map] at hr
  obtain ⟨j, _, rfl⟩ := hr
  split <;> simp [bornN, noneR]
theorem rowsN_succ (n i home : Nat) (h : i < n) (hh : home = i) : bornL (rowsN n i) home = rowsN n (i + 1) := by
  subst hh
  unfold bornL
  simp only [rowsN_free n home h, rowsN_get n home h, Option.getD_some]
  apply List.ext_getElem?
  intro q
  by_cases hq : q < n
  · by_cases e : home = q
    · subst e; simp [rowsN, hq, bornR, bornN, noneR]; omega
    · rw [List.getElem?_set_ne e]; simp only [rowsN, List.getElem?_map, List.getElem?_range hq, Option.map_some]
      by_cases h1 : q < home
      · rw [if_pos h1, if_pos (by omega)]
      · rw [if_neg h1, if_neg (by omega)]
  · rw [List.getElem?_eq_none (by rw [List.length_set, rowsN_len]; omega), List.getElem?_eq_none (by rw [rowsN_len]; omega)]
theorem rowsN_id (n i : Nat) (h : i < n) : bornI (rowsN n i) = 64 + i := by
  unfold bornI
  simp only [rowsN_free n i h, rowsN_get n i h, Option.elim_some, noneR]; omega
theorem rowsN_err (n i : Nat) (h : i < n) : bornE (rowsN n i) = none := by
  unfold bornE; rw [rowsN_free n i h]
theorem rowsN_all (n : Nat) : ∀ r ∈ rowsN n n, r.taken = true := by
  intro r hr
  obtain ⟨q, hq⟩ := List.mem_iff_getElem?.1 hr
  have hl : q < n := by have := (List.getElem?_eq_some_iff.1 hq).1; rwa [rowsN_len] at this
  exact rowsN_lt n n q r hl hq
theorem rowsN_live (n : Nat) : (live (rowsN n n)).length = n := by
  unfold live
  rw [List.filter_eq_self.2 (rowsN_all n), rowsN_len]
theorem rowsN_live0 (n : Nat) : (live (rowsN n 0)).length = 0 := by
  rw [rowsN_zero]
  unfold live
  rw [List.length_eq_zero_iff, List.filter_eq_nil_iff]
  intro r hr
  rw [(List.mem_replicate.1 hr).2]; simp [noneR]

set_option maxRecDepth 100000 in
set_option maxHeartbeats 2000000 in
theorem news_bad (n : Int) (w : World) (hg : Laid w) (hn : n < 1 ∨ 64 < n) :
    Calls Tryd.prog 3 #[.int .i64 n] w fun e w' => e = .returned (.bool true) ∧ New w w' := by
  have HG := Lib.hid hg
  clear hg
  rcases hn with hn | hn
  all_goals
    go_enter Tryd.func3, Tryd.ntmps3
    go_wp2_with fail
    refine (new_bad n _ (by omega)).mono ?_
    rintro e w1 ⟨v, rfl, he, hn1⟩
    have HE := Lib.hid he
    have HN1 := Lib.hid hn1
    clear he hn1
    go_wp2_with fail
    refine (no_says tabL 0 1 _).mono ?_
    rintro e w3 ⟨f, rfl, hf, hn3⟩
    have HSM := Lib.hid (same_says v f tabL _ _ (HG.out.keep (HN1.out.trans hn3) id) (HE.out.new hn3) hf)
    have HN3 := Lib.hid (HN1.out.trans hn3)
    clear hf hn3 HE HN1
    go_wp2_with fail
    refine HSM.out.mono ?_
    rintro e w4 ⟨rfl, hn4⟩
    have HN4 := Lib.hid (HN3.out.trans hn4)
    clear hn4
    go_wp2_with fail
    refine (awake_any _ (HG.out.keep HN4.out id)).mono ?_
    rintro e w6 ⟨rfl, hn6⟩
    go_wp2
    go_ret
    exact ⟨rfl, HN4.out.trans hn6⟩

set_option maxRecDepth 100000 in
set_option maxHeartbeats 2000000 in
theorem news_ok (n : Nat) (w : World) (hg : Laid w) (h1 : 1 ≤ n) (h2 : n ≤ 64) :
    Calls Tryd.prog 3 #[.int .i64 n] w fun e w' => e = .returned (.bool true) ∧ New w w' := by
  have HG := Lib.hid hg
  clear hg
  go_enter Tryd.func3, Tryd.ntmps3
  go_wp2_with fail
  refine (tb_new n _ h1 h2).mono ?_
  rintro e w1 ⟨b, rb, rfl, t1⟩
  rw [← rowsN_zero] at t1
  have T1 := Lib.hid t1
  clear t1
  go_wp2_with fail
  refine (pall_any b rb _ _ T1.out.p).mono ?_
  rintro e w2 ⟨vl, rfl, hw, hn⟩
  rw [rowsN_live0] at hw
  obtain ⟨al, cl, rfl, _⟩ := owned_form hw
  have T2 := Lib.hid (T1.out.new hn)
  clear hw hn T1
  go_wp2_with fail
  go_loopw [5] (fun i wr => ∃ k : Nat, k ≤ n ∧ i = .int .i64 k ∧ Tb w wr b rb (rowsN n k)) (fun i _ => n - (intOf i).toNat)
  case atStart => exact ⟨0, by omega, rfl, T2.out⟩
  case round =>
    clear T2
    obtain ⟨k, hk, rfl, tk⟩ := hrel
    have TK := Lib.hid tk
    clear tk
    by_cases hlt : k < n
    · have HB := Lib.hid (TK.out.born (rowsN_small n k) (i := 64 + k) (l' := rowsN n (k + 1)) (home := k) (rowsN_id n k hlt) (rowsN_err n k hlt) (rowsN_succ n k k hlt rfl))
      go_wp2_with fail
      refine HB.out.mono ?_
      rintro e w3 ⟨rfl, t3⟩
      have T3 := Lib.hid t3
      clear t3 HB
      go_wp2
      go_roundw
      case rel => exact ⟨k + 1, by omega, by go_num, T3.out⟩
      case measure => simp [intOf]; omega
    · obtain rfl : k = n := by omega
      have HT := Lib.hid (rowsN_live k)
      go_wp2_with fail
      refine (TK.out.full (rowsN_small k k) (home := 1) (free_no (rowsN_all k))).mono ?_
      rintro e w2 ⟨v, rfl, he, t2⟩
      have HE := Lib.hid he
      have T2 := Lib.hid t2
      clear he t2 TK
      go_wp2_with fail
      refine (no_says tabL 0 3 _).mono ?_
      rintro e w3 ⟨f, rfl, hf, hn3⟩
      have T3 := Lib.hid (T2.out.new hn3)
      have HSM := Lib.hid (same_says v f tabL _ _ (laid_tb HG.out T3.out) (HE.out.new hn3) hf)
      clear hf hn3 HE T2
      go_wp2_with fail
      refine HSM.out.mono ?_
      rintro e w4 ⟨rfl, hn4⟩
      have T4 := Lib.hid (T3.out.new hn4)
      clear hn4 T3
      go_wp2_with fail
      refine (pall_any b rb _ _ T4.out.p).mono ?_
      rintro e w5 ⟨vl, rfl, hw, hn⟩
      rw [HT.out] at hw
      obtain ⟨al, cl, rfl, _⟩ := owned_form hw
      have T5 := Lib.hid (T4.out.new hn)
      have tt : ((k : Int) == (k : Int)) = true := by simp
      clear hw hn T4
      go_wp2_with fail
      refine (awake_any _ (laid_tb HG.out T5.out)).mono ?_
      rintro e w6 ⟨rfl, hn6⟩
      go_wp2
      go_ret
      exact ⟨rfl, T5.out.n.trans hn6⟩

theorem news_walk (n : Int) (w : World) (hg : Laid w) :
    Calls Tryd.prog 3 #[.int .i64 n] w fun e w' => e = .returned (.bool true) ∧ New w w' := by
  by_cases h : n < 1 ∨ 64 < n
  · exact news_bad n w hg h
  · obtain ⟨m, rfl⟩ : ∃ m : Nat, n = m := ⟨n.toNat, by omega⟩
    exact news_ok m w hg (by omega) (by omega)

end Go.Proofs.YtpfkfajgbaakoaaDoor
