/- A code is right just if each of its instructions is: the statement's walk. -/
import Derived.Test.YtkpliapmllabaaaDoorCodeW
namespace Go.Proofs.YtkpliapmllabaaaDoor
open Go.RowKit

/-- The first place whose instruction may not be, as the statement keeps it: -1, none yet. -/
def fstNo (n : Int) (lib : Bool) (rs : List (List Int)) (k : Nat) : Int := match (rs.take k).findIdx? fun r => !mayL n lib r with | some i => (i : Int) | none => -1
def allOk (n : Int) (lib : Bool) (rs : List (List Int)) (k : Nat) : Bool := (rs.take k).all fun r => mayL n lib r
theorem take_snoc' {rs : List (List Int)} {k : Nat} (h : k < rs.length) : rs.take (k + 1) = rs.take k ++ [rs[k]] := by
  rw [List.take_add_one, List.getElem?_eq_getElem h]; rfl
theorem allOk_succ (n : Int) (lib : Bool) {rs : List (List Int)} {k : Nat} (h : k < rs.length) : allOk n lib rs (k + 1) = (allOk n lib rs k && mayL n lib rs[k]) := by
  unfold allOk; rw [take_snoc' h, List.all_append]; simp
theorem fst_none {n : Int} {lib : Bool} {rs : List (List Int)} {k : Nat} : allOk n lib rs k = true ↔ (rs.take k).findIdx? (fun r => !mayL n lib r) = none := by
  unfold allOk
  rw [List.findIdx?_eq_none_iff, List.all_eq_true]
  simp
theorem fstNo_neg {n : Int} {lib : Bool} {rs : List (List Int)} {k : Nat} : fstNo n lib rs k < 0 ↔ allOk n lib rs k = true := by
  rw [fst_none]
  unfold fstNo
  cases h : (rs.take k).findIdx? fun r => !mayL n lib r with
  | none => simp
  | some i => simp
theorem fstNo_succ (n : Int) (lib : Bool) {rs : List (List Int)} {k : Nat} (h : k < rs.length) : fstNo n lib rs (k + 1) = if mayL n lib rs[k] = false ∧ allOk n lib rs k = true then (k : Int) else fstNo n lib rs k := by
  unfold fstNo
  rw [take_snoc' h, List.findIdx?_append]
  by_cases ha : allOk n lib rs k = true
  · rw [fst_none.1 ha]
    have hl : (rs.take k).length = k := by rw [List.length_take]; omega
    cases hm : mayL n lib rs[k] with
    | true => simp [hm]
    | false => simp [hm, ha, hl]
  · rw [if_neg (fun h => ha h.2)]
    cases hf : (rs.take k).findIdx? fun r => !mayL n lib r with
    | none => exact absurd (fst_none.2 hf) ha
    | some i => simp
theorem firstNo_find (n : Int) (lib : Bool) : ∀ (rs : List (List Int)) (i : Nat), firstNo n lib rs i = (rs.findIdx? fun r => !mayL n lib r).map fun j => (((i + j : Nat) : Int), 5)
  | [], i => rfl
  | r :: l, i => by
    unfold firstNo
    rw [List.findIdx?_cons, firstNo_find n lib l (i + 1)]
    cases mayL n lib r with
    | true =>
      simp only [if_true, Bool.not_true, Bool.false_eq_true, if_false, Option.map_map]
      congr 1; funext j; simp only [Function.comp]; congr 2; omega
    | false => simp
theorem check_each {lib : Bool} {rs : List (List Int)} (h : rs.length ≤ 2048) : checkErr rs lib = if allOk rs.length lib rs rs.length = true then none else some (fstNo rs.length lib rs rs.length, 5) := by
  unfold checkErr
  rw [if_neg (by omega), firstNo_find]
  by_cases ha : allOk rs.length lib rs rs.length = true
  · rw [if_pos ha]
    have := fst_none.1 ha
    rw [List.take_length] at this
    rw [this]; rfl
  · rw [if_neg ha]
    unfold fstNo
    rw [List.take_length]
    cases hf : rs.findIdx? fun r => !mayL rs.length lib r with
    | none => exact absurd (fst_none.2 (by rw [List.take_length]; exact hf)) ha
    | some i => simp

set_option maxRecDepth 100000 in
set_option maxHeartbeats 4000000 in
theorem each_walk (rs : List (List Int)) (ao : Option Addr) (ca : Nat) (lib : Bool) (w : World) (hg : Laid w) (hfit : ∀ r ∈ rs, RecOk insKs r) (ha : Recs insKs w ao rs) (hm : rs.length * 56 ≤ 140737488355328) :
    Calls Tryd.prog 5 #[.slice ao rs.length ca, .bool lib] w fun e w' => e = .returned (.bool true) ∧ New w w' := by
  obtain ⟨L, hL⟩ : ∃ L, rs.length = L := ⟨_, rfl⟩
  by_cases hbig : L = 0 ∨ 60 < L
  · rw [hL] at hm ⊢
    have HG := Lib.hid hg
    clear hg ha hfit hL
    rcases hbig with rfl | hbig
    · go_enter Tryd.func5, Tryd.ntmps5
      go_wp2_with fail
      refine (awake_any _ HG.out).mono ?_
      rintro e w1 ⟨rfl, hn1⟩
      have HN := Lib.hid hn1
      clear hn1
      go_wp2
      go_ret
      exact ⟨rfl, HN.out⟩
    · have t0 : ((L : Int) == 0) = false := by rw [beq_eq_false_iff_ne]; omega
      go_enter Tryd.func5, Tryd.ntmps5
      go_wp2_with fail
      refine (awake_any _ HG.out).mono ?_
      rintro e w1 ⟨rfl, hn1⟩
      have HN := Lib.hid hn1
      clear hn1
      go_wp2
      go_ret
      exact ⟨rfl, HN.out⟩
  have hl1 : 1 ≤ L := by omega
  have hl2 : L ≤ 60 := by omega
  have t0 : ((L : Int) == 0) = false := by rw [beq_eq_false_iff_ne]; omega
  have hcp := fun w' (n : New w w') => copy_any rs ao ca w' hfit (ha.keep n) hm
  have hck := fun (bo : Option Addr) (cb : Nat) (w : World) (hb : Recs insKs w bo rs) => check_any rs bo cb lib w hfit hb (by omega)
  rw [check_each (by omega)] at hck
  rw [hL] at hcp hck hm ⊢
  have HCP := Lib.hid hcp
  have HCK := Lib.hid hck
  have HG := Lib.hid hg
  have HA := Lib.hid ha
  have HFIT := Lib.hid hfit
  have HL := Lib.hid hL
  clear hbig hg ha hfit hcp hck hL
  go_enter Tryd.func5, Tryd.ntmps5
  go_wp2_with fail
  go_loopw [5, 6, 7] (fun al fi i wr => ∃ k : Nat, k ≤ L ∧ i = .int .i64 k ∧ al = .bool (allOk L lib rs k) ∧ fi = .int .i64 (fstNo L lib rs k) ∧ New w wr) (fun _ _ i _ => L - (intOf i).toNat)
  case atStart => exact ⟨0, by omega, rfl, rfl, rfl, Fr.refl _ _⟩
  case round =>
    obtain ⟨k, hk, rfl, rfl, rfl, hn⟩ := hrel
    have HN := Lib.hid hn
    by_cases hlt : k < L
    · have hkr : k < rs.length := by rw [HL.out]; exact hlt
      obtain ⟨o, A, B, C, V, M, W, g, off, e0, rfl, hg1, hV, c0, c1, c2, c3, c4, c5, c6⟩ := ins_at (k := k) (HA.out.keep hn) HFIT.out hkr
      have hr1 := fun w => right1_any o A B C M W V L lib w (by rw [← e0]; exact HFIT.out _ (List.getElem_mem hkr)) hl1 (by omega)
      have h1 := allOk_succ L lib hkr
      have h2 := fstNo_succ L lib hkr
      have h3 := @fstNo_neg L lib rs k
      rw [e0, show mayL (L : Int) lib [o, A, B, C, (V : Int), M, W] = mayB o A B C V M W L lib from rfl] at h1 h2
      obtain ⟨ok, hok⟩ : ∃ ok, mayB o A B C V M W L lib = ok := ⟨_, rfl⟩
      obtain ⟨al, hal⟩ : ∃ al, allOk L lib rs k = al := ⟨_, rfl⟩
      obtain ⟨fi, hfi⟩ : ∃ fi, fstNo L lib rs k = fi := ⟨_, rfl⟩
      rw [hok] at hr1 h1 h2
      rw [hal] at h1 h2 h3 ⊢
      rw [hfi] at h2 h3 ⊢
      have HR1 := Lib.hid hr1
      have H1 := Lib.hid h1
      have H2 := Lib.hid h2
      have H3 := Lib.hid h3
      clear hr1 h1 h2 h3 hok hal hfi hn e0 hkr
      cases ok with
      | true =>
        cases al
        all_goals
          go_wp2_with fail
          refine (HR1.out _).mono ?_
          rintro e w2 ⟨rfl, hn2⟩
          have HN2 := Lib.hid (HN.out.trans hn2)
          clear hn2
          go_wp2_with fail
          go_roundw
          case rel => exact ⟨k + 1, by omega, by go_num, by rw [H1.out]; rfl, by rw [H2.out, if_neg (by simp)], HN2.out⟩
          case measure => simp [intOf]; omega
      | false =>
        cases al with
        | true =>
          have q1 : fi < 0 := H3.out.2 rfl
          have q2 : decide (fi < 0) = true := by simpa using q1
          go_wp2_with fail
          refine (HR1.out _).mono ?_
          rintro e w2 ⟨rfl, hn2⟩
          have HN2 := Lib.hid (HN.out.trans hn2)
          clear hn2
          go_wp2_with fail
          go_roundw
          case rel => exact ⟨k + 1, by omega, by go_num, by rw [H1.out]; rfl, by rw [H2.out, if_pos (by simp)], HN2.out⟩
          case measure => simp [intOf]; omega
        | false =>
          have q1 : ¬ fi < 0 := fun h => by have := H3.out.1 h; cases this
          have q2 : decide (fi < 0) = false := by simpa using q1
          go_wp2_with fail
          refine (HR1.out _).mono ?_
          rintro e w2 ⟨rfl, hn2⟩
          have HN2 := Lib.hid (HN.out.trans hn2)
          clear hn2
          go_wp2_with fail
          go_roundw
          case rel => exact ⟨k + 1, by omega, by go_num, by rw [H1.out]; rfl, by rw [H2.out, if_neg (by simp)], HN2.out⟩
          case measure => simp [intOf]; omega
    · obtain rfl : L = k := by omega
      obtain ⟨al, hal⟩ : ∃ al, allOk L lib rs L = al := ⟨_, rfl⟩
      obtain ⟨fi, hfi⟩ : ∃ fi, fstNo L lib rs L = fi := ⟨_, rfl⟩
      have hck := HCK.out
      rw [hal, hfi] at hck
      rw [hal, hfi]
      have HCK2 := Lib.hid hck
      clear hck hal hfi HCK hn
      go_wp2_with fail
      refine (HCP.out _ HN.out).mono ?_
      rintro e w2 ⟨bo, cb, rfl, hb, hn2⟩
      have HB := Lib.hid hb
      have HN2 := Lib.hid (HN.out.trans hn2)
      clear hb hn2
      go_wp2_with fail
      refine (HCK2.out _ _ _ HB.out).mono ?_
      rintro e w3 ⟨v, rfl, hv, hn3⟩
      have HN3 := Lib.hid (HN2.out.trans hn3)
      have HV := Lib.hid hv
      clear hv hn3
      cases al with
      | true =>
        obtain rfl : v = .nilIface := HV.out
        go_wp2_with fail
        refine (awake_any _ (HG.out.keep HN3.out id)).mono ?_
        rintro e w6 ⟨rfl, hn6⟩
        have HN6 := Lib.hid (HN3.out.trans hn6)
        clear hn6
        go_wp2
        go_ret
        exact ⟨rfl, HN6.out⟩
      | false =>
        have HV' := Lib.hid (show Says w3 codeL v (some (fi, 5)) from HV.out)
        go_wp2_with fail
        refine (no_any codeL fi 5 _).mono ?_
        rintro e w4 ⟨f, rfl, hf, hn4⟩
        have HSM := Lib.hid (same_says v f codeL (some (fi, 5)) w4 (HG.out.keep (HN3.out.trans hn4) id) (HV'.out.new hn4) hf)
        have HN4 := Lib.hid (HN3.out.trans hn4)
        clear hf hn4
        go_wp2_with fail
        refine HSM.out.mono ?_
        rintro e w5 ⟨rfl, hn5⟩
        have HN5 := Lib.hid (HN4.out.trans hn5)
        clear hn5
        go_wp2_with fail
        refine (awake_any _ (HG.out.keep HN5.out id)).mono ?_
        rintro e w6 ⟨rfl, hn6⟩
        have HN6 := Lib.hid (HN5.out.trans hn6)
        clear hn6
        go_wp2
        go_ret
        exact ⟨rfl, HN6.out⟩

end Go.Proofs.YtkpliapmllabaaaDoor
