/- A library checked: what is wrong ahead of its calls; the document's side. -/
import Derived.Test.YtkpliapmllabaaaDoorLibA
namespace Go.Proofs.YtkpliapmllabaaaDoor
open Go.RowKit

theorem nodup_lt : ∀ (n : Nat) (l : List Nat), l.Nodup → (∀ x ∈ l, x < n) → l.length ≤ n
  | 0, l, _, h => by
    cases l with
    | nil => exact Nat.le_refl _
    | cons a l => exact absurd (h a (List.mem_cons_self ..)) (by omega)
  | n + 1, l, hd, h => by
    by_cases hm : n ∈ l
    · have h1 := nodup_lt n (l.erase n) (hd.erase n) (fun x hx => by
        have hx' := (hd.mem_erase_iff).1 hx
        have := h x hx'.2
        have := hx'.1
        omega)
      rw [List.length_erase_of_mem hm] at h1
      omega
    · have h1 := nodup_lt n l hd (fun x hx => by
        have := h x hx
        have : x ≠ n := fun e => hm (e ▸ hx)
        omega)
      omega
theorem rows_good {L : Int} {l : List Rw} : ∀ q, q ≤ l.length → (∀ j r, j < q → l[j]? = some r → ¬ rowBad L (l.take j) r) → (∀ p ∈ l.take q, 1 ≤ p.num ∧ p.num ≤ 999) ∧ ((l.take q).map fun p => p.num.toNat - 1).Nodup
  | 0, _, _ => by simp
  | q + 1, h, hno => by
    obtain ⟨r, hr⟩ : ∃ r, l[q]? = some r := ⟨l[q]'(by omega), by simp⟩
    obtain ⟨h1, h2⟩ := rows_good (L := L) q (by omega) (fun j r hj => hno j r (by omega))
    have hnb := hno q r (by omega) hr
    unfold rowBad at hnb
    simp only [not_or] at hnb
    obtain ⟨⟨n1, n2, n3, _⟩, _⟩ := hnb
    rw [takeR hr]
    refine ⟨fun p hp => ?_, ?_⟩
    · rcases List.mem_append.1 hp with hp | hp
      · exact h1 p hp
      · obtain rfl := List.mem_singleton.1 hp
        omega
    · rw [List.map_append, List.nodup_append]
      refine ⟨h2, by simp, fun a ha b hb => ?_⟩
      obtain ⟨p, hp, rfl⟩ := List.mem_map.1 ha
      obtain rfl : b = r.num.toNat - 1 := by simpa using hb
      have := h1 p hp
      intro e
      exact n3 ⟨p, hp, by omega⟩
theorem rows_few {L : Int} {l : List Rw} {q : Nat} (h : q ≤ l.length) (hno : ∀ j r, j < q → l[j]? = some r → ¬ rowBad L (l.take j) r) : q ≤ 999 := by
  obtain ⟨h1, h2⟩ := rows_good q h hno
  have h3 := nodup_lt 999 _ h2 (fun x hx => by
    obtain ⟨p, hp, rfl⟩ := List.mem_map.1 hx
    have := h1 p hp
    omega)
  simpa [List.length_take, Nat.min_eq_left h] using h3

theorem tellsForm {w : World} {v : Value} {x : List (ByteArray × Int) × Int} (h : Tells w v (some x)) : (∃ k', v = .iface 44 (.int .i64 k')) ∨ ∃ eb, v = .iface 67 (.pointer (some ⟨eb, 0, none⟩)) := by
  obtain ⟨ps, k⟩ := x
  exact errIs_form h.1
def orL (a b : ErrL) : ErrL := match a with | some x => some x | none => b
/-- What is said of a library. -/
noncomputable def libL (rs : List (List Int)) (Lp : Int) (l : List Rw) : ErrL := if rs.length = 0 then some ([(codeL, 0)], 1) else orL (twiceL (checkErr rs true)) (orL (placeL Lp rs.length) (rowsL rs.length l))
theorem few_or {a b : ErrL} (ha : Few a) (hb : Few b) : Few (orL a b) := by
  cases a with
  | none => exact hb
  | some x => exact ha
theorem few_lib (rs : List (List Int)) (Lp : Int) (l : List Rw) : Few (libL rs Lp l) := by
  unfold libL
  split
  · exact .inl ⟨_, rfl⟩
  · exact few_or (few_twice _) (few_or (few_place _ _) (few_rows _ _))

set_option maxRecDepth 100000 in
set_option maxHeartbeats 4000000 in
theorem library_any (rs : List (List Int)) (ao bo : Option Addr) (ca cb : Nat) (Lp : Int) (l : List Rw) (w : World) (hg : Laid w) (hfit : ∀ r ∈ rs, RecOk insKs r) (hc : Recs insKs w ao rs) (hm : rs.length ≤ 9223372036854775807)
    (hb : RowsR w bo l) (hl : l.length ≤ 2000) (hbd : ∀ r ∈ l, (-9223372036854775808 ≤ r.num ∧ r.num ≤ 9223372036854775807) ∧ (-9223372036854775808 ≤ r.at_ ∧ r.at_ ≤ 9223372036854775807)) :
    Calls Tryd.prog 25 #[.agg #[.slice ao rs.length ca, .int .i64 Lp, .slice bo l.length cb]] w fun e w' => ∃ v, e = .returned v ∧ Tells w' v (libL rs Lp l) ∧ New w w' := by
  by_cases h0 : rs.length = 0
  · have HL := Lib.hid (show libL rs Lp l = some ([(codeL, 0)], 1) by unfold libL; rw [if_pos h0])
    rw [h0]
    generalize l.length = C
    clear hg hfit hc hm hb hl hbd h0
    go_enter Tryd.func25, Tryd.ntmps25
    go_wp2_with (go_at_call 30; refine (fail_any _ _ _ (by omega) (by omega)).mono ?_; rintro e w' ⟨eb, rfl, he, hn⟩)
    go_ret
    exact ⟨_, rfl, by rw [HL.out]; exact tells_once (o := some (0, 1)) he, ((Fr.refl _ _).alloc _).trans hn⟩
  · cases h1 : checkErr rs true with
    | some x =>
      have HL := Lib.hid (show libL rs Lp l = twiceL (some x) by unfold libL; rw [if_neg h0, h1]; rfl)
      have HCK := Lib.hid (fun (w' : World) (f : New w w') => checked_any rs ao ca true w' (hg.keep f id) hfit (hc.keep f) hm)
      rw [h1] at HCK
      generalize hLL : rs.length = L at HCK h0 ⊢
      have h5 : ((L : Int) == 0) = false := by rw [beq_eq_false_iff_ne]; omega
      generalize l.length = C
      clear hg hfit hc hm hb hl hbd h0 h1 hLL
      go_enter Tryd.func25, Tryd.ntmps25
      go_wp2_with fail
      refine (HCK.out _ ((Fr.refl _ _).alloc _)).mono ?_
      rintro e w1 ⟨v, rfl, hs, hn1⟩
      have HS := Lib.hid hs
      have HN := Lib.hid (((Fr.refl (fun _ => False) w).alloc _).trans hn1)
      rcases tellsForm hs with ⟨k', rfl⟩ | ⟨eb, rfl⟩
      all_goals
        clear hs hn1 HCK
        go_wp2
        go_ret
        exact ⟨_, rfl, by rw [HL.out]; exact HS.out, HN.out⟩
    | none =>
      cases h2 : placeL Lp rs.length with
      | none =>
        have HL := Lib.hid (show libL rs Lp l = rowsL rs.length l by unfold libL; rw [if_neg h0, h1, h2]; rfl)
        rw [HL.out]
        exact lib_rows rs ao bo ca cb Lp l w hg hfit hc hm hb hl hbd h0 h1 h2
      | some x =>
        have HL := Lib.hid (show libL rs Lp l = some x by unfold libL; rw [if_neg h0, h1, h2]; rfl)
        have HCK := Lib.hid (fun (w' : World) (f : New w w') => checked_any rs ao ca true w' (hg.keep f id) hfit (hc.keep f) hm)
        rw [h1] at HCK
        generalize hLL : rs.length = L at HCK h0 h2 ⊢
        have HPL := Lib.hid (fun (w' : World) => place_any Lp L w')
        rw [h2] at HPL
        have h5 : ((L : Int) == 0) = false := by rw [beq_eq_false_iff_ne]; omega
        generalize l.length = C
        clear hg hfit hc hm hb hl hbd h0 h1 h2 hLL
        go_enter Tryd.func25, Tryd.ntmps25
        go_wp2_with fail
        obtain ⟨W0, hW0⟩ : ∃ W0, w.alloc (.cells #[.slice ao L ca, .int .i64 Lp, .slice bo C cb] 57) = W0 := ⟨_, rfl⟩
        have hn0 : New w W0 := by rw [← hW0]; exact (Fr.refl _ _).alloc _
        have hx0 : Arr W0 w.heap.size [.slice ao L ca, .int .i64 Lp, .slice bo C cb] := by rw [← hW0]; exact Arr.new _ _ _
        rw [hW0]
        refine (HCK.out W0 hn0).mono ?_
        rintro e w1 ⟨v, rfl, hs, hn1⟩
        obtain rfl : v = .nilIface := hs
        have hx1 := hx0.keep hn1 id
        have c0 : w1.cell? ⟨w.heap.size, 0, none⟩ = some (.slice ao L ca) := hx1.cell 0 _ rfl
        have c1 : w1.cell? ⟨w.heap.size, 1, none⟩ = some (.int .i64 Lp) := hx1.cell 1 _ rfl
        have HN1 := Lib.hid (hn0.trans hn1)
        clear hW0 hx0 hn0 hn1 hx1 HCK
        go_wp2_with fail
        refine (HPL.out w1).mono ?_
        rintro e w2 ⟨v2, rfl, hs, hn2⟩
        have HS := Lib.hid hs
        have HN := Lib.hid (HN1.out.trans hn2)
        rcases tellsForm hs with ⟨k', rfl⟩ | ⟨eb, rfl⟩
        all_goals
          clear hs hn2 HPL c0 c1
          go_wp2
          go_ret
          exact ⟨_, rfl, by rw [HL.out]; exact HS.out, HN.out⟩

end Go.Proofs.YtkpliapmllabaaaDoor
