/- Any library: its copy, the document's answer, the statement's walk. -/
import Derived.Test.YtkpliapmllabaaaDoorLibB
import Derived.Test.YtkpliapmllabaaaDoorCodeClients
namespace Go.Proofs.YtkpliapmllabaaaDoor
open Go.RowKit

theorem rows_add {w : World} {ad : Addr} {l : List Rw} (h : RowsR w (some ad) l) : ∀ j u, (l.flatMap rwC)[j]? = some u → w.cell? (ad.add j) = some u := by
  intro j u hj
  have hdm := Nat.div_add_mod j 6
  have hm := Nat.mod_lt j (show 0 < 6 by omega)
  generalize hq : j / 6 = q at hdm
  generalize j % 6 = p at hdm hm
  obtain rfl : j = q * 6 + p := by omega
  rw [get_flatMap rwC 6 rwC_len _ _ _ hm] at hj
  cases hr : l[q]? with
  | none => simp [hr] at hj
  | some r =>
    simp [hr] at hj
    obtain ⟨b, off, e, hb, hc⟩ := h q r hr
    cases e
    have := hc p u hj
    unfold Addr.add
    split
    · rename_i h0
      obtain ⟨rfl, rfl⟩ : q = 0 ∧ p = 0 := by omega
      simpa using this
    · simpa [Nat.add_assoc] using this
theorem rows_own {w : World} {base n : Nat} {v : Value} {l : List Rw} (h : w.ownsRow base 77 6 v n (l.flatMap rwC)) : ∃ bo cb, v = .slice bo n cb ∧ RowsR w bo l := by
  obtain ⟨bo, cb, rfl, hc⟩ := owned_form h
  refine ⟨bo, cb, rfl, fun i r hr => ?_⟩
  have h0 : (l.flatMap rwC)[i * 6 + 0]? = some (.int .i64 r.num) := by
    rw [get_flatMap rwC 6 rwC_len _ _ _ (by omega), hr]; rfl
  obtain ⟨g, e, _, hg, _⟩ := hc _ _ h0
  refine ⟨g, 0, e, hg, fun j u hj => ?_⟩
  have hj6 : j < 6 := (List.getElem?_eq_some_iff.1 hj).1
  obtain ⟨g', e', _, _, hcc⟩ := hc (i * 6 + j) u (by rw [get_flatMap rwC 6 rwC_len _ _ _ hj6, hr]; exact hj)
  rw [e] at e'
  cases e'
  rw [Nat.zero_add]; exact hcc
theorem rowInfo : (Tryd.prog.info? 77).map (fun i => (i.zero, i.size, i.bytes)) = some (some (.agg #[.int .i64 0, .int .i64 0, .int .i64 0, .int .i64 0, .int .i64 0, .int .i64 0]), 6, 48) := by kernel_rfl
theorem libSize : (Tryd.prog.info? 57).map (·.size) = some 3 := by kernel_rfl

set_option maxRecDepth 100000 in
set_option maxHeartbeats 2000000 in
theorem copyLib_any (rs : List (List Int)) (ao bo : Option Addr) (ca cb : Nat) (Lp : Int) (l : List Rw) (w : World) (hfit : ∀ r ∈ rs, RecOk insKs r) (hc : Recs insKs w ao rs) (hm : rs.length * 56 ≤ 140737488355328) (hb : RowsR w bo l) (hl : l.length ≤ 2000) :
    Calls Tryd.prog 26 #[.agg #[.slice ao rs.length ca, .int .i64 Lp, .slice bo l.length cb]] w fun e w' => ∃ ao' ca' bo' cb', e = .returned (.agg #[.slice ao' rs.length ca', .int .i64 Lp, .slice bo' l.length cb']) ∧ Recs insKs w' ao' rs ∧ RowsR w' bo' l ∧ New w w' := by
  obtain ⟨i0, hi, hz0, hz1, hz2⟩ := info_parts rowInfo
  have HROW := Lib.hid (fun (w' : World) (v : Value) (b : Nat) (h : w'.ownsRow b 42 7 v rs.length (rs.flatMap insCells)) => recs_own h)
  have HROWR := Lib.hid (fun (w' : World) (v : Value) (b : Nat) (h : w'.ownsRow b 77 6 v l.length (l.flatMap rwC)) => rows_own h)
  have HC := Lib.hid (fun (w' : World) (f : New w w') => copy_own rs ao ca w' hfit (hc.keep f) hm)
  have HB := Lib.hid (fun (w' : World) (f : New w w') => hb.keep f)
  have hlen := len_flatMap rwC 6 rwC_len l
  have hone : ∀ u ∈ l.flatMap rwC, u.oneCell' = true := by
    intro u hu
    obtain ⟨r, _, hr⟩ := List.mem_flatMap.1 hu
    simp only [rwC, List.mem_cons, List.not_mem_nil, or_false] at hr
    rcases hr with rfl | rfl | rfl | rfl | rfl | rfl <;> rfl
  obtain ⟨C, hC⟩ : ∃ C, l.length = C := ⟨_, rfl⟩
  have hnil0 : bo = none → l = [] := by
    rintro rfl
    cases l with
    | nil => rfl
    | cons r l => obtain ⟨b, off, e, _⟩ := hb 0 r rfl; cases e
  have HNIL := Lib.hid hnil0
  have HLEN := Lib.hid hlen
  have HONE := Lib.hid hone
  rw [hC] at hl HROWR HLEN ⊢
  have HCC := Lib.hid hC
  clear hfit hc hm hb hlen hone hnil0 hC
  generalize rs.length = L at HC HROW ⊢
  go_enter Tryd.func26, Tryd.ntmps26
  go_wp2_with fail
  obtain ⟨W0, hW0⟩ : ∃ W0, (w.alloc (.cells #[.slice ao L ca, .int .i64 Lp, .slice bo C cb] 57)).alloc (.cells #[.slice none 0 0, .int .i64 0, .slice none 0 0] 57) = W0 := ⟨_, rfl⟩
  have hn0 : New w W0 := by rw [← hW0]; exact ((Fr.refl _ _).alloc _).alloc _
  have hx : W0.heap[w.heap.size]? = some (.cells #[.slice ao L ca, .int .i64 Lp, .slice bo C cb] 57 (0, 0)) := by rw [← hW0, block_alloc (by simp)]; exact block_alloc_new _ _
  have hy : W0.heap[w.heap.size + 1]? = some (.cells #[.slice none 0 0, .int .i64 0, .slice none 0 0] 57 (0, 0)) := by rw [← hW0]; exact block_alloc_new1 _ _ _
  rw [hW0]
  refine (HC.out W0 hn0).mono ?_
  rintro e w1 ⟨v, rfl, hr, hn1⟩
  obtain ⟨ao1, ca1, rfl, _⟩ := owned_form hr
  have hx1 : w1.heap[w.heap.size]? = some (.cells #[.slice ao L ca, .int .i64 Lp, .slice bo C cb] 57 (0, 0)) := by rw [hn1.block _ (lt_of_block hx) id]; exact hx
  have hy1 : w1.heap[w.heap.size + 1]? = some (.cells #[.slice none 0 0, .int .i64 0, .slice none 0 0] 57 (0, 0)) := by rw [hn1.block _ (lt_of_block hy) id]; exact hy
  have HR := Lib.hid hr
  have HN1 := Lib.hid (hn0.trans hn1)
  have x0 := cell_of_block hx1 0
  have x1 := cell_of_block hx1 1
  have x2 := cell_of_block hx1 2
  have xf := free_of_block hx1 0
  obtain ⟨xb, hxb⟩ : ∃ xb, w.heap.size = xb := ⟨_, rfl⟩
  have hxw : w.heap.size ≤ xb := by omega
  rw [hxb] at hx1 hy1 x0 x1 x2 xf ⊢
  have hyl := lt_of_block hy1
  -- the copy of the code is in the box
  obtain ⟨w2, hw2⟩ : ∃ w2, w1.setCell ⟨xb, 0, none⟩ (.slice ao1 L ca1) = w2 := ⟨_, rfl⟩
  have hx2 : w2.heap[xb]? = some (.cells #[.slice ao1 L ca1, .int .i64 Lp, .slice bo C cb] 57 (0, 0)) := by rw [← hw2]; exact block_setCell hx1 _
  have hy2 : w2.heap[xb + 1]? = some (.cells #[.slice none 0 0, .int .i64 0, .slice none 0 0] 57 (0, 0)) := by rw [← hw2]; exact (block_setCell_ne (by omega) _).trans hy1
  have f2 : Fr (· = xb) w1 w2 := by rw [← hw2]; exact (Fr.refl (· = xb) _).setCell (fun _ => rfl) _
  have hr2 := own_kept hr f2 (fun k hk e => own_ne hr hx1 (by decide) k hk e)
  have hn2 : New w w2 := HN1.out.then f2 (fun i hi e => by omega)
  have hsz2 : w2.heap.size = w1.heap.size := by rw [← hw2]; simp
  have HR2 := Lib.hid hr2
  have HN2 := Lib.hid hn2
  have HX2 := Lib.hid hx2
  have HY2 := Lib.hid hy2
  have y2 : w2.cell? ⟨xb, 2, none⟩ = some (.slice bo C cb) := cell_of_block hx2 2
  have HW2 := Lib.hid hw2
  clear hn0 hx hy hW0 hr hn1 HC hx2 hy2 hr2 hn2 f2 hxb hx1 hy1 HR HN1 hw2
  go_upto_region 2 with fail
  rw [HW2.out]
  clear x0 x1 x2 xf HW2
  have HFIN := Lib.hid (show ∀ (w3 : World) (bo' : Option Addr) (cb' : Nat), New w2 w3 → RowsR w3 bo' l → (∀ k, (Value.slice bo' C cb').ownBlock = some k → k ≠ xb ∧ k ≠ xb + 1) → ∀ W', W' = ((((w3.setCell ⟨xb, 2, none⟩ (.slice bo' C cb')).setCell ⟨xb + 1, 0, none⟩ (.slice ao1 L ca1)).setCell ⟨xb + 1, 1, none⟩ (.int .i64 Lp)).setCell ⟨xb + 1, 2, none⟩ (.slice bo' C cb')) →
      W'.heap[xb + 1]? = some (.cells #[.slice ao1 L ca1, .int .i64 Lp, .slice bo' C cb'] 57 (0, 0)) ∧ Recs insKs W' ao1 rs ∧ RowsR W' bo' l ∧ New w W' from by
    rintro w3 bo' cb' hn3 hrr hne W' rfl
    have hy3 : w3.heap[xb + 1]? = _ := (hn3.block _ (lt_of_block HY2.out) id).trans HY2.out
    have hx3 : w3.heap[xb]? = _ := (hn3.block _ (lt_of_block HX2.out) id).trans HX2.out
    have h0 : (w3.setCell ⟨xb, 2, none⟩ (.slice bo' C cb')).heap[xb + 1]? = _ := (block_setCell_ne (by omega) _).trans hy3
    have hf : Fr (fun i => i = xb ∨ i = xb + 1) w3 ((((w3.setCell ⟨xb, 2, none⟩ (.slice bo' C cb')).setCell ⟨xb + 1, 0, none⟩ (.slice ao1 L ca1)).setCell ⟨xb + 1, 1, none⟩ (.int .i64 Lp)).setCell ⟨xb + 1, 2, none⟩ (.slice bo' C cb')) :=
      (((Fr.setCell (S := fun i => i = xb ∨ i = xb + 1) (Fr.refl _ _) (fun _ => .inl rfl) _).setCell (fun _ => .inr rfl) _).setCell (fun _ => .inr rfl) _).setCell (fun _ => .inr rfl) _
    have hr3 := own_kept HR2.out hn3 (fun _ _ => id)
    have hk := own_kept hr3 hf (fun k hk e => by
      rcases e with e | e
      · exact own_ne hr3 hx3 (by decide) k hk e
      · exact own_ne hr3 hy3 (by decide) k hk e)
    obtain ⟨bo2, cb2, e, h⟩ := HROW.out _ _ _ hk
    obtain ⟨rfl, _⟩ : ao1 = bo2 ∧ ca1 = cb2 := by simpa using e
    refine ⟨block_setCell (block_setCell (block_setCell h0 _) _) _, h, fun j r hr => ?_, (HN2.out.trans hn3).then hf (fun i hi e => by omega)⟩
    obtain ⟨b, off, e1, h1, h2⟩ := hrr j r hr
    subst e1
    have hbn := hne b rfl
    exact ⟨b, off, rfl, Nat.lt_of_lt_of_le h1 hf.size, fun i u hu => (hf.cell h1 (fun e => by rcases e with e | e; exact hbn.1 e; exact hbn.2 e) _).trans (h2 i u hu)⟩)
  cases bo with
  | none =>
    obtain rfl : l = [] := HNIL.out rfl
    have hC0 : C = 0 := by rw [← HCC.out]; rfl
    subst hC0
    have HFF := Lib.hid (HFIN.out w2 none 0 (Fr.refl _ _) (fun j r hr => by simp at hr) (fun k hk => by cases hk))
    have x0 := cell_of_block HX2.out 0
    have x1 := cell_of_block HX2.out 1
    have xf := free_of_block HX2.out
    have y0 := cell_of_block HY2.out 0
    have y1 := cell_of_block HY2.out 1
    have y2' := cell_of_block HY2.out 2
    have yf := free_of_block HY2.out
    go_wp2
    have hfin := HFF.out _ rfl
    refine bodyPost_ret (ret_cell1 rfl _ _ (xb + 1) _ _ _ _ rfl hfin.1 Tryd.underlying57 rfl libSize) rfl ?_
    first | exact ⟨ao1, ca1, none, 0, rfl, hfin.2.1, hfin.2.2.1, hfin.2.2.2⟩ | exact ⟨ao1, ca1, none, ⟨0, rfl⟩, hfin.2.1, hfin.2.2.1, hfin.2.2.2⟩
  | some ad =>
    have hnews := rows_add (HB.out w2 HN2.out)
    obtain ⟨xs, hxs⟩ : ∃ xs, l.flatMap rwC = xs := ⟨_, rfl⟩
    rw [hxs] at hnews HLEN HONE HROWR
    have HNEWS := Lib.hid hnews
    clear hnews hxs HNIL
    have x0 := cell_of_block HX2.out 0
    go_wp2_with (at_builtin; refine wpList_append_own _ rfl (.const (.slice none 0 0)) (.tmp 8) 55 rfl w2.heap.size 77 i0 _ 6 48 Tryd.underlying55 hi hz0 hz1 hz2 rfl (by decide) _ 0 [] rfl (World.ownsRow_nil _ _ _ _) ad C cb xs rfl HLEN.out HNEWS.out HONE.out (by unfold maxLen; omega) (by omega) (Nat.le_refl _) ?_; intro v' w3 hown' hgrow hnil; rw [Nat.zero_add, List.nil_append] at hown'; obtain ⟨bo', cb', rfl, hrr⟩ := HROWR.out _ _ _ hown'; have hn3 := ((Fr.refl (fun _ => False) w2).grown hgrow (fun k h => by cases h)); have hx3 := (hn3.block _ (lt_of_block HX2.out) id).trans HX2.out; have hy3 := (hn3.block _ (lt_of_block HY2.out) id).trans HY2.out; have HFF := Lib.hid (HFIN.out w3 bo' cb' hn3 hrr (fun k hk => ⟨own_ne hown' hx3 (by decide) k hk, own_ne hown' hy3 (by decide) k hk⟩)); clear hown' hgrow hnil hrr hn3; have z0 := cell_of_block hx3 0; have z1 := cell_of_block hx3 1; have z2 := cell_of_block hx3 2; have zf := free_of_block hx3; have v0 := cell_of_block hy3 0; have v1 := cell_of_block hy3 1; have v2 := cell_of_block hy3 2; have vf := free_of_block hy3; clear hx3 hy3)
    have hfin := HFF.out _ rfl
    refine bodyPost_ret (ret_cell1 rfl _ _ (xb + 1) _ _ _ _ rfl hfin.1 Tryd.underlying57 rfl libSize) rfl ?_
    exact ⟨ao1, ca1, bo', cb', rfl, hfin.2.1, hfin.2.2.1, hfin.2.2.2⟩

/-- A call that may not be, but for the calls ahead of it; its kinds up to m. -/
def partBad (L : Int) (r : Rw) : Prop := r.num < 1 ∨ 999 < r.num ∨ r.at_ < 0 ∨ L ≤ r.at_
def kindsBad (r : Rw) (m : Nat) : Prop := ∃ j, j < m ∧ kindBad (kindAt r j)
instance (L : Int) (r : Rw) : Decidable (partBad L r) := by unfold partBad; infer_instance
instance (k : Int) : Decidable (kindBad k) := by unfold kindBad; infer_instance
noncomputable instance (r : Rw) (m : Nat) : Decidable (kindsBad r m) := Classical.propDecidable _
theorem kindsBad_succ (r : Rw) (m : Nat) : kindsBad r (m + 1) ↔ kindsBad r m ∨ kindBad (kindAt r m) := by
  constructor
  · rintro ⟨j, hj, h⟩
    rcases Nat.lt_succ_iff_lt_or_eq.1 hj with h1 | rfl
    · exact .inl ⟨j, h1, h⟩
    · exact .inr h
  · rintro (⟨j, hj, h⟩ | h)
    · exact ⟨j, by omega, h⟩
    · exact ⟨m, by omega, h⟩
theorem rowBad_parts (L : Int) (prev : List Rw) (r : Rw) : rowBad L prev r ↔ ((partBad L r ∨ kindsBad r 4) ∨ ∃ p ∈ prev, p.num = r.num) := by
  unfold rowBad partBad
  constructor
  · rintro ((h | h | h | h | h) | h | h | h | h)
    · exact .inl (.inl (.inl h))
    · exact .inl (.inl (.inr (.inl h)))
    · exact .inr h
    · exact .inl (.inl (.inr (.inr (.inl h))))
    · exact .inl (.inl (.inr (.inr (.inr h))))
    · exact .inl (.inr ⟨0, by omega, h⟩)
    · exact .inl (.inr ⟨1, by omega, h⟩)
    · exact .inl (.inr ⟨2, by omega, h⟩)
    · exact .inl (.inr ⟨3, by omega, h⟩)
  · rintro (((h | h | h | h) | ⟨j, hj, h⟩) | h)
    · exact .inl (.inl h)
    · exact .inl (.inr (.inl h))
    · exact .inl (.inr (.inr (.inr (.inl h))))
    · exact .inl (.inr (.inr (.inr (.inr h))))
    · exact .inr (kinds_bad hj h)
    · exact .inl (.inr (.inr (.inl h)))
def dup (l : List Rw) (k : Nat) (r : Rw) : Prop := ∃ x ∈ l.take k, x.num = r.num
noncomputable instance (l : List Rw) (k : Nat) (r : Rw) : Decidable (dup l k r) := Classical.propDecidable _
theorem take_bad {l : List Rw} {k : Nat} {p r : Rw} (h : l[k]? = some p) : dup l (k + 1) r ↔ dup l k r ∨ p.num = r.num := by
  unfold dup
  rw [takeR h]
  constructor
  · rintro ⟨x, hx, e⟩
    rcases List.mem_append.1 hx with hx | hx
    · exact .inl ⟨x, hx, e⟩
    · obtain rfl := List.mem_singleton.1 hx; exact .inr e
  · rintro (⟨x, hx, e⟩ | e)
    · exact ⟨x, List.mem_append_left _ hx, e⟩
    · exact ⟨p, by simp, e⟩
theorem kind_cells {r : Rw} {m : Nat} (hm : m < 4) : (rwC r)[2 + m]? = some (.int .i64 (kindAt r m)) := by
  rcases (show m = 0 ∨ m = 1 ∨ m = 2 ∨ m = 3 by omega) with rfl | rfl | rfl | rfl <;> rfl

set_option maxRecDepth 100000 in
set_option maxHeartbeats 8000000 in
theorem rlib_rows (rs : List (List Int)) (ao bo : Option Addr) (ca cb : Nat) (Lp : Int) (l : List Rw) (w : World) (hfit : ∀ r ∈ rs, RecOk insKs r) (hc : Recs insKs w ao rs) (hm : rs.length ≤ 9223372036854775807)
    (hb : RowsR w bo l) (hl : l.length ≤ 2000) (h0 : rs.length ≠ 0) (h1 : checkErr rs true = none) (h2 : placeL Lp rs.length = none) :
    Calls Tryd.prog 27 #[.agg #[.slice ao rs.length ca, .int .i64 Lp, .slice bo l.length cb]] w fun e w' => ∃ v, e = .returned v ∧ TellsF w' v (rowsL rs.length l) ∧ New w w' := by
  have HCK := Lib.hid (fun (w' : World) (f : New w w') => again_any rs ao ca true w' hfit (hc.keep f) hm)
  rw [h1] at HCK
  obtain ⟨L, hL⟩ : ∃ L, rs.length = L := ⟨_, rfl⟩
  rw [hL] at HCK hm h0 h2 ⊢
  have h5 : ((L : Int) == 0) = false := by rw [beq_eq_false_iff_ne]; omega
  have h6 : ¬ (Lp < 0 ∨ (L : Int) ≤ Lp) := by
    intro h
    unfold placeL at h2
    rw [if_pos h] at h2
    cases h2
  have h7 : ¬ Lp < 0 := fun h => h6 (.inl h)
  have h8 : ¬ (L : Int) ≤ Lp := fun h => h6 (.inr h)
  obtain ⟨C, hC⟩ : ∃ C, l.length = C := ⟨_, rfl⟩
  have HB := Lib.hid hb
  have HC := Lib.hid hC
  rw [hC] at hl ⊢
  clear hfit hc hL h1 h2 hb hC h0 h6
  go_enter Tryd.func27, Tryd.ntmps27
  go_wp2_with fail
  obtain ⟨W0, hW0⟩ : ∃ W0, w.alloc (.cells #[.slice ao L ca, .int .i64 Lp, .slice bo C cb] 57) = W0 := ⟨_, rfl⟩
  have hn0 : New w W0 := by rw [← hW0]; exact (Fr.refl _ _).alloc _
  have hx0 : Arr W0 w.heap.size [.slice ao L ca, .int .i64 Lp, .slice bo C cb] := by rw [← hW0]; exact Arr.new _ _ _
  rw [hW0]
  refine (HCK.out W0 hn0).mono ?_
  rintro e w1 ⟨v, rfl, hs, hn1⟩
  obtain rfl : v = .pointer none := hs
  have hx1 := hx0.keep hn1 id
  have hn01 := hn0.trans hn1
  obtain ⟨xb, hxb⟩ : ∃ xb, w.heap.size = xb := ⟨_, rfl⟩
  have hxw : w.heap.size ≤ xb := by omega
  rw [hxb] at hx1 ⊢
  have c0 : w1.cell? ⟨xb, 0, none⟩ = some (.slice ao L ca) := hx1.cell 0 _ rfl
  have c1 : w1.cell? ⟨xb, 1, none⟩ = some (.int .i64 Lp) := hx1.cell 1 _ rfl
  have c2 : w1.cell? ⟨xb, 2, none⟩ = some (.slice bo C cb) := hx1.cell 2 _ rfl
  have HX1 := Lib.hid hx1
  have HN1 := Lib.hid hn01
  clear hW0 hx0 hn0 hn1 hx1 hn01 hxb HCK
  go_wp2_with fail
  clear c0 c1 c2
  go_loopw [4] (fun i wr => ∃ q : Nat, q ≤ C ∧ i = .int .i64 q ∧ New w1 wr ∧ ∀ j r, j < q → l[j]? = some r → ¬ rowBad L (l.take j) r) (fun i _ => C - (intOf i).toNat)
  case atStart => exact ⟨0, by omega, rfl, Fr.refl _ _, fun j r hj => by omega⟩
  case round =>
    obtain ⟨q, hq, rfl, hf, hno⟩ := hrel
    have HF := Lib.hid hf
    have HNO := Lib.hid hno
    have y0 : wr.cell? ⟨xb, 0, none⟩ = some (.slice ao L ca) := (HX1.out.keep hf id).cell 0 _ rfl
    have y2 : wr.cell? ⟨xb, 2, none⟩ = some (.slice bo C cb) := (HX1.out.keep hf id).cell 2 _ rfl
    by_cases hlt : q < C
    · obtain ⟨r, hr⟩ : ∃ r, l[q]? = some r := ⟨l[q]'(by rw [HC.out]; exact hlt), by simp⟩
      have hq9 : q ≤ 999 := rows_few (by rw [HC.out]; omega) hno
      have hrows := HB.out.keep (HN1.out.trans hf)
      obtain ⟨g, off, rfl, hg1, hcr⟩ := hrows q r hr
      have HROWS := Lib.hid hrows
      have x0 : wr.cell? ⟨g, off + q * 6, none⟩ = some (.int .i64 r.num) := hcr 0 _ rfl
      have x1 : wr.cell? ⟨g, off + q * 6 + 1, none⟩ = some (.int .i64 r.at_) := hcr 1 _ rfl
      have x2 : wr.cell? ⟨g, off + q * 6 + 2, none⟩ = some (.int .i64 r.k0) := hcr 2 _ rfl
      have x3 : wr.cell? ⟨g, off + q * 6 + 3, none⟩ = some (.int .i64 r.k1) := hcr 3 _ rfl
      have x4 : wr.cell? ⟨g, off + q * 6 + 4, none⟩ = some (.int .i64 r.k2) := hcr 4 _ rfl
      have x5 : wr.cell? ⟨g, off + q * 6 + 5, none⟩ = some (.int .i64 r.k3) := hcr 5 _ rfl
      have q1 : (0 : Int) ≤ (q : Int) := by omega
      have q2 : (q : Int) < (C : Int) := by omega
      have HR := Lib.hid hr
      clear hf hno hcr hr hrows
      go_upto_region 12 with fail
      obtain ⟨W3, hW3⟩ : ∃ W3, wr.alloc (.cells #[.int .i64 r.num, .int .i64 r.at_, .int .i64 r.k0, .int .i64 r.k1, .int .i64 r.k2, .int .i64 r.k3] 77) = W3 := ⟨_, rfl⟩
      have n3 : New wr W3 := by rw [← hW3]; exact (Fr.refl _ _).alloc _
      have z3 : Arr W3 wr.heap.size (rwC r) := by rw [← hW3]; exact Arr.new _ _ _
      have y3 := (n3.cell (lt_of_cell y0) id 0).trans y0
      have y4 := (n3.cell (lt_of_cell y2) id 2).trans y2
      obtain ⟨rb, hrbe⟩ : ∃ rb, wr.heap.size = rb := ⟨_, rfl⟩
      have hrw : w1.heap.size ≤ rb := by have := HF.out.size; omega
      rw [hrbe] at z3
      have z0 : W3.cell? ⟨rb, 0, none⟩ = some (.int .i64 r.num) := z3.cell 0 _ rfl
      have z1 : W3.cell? ⟨rb, 1, none⟩ = some (.int .i64 r.at_) := z3.cell 1 _ rfl
      have HZ3 := Lib.hid z3
      have HF3 := Lib.hid (HF.out.trans n3)
      have HR3 := Lib.hid (HROWS.out.keep n3)
      clear x0 x1 x2 x3 x4 x5 y0 y2 n3 z3 HF HROWS
      first | rw [hW3, hrbe] | rw [hW3] | skip
      clear hW3 hrbe
      go_cut [6] (fun b wx => b = .bool (decide (partBad L r)) ∧ wx = W3)
      case first => as_aux_lemma =>
        have e0 : partBad L r ↔ (r.num < 1 ∨ (¬ r.num < 1 ∧ 999 < r.num) ∨ (¬ r.num < 1 ∧ ¬ 999 < r.num ∧ r.at_ < 0) ∨ (¬ r.num < 1 ∧ ¬ 999 < r.num ∧ ¬ r.at_ < 0 ∧ (L : Int) ≤ r.at_)) := by unfold partBad; omega
        by_cases hp : partBad L r
        · have HP := Lib.hid hp
          rcases e0.1 hp with e1 | ⟨e1, e2⟩ | ⟨e1, e2, e3⟩ | ⟨e1, e2, e3, e4⟩
          all_goals
            clear hp e0
            go_wp2_with fail
            go_meet
            exact ⟨by rw [decide_eq_true HP.out], rfl⟩
        · have HP := Lib.hid hp
          have e5 : ¬ r.num < 1 ∧ ¬ 999 < r.num ∧ ¬ r.at_ < 0 ∧ ¬ (L : Int) ≤ r.at_ := by unfold partBad at hp; omega
          obtain ⟨e1, e2, e3, e4⟩ := e5
          clear hp e0
          go_wp2_with fail
          go_meet
          exact ⟨by rw [decide_eq_false HP.out], rfl⟩
      obtain ⟨rfl, rfl⟩ := hcut
      clear z1 y3
      go_wp2_with fail
      go_loopw [6, 7] (fun b i wx => ∃ m : Nat, m ≤ 4 ∧ i = .int .i64 m ∧ b = .bool (decide (partBad L r ∨ kindsBad r m)) ∧ wx = wc) (fun _ i _ => 4 - (intOf i).toNat)
      case atStart => exact ⟨0, by omega, rfl, by congr 2 <;> exact propext ⟨.inl, fun h => h.elim id (fun ⟨j, hj, _⟩ => absurd hj (by omega))⟩, rfl⟩
      case round =>
        obtain ⟨m, hm4, rfl, rfl, rfl⟩ := hrel
        by_cases hlt4 : m < 4
        · have zk : wr.cell? ⟨rb, 2 + m, none⟩ = some (.int .i64 (kindAt r m)) := HZ3.out.cell (2 + m) _ (kind_cells hlt4)
          have q3 : (0 : Int) ≤ (m : Int) := by omega
          have q4 : (m : Int) < 4 := by omega
          have HS := Lib.hid (show decide (partBad L r ∨ kindsBad r (m + 1)) = (decide (partBad L r ∨ kindsBad r m) || decide (kindBad (kindAt r m))) by
            rw [← Bool.decide_or, decide_eq_decide, kindsBad_succ, or_assoc])
          obtain ⟨kk, hkk⟩ : ∃ kk, kindAt r m = kk := ⟨_, rfl⟩
          rw [hkk] at zk HS
          have hk3 : kindBad kk ↔ (kk < 0 ∨ (¬ kk < 0 ∧ 7 < kk)) := by unfold kindBad; omega
          by_cases hB : partBad L r ∨ kindsBad r m
          · rw [decide_eq_true hB] at HS ⊢
            clear hk3 hkk
            go_wp2_with fail
            go_roundw
            case rel => exact ⟨m + 1, by omega, by go_num, by rw [HS.out]; rfl, by first | rfl | trivial⟩
            case measure => simp [intOf]; omega
          · rw [decide_eq_false hB] at HS ⊢
            by_cases hkb : kindBad kk
            · rw [decide_eq_true hkb] at HS
              rcases hk3.1 hkb with e1 | ⟨e1, e2⟩
              all_goals
                clear hk3 hkk hkb
                go_wp2_with fail
                go_roundw
                case rel => exact ⟨m + 1, by omega, by go_num, by rw [HS.out]; rfl, by first | rfl | trivial⟩
                case measure => simp [intOf]; omega
            · rw [decide_eq_false hkb] at HS
              have e5 : ¬ kk < 0 ∧ ¬ 7 < kk := by unfold kindBad at hkb; omega
              obtain ⟨e1, e2⟩ := e5
              clear hk3 hkk hkb
              go_wp2_with fail
              go_roundw
              case rel => exact ⟨m + 1, by omega, by go_num, by rw [HS.out]; first | rfl | simp, by first | rfl | trivial⟩
              case measure => simp [intOf]; omega
        · obtain rfl : m = 4 := by omega
          rw [show ((4 : Nat) : Int) = 4 from rfl]
          go_wp2_with fail
          go_loopw [6, 8] (fun b i wx => ∃ k : Nat, k ≤ q ∧ i = .int .i64 k ∧ b = .bool (decide ((partBad L r ∨ kindsBad r 4) ∨ dup l k r)) ∧ New wr wx) (fun _ i _ => q - (intOf i).toNat)
          case atStart => exact ⟨0, by omega, rfl, by congr 2 <;> exact propext ⟨.inl, fun h => h.elim id (fun ⟨p, hp, _⟩ => by simp at hp)⟩, Fr.refl _ _⟩
          case round =>
            obtain ⟨k, hk, rfl, rfl, hf⟩ := hrel
            have HF4 := Lib.hid hf
            by_cases hltk : k < q
            · obtain ⟨p, hp⟩ : ∃ p, l[k]? = some p := ⟨l[k]'(by rw [HC.out]; omega), by simp⟩
              obtain ⟨g2, off2, e2, hg2, hcp⟩ := (HR3.out.keep hf) k p hp
              obtain ⟨rfl, rfl⟩ : g = g2 ∧ off = off2 := by simpa using e2
              have HS := Lib.hid (show decide ((partBad L r ∨ kindsBad r 4) ∨ dup l (k + 1) r) = (decide ((partBad L r ∨ kindsBad r 4) ∨ dup l k r) || decide (p.num = r.num)) by
                rw [← Bool.decide_or, decide_eq_decide]; simp only [take_bad hp, or_assoc])
              have y5 := (hf.cell (lt_of_cell y4) id 2).trans y4
              have z5 := (hf.cell (lt_of_cell z0) id 0).trans z0
              have p0 : wr.cell? ⟨g, off + k * 6, none⟩ = some (.int .i64 p.num) := hcp 0 _ rfl
              have q5 : (0 : Int) ≤ (k : Int) := by omega
              have q6 : (k : Int) < (q : Int) := by omega
              have q7 : (k : Int) < 1000 := by omega
              have q8 : (k : Int) < (C : Int) := by omega
              clear y4 z0 hf hcp hp
              by_cases hB : (partBad L r ∨ kindsBad r 4) ∨ dup l k r
              · rw [decide_eq_true hB] at HS ⊢
                go_wp2_with fail
                go_quiet (fail)
                go_wp2
                go_roundw
                case rel => exact ⟨k + 1, by omega, by go_num, by rw [HS.out]; rfl, HF4.out.drewN _⟩
                case measure => simp [intOf]; omega
              · rw [decide_eq_false hB] at HS ⊢
                by_cases hpe : p.num = r.num
                · rw [decide_eq_true hpe] at HS
                  have te : (p.num == r.num) = true := by simpa using hpe
                  clear hpe
                  go_wp2_with fail
                  go_quiet (fail)
                  go_wp2
                  go_roundw
                  case rel => exact ⟨k + 1, by omega, by go_num, by rw [HS.out]; rfl, HF4.out.drewN _⟩
                  case measure => simp [intOf]; omega
                · rw [decide_eq_false hpe] at HS
                  have te : (p.num == r.num) = false := by simpa using hpe
                  clear hpe
                  go_wp2_with fail
                  go_quiet (fail)
                  go_wp2
                  go_roundw
                  case rel => exact ⟨k + 1, by omega, by go_num, by rw [HS.out]; rfl, HF4.out.drewN _⟩
                  case measure => simp [intOf]; omega
            · obtain rfl : k = q := by omega
              have HE := Lib.hid (show rowBad L (l.take k) r ↔ ((partBad L r ∨ kindsBad r 4) ∨ dup l k r) from rowBad_parts L (l.take k) r)
              clear y4 z0 hf
              by_cases hB : rowBad L (l.take k) r
              · have HEr := Lib.hid (rowsL_some (rowsErr_some HR.out hB HNO.out))
                rw [decide_eq_true (HE.out.1 hB)]
                clear hB
                go_wp2_with (go_at_call 20; refine (no_says codeL (k : Int) 1 _).mono ?_; rintro e w' ⟨f, rfl, he, hn⟩)
                go_ret
                exact ⟨_, rfl, by rw [HEr.out]; exact tellsF_once (o := some ((k : Int), 1)) he, (HN1.out.trans (HF3.out.trans HF4.out)).trans hn⟩
              · rw [decide_eq_false (fun h => hB (HE.out.2 h))]
                have HNB := Lib.hid hB
                clear hB
                go_wp2_with fail
                go_roundw
                case rel => exact ⟨k + 1, by omega, by go_num, HF3.out.trans HF4.out, fun j r' hj hr' => by
                  rcases Nat.lt_succ_iff_lt_or_eq.1 hj with h | rfl
                  · exact HNO.out j r' h hr'
                  · obtain rfl := Option.some.inj (HR.out.symm.trans hr'); exact HNB.out⟩
                case measure => simp [intOf]; omega
    · obtain rfl : q = C := by omega
      have HE := Lib.hid (rowsL_none (rowsErr_none (fun i r hi hr => HNO.out i r (by rw [HC.out] at hi; exact hi) hr)))
      clear hf hno
      go_wp2_with fail
      go_ret
      exact ⟨_, rfl, by rw [HE.out]; rfl, HN1.out.trans HF.out⟩


set_option maxRecDepth 100000 in
set_option maxHeartbeats 4000000 in
theorem rlibrary_any (rs : List (List Int)) (ao bo : Option Addr) (ca cb : Nat) (Lp : Int) (l : List Rw) (w : World) (hfit : ∀ r ∈ rs, RecOk insKs r) (hc : Recs insKs w ao rs) (hm : rs.length ≤ 9223372036854775807)
    (hb : RowsR w bo l) (hl : l.length ≤ 2000) (hLp : -9223372036854775808 ≤ Lp ∧ Lp ≤ 9223372036854775807) :
    Calls Tryd.prog 27 #[.agg #[.slice ao rs.length ca, .int .i64 Lp, .slice bo l.length cb]] w fun e w' => ∃ v, e = .returned v ∧ TellsF w' v (libL rs Lp l) ∧ New w w' := by
  by_cases h0 : rs.length = 0
  · have HL := Lib.hid (show libL rs Lp l = some ([(codeL, 0)], 1) by unfold libL; rw [if_pos h0])
    rw [h0]
    generalize l.length = C
    clear hfit hc hm hb hl h0
    go_enter Tryd.func27, Tryd.ntmps27
    go_wp2_with (go_at_call 20; refine (no_says codeL 0 1 _).mono ?_; rintro e w' ⟨f, rfl, he, hn⟩)
    go_ret
    exact ⟨_, rfl, by rw [HL.out]; exact tellsF_once (o := some (0, 1)) he, ((Fr.refl _ _).alloc _).trans hn⟩
  · cases h1 : checkErr rs true with
    | some x =>
      have HL := Lib.hid (show libL rs Lp l = twiceL (some x) by unfold libL; rw [if_neg h0, h1]; rfl)
      have HCK := Lib.hid (fun (w' : World) (f : New w w') => again_any rs ao ca true w' hfit (hc.keep f) hm)
      rw [h1] at HCK
      generalize hLL : rs.length = L at HCK h0 ⊢
      have h5 : ((L : Int) == 0) = false := by rw [beq_eq_false_iff_ne]; omega
      generalize l.length = C
      clear hfit hc hm hb hl h0 h1 hLL
      go_enter Tryd.func27, Tryd.ntmps27
      go_wp2_with fail
      refine (HCK.out _ ((Fr.refl _ _).alloc _)).mono ?_
      rintro e w1 ⟨v, rfl, hs, hn1⟩
      have HS := Lib.hid hs
      have HN := Lib.hid (((Fr.refl (fun _ => False) w).alloc _).trans hn1)
      obtain ⟨b, lb, pb, lc, pc, rfl, _⟩ := hs
      clear hn1 HCK
      go_wp2
      go_ret
      exact ⟨_, rfl, by rw [HL.out]; exact HS.out, HN.out⟩
    | none =>
      cases h2 : placeL Lp rs.length with
      | none =>
        have HL := Lib.hid (show libL rs Lp l = rowsL rs.length l by unfold libL; rw [if_neg h0, h1, h2]; rfl)
        rw [HL.out]
        exact rlib_rows rs ao bo ca cb Lp l w hfit hc hm hb hl h0 h1 h2
      | some x =>
        have HL := Lib.hid (show libL rs Lp l = placeL Lp rs.length by unfold libL; rw [if_neg h0, h1, h2]; rfl)
        have HCK := Lib.hid (fun (w' : World) (f : New w w') => again_any rs ao ca true w' hfit (hc.keep f) hm)
        rw [h1] at HCK
        generalize hLL : rs.length = L at HCK h0 h2 HL hm ⊢
        have h5 : ((L : Int) == 0) = false := by rw [beq_eq_false_iff_ne]; omega
        have h6 : Lp < 0 ∨ (¬ Lp < 0 ∧ (L : Int) ≤ Lp) := by
          unfold placeL at h2
          split at h2
          · omega
          · cases h2
        generalize l.length = C
        clear hfit hc hb hl h0 h1 h2 hLL
        rcases h6 with h6 | ⟨h6, h7⟩
        · have hx : max Lp 0 = 0 := by omega
          have HP := Lib.hid (show placeL Lp L = some ([(codeL, 0)], 5) by unfold placeL; rw [if_pos (.inl h6), hx])
          go_enter Tryd.func27, Tryd.ntmps27
          go_wp2_with fail
          obtain ⟨W0, hW0⟩ : ∃ W0, w.alloc (.cells #[.slice ao L ca, .int .i64 Lp, .slice bo C cb] 57) = W0 := ⟨_, rfl⟩
          have hn0 : New w W0 := by rw [← hW0]; exact (Fr.refl _ _).alloc _
          have hx0 : Arr W0 w.heap.size [.slice ao L ca, .int .i64 Lp, .slice bo C cb] := by rw [← hW0]; exact Arr.new _ _ _
          rw [hW0]
          refine (HCK.out W0 hn0).mono ?_
          rintro e w1 ⟨v, rfl, hs, hn1⟩
          obtain rfl : v = .pointer none := hs
          have hx1 := hx0.keep hn1 id
          have c0 : w1.cell? ⟨w.heap.size, 0, none⟩ = some (.slice ao L ca) := hx1.cell 0 _ rfl
          have c1 : w1.cell? ⟨w.heap.size, 1, none⟩ = some (.int .i64 Lp) := hx1.cell 1 _ rfl
          have HN1 := Lib.hid (hn0.trans hn1)
          clear hW0 hx0 hn0 hn1 hx1 HCK
          go_wp2_with (go_at_call 20; refine (no_says codeL 0 5 _).mono ?_; rintro e w' ⟨f, rfl, he, hn⟩)
          go_ret
          exact ⟨_, rfl, by rw [HL.out, HP.out]; exact tellsF_once (o := some (0, 5)) he, HN1.out.trans hn⟩
        · have hx : max Lp 0 = Lp := by omega
          have HP := Lib.hid (show placeL Lp L = some ([(codeL, Lp)], 5) by unfold placeL; rw [if_pos (.inr h7), hx])
          go_enter Tryd.func27, Tryd.ntmps27
          go_wp2_with fail
          obtain ⟨W0, hW0⟩ : ∃ W0, w.alloc (.cells #[.slice ao L ca, .int .i64 Lp, .slice bo C cb] 57) = W0 := ⟨_, rfl⟩
          have hn0 : New w W0 := by rw [← hW0]; exact (Fr.refl _ _).alloc _
          have hx0 : Arr W0 w.heap.size [.slice ao L ca, .int .i64 Lp, .slice bo C cb] := by rw [← hW0]; exact Arr.new _ _ _
          rw [hW0]
          refine (HCK.out W0 hn0).mono ?_
          rintro e w1 ⟨v, rfl, hs, hn1⟩
          obtain rfl : v = .pointer none := hs
          have hx1 := hx0.keep hn1 id
          have c0 : w1.cell? ⟨w.heap.size, 0, none⟩ = some (.slice ao L ca) := hx1.cell 0 _ rfl
          have c1 : w1.cell? ⟨w.heap.size, 1, none⟩ = some (.int .i64 Lp) := hx1.cell 1 _ rfl
          have HN1 := Lib.hid (hn0.trans hn1)
          clear hW0 hx0 hn0 hn1 hx1 HCK
          go_wp2_with (go_at_call 20; refine (no_says codeL Lp 5 _).mono ?_; rintro e w' ⟨f, rfl, he, hn⟩)
          go_ret
          exact ⟨_, rfl, by rw [HL.out, HP.out]; exact tellsF_once (o := some (Lp, 5)) he, HN1.out.trans hn⟩

set_option maxRecDepth 100000 in
set_option maxHeartbeats 8000000 in
theorem libraries_walk (rs : List (List Int)) (ao bo : Option Addr) (ca cb : Nat) (Lp : Int) (l : List Rw) (w : World) (hg : Laid w) (hfit : ∀ r ∈ rs, RecOk insKs r) (hc : Recs insKs w ao rs) (hm : rs.length * 56 ≤ 140737488355328)
    (hLp : -9223372036854775808 ≤ Lp ∧ Lp ≤ 9223372036854775807) (hb : RowsR w bo l) (hbd : ∀ r ∈ l, (-9223372036854775808 ≤ r.num ∧ r.num ≤ 9223372036854775807) ∧ (-9223372036854775808 ≤ r.at_ ∧ r.at_ ≤ 9223372036854775807)) (hlm : l.length * 48 ≤ 140737488355328) :
    Calls Tryd.prog 10 #[.agg #[.slice ao rs.length ca, .int .i64 Lp, .slice bo l.length cb]] w fun e w' => e = .returned (.bool true) ∧ New w w' := by
  have HG := Lib.hid hg
  by_cases hl : 2000 < l.length
  · have HA := Lib.hid (fun (w' : World) (f : New w w') => awake_any w' (hg.keep f id))
    generalize l.length = C at hl hlm ⊢
    generalize rs.length = L
    have q : (2000 : Int) < (C : Int) := by omega
    clear hg hfit hc hm hb hbd
    go_enter Tryd.func10, Tryd.ntmps10
    go_wp2_with fail
    refine (HA.out _ ((Fr.refl _ _).alloc _)).mono ?_
    rintro e w1 ⟨rfl, hn1⟩
    have HN := Lib.hid (((Fr.refl (fun _ => False) w).alloc _).trans hn1)
    clear hn1
    go_wp2
    go_ret
    exact ⟨rfl, HN.out⟩
  · have hl2 : l.length ≤ 2000 := by omega
    have HCP := Lib.hid (fun (w' : World) (f : New w w') => copyLib_any rs ao bo ca cb Lp l w' hfit (hc.keep f) hm (hb.keep f) hl2)
    have HCL := Lib.hid (fun (ao' bo' : Option Addr) (ca' cb' : Nat) (w' : World) (f : New w w') (h1 : Recs insKs w' ao' rs) (h2 : RowsR w' bo' l) => library_any rs ao' bo' ca' cb' Lp l w' (hg.keep f id) hfit h1 (by omega) h2 hl2 hbd)
    have HRC := Lib.hid (fun (w' : World) (f : New w w') => rlibrary_any rs ao bo ca cb Lp l w' hfit (hc.keep f) (by omega) (hb.keep f) hl2 hLp)
    have hfew := few_lib rs Lp l
    generalize libL rs Lp l = oe at HCL HRC hfew
    clear hfit hc hm hg hb hbd
    generalize l.length = C at HCP HCL HRC hl hl2 hlm ⊢
    generalize rs.length = L at HCP HCL HRC ⊢
    have q : ¬ (2000 : Int) < (C : Int) := by omega
    clear hl hl2
    go_enter Tryd.func10, Tryd.ntmps10
    go_wp2_with fail
    obtain ⟨W2, hW2⟩ : ∃ W2, (w.alloc (.cells #[.slice ao L ca, .int .i64 Lp, .slice bo C cb] 57)).drew = W2 := ⟨_, rfl⟩
    have hn2 : New w W2 := by rw [← hW2]; exact ((Fr.refl _ _).alloc _).drew
    have hx2 : Arr W2 w.heap.size [.slice ao L ca, .int .i64 Lp, .slice bo C cb] := by rw [← hW2]; exact (Arr.new _ _ _).drew
    obtain ⟨xb, hxb⟩ : ∃ xb, w.heap.size = xb := ⟨_, rfl⟩
    rw [hxb] at hx2 ⊢
    refine heldStart (fun W' => W'.cell? ⟨xb, 0, none⟩ = some (.slice ao L ca) ∧ W'.cell? ⟨xb, 1, none⟩ = some (.int .i64 Lp) ∧ W'.cell? ⟨xb, 2, none⟩ = some (.slice bo C cb)) (by kernel_rfl) ?_
    rw [hW2]
    have HN2 := Lib.hid hn2
    have HX2 := Lib.hid hx2
    have HS := Lib.hid (fun (w' : World) (f : New W2 w') => show w'.cell? ⟨xb, 0, none⟩ = some (.slice ao L ca) ∧ w'.cell? ⟨xb, 1, none⟩ = some (.int .i64 Lp) ∧ w'.cell? ⟨xb, 2, none⟩ = some (.slice bo C cb) from
      ⟨(HX2.out.keep f id).cell 0 _ rfl, (HX2.out.keep f id).cell 1 _ rfl, (HX2.out.keep f id).cell 2 _ rfl⟩)
    clear hn2 hx2 hW2 hxb
    have s0 := HS.out W2 (Fr.refl _ _)
    refine wpAnyH_take (i := 0) (v := ?_) rfl (by kernel_rfl) (by kernel_rfl) (by kernel_rfl) (fun _ _ _ h => h) (Or.inl ⟨by rfl, ?_⟩) s0 ?_
    rotate_left
    · intro w hSw; first | (obtain ⟨s1, s2, s3, s4, s5, s6, s7, s8⟩ := hSw; go_simp; rfl) | (obtain ⟨s1, s2, s3, s4, s5, s6, s7⟩ := hSw; go_simp; rfl) | (obtain ⟨s1, s2, s3⟩ := hSw; go_simp; rfl) | (obtain ⟨s1, s2⟩ := hSw; go_simp; rfl) | (have s1 := hSw; go_simp; rfl)
    go_simp
    refine wpAnyH_take (i := 3) (v := ?_) rfl (by kernel_rfl) (by kernel_rfl) (by kernel_rfl) (fun _ _ _ h => h) (Or.inl ⟨by rfl, ?_⟩) s0 ?_
    rotate_left
    · intro w hSw; first | (obtain ⟨s1, s2, s3, s4, s5, s6, s7, s8⟩ := hSw; go_simp; rfl) | (obtain ⟨s1, s2, s3, s4, s5, s6, s7⟩ := hSw; go_simp; rfl) | (obtain ⟨s1, s2, s3⟩ := hSw; go_simp; rfl) | (obtain ⟨s1, s2⟩ := hSw; go_simp; rfl) | (have s1 := hSw; go_simp; rfl)
    go_simp
    refine heldOne (i := 1) (by kernel_rfl) rfl (by rfl) (fun K hK => ?_)
    go_simp
    refine (HCP.out W2 HN2.out).mono ?_
    rintro e w3 ⟨ao', ca', bo', cb', rfl, hr3, hb3, hn3⟩
    have HR3 := Lib.hid hr3
    have HB3 := Lib.hid hb3
    have N3 := Lib.hid hn3
    refine hK.out _ _ (HS.out _ N3.out) ?_
    clear hK K hr3 hb3 hn3 s0 HCP
    refine heldOne (i := 2) (by kernel_rfl) rfl (by rfl) (fun K hK => ?_)
    go_simp
    refine (HCL.out ao' bo' ca' cb' w3 (HN2.out.trans N3.out) HR3.out HB3.out).mono ?_
    rintro e w4 ⟨v, rfl, hv, hn4⟩
    have HV4 := Lib.hid hv
    have N4 := Lib.hid (N3.out.trans hn4)
    refine hK.out _ _ (HS.out _ N4.out) ?_
    clear hK K hv hn4 HCL
    refine heldOne (i := 4) (by kernel_rfl) rfl (by rfl) (fun K hK => ?_)
    go_simp
    refine (HRC.out w4 (HN2.out.trans N4.out)).mono ?_
    rintro e w5 ⟨f, rfl, hf, hn5⟩
    have N5 := Lib.hid (N4.out.trans hn5)
    have HSM := Lib.hid (same_tells v f oe w5 (HG.out.keep (HN2.out.trans N5.out) id) (HV4.out.new hn5) hf hfew)
    refine hK.out _ _ (HS.out _ N5.out) ?_
    clear hK K hf hn5 HV4 HRC
    refine heldOne (i := 5) (by kernel_rfl) rfl (by rfl) (fun K hK => ?_)
    go_simp
    refine HSM.out.mono ?_
    rintro e w6 ⟨rfl, hn6⟩
    have N6 := Lib.hid (N5.out.trans hn6)
    refine hK.out _ _ (HS.out _ N6.out) ?_
    have s6 := HS.out _ N6.out
    clear hK K hn6 HSM
    refine wpAnyH_take (i := 6) (v := ?_) rfl (by kernel_rfl) (by kernel_rfl) (by kernel_rfl) (fun _ _ _ h => h) (Or.inl ⟨by rfl, ?_⟩) s6 ?_
    rotate_left
    · intro w hSw; first | (obtain ⟨s1, s2, s3, s4, s5, s6, s7, s8⟩ := hSw; go_simp; rfl) | (obtain ⟨s1, s2, s3, s4, s5, s6, s7⟩ := hSw; go_simp; rfl) | (obtain ⟨s1, s2, s3⟩ := hSw; go_simp; rfl) | (obtain ⟨s1, s2⟩ := hSw; go_simp; rfl) | (have s1 := hSw; go_simp; rfl)
    go_simp
    refine heldOne (i := 7) (by kernel_rfl) rfl (by rfl) (fun K hK => ?_)
    go_simp
    refine (awake_any w6 (HG.out.keep (HN2.out.trans N6.out) id)).mono ?_
    rintro e w7 ⟨rfl, hn7⟩
    have N7 := Lib.hid (N6.out.trans hn7)
    refine hK.out _ _ (HS.out _ N7.out) ?_
    have s7 := HS.out _ N7.out
    clear hK K hn7 s6
    refine wpAnyH_take (i := 8) (v := ?_) rfl (by kernel_rfl) (by kernel_rfl) (by kernel_rfl) (fun _ _ _ h => h) (Or.inl ⟨by rfl, ?_⟩) s7 ?_
    rotate_left
    · intro w hSw; first | (obtain ⟨s1, s2, s3, s4, s5, s6, s7, s8⟩ := hSw; go_simp; rfl) | (obtain ⟨s1, s2, s3, s4, s5, s6, s7⟩ := hSw; go_simp; rfl) | (obtain ⟨s1, s2, s3⟩ := hSw; go_simp; rfl) | (obtain ⟨s1, s2⟩ := hSw; go_simp; rfl) | (have s1 := hSw; go_simp; rfl)
    go_simp
    refine wpAnyH_take (i := 9) (v := ?_) rfl (by kernel_rfl) (by kernel_rfl) (by kernel_rfl) (fun _ _ _ h => h) (Or.inl ⟨by rfl, ?_⟩) s7 ?_
    rotate_left
    · intro w hSw; first | (obtain ⟨s1, s2, s3, s4, s5, s6, s7, s8⟩ := hSw; go_simp; rfl) | (obtain ⟨s1, s2, s3, s4, s5, s6, s7⟩ := hSw; go_simp; rfl) | (obtain ⟨s1, s2, s3⟩ := hSw; go_simp; rfl) | (obtain ⟨s1, s2⟩ := hSw; go_simp; rfl) | (have s1 := hSw; go_simp; rfl)
    go_simp
    refine wpAnyH_done (by kernel_rfl) ?_ _
    clear s7
    go_wp2
    go_ret
    exact ⟨rfl, HN2.out.trans N7.out⟩

end Go.Proofs.YtkpliapmllabaaaDoor
