/- A library checked: the program's side. -/
import Derived.Test.YtkpliapmllabaaaDoorCodeG
import Derived.Test.YtkpliapmllabaaaDoorDocsB
import Derived.Test.YtkpliapmllabaaaDoorDoorP
namespace Go.Proofs.YtkpliapmllabaaaDoor
open Go.RowKit

/-- A call of a library. -/
structure Rw where
  num : Int
  at_ : Int
  k0 : Int
  k1 : Int
  k2 : Int
  k3 : Int
def rwC (r : Rw) : List Value := [.int .i64 r.num, .int .i64 r.at_, .int .i64 r.k0, .int .i64 r.k1, .int .i64 r.k2, .int .i64 r.k3]
theorem rwC_len (r : Rw) : (rwC r).length = 6 := rfl
/-- The cells behind ao are these calls. -/
def RowsR (w : World) (ao : Option Addr) (l : List Rw) : Prop :=
  ∀ (j : Nat) (r : Rw), l[j]? = some r → ∃ b off, ao = some ⟨b, off, none⟩ ∧ b < w.heap.size ∧ ∀ i u, (rwC r)[i]? = some u → w.cell? ⟨b, off + j * 6 + i, none⟩ = some u
theorem RowsR.keep {w w' : World} {ao : Option Addr} {l : List Rw} (h : RowsR w ao l) (f : New w w') : RowsR w' ao l := fun j r hr => by
  obtain ⟨b, off, h1, h2, h3⟩ := h j r hr
  exact ⟨b, off, h1, Nat.lt_of_lt_of_le h2 f.size, fun i u hu => (f.cell h2 id _).trans (h3 i u hu)⟩

def kindBad (k : Int) : Prop := k < 0 ∨ 7 < k
/-- A call that may not be, behind these, in a code of so many. -/
def rowBad (L : Int) (prev : List Rw) (r : Rw) : Prop := (r.num < 1 ∨ 999 < r.num ∨ (∃ p ∈ prev, p.num = r.num) ∨ r.at_ < 0 ∨ L ≤ r.at_) ∨ kindBad r.k0 ∨ kindBad r.k1 ∨ kindBad r.k2 ∨ kindBad r.k3

/-- The first call that may not be. -/
noncomputable def rowsErr (L : Int) (l : List Rw) : Option Nat := by
  classical exact (List.range l.length).find? fun i => decide (∃ r, l[i]? = some r ∧ rowBad L (l.take i) r)
theorem rowsErr_some {L : Int} {l : List Rw} {q : Nat} {r : Rw} (hq : l[q]? = some r) (hb : rowBad L (l.take q) r) (hno : ∀ i r, i < q → l[i]? = some r → ¬ rowBad L (l.take i) r) : rowsErr L l = some q := by
  have hl := (List.getElem?_eq_some_iff.1 hq).1
  unfold rowsErr
  rw [List.find?_eq_some_iff_append]
  refine ⟨by simpa using ⟨r, hq, hb⟩, List.range q, (List.range (l.length - q - 1)).map (· + (q + 1)), ?_, fun i hi => ?_⟩
  · apply List.ext_getElem?
    intro i
    by_cases h : i < l.length
    · rw [List.getElem?_range h]
      by_cases h1 : i < q
      · rw [List.getElem?_append_left (by simpa using h1), List.getElem?_range h1]
      · rw [List.getElem?_append_right (by simpa using h1)]
        simp only [List.length_range]
        by_cases h2 : i = q
        · subst h2; simp
        · rw [show i - q = (i - q - 1) + 1 by omega, List.getElem?_cons_succ, List.getElem?_map, List.getElem?_range (by omega)]
          simp; omega
    · rw [List.getElem?_eq_none (by simpa using h), List.getElem?_eq_none (by simp; omega)]
  · have hi' := List.mem_range.1 hi
    simp only [Bool.not_eq_true, decide_eq_false_iff_not, Bool.not_eq_eq_eq_not, Bool.not_true]
    rintro ⟨r', h1, h2⟩
    exact hno i r' hi' h1 h2
theorem rowsErr_none {L : Int} {l : List Rw} (hno : ∀ i r, i < l.length → l[i]? = some r → ¬ rowBad L (l.take i) r) : rowsErr L l = none := by
  unfold rowsErr
  rw [List.find?_eq_none]
  intro i hi
  have hi' := List.mem_range.1 hi
  simp only [decide_eq_true_eq]
  rintro ⟨r', h1, h2⟩
  exact hno i r' hi' h1 h2
noncomputable def rowsL (L : Int) (l : List Rw) : ErrL := match rowsErr L l with | some i => some ([(codeL, (i : Int))], 1) | none => none
theorem rowsL_some {L : Int} {l : List Rw} {q : Nat} (h : rowsErr L l = some q) : rowsL L l = some ([(codeL, (q : Int))], 1) := by unfold rowsL; rw [h]
theorem rowsL_none {L : Int} {l : List Rw} (h : rowsErr L l = none) : rowsL L l = none := by unfold rowsL; rw [h]
theorem few_rows (L : Int) (l : List Rw) : Few (rowsL L l) := by
  unfold rowsL
  split
  · exact .inl ⟨_, rfl⟩
  · trivial
/-- Is there a call of this number among these? -/
def seenB (ps : List Rw) (n : Nat) : Bool := ps.any fun p => p.num == (n : Int)
theorem seenB_snoc (ps : List Rw) (r : Rw) (n : Nat) : seenB (ps ++ [r]) n = (seenB ps n || r.num == (n : Int)) := by simp [seenB]
theorem seenB_iff (ps : List Rw) (n : Nat) : seenB ps n = true ↔ ∃ p ∈ ps, p.num = (n : Int) := by simp [seenB]
theorem takeR {L : List Rw} {q : Nat} {x : Rw} (h : L[q]? = some x) : L.take (q + 1) = L.take q ++ [x] := by
  rw [List.take_add_one, h]; rfl
/-- The kind at a place. -/
def kindAt (r : Rw) (m : Nat) : Int := [r.k0, r.k1, r.k2, r.k3].getD m 0
theorem zeroSeen : Tryd.zeroCells74.toList = List.replicate 1000 (.bool false) := by kernel_rfl
theorem index_kind (r : Rw) (m : Nat) (hm : m < 4) (w : World) : (Instr.index 75 (.agg #[.int .i64 r.k0, .int .i64 r.k1, .int .i64 r.k2, .int .i64 r.k3]) (.int .i64 (m : Int))).run Tryd.prog w = .ok (.int .i64 (kindAt r m)) w := by
  rcases (show m = 0 ∨ m = 1 ∨ m = 2 ∨ m = 3 by omega) with rfl | rfl | rfl | rfl
  · exact (show (Instr.index 75 (.agg #[.int .i64 r.k0, .int .i64 r.k1, .int .i64 r.k2, .int .i64 r.k3]) (.int .i64 0)).run Tryd.prog w = .ok (.int .i64 r.k0) w by kernel_rfl)
  · exact (show (Instr.index 75 (.agg #[.int .i64 r.k0, .int .i64 r.k1, .int .i64 r.k2, .int .i64 r.k3]) (.int .i64 1)).run Tryd.prog w = .ok (.int .i64 r.k1) w by kernel_rfl)
  · exact (show (Instr.index 75 (.agg #[.int .i64 r.k0, .int .i64 r.k1, .int .i64 r.k2, .int .i64 r.k3]) (.int .i64 2)).run Tryd.prog w = .ok (.int .i64 r.k2) w by kernel_rfl)
  · exact (show (Instr.index 75 (.agg #[.int .i64 r.k0, .int .i64 r.k1, .int .i64 r.k2, .int .i64 r.k3]) (.int .i64 3)).run Tryd.prog w = .ok (.int .i64 r.k3) w by kernel_rfl)
theorem kinds_ok {r : Rw} (h : ∀ m, m < 4 → ¬ kindBad (kindAt r m)) : ¬ (kindBad r.k0 ∨ kindBad r.k1 ∨ kindBad r.k2 ∨ kindBad r.k3) := by
  rintro (h' | h' | h' | h')
  · exact h 0 (by omega) h'
  · exact h 1 (by omega) h'
  · exact h 2 (by omega) h'
  · exact h 3 (by omega) h'
theorem kinds_bad {r : Rw} {m : Nat} (hm : m < 4) (h : kindBad (kindAt r m)) : kindBad r.k0 ∨ kindBad r.k1 ∨ kindBad r.k2 ∨ kindBad r.k3 := by
  match m, hm with
  | 0, _ => exact .inl h
  | 1, _ => exact .inr (.inl h)
  | 2, _ => exact .inr (.inr (.inl h))
  | 3, _ => exact .inr (.inr (.inr h))
/-- What was seen so far, in block sb. -/
def SeenR (w : World) (sb : Nat) (ps : List Rw) : Prop := sb < w.heap.size ∧ (∀ n, w.frozen? ⟨sb, n, none⟩ = false) ∧ ∀ n, n < 1000 → w.cell? ⟨sb, n, none⟩ = some (.bool (seenB ps n))
theorem SeenR.start (w : World) : SeenR (w.alloc (.cells Tryd.zeroCells74 74)) w.heap.size [] := by
  have h := block_alloc_new w (.cells Tryd.zeroCells74 74)
  refine ⟨lt_of_block h, free_of_block h, fun n hn => ?_⟩
  rw [cell_of_block h, ← Array.getElem?_toList, zeroSeen, List.getElem?_replicate, if_pos hn]; rfl
theorem SeenR.keep {w w' : World} {sb : Nat} {ps : List Rw} (h : SeenR w sb ps) (f : New w w') : SeenR w' sb ps :=
  ⟨Nat.lt_of_lt_of_le h.1 f.size, fun n => (f.frozen h.1 id n).trans (h.2.1 n), fun n hn => (f.cell h.1 id n).trans (h.2.2 n hn)⟩
theorem SeenR.set {w : World} {sb : Nat} {ps : List Rw} {r : Rw} {n : Nat} (h : SeenR w sb ps) (hn : n < 1000) (hr : r.num = (n : Int)) : SeenR (w.setCell ⟨sb, n, none⟩ (.bool true)) sb (ps ++ [r]) := by
  refine ⟨by simpa using h.1, fun k => by rw [World.frozen?_setCell]; exact h.2.1 k, fun k hk => ?_⟩
  rw [seenB_snoc]
  by_cases e : k = n
  · subst e
    rw [cell_set_eq _ (h.2.2 k hk), hr]; simp
  · rw [cell_set_ne _ (.inr (Ne.symm e)), h.2.2 k hk]
    have : (r.num == (k : Int)) = false := by rw [beq_eq_false_iff_ne, hr]; omega
    rw [this, Bool.or_false]

set_option maxRecDepth 100000 in
set_option maxHeartbeats 8000000 in
theorem lib_rows (rs : List (List Int)) (ao bo : Option Addr) (ca cb : Nat) (Lp : Int) (l : List Rw) (w : World) (hg : Laid w) (hfit : ∀ r ∈ rs, RecOk insKs r) (hc : Recs insKs w ao rs) (hm : rs.length ≤ 9223372036854775807)
    (hb : RowsR w bo l) (hl : l.length ≤ 2000) (hbd : ∀ r ∈ l, (-9223372036854775808 ≤ r.num ∧ r.num ≤ 9223372036854775807) ∧ (-9223372036854775808 ≤ r.at_ ∧ r.at_ ≤ 9223372036854775807)) (h0 : rs.length ≠ 0) (h1 : checkErr rs true = none) (h2 : placeL Lp rs.length = none) :
    Calls Tryd.prog 25 #[.agg #[.slice ao rs.length ca, .int .i64 Lp, .slice bo l.length cb]] w fun e w' => ∃ v, e = .returned v ∧ Tells w' v (rowsL rs.length l) ∧ New w w' := by
  have HCK := Lib.hid (fun (w' : World) (f : New w w') => checked_any rs ao ca true w' (hg.keep f id) hfit (hc.keep f) hm)
  rw [h1] at HCK
  obtain ⟨L, hL⟩ : ∃ L, rs.length = L := ⟨_, rfl⟩
  rw [hL] at HCK hm h0 h2 ⊢
  have h5 : ((L : Int) == 0) = false := by rw [beq_eq_false_iff_ne]; omega
  have HPL := Lib.hid (fun (w' : World) => place_any Lp L w')
  rw [h2] at HPL
  obtain ⟨C, hC⟩ : ∃ C, l.length = C := ⟨_, rfl⟩
  have HB := Lib.hid hb
  have HC := Lib.hid hC
  have HBD := Lib.hid hbd
  rw [hC] at hl ⊢
  clear hfit hc hL h1 h2 hb hC hbd h0
  go_enter Tryd.func25, Tryd.ntmps25
  go_wp2_with fail
  obtain ⟨W0, hW0⟩ : ∃ W0, w.alloc (.cells #[.slice ao L ca, .int .i64 Lp, .slice bo C cb] 57) = W0 := ⟨_, rfl⟩
  have hn0 : New w W0 := by rw [← hW0]; exact (Fr.refl _ _).alloc _
  have hx0 : Arr W0 w.heap.size [.slice ao L ca, .int .i64 Lp, .slice bo C cb] := by rw [← hW0]; exact Arr.new _ _ _
  rw [hW0]
  refine (HCK.out W0 hn0).mono ?_
  rintro e w1 ⟨v, rfl, hs, hn1⟩
  obtain rfl : v = .nilIface := hs
  have hx1 := hx0.keep hn1 id
  have hn01 := hn0.trans hn1
  obtain ⟨xb, hxb⟩ : ∃ xb, w.heap.size = xb := ⟨_, rfl⟩
  have hxw : w.heap.size ≤ xb := by omega
  rw [hxb] at hx1 ⊢
  have c0 : w1.cell? ⟨xb, 0, none⟩ = some (.slice ao L ca) := hx1.cell 0 _ rfl
  have c1 : w1.cell? ⟨xb, 1, none⟩ = some (.int .i64 Lp) := hx1.cell 1 _ rfl
  have HX1 := Lib.hid hx1
  have HN1 := Lib.hid hn01
  clear hW0 hx0 hn0 hn1 hx1 hn01 hxb HCK
  go_wp2_with fail
  refine (HPL.out w1).mono ?_
  rintro e w2 ⟨v2, rfl, h6, hn2⟩
  obtain rfl : v2 = .nilIface := h6
  obtain ⟨W2, hW2⟩ : ∃ W2, w2.alloc (.cells Tryd.zeroCells74 74) = W2 := ⟨_, rfl⟩
  have hn3 : New w2 W2 := by rw [← hW2]; exact (Fr.refl _ _).alloc _
  have hs2 : SeenR W2 w2.heap.size [] := by rw [← hW2]; exact SeenR.start w2
  have hx2 := (HX1.out.keep hn2 id).keep hn3 id
  have hsb : xb < w2.heap.size := (HX1.out.keep hn2 id).lt
  obtain ⟨sb, hsbe⟩ : ∃ sb, w2.heap.size = sb := ⟨_, rfl⟩
  rw [hsbe] at hs2 hsb
  have hwsb : w.heap.size ≤ sb := by omega
  have HX2 := Lib.hid hx2
  have HN2 := Lib.hid ((HN1.out.trans hn2).trans hn3)
  have HS2 := Lib.hid hs2
  have d2 : W2.cell? ⟨xb, 2, none⟩ = some (.slice bo C cb) := hx2.cell 2 _ rfl
  clear HX1 HN1 hn2 hn3 hs2 hx2 c0 c1 HPL
  go_upto_region 10 with fail
  clear hW2 hsbe
  go_wp2_with fail
  go_loopw [34] (fun i wr => ∃ q : Nat, q ≤ C ∧ i = .int .i64 q ∧ Fr (· = sb) W2 wr ∧ SeenR wr sb (l.take q) ∧ ∀ j r, j < q → l[j]? = some r → ¬ rowBad L (l.take j) r) (fun i _ => C - (intOf i).toNat)
  case atStart => exact ⟨0, by omega, rfl, Fr.refl _ _, HS2.out, fun j r hj => by omega⟩
  case round =>
    clear HS2 d2
    obtain ⟨q, hq, rfl, hf, hs, hno⟩ := hrel
    have HF := Lib.hid hf
    have HS := Lib.hid hs
    have HNO := Lib.hid hno
    by_cases hlt : q < C
    · obtain ⟨r, hr⟩ : ∃ r, l[q]? = some r := ⟨l[q]'(by rw [HC.out]; exact hlt), by simp⟩
      obtain ⟨g, off, rfl, hg1, hcr⟩ := HB.out q r hr
      have hrb := HBD.out r (List.mem_of_getElem? hr)
      have hgW : g < W2.heap.size := Nat.lt_of_lt_of_le hg1 HN2.out.size
      have hcr' : ∀ i u, (rwC r)[i]? = some u → wr.cell? ⟨g, off + q * 6 + i, none⟩ = some u := fun i u hu => (hf.cell hgW (by omega) _).trans ((HN2.out.cell hg1 id _).trans (hcr i u hu))
      have x0 : wr.cell? ⟨g, off + q * 6, none⟩ = some (.int .i64 r.num) := hcr' 0 _ rfl
      have x1 : wr.cell? ⟨g, off + q * 6 + 1, none⟩ = some (.int .i64 r.at_) := hcr' 1 _ rfl
      have x2 : wr.cell? ⟨g, off + q * 6 + 2, none⟩ = some (.int .i64 r.k0) := hcr' 2 _ rfl
      have x3 : wr.cell? ⟨g, off + q * 6 + 3, none⟩ = some (.int .i64 r.k1) := hcr' 3 _ rfl
      have x4 : wr.cell? ⟨g, off + q * 6 + 4, none⟩ = some (.int .i64 r.k2) := hcr' 4 _ rfl
      have x5 : wr.cell? ⟨g, off + q * 6 + 5, none⟩ = some (.int .i64 r.k3) := hcr' 5 _ rfl
      have y0 : wr.cell? ⟨xb, 0, none⟩ = some (.slice ao L ca) := (HX2.out.keep hf (by omega)).cell 0 _ rfl
      have q1 : (0 : Int) ≤ (q : Int) := by omega
      have q2 : (q : Int) < (C : Int) := by omega
      have HR := Lib.hid hr
      clear hf hs hno hcr hcr' hr
      go_upto_region 13 with fail
      obtain ⟨W3, hW3⟩ : ∃ W3, wr.alloc (.cells #[.int .i64 r.num, .int .i64 r.at_, .int .i64 r.k0, .int .i64 r.k1, .int .i64 r.k2, .int .i64 r.k3] 77) = W3 := ⟨_, rfl⟩
      have n3 : New wr W3 := by rw [← hW3]; exact (Fr.refl _ _).alloc _
      have z3 : Arr W3 wr.heap.size (rwC r) := by rw [← hW3]; exact Arr.new _ _ _
      have s3 := HS.out.keep n3
      have HF3 := Lib.hid (HF.out.trans (n3.mono (fun _ _ h => h.elim)))
      have hrs : sb < wr.heap.size := HS.out.1
      obtain ⟨rb, hrbe⟩ : ∃ rb, wr.heap.size = rb := ⟨_, rfl⟩
      rw [hrbe] at z3 hrs
      have y3 := (n3.cell (lt_of_cell y0) id 0).trans y0
      have z0 : W3.cell? ⟨rb, 0, none⟩ = some (.int .i64 r.num) := z3.cell 0 _ rfl
      have z1 : W3.cell? ⟨rb, 1, none⟩ = some (.int .i64 r.at_) := z3.cell 1 _ rfl
      have HZ3 := Lib.hid z3
      have HS3 := Lib.hid s3
      have hgood : r.num < 1 ∨ (1 ≤ r.num ∧ 999 < r.num) ∨ ∃ n : Nat, r.num = (n : Int) ∧ 1 ≤ n ∧ n ≤ 999 := by
        by_cases e1 : r.num < 1
        · exact .inl e1
        · by_cases e2 : 999 < r.num
          · exact .inr (.inl ⟨by omega, e2⟩)
          · exact .inr (.inr ⟨r.num.toNat, by omega, by omega, by omega⟩)
      clear x0 x1 x2 x3 x4 x5 y0 n3 z3 s3 HF HS
      first | rw [hW3, hrbe] | rw [hW3] | skip
      clear hW3 hrbe
      go_cut [65] (fun b wx => b = .bool (decide (r.num < 1 ∨ 999 < r.num ∨ (∃ p ∈ l.take q, p.num = r.num) ∨ r.at_ < 0 ∨ (L : Int) ≤ r.at_)) ∧ wx = W3)
      case first => as_aux_lemma =>
        rcases hgood with e1 | ⟨e1, e2⟩ | ⟨n, e1, e2, e3⟩
        · go_wp2_with fail
          go_meet
          exact ⟨by rw [decide_eq_true (.inl e1)], rfl⟩
        · go_wp2_with fail
          go_meet
          exact ⟨by rw [decide_eq_true (.inr (.inl e2))], rfl⟩
        · have hsn := HS3.out.2.2 n (by omega)
          cases hx : seenB (l.take q) n with
          | true =>
            have hex := (seenB_iff _ _).1 hx
            rw [← e1] at hex
            rw [hx] at hsn
            rw [e1] at z0
            go_wp2_with fail
            go_meet
            exact ⟨by rw [decide_eq_true (.inr (.inr (.inl hex)))], rfl⟩
          | false =>
            have hnex : ¬ ∃ p ∈ l.take q, p.num = r.num := fun h => by
              rw [e1] at h
              rw [(seenB_iff _ _).2 h] at hx; cases hx
            rw [hx] at hsn
            rw [e1] at z0
            by_cases e4 : r.at_ < 0
            · go_wp2_with fail
              go_meet
              exact ⟨by rw [decide_eq_true (.inr (.inr (.inr (.inl e4))))], rfl⟩
            · by_cases e5 : (L : Int) ≤ r.at_
              · go_wp2_with fail
                go_meet
                exact ⟨by rw [decide_eq_true (.inr (.inr (.inr (.inr e5))))], rfl⟩
              · have e6 : ¬ (r.num < 1 ∨ 999 < r.num ∨ (∃ p ∈ l.take q, p.num = r.num) ∨ r.at_ < 0 ∨ (L : Int) ≤ r.at_) := by
                  rintro (h | h | h | h | h)
                  · omega
                  · omega
                  · exact hnex h
                  · exact e4 h
                  · exact e5 h
                go_wp2_with fail
                go_meet
                exact ⟨by rw [decide_eq_false e6, decide_eq_false (show ¬ (n : Int) < 1 by omega), decide_eq_false (show ¬ (999 : Int) < (n : Int) by omega)]; rfl, rfl⟩
      obtain ⟨rfl, rfl⟩ := hcut
      by_cases hB : (r.num < 1 ∨ 999 < r.num ∨ (∃ p ∈ l.take q, p.num = r.num) ∨ r.at_ < 0 ∨ (L : Int) ≤ r.at_)
      · have HE := Lib.hid (rowsL_some (rowsErr_some HR.out (.inl hB) HNO.out))
        rw [decide_eq_true hB]
        clear hB
        go_wp2_with (go_at_call 30; refine (fail_any _ _ _ (by omega) (by omega)).mono ?_; rintro e w' ⟨eb, rfl, he, hn⟩)
        go_ret
        exact ⟨_, rfl, by rw [HE.out]; exact tells_once (o := some ((q : Int), 1)) he, (HN2.out.then HF3.out (fun i hi e => by omega)).trans hn⟩
      · obtain ⟨n, e1, e2, e3⟩ : ∃ n : Nat, r.num = (n : Int) ∧ 1 ≤ n ∧ n ≤ 999 := by
          rcases hgood with h | ⟨_, h⟩ | h
          · exact absurd (.inl h) hB
          · exact absurd (.inr (.inl h)) hB
          · exact h
        rw [decide_eq_false hB]
        have HNB := Lib.hid hB
        have hfz := HS3.out.2.1 n
        have hsc := HS3.out.2.2 n (by omega)
        have E1 := Lib.hid e1
        rw [e1] at z0
        clear hB hgood e1
        go_upto_region 16 with fail
        obtain ⟨W4, hW4⟩ : ∃ W4, wc.setCell ⟨sb, n, none⟩ (.bool true) = W4 := ⟨_, rfl⟩
        have f4 : Fr (· = sb) wc W4 := by rw [← hW4]; exact (Fr.refl (· = sb) _).setCell (fun _ => rfl) _
        have s4 : SeenR W4 sb (l.take (q + 1)) := by rw [← hW4, takeR HR.out]; exact HS3.out.set (by omega) E1.out
        have HZ4 := Lib.hid (HZ3.out.keep f4 (by omega))
        have k0 : W4.cell? ⟨rb, 2, none⟩ = some (.int .i64 r.k0) := HZ4.out.cell 2 _ rfl
        have k1 : W4.cell? ⟨rb, 3, none⟩ = some (.int .i64 r.k1) := HZ4.out.cell 3 _ rfl
        have k2 : W4.cell? ⟨rb, 4, none⟩ = some (.int .i64 r.k2) := HZ4.out.cell 4 _ rfl
        have k3 : W4.cell? ⟨rb, 5, none⟩ = some (.int .i64 r.k3) := HZ4.out.cell 5 _ rfl
        have HF4 := Lib.hid (HF3.out.trans f4)
        have HS4 := Lib.hid s4
        rw [hW4]
        clear hfz hsc z0 z1 y3 f4 s4 hW4 HZ3 HS3 HF3
        go_wp2_with fail
        go_loopw [74] (fun i wz => ∃ m : Nat, m ≤ 4 ∧ i = .int .i64 m ∧ (∀ j, j < m → ¬ kindBad (kindAt r j)) ∧ wz = W4) (fun i _ => 4 - (intOf i).toNat)
        case atStart => exact ⟨0, by omega, rfl, fun j hj => by omega, rfl⟩
        case round =>
          obtain ⟨m, hm4, rfl, hok, rfl⟩ := hrel
          have HOK := Lib.hid hok
          by_cases hlt4 : m < 4
          · have hidx := fun (w : World) => index_kind r m hlt4 w
            obtain ⟨kk, hkk⟩ : ∃ kk, kindAt r m = kk := ⟨_, rfl⟩
            rw [hkk] at hidx
            have HKK := Lib.hid hkk
            have t1 : (m : Int) < 4 := by omega
            clear hok hkk
            have hret : kindBad kk → rowsL L l = some ([(codeL, (q : Int))], 1) := fun h => rowsL_some (rowsErr_some HR.out (.inr (kinds_bad hlt4 (by rw [HKK.out]; exact h))) HNO.out)
            by_cases c1 : kk < 0
            · have HE := Lib.hid (hret (.inl c1))
              clear hret
              go_wp2_with (go_at_call 30; refine (fail_any _ _ _ (by omega) (by omega)).mono ?_; rintro e w' ⟨eb, rfl, he, hn⟩)
              go_ret
              exact ⟨_, rfl, by rw [HE.out]; exact tells_once (o := some ((q : Int), 1)) he, (HN2.out.then HF4.out (fun i hi e => by omega)).trans hn⟩
            · by_cases c2 : 7 < kk
              · have HE := Lib.hid (hret (.inr c2))
                clear hret
                go_wp2_with (go_at_call 30; refine (fail_any _ _ _ (by omega) (by omega)).mono ?_; rintro e w' ⟨eb, rfl, he, hn⟩)
                go_ret
                exact ⟨_, rfl, by rw [HE.out]; exact tells_once (o := some ((q : Int), 1)) he, (HN2.out.then HF4.out (fun i hi e => by omega)).trans hn⟩
              · clear hret
                go_wp2_with fail
                go_roundw
                case rel => exact ⟨m + 1, by omega, by go_num, fun j hj => by
                  rcases Nat.lt_succ_iff_lt_or_eq.1 hj with h | rfl
                  · exact HOK.out j h
                  · rw [HKK.out]; unfold kindBad; omega, trivial⟩
                case measure => simp [intOf]; omega
          · obtain rfl : m = 4 := by omega
            have hk4 := kinds_ok hok
            have HNR := Lib.hid (show ¬ rowBad L (l.take q) r from fun h => h.elim HNB.out hk4)
            clear hok hk4
            go_wp2_with fail
            go_roundw
            case rel => exact ⟨q + 1, by omega, by go_num, HF4.out, HS4.out, fun j r' hj hr' => by
              rcases Nat.lt_succ_iff_lt_or_eq.1 hj with h | rfl
              · exact HNO.out j r' h hr'
              · obtain rfl := Option.some.inj (HR.out.symm.trans hr'); exact HNR.out⟩
            case measure => simp [intOf]; omega
    · obtain rfl : q = C := by omega
      have HE := Lib.hid (rowsL_none (rowsErr_none (fun i r hi hr => HNO.out i r (by rw [HC.out] at hi; exact hi) hr)))
      clear hf hs hno
      go_wp2_with fail
      go_ret
      exact ⟨_, rfl, by rw [HE.out]; rfl, HN2.out.then HF.out (fun i hi e => by omega)⟩

end Go.Proofs.YtkpliapmllabaaaDoor
