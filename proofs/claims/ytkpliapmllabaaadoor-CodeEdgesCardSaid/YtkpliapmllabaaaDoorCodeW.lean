/- One instruction in all places of a code: the statements' own 'right'. -/
import Derived.Test.YtkpliapmllabaaaDoorCodeE
namespace Go.Proofs.YtkpliapmllabaaaDoor
open Go.RowKit

theorem firstNo_same (n : Int) (lib : Bool) (r : List Int) : ∀ (m i : Nat), firstNo n lib (List.replicate m r) i = if m = 0 ∨ mayL n lib r then none else some ((i : Int), 5)
  | 0, _ => by simp [firstNo]
  | m + 1, i => by
    rw [List.replicate_succ]
    unfold firstNo
    rw [firstNo_same n lib r m (i + 1)]
    cases mayL n lib r <;> simp
theorem checkErr_same (n : Nat) (lib : Bool) (r : List Int) (h : n ≤ 2048) : checkErr (List.replicate n r) lib = if n = 0 ∨ mayL n lib r then none else some (0, 5) := by
  unfold checkErr
  rw [List.length_replicate, if_neg (by omega), firstNo_same]
  rfl

/-- Values laid one behind the other. -/
def laidAll (w : World) (b off : Nat) : List Value → World
  | [] => w
  | v :: r => laidAll (w.setCell ⟨b, off, none⟩ v) b (off + 1) r
theorem laidAll_fr (b : Nat) : ∀ (vs : List Value) (w : World) (off : Nat), Fr (· = b) w (laidAll w b off vs)
  | [], w, off => Fr.refl _ _
  | v :: r, w, off => ((Fr.refl (· = b) w).setCell (fun _ => rfl) _).trans (laidAll_fr b r _ _)
theorem laidAll_other (b : Nat) : ∀ (vs : List Value) (w : World) (off o : Nat), (o < off ∨ off + vs.length ≤ o) → (laidAll w b off vs).cell? ⟨b, o, none⟩ = w.cell? ⟨b, o, none⟩
  | [], w, off, o, h => rfl
  | v :: r, w, off, o, h => by
    rw [List.length_cons] at h
    unfold laidAll
    rw [laidAll_other b r _ _ _ (by omega), cell_set_ne _ (.inr (by omega))]
theorem laidAll_frozen (b : Nat) : ∀ (vs : List Value) (w : World) (off o : Nat), (laidAll w b off vs).frozen? ⟨b, o, none⟩ = w.frozen? ⟨b, o, none⟩
  | [], w, off, o => rfl
  | v :: r, w, off, o => by
    unfold laidAll
    rw [laidAll_frozen b r, World.frozen?_setCell]
theorem laidAll_at (b : Nat) : ∀ (vs : List Value) (w : World) (off j : Nat) (v : Value), vs[j]? = some v → (∀ i, i < vs.length → ∃ u, w.cell? ⟨b, off + i, none⟩ = some u) → (laidAll w b off vs).cell? ⟨b, off + j, none⟩ = some v
  | [], w, off, j, v, h, _ => by simp at h
  | u :: r, w, off, 0, v, h, ho => by
    obtain rfl : u = v := by simpa using h
    unfold laidAll
    obtain ⟨x, hx⟩ := ho 0 (by simp)
    rw [laidAll_other b r _ _ _ (by omega)]
    exact cell_set_eq _ hx
  | u :: r, w, off, j + 1, v, h, ho => by
    unfold laidAll
    rw [show off + (j + 1) = off + 1 + j by omega]
    refine laidAll_at b r _ _ j v (by simpa using h) (fun i hi => ?_)
    obtain ⟨x, hx⟩ := ho (i + 1) (by simp; omega)
    exact ⟨x, by rw [cell_set_ne _ (.inr (by omega)), ← hx]; congr 2; omega⟩

/-- The first k of n are this instruction, the others none. -/
def someR (r : List Int) (n k : Nat) : List (List Int) := List.replicate k r ++ List.replicate (n - k) [0, 0, 0, 0, 0, 0, 0]
theorem someR_len (r : List Int) {n k : Nat} (h : k ≤ n) : (someR r n k).length = n := by simp [someR]; omega
theorem someR_set (r : List Int) {n k : Nat} (h : k < n) : (someR r n k).set k r = someR r n (k + 1) := by
  unfold someR
  apply List.ext_getElem?
  intro j
  by_cases e : k = j
  · subst e
    rw [List.getElem?_set_self (by simp; omega), List.getElem?_append_left (by simp)]; simp
  · rw [List.getElem?_set_ne e]
    by_cases hj : j < k
    · rw [List.getElem?_append_left (by simpa using hj), List.getElem?_append_left (by simp; omega)]
      simp [hj, show j < k + 1 by omega]
    · rw [List.getElem?_append_right (by simp; omega), List.getElem?_append_right (by simp; omega)]
      simp only [List.length_replicate, List.getElem?_replicate]
      by_cases h3 : j < n
      · rw [if_pos (by omega), if_pos (by omega)]
      · rw [if_neg (by omega), if_neg (by omega)]
theorem recs_arr {w : World} {b : Nat} {rs : List (List Int)} (h : Arr w b (rs.flatMap insCells)) : Recs insKs w (some ⟨b, 0, none⟩) rs := by
  intro i r hi
  refine ⟨b, 0, rfl, h.lt, fun j z k hz hk => ?_⟩
  have hj : j < 7 := by have := (List.getElem?_eq_some_iff.1 hk).1; simpa using this
  rw [Nat.zero_add]
  exact h.cell _ _ (by show (rs.flatMap insCells)[i * 7 + j]? = _; rw [get_flatMap insCells 7 insCells_len _ _ _ hj, hi]; exact insCells_of hz hk)
theorem insCells_7 (o A B C V M W : Int) : insCells [o, A, B, C, V, M, W] = [.int .i64 o, .int .i64 A, .int .i64 B, .int .i64 C, .int .u64 V, .int .i64 M, .int .i64 W] := rfl

set_option maxRecDepth 100000 in
set_option maxHeartbeats 4000000 in
theorem right1_any (o A B C M W : Int) (V n : Nat) (lib : Bool) (w : World) (hfit : RecOk insKs [o, A, B, C, (V : Int), M, W]) (hn0 : 1 ≤ n) (hn : n ≤ 64) :
    Calls Tryd.prog 19 #[insV o A B C V M W, .int .i64 n, .bool lib] w fun e w' => e = .returned (.bool (mayB o A B C V M W n lib)) ∧ New w w' := by
  obtain ⟨i0, hi, hz0, hz1, hz2⟩ := info_parts insInfo
  have HF := Lib.hid hfit
  clear hfit
  go_enter Tryd.func19, Tryd.ntmps19
  go_wp2_with (at_make; refine wpList_make_full _ rfl (.tmp 9) (.tmp 9) 22 rfl (w.heap.size + 1) 42 i0 _ 7 Tryd.underlying22 hi hz0 hz1 .i64 .i64 n n n rfl rfl rfl rfl (by rw [hz2]; omega) (by unfold maxLen; omega) (by simp) ?_; intro w1 hown hgrow)
  have hsz : (w.alloc (.cells #[.int .i64 o, .int .i64 A, .int .i64 B, .int .i64 C, .int .u64 V, .int .i64 M, .int .i64 W] 42)).heap.size = w.heap.size + 1 := by simp
  rw [hsz] at hown
  have hn1 : New w w1 := ((Fr.refl _ _).alloc _).grown hgrow (fun _ h => by cases h)
  have hx1 : Arr w1 w.heap.size [.int .i64 o, .int .i64 A, .int .i64 B, .int .i64 C, .int .u64 V, .int .i64 M, .int .i64 W] := (Arr.new w _ _).keep ((Fr.refl (fun _ => False) _).grown hgrow (fun _ h => by cases h)) id
  have hs1 : Arr w1 (w.heap.size + 1) ((someR [o, A, B, C, (V : Int), M, W] n 0).flatMap insCells) := by
    have h := Arr.of_owns hown
    rw [show (madeCells (insV 0 0 0 0 0 0 0).cells (n * 7)).toList = (List.replicate n ()).flatMap fun _ => insCells [0, 0, 0, 0, 0, 0, 0] from madeRows (insCells [0, 0, 0, 0, 0, 0, 0]) (by simp [insCells]) n, flatMap_replicate] at h
    exact h
  have HX1 := Lib.hid hx1
  have HS1 := Lib.hid hs1
  have HN1 := Lib.hid hn1
  clear hx1 hs1 hn1 hown hgrow hi hz0 hz1 hz2 hsz
  go_loopw [8] (fun i wr => ∃ k : Nat, k ≤ n ∧ i = .int .i64 k ∧ New w wr ∧ Arr wr w.heap.size [.int .i64 o, .int .i64 A, .int .i64 B, .int .i64 C, .int .u64 V, .int .i64 M, .int .i64 W] ∧ Arr wr (w.heap.size + 1) ((someR [o, A, B, C, (V : Int), M, W] n k).flatMap insCells)) (fun i _ => n - (intOf i).toNat)
  case atStart => exact ⟨0, by omega, rfl, HN1.out, HX1.out, HS1.out⟩
  case round =>
    clear HX1 HS1 HN1
    obtain ⟨k, hk, rfl, hnr, hxr, hsr⟩ := hrel
    have HNR := Lib.hid hnr
    have HXR := Lib.hid hxr
    have HSR := Lib.hid hsr
    by_cases hlt : k < n
    · have x0 := hxr.cell 0 _ rfl
      have x1 := hxr.cell 1 _ rfl
      have x2 := hxr.cell 2 _ rfl
      have x3 := hxr.cell 3 _ rfl
      have x4 := hxr.cell 4 _ rfl
      have x5 := hxr.cell 5 _ rfl
      have x6 := hxr.cell 6 _ rfl
      have hold : ∀ j, j < 7 → ∃ v, wr.cell? ⟨w.heap.size + 1, k * 7 + j, none⟩ = some v := fun j hj =>
        ⟨_, hsr.at (k * 7 + j) (by rw [len_flatMap insCells 7 insCells_len, someR_len _ (by omega)]; omega)⟩
      obtain ⟨u0, y0⟩ := hold 0 (by omega)
      obtain ⟨u1, y1⟩ := hold 1 (by omega)
      obtain ⟨u2, y2⟩ := hold 2 (by omega)
      obtain ⟨u3, y3⟩ := hold 3 (by omega)
      obtain ⟨u4, y4⟩ := hold 4 (by omega)
      obtain ⟨u5, y5⟩ := hold 5 (by omega)
      obtain ⟨u6, y6⟩ := hold 6 (by omega)
      have y00 : wr.cell? ⟨w.heap.size + 1, k * 7, none⟩ = some u0 := y0
      clear y0
      have HOLD := Lib.hid hold
      have fr := hsr.free
      clear hnr hxr hsr hold
      go_wp2
      have hW : ∀ W', W' = laidAll wr (w.heap.size + 1) (k * 7) (insCells [o, A, B, C, (V : Int), M, W]) → New w W' ∧ Arr W' w.heap.size [.int .i64 o, .int .i64 A, .int .i64 B, .int .i64 C, .int .u64 V, .int .i64 M, .int .i64 W] ∧ Arr W' (w.heap.size + 1) ((someR [o, A, B, C, (V : Int), M, W] n (k + 1)).flatMap insCells) := by
        rintro W' rfl
        have hf := laidAll_fr (w.heap.size + 1) (insCells [o, A, B, C, (V : Int), M, W]) wr (k * 7)
        refine ⟨HNR.out.then hf (fun i hi e => by omega), HXR.out.keep hf (by omega), ?_⟩
        rw [← someR_set _ hlt]
        exact HSR.out.put insCells_len k _ (fun j v hj => laidAll_at _ _ _ _ _ _ hj (fun i hi => HOLD.out i (by rw [insCells_len] at hi; exact hi))) (fun j hj => laidAll_other _ _ _ _ _ (by rw [insCells_len]; exact hj)) (Nat.lt_of_lt_of_le HSR.out.lt hf.size) (fun j => (laidAll_frozen _ _ _ _ _).trans (HSR.out.free j))
      have HWW := Lib.hid (hW _ rfl)
      clear hW
      go_roundw
      case rel => exact ⟨k + 1, by omega, by go_num, HWW.out.1, HWW.out.2.1, HWW.out.2.2⟩
      case measure => simp [intOf]; omega
    · obtain rfl : n = k := by omega
      have hrec := recs_arr hsr
      unfold someR at hrec
      rw [Nat.sub_self, List.replicate_zero, List.append_nil] at hrec
      have hch := check_any (List.replicate n [o, A, B, C, (V : Int), M, W]) (some ⟨w.heap.size + 1, 0, none⟩) n lib wr (fun r hr => by rw [(List.mem_replicate.1 hr).2]; exact HF.out) hrec (by simp; omega)
      rw [List.length_replicate, checkErr_same n lib _ (by omega)] at hch
      rw [show mayL n lib [o, A, B, C, (V : Int), M, W] = mayB o A B C V M W n lib from rfl] at hch
      cases hb : mayB o A B C V M W n lib with
      | true =>
        rw [hb, if_pos (.inr rfl)] at hch
        have HCH := Lib.hid hch
        have HBB := Lib.hid hb
        clear hch hb hrec hnr hxr hsr HXR HSR
        go_wp2_with fail
        refine HCH.out.mono ?_
        rintro e w2 ⟨v, rfl, hv, hn2⟩
        obtain rfl : v = .nilIface := hv
        have HN2 := Lib.hid (HNR.out.trans hn2)
        clear hn2
        go_wp2
        go_ret
        exact ⟨ret_bool HBB.out.symm, HN2.out⟩
      | false =>
        rw [hb, if_neg (by simp; omega)] at hch
        have HCH := Lib.hid hch
        have HBB := Lib.hid hb
        clear hch hb hrec hnr hxr hsr HXR HSR
        go_wp2_with fail
        refine HCH.out.mono ?_
        rintro e w2 ⟨v, rfl, hv, hn2⟩
        obtain ⟨eb, rfl⟩ := hv.at
        have HN2 := Lib.hid (HNR.out.trans hn2)
        clear hn2 hv
        go_wp2
        go_ret
        exact ⟨ret_bool HBB.out.symm, HN2.out⟩

end Go.Proofs.YtkpliapmllabaaaDoor
