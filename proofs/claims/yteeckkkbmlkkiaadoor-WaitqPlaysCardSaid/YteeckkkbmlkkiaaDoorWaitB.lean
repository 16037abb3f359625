/- One more at a queue's end; one out of it. -/
import Derived.Test.YteeckkkbmlkkiaaDoorWaitA
import Derived.Test.YteeckkkbmlkkiaaDoorStill
namespace Go.Proofs.YteeckkkbmlkkiaaDoor
open Go.RowKit Go.Maps

theorem block_set {w : World} {b o k : Nat} {c : Array Value} {T : TypeId} {f : Nat × Nat} (h : w.heap[k]? = some (.cells c T f)) (v : Value) :
    (w.setCell ⟨b, o, none⟩ v).heap[k]? = some (.cells (if k = b then c.setIfInBounds o v else c) T f) := by
  by_cases e : k = b
  · subst e; rw [if_pos rfl]; exact block_setCell h v
  · rw [if_neg e, block_setCell_ne e]; exact h

/-- The world behind 'link', when the queue j was empty (p none), or ended with p. -/
def linked (w : World) (lb j : Nat) (s : Sl) (p : Option Sl) : World :=
  (match p with
    | none => ((w.setCell ⟨s.blk, 3, none⟩ (ptrO p)).setCell ⟨s.blk, 4, none⟩ (.pointer none)).setCell ⟨lb, j * 2, none⟩ (ptrO (some s))
    | some q => ((w.setCell ⟨s.blk, 3, none⟩ (ptrO p)).setCell ⟨s.blk, 4, none⟩ (.pointer none)).setCell ⟨q.blk, 4, none⟩ (ptrO (some s))).setCell ⟨lb, j * 2 + 1, none⟩ (ptrO (some s))

theorem getLast_mem {l : List Sl} {p : Sl} (h : l.getLast? = some p) : p ∈ l := List.mem_of_getLast? h
theorem head_snoc (l : List Sl) (s : Sl) : (l ++ [s]).head? = if l.getLast? = none then some s else l.head? := by
  cases l with
  | nil => rfl
  | cons a r => simp

theorem linked_other {w : World} {lb j : Nat} {s : Sl} {p : Option Sl} {k : Nat} (h1 : k ≠ lb) (h2 : k ≠ s.blk) (h3 : ∀ q, p = some q → k ≠ q.blk) : (linked w lb j s p).heap[k]? = w.heap[k]? := by
  unfold linked
  cases p with
  | none => rw [block_setCell_ne h1]; simp only; rw [block_setCell_ne h1, block_setCell_ne h2, block_setCell_ne h2]
  | some q => rw [block_setCell_ne h1]; simp only; rw [block_setCell_ne (h3 q rfl), block_setCell_ne h2, block_setCell_ne h2]
theorem linked_core {w : World} {qb lb mb n : Nat} {L : List Sl} {s : Sl} {x y : Value} (h : QCore w qb lb mb n L) (hb : w.heap[s.blk]? = some (.cells #[.int .u64 s.id, .int .u64 s.addr, .int .u64 s.mask, x, y] 75 (0, 0)))
    (hid : hasId L s.id = false) (hbl : ∀ a ∈ L, a.blk ≠ s.blk) (hfar : s.blk ≠ qb ∧ s.blk ≠ lb ∧ s.blk ≠ mb) (heach : 1 ≤ s.id ∧ s.id < 18446744073709551616 ∧ s.addr < 18446744073709551616 ∧ s.mask < 18446744073709551616) (hl : L.length < 1000000) :
    QCore (linked w lb (bucketN s.addr n) s (inB (bucketN · n) L (bucketN s.addr n)).getLast?) qb lb mb n (L ++ [s]) ∧ Fr (fun k => k = lb ∨ k = s.blk ∨ ∃ a ∈ L, a.blk = k) w (linked w lb (bucketN s.addr n) s (inB (bucketN · n) L (bucketN s.addr n)).getLast?) := by
  obtain ⟨j, hj⟩ : ∃ j, bucketN s.addr n = j := ⟨_, rfl⟩
  have hjn : j < n := by rw [← hj]; exact bucketN_lt _ _ h.few.1
  rw [hj]
  obtain ⟨B, hB⟩ : ∃ B, inB (bucketN · n) L j = B := ⟨_, rfl⟩
  obtain ⟨p, hp⟩ : ∃ p, B.getLast? = p := ⟨_, rfl⟩
  rw [hB, hp]
  have hpL : ∀ q, p = some q → q ∈ L := fun q hq => (inB_mem.1 (by rw [hB]; exact getLast_mem (hp.trans hq))).1
  -- what the stores may touch
  have hfr : Fr (fun k => k = lb ∨ k = s.blk ∨ ∃ a ∈ L, a.blk = k) w (linked w lb j s p) := by
    unfold linked
    cases p with
    | none => exact ((((Fr.refl _ w).setCell (fun _ => .inr (.inl rfl)) _).setCell (fun _ => .inr (.inl rfl)) _).setCell (fun _ => .inl rfl) _).setCell (fun _ => .inl rfl) _
    | some q => exact ((((Fr.refl _ w).setCell (fun _ => .inr (.inl rfl)) _).setCell (fun _ => .inr (.inl rfl)) _).setCell (fun _ => .inr (.inr ⟨q, hpL q rfl, rfl⟩)) _).setCell (fun _ => .inl rfl) _
  have hlb1 : ∀ o, (linked w lb j s p).frozen? ⟨lb, o, none⟩ = w.frozen? ⟨lb, o, none⟩ := by
    intro o; unfold linked; cases p <;> simp [World.frozen?_setCell]
  have hcell : ∀ o, o ≠ j * 2 + 1 → (p = none → o ≠ j * 2) → (linked w lb j s p).cell? ⟨lb, o, none⟩ = w.cell? ⟨lb, o, none⟩ := by
    intro o h1 h2
    unfold linked
    have n1 : s.blk ≠ lb := hfar.2.1
    cases p with
    | none => rw [cell_set_ne _ (.inr (Ne.symm h1)), cell_set_ne _ (.inr (Ne.symm (h2 rfl))), cell_set_ne _ (.inl n1), cell_set_ne _ (.inl n1)]
    | some q => rw [cell_set_ne _ (.inr (Ne.symm h1)), cell_set_ne _ (.inl (h.far.2.2.2 q (hpL q rfl)).2.1), cell_set_ne _ (.inl n1), cell_set_ne _ (.inl n1)]
  have hcl : (linked w lb j s p).cell? ⟨lb, j * 2 + 1, none⟩ = some (ptrO (some s)) := by
    unfold linked
    refine cell_set_eq (u := ptrO B.getLast?) _ ?_
    have := (h.qs j hjn).2
    rw [hB] at this
    have n1 : s.blk ≠ lb := hfar.2.1
    cases p with
    | none => simp only; rw [cell_set_ne _ (.inr (by omega)), cell_set_ne _ (.inl n1), cell_set_ne _ (.inl n1)]; exact this
    | some q => simp only; rw [cell_set_ne _ (.inl (h.far.2.2.2 q (hpL q rfl)).2.1), cell_set_ne _ (.inl n1), cell_set_ne _ (.inl n1)]; exact this
  have hcf : p = none → (linked w lb j s p).cell? ⟨lb, j * 2, none⟩ = some (ptrO (some s)) := by
    intro e
    subst e
    unfold linked
    have := (h.qs j hjn).1
    rw [hB] at this
    have n1 : s.blk ≠ lb := hfar.2.1
    simp only
    rw [cell_set_ne _ (.inr (by omega))]
    exact cell_set_eq (u := ptrO B.head?) _ (by rw [cell_set_ne _ (.inl n1), cell_set_ne _ (.inl n1)]; exact this)
  refine ⟨⟨?_, ?_, ?_, ?_, h.once.snoc hid hbl, ?_, ?_, ?_⟩, hfr⟩
  · refine h.hd.keep hfr (fun e => ?_)
    rcases e with e | e | ⟨a, ha, e⟩
    · exact h.far.1 e
    · exact hfar.1 e.symm
    · exact (h.far.2.2.2 a ha).1 e
  · intro i hi
    rw [inB_snoc]
    by_cases e : bucketN s.addr n = i
    · rw [if_pos e]
      obtain rfl : j = i := hj.symm.trans e
      rw [hB, head_snoc, hp, List.getLast?_concat]
      refine ⟨?_, hcl⟩
      by_cases e2 : p = none
      · rw [if_pos e2]; exact hcf e2
      · rw [if_neg e2, hcell _ (by omega) (fun x => absurd x e2), ← hB]; exact (h.qs j hi).1
    · rw [if_neg e]
      have hij : i ≠ j := fun x => e (hj.trans x.symm)
      rw [hcell _ (by omega) (fun _ => by omega), hcell _ (by omega) (fun _ => by omega)]
      exact h.qs i hi
  · exact ⟨Nat.lt_of_lt_of_le h.lbf.1 hfr.size, fun o => (hlb1 o).trans (h.lbf.2 o)⟩
  · intro i
    rw [inB_snoc]
    by_cases e : bucketN s.addr n = i
    · rw [if_pos e]
      obtain rfl : j = i := hj.symm.trans e
      rw [hB]
      have hlk := h.links j
      rw [hB] at hlk
      have honce : Once B := by rw [← hB]; exact h.once.inB _ _
      have hmem : ∀ a ∈ B, a ∈ L := fun a ha => (inB_mem.1 (by rw [hB]; exact ha)).1
      refine hlk.snoc ?_ ?_ ?_
      · rw [hp]
        unfold linked
        rw [block_setCell_ne hfar.2.1]
        cases p with
        | none => simp only; rw [block_setCell_ne hfar.2.1]; exact block_setCell (block_setCell hb _) _
        | some q => simp only; rw [block_setCell_ne (Ne.symm (hbl q (hpL q rfl)))]; exact block_setCell (block_setCell hb _) _
      · intro q c hq hc
        rw [hp] at hq
        subst hq
        unfold linked
        have hqL := hpL q rfl
        rw [block_setCell_ne (h.far.2.2.2 q hqL).2.1]
        simp only
        refine block_setCell ?_ _
        rw [block_setCell_ne (hbl q hqL), block_setCell_ne (hbl q hqL)]; exact hc
      · intro i q hi hne
        have hqB := List.mem_of_getElem? hi
        refine linked_other (h.far.2.2.2 q (hmem q hqB)).2.1 (hbl q (hmem q hqB)) (fun q' hq' e' => ?_)
        rw [hq'] at hp
        have hq'B := getLast_mem hp
        have e1 := once_eq honce hqB hq'B (.inr e')
        subst e1
        rw [List.getLast?_eq_getElem?] at hp
        have hil := (List.getElem?_eq_some_iff.1 hi).1
        obtain ⟨_, e2⟩ := List.getElem?_eq_some_iff.1 hi
        obtain ⟨hl2, e3⟩ := List.getElem?_eq_some_iff.1 hp
        rcases Nat.lt_trichotomy i (B.length - 1) with h1 | h1 | h1
        · have := (List.pairwise_iff_getElem.1 honce i (B.length - 1) hil hl2 h1).1
          rw [e2, e3] at this; exact this rfl
        · omega
        · omega
    · rw [if_neg e]
      refine fun k a hk => ?_
      obtain ⟨ha1, ha2⟩ := inB_mem.1 (List.mem_of_getElem? hk)
      rw [linked_other (h.far.2.2.2 a ha1).2.1 (hbl a ha1) (fun q hq e' => ?_)]
      · exact h.links i k a hk
      · have hqB : q ∈ inB (bucketN · n) L j := by rw [hB]; exact getLast_mem (hp.trans hq)
        have e1 := once_eq h.once ha1 (inB_mem.1 hqB).1 (.inr e')
        subst e1
        exact e (hj.trans ((inB_mem.1 hqB).2.symm.trans ha2))
  · intro a ha
    rcases List.mem_append.1 ha with ha | ha
    · exact h.each a ha
    · rw [List.mem_singleton.1 ha]; exact heach
  · refine ⟨h.far.1, h.far.2.1, h.far.2.2.1, fun a ha => ?_⟩
    rcases List.mem_append.1 ha with ha | ha
    · exact h.far.2.2.2 a ha
    · rw [List.mem_singleton.1 ha]; exact hfar
  · exact ⟨h.few.1, h.few.2.1, by simp; omega⟩

set_option maxRecDepth 100000 in
set_option maxHeartbeats 2000000 in
theorem link_any (qb lb mb n : Nat) (L : List Sl) (s : Sl) (x y : Value) (w : World) (h : QCore w qb lb mb n L) (hb : w.heap[s.blk]? = some (.cells #[.int .u64 s.id, .int .u64 s.addr, .int .u64 s.mask, x, y] 75 (0, 0)))
    (hid : hasId L s.id = false) (hbl : ∀ a ∈ L, a.blk ≠ s.blk) (hfar : s.blk ≠ qb ∧ s.blk ≠ lb ∧ s.blk ≠ mb) (heach : 1 ≤ s.id ∧ s.id < 18446744073709551616 ∧ s.addr < 18446744073709551616 ∧ s.mask < 18446744073709551616) (hl : L.length < 1000000) :
    Calls Tryd.prog 27 #[.pointer (some ⟨qb, 0, none⟩), .pointer (some ⟨s.blk, 0, none⟩)] w fun e w' => e = .returned (.tuple #[]) ∧ QCore w' qb lb mb n (L ++ [s]) ∧ Fr (fun k => k = lb ∨ k = s.blk ∨ ∃ a ∈ L, a.blk = k) w w' := by
  have c0 := h.hd.cell 0 _ rfl
  have l1 := h.hd.lt
  have hfew := h.few
  have hbj := bucketN_lt s.addr n hfew.1
  have hqb := fun k => qbucket_any qb lb mb n s.addr (.map (some mb)) (w.drewN k) (h.hd.keep ((Fr.refl (fun _ => False) w).drewN k) id) hfew.1 hfew.2.1 heach.2.2.1
  have x1 := cell_of_block hb 1
  rw [show (#[Value.int .u64 s.id, .int .u64 s.addr, .int .u64 s.mask, x, y] : Array Value)[1]? = some (.int .u64 s.addr) from rfl] at x1
  have lb1 := lt_of_block hb
  have H := Lib.hid h
  have HB := Lib.hid hb
  have HQB := Lib.hid hqb
  obtain ⟨j, hj⟩ : ∃ j, bucketN s.addr n = j := ⟨_, rfl⟩
  rw [hj] at hqb hbj
  have HQB := Lib.hid hqb
  have HJ := Lib.hid hj
  have hj0 : (0 : Int) ≤ (j : Int) := by omega
  have hj1 : (j : Int) < (n : Int) := by omega
  clear hqb hj h hb
  go_enter Tryd.func27, Tryd.ntmps27
  go_wp2_with fail
  go_quiet ((go_at_call 26; exact Calls.quiet_of_same ((HQB.out _).mono fun _ _ h => ⟨h.1, h.2.symm⟩)))
  have f0 : New w (w.drewN nq) := (Fr.refl _ _).drewN nq
  generalize w.drewN nq = w0 at f0 ⊢
  have h0 := H.out.keep f0 (fun _ _ _ => id)
  have hb0 := (f0.block s.blk lb1 id).trans HB.out
  have hcore := linked_core h0 hb0 hid hbl hfar heach hl
  rw [HJ.out] at hcore
  have F0 := Lib.hid f0
  obtain ⟨B, hB⟩ : ∃ B, inB (bucketN · n) L j = B := ⟨_, rfl⟩
  obtain ⟨p, hp⟩ : ∃ p, B.getLast? = p := ⟨_, rfl⟩
  have q0 := (h0.qs j hbj).1
  have q1 := (h0.qs j hbj).2
  rw [hB, hp] at hcore q1
  rw [hB] at q0
  have HCO := Lib.hid hcore
  have zl := h0.lbf.2
  have l0 := h0.lbf.1
  have n1 : s.blk ≠ lb := hfar.2.1
  have n2 : lb ≠ s.blk := Ne.symm n1
  have y3 := cell_of_block hb0 3
  have y4 := cell_of_block hb0 4
  have zs := fun o => free_of_block hb0 o
  rw [show (#[Value.int .u64 s.id, .int .u64 s.addr, .int .u64 s.mask, x, y] : Array Value)[3]? = some x from rfl] at y3
  rw [show (#[Value.int .u64 s.id, .int .u64 s.addr, .int .u64 s.mask, x, y] : Array Value)[4]? = some y from rfl] at y4
  have lb2 := lt_of_block hb0
  cases p with
  | none =>
    rw [show ptrO none = .pointer none from rfl] at q1
    generalize ptrO B.head? = hd0 at q0
    clear hcore hp hB h0 hb0 f0 c0 x1
    go_wp2
    go_end0
    exact ⟨rfl, HCO.out.1, (F0.out.mono (fun _ _ h => h.elim)).trans HCO.out.2⟩
  | some q =>
    have hqB := getLast_mem hp
    have hqL : q ∈ L := (inB_mem.1 (by rw [hB]; exact hqB)).1
    obtain ⟨qp, qx, hqb0⟩ := h0.block hqL
    have m1 : q.blk ≠ lb := (h0.far.2.2.2 q hqL).2.1
    have m2 : q.blk ≠ s.blk := hbl q hqL
    have m3 : s.blk ≠ q.blk := Ne.symm m2
    have w4 := cell_of_block hqb0 4
    have zq := fun o => free_of_block hqb0 o
    rw [show (slCells q qp qx)[4]? = some (ptrO qx) from rfl] at w4
    generalize ptrO qx = v4 at w4
    have lq := lt_of_block hqb0
    rw [show ptrO (some q) = .pointer (some ⟨q.blk, 0, none⟩) from rfl] at q1
    clear hcore hp hB h0 hb0 f0 c0 x1 hqb0
    go_wp2
    go_end0
    exact ⟨rfl, HCO.out.1, (F0.out.mono (fun _ _ h => h.elim)).trans HCO.out.2⟩

theorem Fr.drew_left {S : Nat → Prop} {a w : World} (h : Fr S a.drew w) : Fr S a w := ⟨h.os, h.tape, h.output, h.size, h.block⟩
/-- The world behind 'unlink', of the one between p and x in the queue j. -/
def unlinked1 (w : World) (lb j : Nat) (p x : Option Sl) : World :=
  match p with
  | none => w.setCell ⟨lb, j * 2, none⟩ (ptrO x)
  | some q => w.setCell ⟨q.blk, 4, none⟩ (ptrO x)
def unlinked (w : World) (lb j : Nat) (p x : Option Sl) : World :=
  match x with
  | none => (unlinked1 w lb j p x).setCell ⟨lb, j * 2 + 1, none⟩ (ptrO p)
  | some q => (unlinked1 w lb j p x).setCell ⟨q.blk, 3, none⟩ (ptrO p)
theorem unlinked_other {w : World} {lb j : Nat} {p x : Option Sl} {k : Nat} (h1 : k ≠ lb) (h2 : ∀ q, p = some q → k ≠ q.blk) (h3 : ∀ q, x = some q → k ≠ q.blk) : (unlinked w lb j p x).heap[k]? = w.heap[k]? := by
  have e1 : (unlinked1 w lb j p x).heap[k]? = w.heap[k]? := by
    unfold unlinked1
    cases p with
    | none => exact block_setCell_ne h1 _
    | some q => exact block_setCell_ne (h2 q rfl) _
  unfold unlinked
  cases x with
  | none => exact (block_setCell_ne h1 _).trans e1
  | some q => exact (block_setCell_ne (h3 q rfl) _).trans e1

theorem prevOf_mem {l : List Sl} {i : Nat} {q : Sl} (h : prevOf l i = some q) : 1 ≤ i ∧ l[i - 1]? = some q := by
  unfold prevOf at h
  split at h
  · cases h
  · exact ⟨by omega, h⟩
theorem erase_head (l : List Sl) (i : Nat) : (l.eraseIdx i).head? = if i = 0 then l[1]? else l.head? := by
  cases l with
  | nil => cases i <;> rfl
  | cons a r =>
    cases i with
    | zero => cases r <;> rfl
    | succ i => rfl
theorem erase_last {l : List Sl} {i : Nat} (h : i < l.length) : (l.eraseIdx i).getLast? = if i + 1 = l.length then prevOf l i else l.getLast? := by
  rw [List.getLast?_eq_getElem?, List.length_eraseIdx, if_pos h, List.getElem?_eraseIdx, List.getLast?_eq_getElem?]
  by_cases e : i + 1 = l.length
  · rw [if_pos e]
    unfold prevOf
    by_cases e2 : i = 0
    · subst e2
      have e3 : l.length = 1 := by omega
      rw [if_neg (by omega), if_pos rfl, e3]
      exact List.getElem?_eq_none (by omega)
    · rw [if_pos (by omega), if_neg e2]; congr 1; omega
  · rw [if_neg e, if_neg (by omega)]; congr 1; omega
theorem once_idx {l : List Sl} (h : Once l) {i k : Nat} {a b : Sl} (hi : l[i]? = some a) (hk : l[k]? = some b) (e : a.blk = b.blk) : i = k := by
  obtain ⟨hil, rfl⟩ := List.getElem?_eq_some_iff.1 hi
  obtain ⟨hkl, rfl⟩ := List.getElem?_eq_some_iff.1 hk
  rcases Nat.lt_trichotomy i k with h1 | h1 | h1
  · exact absurd e (List.pairwise_iff_getElem.1 h i k hil hkl h1).2
  · exact h1
  · exact absurd e.symm (List.pairwise_iff_getElem.1 h k i hkl hil h1).2

theorem unlinked_core {w : World} {qb lb mb n : Nat} {L B : List Sl} {s : Sl} {j i : Nat} (h : QCore w qb lb mb n L) (hj : bucketN s.addr n = j) (hB : inB (bucketN · n) L j = B) (hi : B[i]? = some s) :
    QCore (unlinked w lb j (prevOf B i) B[i + 1]?) qb lb mb n (without L s.id) ∧ Fr (fun k => k = lb ∨ ∃ a ∈ L, a.blk = k) w (unlinked w lb j (prevOf B i) B[i + 1]?) ∧
      (unlinked w lb j (prevOf B i) B[i + 1]?).heap[s.blk]? = w.heap[s.blk]? := by
  have hjn : j < n := by rw [← hj]; exact bucketN_lt _ _ h.few.1
  have hil := (List.getElem?_eq_some_iff.1 hi).1
  have honce : Once B := by rw [← hB]; exact h.once.inB _ _
  have hmem : ∀ a ∈ B, a ∈ L ∧ bucketN a.addr n = j := fun a ha => inB_mem.1 (by rw [hB]; exact ha)
  have hsL := (hmem s (List.mem_of_getElem? hi)).1
  obtain ⟨p, hp⟩ : ∃ p, prevOf B i = p := ⟨_, rfl⟩
  obtain ⟨x, hx⟩ : ∃ x, B[i + 1]? = x := ⟨_, rfl⟩
  rw [hp, hx]
  have hpB : ∀ q, p = some q → 1 ≤ i ∧ B[i - 1]? = some q := fun q hq => prevOf_mem (hp.trans hq)
  have hxB : ∀ q, x = some q → B[i + 1]? = some q := fun q hq => hx.trans hq
  have hpL : ∀ q, p = some q → q ∈ L := fun q hq => (hmem q (List.mem_of_getElem? (hpB q hq).2)).1
  have hxL : ∀ q, x = some q → q ∈ L := fun q hq => (hmem q (List.mem_of_getElem? (hxB q hq))).1
  have hfr1 : Fr (fun k => k = lb ∨ ∃ a ∈ L, a.blk = k) w (unlinked1 w lb j p x) := by
    unfold unlinked1
    cases p with
    | none => exact (Fr.refl _ w).setCell (fun _ => .inl rfl) _
    | some q => exact (Fr.refl _ w).setCell (fun _ => .inr ⟨q, hpL q rfl, rfl⟩) _
  have hfr : Fr (fun k => k = lb ∨ ∃ a ∈ L, a.blk = k) w (unlinked w lb j p x) := by
    unfold unlinked
    cases x with
    | none => exact hfr1.setCell (fun _ => .inl rfl) _
    | some q => exact hfr1.setCell (fun _ => .inr ⟨q, hxL q rfl, rfl⟩) _
  have hfz : ∀ o, (unlinked w lb j p x).frozen? ⟨lb, o, none⟩ = w.frozen? ⟨lb, o, none⟩ := by
    intro o; unfold unlinked unlinked1; cases x <;> cases p <;> simp [World.frozen?_setCell]
  have hxlb : ∀ q, x = some q → q.blk ≠ lb := fun q hq => (h.far.2.2.2 q (hxL q hq)).2.1
  have hplb : ∀ q, p = some q → q.blk ≠ lb := fun q hq => (h.far.2.2.2 q (hpL q hq)).2.1
  have hc1 : ∀ o, (unlinked1 w lb j p x).cell? ⟨lb, o, none⟩ = if o = j * 2 ∧ p = none then some (ptrO x) else w.cell? ⟨lb, o, none⟩ := by
    intro o
    unfold unlinked1
    cases p with
    | none =>
      by_cases e : o = j * 2
      · subst e; rw [if_pos ⟨rfl, rfl⟩]; exact cell_set_eq _ (h.qs j hjn).1
      · rw [if_neg (fun c => e c.1)]; exact cell_set_ne _ (.inr (Ne.symm e))
    | some q => rw [if_neg (fun c => by cases c.2)]; exact cell_set_ne _ (.inl (hplb q rfl))
  have hc : ∀ o, (unlinked w lb j p x).cell? ⟨lb, o, none⟩ = if o = j * 2 + 1 ∧ x = none then some (ptrO p) else if o = j * 2 ∧ p = none then some (ptrO x) else w.cell? ⟨lb, o, none⟩ := by
    intro o
    rw [← hc1]
    unfold unlinked
    cases x with
    | none =>
      by_cases e : o = j * 2 + 1
      · subst e
        rw [if_pos ⟨rfl, rfl⟩]
        refine cell_set_eq (u := ptrO (inB (bucketN · n) L j).getLast?) _ ?_
        rw [hc1, if_neg (fun c => by omega)]; exact (h.qs j hjn).2
      · rw [if_neg (fun c => e c.1)]; exact cell_set_ne _ (.inr (Ne.symm e))
    | some q => rw [if_neg (fun c => by cases c.2)]; exact cell_set_ne _ (.inl (hxlb q rfl))
  have hwith : inB (bucketN · n) (without L s.id) j = B.eraseIdx i := by rw [inB_without, hB]; exact without_erase honce hi
  refine ⟨⟨?_, ?_, ?_, ?_, h.once.without _, ?_, ?_, ?_⟩, hfr, ?_⟩
  · refine h.hd.keep hfr (fun e => ?_)
    rcases e with e | ⟨a, ha, e⟩
    · exact h.far.1 e
    · exact (h.far.2.2.2 a ha).1 e
  · intro k hk
    rw [hc, hc]
    by_cases e : k = j
    · subst e
      rw [hwith, erase_head, erase_last hil]
      have q0 := (h.qs k hk).1
      have q1 := (h.qs k hk).2
      rw [hB] at q0 q1
      have hp0 : p = none ↔ i = 0 := by
        rw [← hp]; unfold prevOf
        by_cases e0 : i = 0
        · simp [e0]
        · rw [if_neg e0, List.getElem?_eq_getElem (by omega)]; simp [e0]
      have hx0 : x = none ↔ i + 1 = B.length := by
        rw [← hx, List.getElem?_eq_none_iff]; omega
      constructor
      · rw [if_neg (fun c => by omega)]
        by_cases e0 : i = 0
        · rw [if_pos ⟨rfl, hp0.2 e0⟩, if_pos e0, ← hx, e0]
        · rw [if_neg (fun c => e0 (hp0.1 c.2)), if_neg e0]; exact q0
      · by_cases e1 : i + 1 = B.length
        · rw [if_pos ⟨rfl, hx0.2 e1⟩, if_pos e1, hp]
        · rw [if_neg (fun c => e1 (hx0.1 c.2)), if_neg (fun c => by omega), if_neg e1]; exact q1
    · rw [if_neg (fun c => by omega), if_neg (fun c => by omega), if_neg (fun c => by omega), if_neg (fun c => by omega)]
      rw [inB_without, inB_other h.once hsL (fun c => e (by rw [← c, hj]))]
      exact h.qs k hk
  · exact ⟨Nat.lt_of_lt_of_le h.lbf.1 hfr.size, fun o => (hfz o).trans (h.lbf.2 o)⟩
  · intro k
    by_cases e : k = j
    · subst e
      rw [hwith]
      have hlk := h.links k
      rw [hB] at hlk
      refine hlk.erase ?_
      intro m q c hm hmi hqc
      have hqL := (hmem q (List.mem_of_getElem? hm)).1
      have hqlb := (h.far.2.2.2 q hqL).2.1
      rw [hp, hx]
      by_cases e1 : m + 1 = i
      · rw [if_pos e1]
        have hpq : p = some q := by
          rw [← hp]; unfold prevOf; rw [if_neg (by omega), ← hm]; congr 1; omega
        subst hpq
        have h1 : (unlinked1 w lb k (some q) x).heap[q.blk]? = some (.cells (c.setIfInBounds 4 (ptrO x)) 75 (0, 0)) := block_setCell hqc _
        unfold unlinked
        cases x with
        | none => simp only; rw [block_setCell_ne hqlb]; exact h1
        | some q' =>
          simp only
          rw [block_setCell_ne (fun e' => by have := once_idx honce hm (hxB q' rfl) e'; omega)]; exact h1
      · rw [if_neg e1]
        by_cases e2 : m = i + 1
        · rw [if_pos e2]
          have hxq : x = some q := by rw [← hx, ← e2]; exact hm
          subst hxq
          unfold unlinked
          simp only
          refine block_setCell ?_ _
          unfold unlinked1
          cases p with
          | none => simp only; rw [block_setCell_ne hqlb]; exact hqc
          | some q' =>
            simp only
            rw [block_setCell_ne (fun e' => by have := once_idx honce hm (hpB q' rfl).2 e'; have := (hpB q' rfl).1; omega)]; exact hqc
        · rw [if_neg e2, unlinked_other hqlb (fun q' hq' e' => by have := once_idx honce hm (hpB q' hq').2 e'; have := (hpB q' hq').1; omega) (fun q' hq' e' => by have := once_idx honce hm (hxB q' hq') e'; omega)]
          exact hqc
    · rw [inB_without, inB_other h.once hsL (fun c => e (by rw [← c, hj]))]
      intro m a hm
      obtain ⟨ha1, ha2⟩ := inB_mem.1 (List.mem_of_getElem? hm)
      rw [unlinked_other (h.far.2.2.2 a ha1).2.1 (fun q hq e' => ?_) (fun q hq e' => ?_)]
      · exact h.links k m a hm
      · have h2 := hmem q (List.mem_of_getElem? (hpB q hq).2)
        have e1 := once_eq h.once ha1 h2.1 (.inr e')
        subst e1; exact e (ha2.symm.trans h2.2)
      · have h2 := hmem q (List.mem_of_getElem? (hxB q hq))
        have e1 := once_eq h.once ha1 h2.1 (.inr e')
        subst e1; exact e (ha2.symm.trans h2.2)
  · exact fun a ha => h.each a (List.mem_filter.1 ha).1
  · exact ⟨h.far.1, h.far.2.1, h.far.2.2.1, fun a ha => h.far.2.2.2 a (List.mem_filter.1 ha).1⟩
  · exact ⟨h.few.1, h.few.2.1, Nat.le_trans (List.length_filter_le _ _) h.few.2.2⟩
  · exact unlinked_other (h.far.2.2.2 s hsL).2.1 (fun q hq e' => by have := once_idx honce hi (hpB q hq).2 e'; have := (hpB q hq).1; omega) (fun q hq e' => by have := once_idx honce hi (hxB q hq) e'; omega)

set_option maxRecDepth 100000 in
set_option maxHeartbeats 4000000 in
theorem unlink_any (qb lb mb n : Nat) (L : List Sl) (s : Sl) (w : World) (h : QCore w qb lb mb n L) (hs : s ∈ L) :
    Calls Tryd.prog 28 #[.pointer (some ⟨qb, 0, none⟩), .pointer (some ⟨s.blk, 0, none⟩)] w fun e w' => e = .returned (.tuple #[]) ∧ QCore w' qb lb mb n (without L s.id) ∧ Fr (fun k => k = lb ∨ ∃ a ∈ L, a.blk = k) w w' ∧ w'.heap[s.blk]? = w.heap[s.blk]? := by
  have c0 := h.hd.cell 0 _ rfl
  have l1 := h.hd.lt
  have hfew := h.few
  have hbj := bucketN_lt s.addr n hfew.1
  have hea := h.each s hs
  have hqb := fun k => qbucket_any qb lb mb n s.addr (.map (some mb)) (w.drewN k) (h.hd.keep ((Fr.refl (fun _ => False) w).drewN k) id) hfew.1 hfew.2.1 hea.2.2.1
  obtain ⟨j, hj⟩ : ∃ j, bucketN s.addr n = j := ⟨_, rfl⟩
  rw [hj] at hqb hbj
  obtain ⟨B, hB⟩ : ∃ B, inB (bucketN · n) L j = B := ⟨_, rfl⟩
  obtain ⟨i, hi⟩ : ∃ i, B[i]? = some s := List.mem_iff_getElem?.1 (by rw [← hB]; exact inB_mem.2 ⟨hs, hj⟩)
  have hblk := h.links j i s (by rw [hB]; exact hi)
  rw [hB] at hblk
  have x1 := cell_of_block hblk 1
  rw [show (slCells s (prevOf B i) B[i + 1]?)[1]? = some (.int .u64 s.addr) from rfl] at x1
  have lb1 := lt_of_block hblk
  have honce : Once B := by rw [← hB]; exact h.once.inB _ _
  have hmem : ∀ a ∈ B, a ∈ L := fun a ha => (inB_mem.1 (by rw [hB]; exact ha)).1
  have hcore := fun (W : World) (f : New w W) => unlinked_core (w := W) (h.keep f (fun _ _ _ => id)) hj hB hi
  have hpB : ∀ q, prevOf B i = some q → q.blk ≠ s.blk ∧ q.blk ≠ lb ∧ ∃ c, c.size = 5 ∧ w.heap[q.blk]? = some (.cells c 75 (0, 0)) := fun q hq => by
    obtain ⟨h1, h2⟩ := prevOf_mem hq
    refine ⟨fun e => by have := once_idx honce h2 hi e; omega, (h.far.2.2.2 q (hmem q (List.mem_of_getElem? h2))).2.1, ?_⟩
    obtain ⟨a, b, hc⟩ := h.block (hmem q (List.mem_of_getElem? h2))
    exact ⟨_, rfl, hc⟩
  have hxB : ∀ q, B[i + 1]? = some q → q.blk ≠ s.blk ∧ q.blk ≠ lb ∧ (∀ q', prevOf B i = some q' → q'.blk ≠ q.blk) ∧ ∃ c, c.size = 5 ∧ w.heap[q.blk]? = some (.cells c 75 (0, 0)) := fun q hq => by
    refine ⟨fun e => by have := once_idx honce hq hi e; omega, (h.far.2.2.2 q (hmem q (List.mem_of_getElem? hq))).2.1, fun q' hq' e => ?_, ?_⟩
    · obtain ⟨h1, h2⟩ := prevOf_mem hq'
      have := once_idx honce h2 hq e; omega
    · obtain ⟨a, b, hc⟩ := h.block (hmem q (List.mem_of_getElem? hq))
      exact ⟨_, rfl, hc⟩
  generalize prevOf B i = p at hblk hcore hpB hxB
  generalize B[i + 1]? = x at hblk hcore hxB
  have q0 := (h.qs j hbj).1
  have q1 := (h.qs j hbj).2
  generalize ptrO (inB (bucketN · n) L j).head? = hd0 at q0
  generalize ptrO (inB (bucketN · n) L j).getLast? = hd1 at q1
  have x3 := cell_of_block hblk 3
  have x4 := cell_of_block hblk 4
  rw [show (slCells s p x)[3]? = some (ptrO p) from rfl] at x3
  rw [show (slCells s p x)[4]? = some (ptrO x) from rfl] at x4
  have zl := h.lbf.2
  have l0 := h.lbf.1
  have n1 : s.blk ≠ lb := (h.far.2.2.2 s hs).2.1
  have n2 : lb ≠ s.blk := Ne.symm n1
  have HCO := Lib.hid hcore
  have HQB := Lib.hid hqb
  have hj0 : (0 : Int) ≤ (j : Int) := by omega
  have hj1 : (j : Int) < (n : Int) := by omega
  clear hqb hj h hblk hB hi hmem honce hcore hea hs
  have hpx : (∃ q, p = some q) → True := fun _ => trivial
  cases p with
  | none =>
    rw [show ptrO none = .pointer none from rfl] at x3
    cases x with
    | none =>
      rw [show ptrO none = .pointer none from rfl] at x4
      go_enter Tryd.func28, Tryd.ntmps28
      go_wp2_with fail
      go_quiet ((go_at_call 26; exact Calls.quiet_of_same ((HQB.out _).mono fun _ _ h => ⟨h.1, h.2.symm⟩)))
      have f0 : New w (w.drewN nq) := (Fr.refl _ _).drewN nq
      have HF := Lib.hid (HCO.out _ f0)
      have F0 := Lib.hid f0
      clear f0
      go_wp2
      go_end0
      exact ⟨rfl, HF.out.1, (F0.out.mono (fun _ _ h => h.elim)).trans HF.out.2.1, HF.out.2.2⟩
    | some r =>
      rw [show ptrO (some r) = .pointer (some ⟨r.blk, 0, none⟩) from rfl] at x4
      obtain ⟨r1, r2, r3, cr, hcr, hrb⟩ := hxB r rfl
      have lr := lt_of_block hrb
      have xr3 := cell_of_block hrb 3
      rw [Array.getElem?_eq_getElem (by omega)] at xr3
      generalize cr[3] = v3 at xr3
      have zr := fun o => free_of_block hrb o
      go_enter Tryd.func28, Tryd.ntmps28
      go_wp2_with fail
      go_quiet ((go_at_call 26; exact Calls.quiet_of_same ((HQB.out _).mono fun _ _ h => ⟨h.1, h.2.symm⟩)))
      go_wp2_with fail
      obtain ⟨W2, hW2⟩ : ∃ W2, ((w.drewN nq).setCell ⟨lb, j * 2, none⟩ (.pointer (some ⟨r.blk, 0, none⟩))).drew = W2 := ⟨_, rfl⟩
      have f2 : Fr (· = lb) w W2 := by rw [← hW2]; exact (((Fr.refl (· = lb) w).drewN nq).setCell (fun _ => rfl) _).drew
      have f0 : New w (w.drewN nq).drew := ((Fr.refl _ _).drewN nq).drew
      have hf := HCO.out _ f0
      rw [show unlinked (w.drewN nq).drew lb j none (some r) = W2.setCell ⟨r.blk, 3, none⟩ (.pointer none) by rw [← hW2]; rfl] at hf
      have HF := Lib.hid hf
      have F0 := Lib.hid f0
      have y3 := (f2.cell lb1 n1 3).trans x3
      have y4 := (f2.cell lb1 n1 4).trans x4
      have yr := (f2.cell lr r2 3).trans xr3
      have zzr : ∀ o, W2.frozen? ⟨r.blk, o, none⟩ = false := fun o => (f2.frozen lr r2 o).trans (zr o)
      have ls := Nat.lt_of_lt_of_le lb1 f2.size
      have lr' := Nat.lt_of_lt_of_le lr f2.size
      refine stillTail 10 (by kernel_rfl) (by kernel_rfl) hW2 ?_
      clear hW2 f2 f0 hf x3 x4 xr3 q0 q1 c0 x1 zr zl
      simp only [List.take_succ_cons, List.take_zero, List.drop_succ_cons, List.drop_zero]
      repeat still_step
      refine wpStill_nil ?_
      go_wp2
      go_end0
      exact ⟨rfl, HF.out.1, (F0.out.mono (fun _ _ h => h.elim)).trans HF.out.2.1, HF.out.2.2.trans (F0.out.block _ lb1 id)⟩
  | some q =>
    rw [show ptrO (some q) = .pointer (some ⟨q.blk, 0, none⟩) from rfl] at x3
    obtain ⟨m1, m2, cq, hcq, hqbk⟩ := hpB q rfl
    have lq := lt_of_block hqbk
    have xq4 := cell_of_block hqbk 4
    rw [Array.getElem?_eq_getElem (by omega)] at xq4
    generalize cq[4] = v4 at xq4
    have zq := fun o => free_of_block hqbk o
    cases x with
    | none =>
      rw [show ptrO none = .pointer none from rfl] at x4
      go_enter Tryd.func28, Tryd.ntmps28
      go_wp2_with fail
      go_quiet ((go_at_call 26; exact Calls.quiet_of_same ((HQB.out _).mono fun _ _ h => ⟨h.1, h.2.symm⟩)))
      go_wp2_with fail
      obtain ⟨W2, hW2⟩ : ∃ W2, (w.drewN nq).drew = W2 := ⟨_, rfl⟩
      have f2 : New w W2 := by rw [← hW2]; exact ((Fr.refl _ w).drewN nq).drew
      have HF := Lib.hid (HCO.out _ f2)
      have F0 := Lib.hid f2
      have y3 := (f2.cell lb1 id 3).trans x3
      have y4 := (f2.cell lb1 id 4).trans x4
      have yq := (f2.cell lq id 4).trans xq4
      have yl := (f2.cell l0 id _).trans q1
      have zzq : ∀ o, W2.frozen? ⟨q.blk, o, none⟩ = false := fun o => (f2.frozen lq id o).trans (zq o)
      have zzl : ∀ o, W2.frozen? ⟨lb, o, none⟩ = false := fun o => (f2.frozen l0 id o).trans (zl o)
      have ls := Nat.lt_of_lt_of_le lb1 f2.size
      have lq' := Nat.lt_of_lt_of_le lq f2.size
      have ll' := Nat.lt_of_lt_of_le l0 f2.size
      have m3 : s.blk ≠ q.blk := Ne.symm m1
      have m4 : lb ≠ q.blk := Ne.symm m2
      refine stillTail 10 (by kernel_rfl) (by kernel_rfl) hW2 ?_
      clear hW2 f2 x3 x4 xq4 q0 q1 c0 x1 zq zl
      simp only [List.take_succ_cons, List.take_zero, List.drop_succ_cons, List.drop_zero]
      repeat still_step
      refine wpStill_nil ?_
      go_wp2
      go_end0
      exact ⟨rfl, HF.out.1, (F0.out.mono (fun _ _ h => h.elim)).trans HF.out.2.1, HF.out.2.2.trans (F0.out.block _ lb1 id)⟩
    | some r =>
      rw [show ptrO (some r) = .pointer (some ⟨r.blk, 0, none⟩) from rfl] at x4
      obtain ⟨r1, r2, r3, cr, hcr, hrb⟩ := hxB r rfl
      have lr := lt_of_block hrb
      have xr3 := cell_of_block hrb 3
      rw [Array.getElem?_eq_getElem (by omega)] at xr3
      generalize cr[3] = v3 at xr3
      have zr := fun o => free_of_block hrb o
      go_enter Tryd.func28, Tryd.ntmps28
      go_wp2_with fail
      go_quiet ((go_at_call 26; exact Calls.quiet_of_same ((HQB.out _).mono fun _ _ h => ⟨h.1, h.2.symm⟩)))
      go_wp2_with fail
      have m5 : q.blk ≠ r.blk := r3 q rfl
      have m6 : r.blk ≠ q.blk := Ne.symm m5
      obtain ⟨W2, hW2⟩ : ∃ W2, (w.drewN nq).drew = W2 := ⟨_, rfl⟩
      have f2 : New w W2 := by rw [← hW2]; exact ((Fr.refl _ w).drewN nq).drew
      have HCW := Lib.hid (HCO.out W2.drew f2.drew)
      have F0 := Lib.hid f2
      have y3 := (f2.cell lb1 id 3).trans x3
      have y4 := (f2.cell lb1 id 4).trans x4
      have yq := (f2.cell lq id 4).trans xq4
      have zzq : ∀ o, W2.frozen? ⟨q.blk, o, none⟩ = false := fun o => (f2.frozen lq id o).trans (zq o)
      have ls := Nat.lt_of_lt_of_le lb1 f2.size
      have lq' := Nat.lt_of_lt_of_le lq f2.size
      have m3 : s.blk ≠ q.blk := Ne.symm m1
      refine stillTail 10 (by kernel_rfl) (by kernel_rfl) hW2 ?_
      clear hW2 f2 c0 x1 q0 q1
      simp only [List.take_succ_cons, List.take_zero, List.drop_succ_cons, List.drop_zero]
      repeat still_step
      refine wpStill_nil ?_
      go_wp2_with fail
      obtain ⟨W3, hW3⟩ : ∃ W3, (W2.setCell ⟨q.blk, 4, none⟩ (.pointer (some ⟨r.blk, 0, none⟩))).drew = W3 := ⟨_, rfl⟩
      have f3 : Fr (· = q.blk) w W3 := by rw [← hW3]; exact (Fr.setCell (S := (· = q.blk)) (F0.out.mono (fun _ _ h => h.elim)) (fun _ => rfl) _).drew
      have hf := HCW.out
      rw [show unlinked W2.drew lb j (some q) (some r) = W3.setCell ⟨r.blk, 3, none⟩ (.pointer (some ⟨q.blk, 0, none⟩)) by rw [← hW3]; rfl] at hf
      have HF := Lib.hid hf
      have y3' := (f3.cell lb1 m3 3).trans x3
      have y4' := (f3.cell lb1 m3 4).trans x4
      have yr := (f3.cell lr m6 3).trans xr3
      have zzr : ∀ o, W3.frozen? ⟨r.blk, o, none⟩ = false := fun o => (f3.frozen lr m6 o).trans (zr o)
      have ls' := Nat.lt_of_lt_of_le lb1 f3.size
      have lr' := Nat.lt_of_lt_of_le lr f3.size
      refine stillTail 10 (by kernel_rfl) (by kernel_rfl) hW3 ?_
      clear hW3 f3 hf HCW x3 x4 xq4 xr3 y3 y4 yq zzq
      simp only [List.take_succ_cons, List.take_zero, List.drop_succ_cons, List.drop_zero]
      repeat still_step
      refine wpStill_nil ?_
      go_wp2
      go_end0
      exact ⟨rfl, HF.out.1, (F0.out.mono (fun _ _ h => h.elim)).trans (Fr.drew_left HF.out.2.1), HF.out.2.2.trans (F0.out.block _ lb1 id)⟩

end Go.Proofs.YteeckkkbmlkkiaaDoor
