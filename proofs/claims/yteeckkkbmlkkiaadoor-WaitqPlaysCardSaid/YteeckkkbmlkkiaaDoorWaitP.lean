/- Who waits, linked in blocks: plain laws. -/
import Derived.Test.YteeckkkbmlkkiaaDoorMapU
import Derived.Lib.Hide
namespace Go.Proofs.YteeckkkbmlkkiaaDoor
open Go.RowKit

/-- One that waits, in its block. -/
structure Sl where
  id : Nat
  addr : Nat
  mask : Nat
  blk : Nat
def ptrO (o : Option Sl) : Value := .pointer (o.map fun s => ⟨s.blk, 0, none⟩)
def slCells (s : Sl) (p n : Option Sl) : Array Value := #[.int .u64 s.id, .int .u64 s.addr, .int .u64 s.mask, ptrO p, ptrO n]
def prevOf (l : List Sl) (i : Nat) : Option Sl := if i = 0 then none else l[i - 1]?
def Links (w : World) (l : List Sl) : Prop := ∀ (i : Nat) (s : Sl), l[i]? = some s → w.heap[s.blk]? = some (.cells (slCells s (prevOf l i) l[i + 1]?) 75 (0, 0))

theorem Links.keep {w w' : World} {l : List Sl} {S : Nat → Prop} (h : Links w l) (f : Fr S w w') (hs : ∀ s ∈ l, ¬ S s.blk) : Links w' l := fun i s hi => by
  rw [f.block s.blk (lt_of_block (h i s hi)) (hs s (List.mem_of_getElem? hi))]; exact h i s hi
theorem prevOf_append (l : List Sl) (s : Sl) (i : Nat) (h : i ≤ l.length) : prevOf (l ++ [s]) i = prevOf l i := by
  unfold prevOf
  split
  · rfl
  · rw [List.getElem?_append_left (by omega)]
theorem Links.snoc {w w' : World} {l : List Sl} {s : Sl} (h : Links w l) (hs : w'.heap[s.blk]? = some (.cells (slCells s l.getLast? none) 75 (0, 0)))
    (hl : ∀ p c, l.getLast? = some p → w.heap[p.blk]? = some (.cells c 75 (0, 0)) → w'.heap[p.blk]? = some (.cells (c.setIfInBounds 4 (ptrO (some s))) 75 (0, 0)))
    (ho : ∀ i q, l[i]? = some q → i + 1 ≠ l.length → w'.heap[q.blk]? = w.heap[q.blk]?) : Links w' (l ++ [s]) := by
  intro i x hx
  by_cases hi : i < l.length
  · rw [List.getElem?_append_left hi] at hx
    have hb := h i x hx
    rw [prevOf_append l s i (by omega)]
    by_cases e : i + 1 = l.length
    · have hgl : l.getLast? = some x := by rw [List.getLast?_eq_getElem?, ← hx]; congr 1; omega
      rw [hl x _ hgl hb, List.getElem?_append_right (by omega), List.getElem?_eq_none (l := l) (by omega), show i + 1 - l.length = 0 by omega]
      rfl
    · rw [ho i x hx e, hb, List.getElem?_append_left (by omega)]
  · obtain ⟨rfl, rfl⟩ : i = l.length ∧ s = x := by
      have := (List.getElem?_eq_some_iff.1 hx).1
      simp at this
      have e : i = l.length := by omega
      subst e
      simp at hx
      exact ⟨rfl, hx⟩
    rw [prevOf_append l s _ (Nat.le_refl _), List.getElem?_eq_none (by simp), hs]
    congr 2
    unfold prevOf
    rw [List.getLast?_eq_getElem?]
    split
    · rename_i h0; rw [List.getElem?_eq_none (by omega)]
    · rfl
theorem Links.erase {w w' : World} {l : List Sl} {i : Nat} (h : Links w l)
    (hp : ∀ j q c, l[j]? = some q → j ≠ i → w.heap[q.blk]? = some (.cells c 75 (0, 0)) →
      w'.heap[q.blk]? = some (.cells (if j + 1 = i then c.setIfInBounds 4 (ptrO l[i + 1]?) else if j = i + 1 then c.setIfInBounds 3 (ptrO (prevOf l i)) else c) 75 (0, 0))) : Links w' (l.eraseIdx i) := by
  intro k x hx
  rw [List.getElem?_eraseIdx] at hx
  split at hx
  · rename_i hk
    rw [hp k x _ hx (by omega) (h k x hx)]
    congr 2
    have e1 : prevOf (l.eraseIdx i) k = prevOf l k := by
      unfold prevOf
      split
      · rfl
      · rw [List.getElem?_eraseIdx, if_pos (by omega)]
    rw [e1, List.getElem?_eraseIdx]
    by_cases e : k + 1 = i
    · rw [if_pos e, if_neg (by omega), ← e]; rfl
    · rw [if_neg e, if_neg (by omega), if_pos (by omega)]
  · rename_i hk
    have hki : i ≤ k := by omega
    have n1 : ¬ (k + 1 + 1 = i) := by omega
    have n2 : ¬ (k + 1 < i) := by omega
    have hb := hp (k + 1) x _ hx (by omega) (h (k + 1) x hx)
    rw [if_neg n1] at hb
    rw [hb]
    congr 2
    rw [List.getElem?_eraseIdx, if_neg n2]
    by_cases e : k = i
    · subst e
      rw [if_pos rfl]
      have e1 : prevOf (l.eraseIdx k) k = prevOf l k := by
        unfold prevOf
        split
        · rfl
        · rw [List.getElem?_eraseIdx, if_pos (by omega)]
      rw [e1]; rfl
    · have n3 : ¬ (k + 1 = i + 1) := by omega
      rw [if_neg n3]
      have e1 : prevOf (l.eraseIdx i) k = prevOf l (k + 1) := by
        unfold prevOf
        have n4 : ¬ (k = 0) := by omega
        have n5 : ¬ (k + 1 = 0) := by omega
        have n6 : ¬ (k - 1 < i) := by omega
        rw [if_neg n4, if_neg n5, List.getElem?_eraseIdx, if_neg n6]
        congr 1; omega
      rw [e1]

/-- Who has an id, as the map has it. -/
def byOf (L : List Sl) (x : Int) : Option Value := (L.find? fun s => decide ((s.id : Int) = x)).map fun s => .pointer (some ⟨s.blk, 0, none⟩)
def hasId (L : List Sl) (x : Nat) : Bool := L.any fun s => s.id == x
def without (L : List Sl) (x : Nat) : List Sl := L.filter fun s => s.id != x
theorem byOf_isSome (L : List Sl) (x : Nat) : (byOf L x).isSome = hasId L x := by
  unfold byOf hasId
  rw [Option.isSome_map, List.isSome_find?]
  congr 1; funext s; rw [Bool.eq_iff_iff]; simp; omega
theorem byOf_none {L : List Sl} {x : Nat} (h : hasId L x = false) : byOf L x = none := by
  have := byOf_isSome L x
  rw [h] at this; simpa using this
theorem hasId_iff {L : List Sl} {x : Nat} : hasId L x = true ↔ ∃ s ∈ L, s.id = x := by simp [hasId]
theorem hasId_false {L : List Sl} {x : Nat} (h : hasId L x = false) : ∀ s ∈ L, s.id ≠ x := by
  intro s hs e
  have : hasId L x = true := hasId_iff.2 ⟨s, hs, e⟩
  rw [h] at this; cases this
/-- Nobody is there twice. -/
def Once (L : List Sl) : Prop := L.Pairwise fun a b => a.id ≠ b.id ∧ a.blk ≠ b.blk
theorem once_eq {L : List Sl} (h : Once L) {a b : Sl} (ha : a ∈ L) (hb : b ∈ L) (e : a.id = b.id ∨ a.blk = b.blk) : a = b := by
  obtain ⟨i, hi⟩ := List.mem_iff_getElem?.1 ha
  obtain ⟨j, hj⟩ := List.mem_iff_getElem?.1 hb
  have hil := (List.getElem?_eq_some_iff.1 hi)
  have hjl := (List.getElem?_eq_some_iff.1 hj)
  obtain ⟨hil, rfl⟩ := hil
  obtain ⟨hjl, rfl⟩ := hjl
  rcases Nat.lt_trichotomy i j with h1 | rfl | h1
  · have := List.pairwise_iff_getElem.1 h i j hil hjl h1; omega
  · rfl
  · have := List.pairwise_iff_getElem.1 h j i hjl hil h1; omega
theorem byOf_of {L : List Sl} (h : Once L) {s : Sl} (hs : s ∈ L) : byOf L s.id = some (.pointer (some ⟨s.blk, 0, none⟩)) := by
  unfold byOf
  cases hf : L.find? fun x => decide ((x.id : Int) = (s.id : Int)) with
  | none => have := List.find?_eq_none.1 hf s hs; simp at this
  | some x =>
    have h1 := List.mem_of_find?_eq_some hf
    have h2 := List.find?_some hf
    simp at h2
    rw [once_eq h h1 hs (.inl (by omega))]; rfl
theorem byOf_snoc (L : List Sl) (s : Sl) (h : hasId L s.id = false) (y : Int) : byOf (L ++ [s]) y = if y = s.id then some (.pointer (some ⟨s.blk, 0, none⟩)) else byOf L y := by
  unfold byOf
  rw [List.find?_append]
  by_cases e : y = s.id
  · subst e
    rw [if_pos rfl]
    have hn : L.find? (fun x => decide ((x.id : Int) = (s.id : Int))) = none := List.find?_eq_none.2 fun x hx => by
      have := hasId_false h x hx; simp; omega
    rw [hn]; simp
  · rw [if_neg e]
    have hn : [s].find? (fun x => decide ((x.id : Int) = y)) = none := by simp; omega
    rw [hn, Option.or_none]
theorem byOf_without (L : List Sl) (x : Nat) (y : Int) : byOf (without L x) y = if y = x then none else byOf L y := by
  unfold byOf without
  rw [List.find?_filter]
  by_cases e : y = x
  · subst e
    rw [if_pos rfl]
    have hn : L.find? (fun a => decide (((a.id != x) = true) ∧ (decide ((a.id : Int) = (x : Int))) = true)) = none := List.find?_eq_none.2 fun a _ => by simp; omega
    simpa using hn
  · rw [if_neg e]
    congr 2; funext a
    rw [Bool.eq_iff_iff]; simp; omega
theorem Once.without {L : List Sl} (h : Once L) (x : Nat) : Once (without L x) := List.Pairwise.filter _ h
theorem Once.snoc {L : List Sl} (h : Once L) {s : Sl} (h1 : hasId L s.id = false) (h2 : ∀ a ∈ L, a.blk ≠ s.blk) : Once (L ++ [s]) := by
  unfold Once
  rw [List.pairwise_append]
  exact ⟨h, List.pairwise_singleton _ _, fun a ha b hb => by rw [List.mem_singleton.1 hb]; exact ⟨hasId_false h1 a ha, h2 a ha⟩⟩
theorem without_length {L : List Sl} (h : Once L) {x : Nat} (hx : hasId L x = true) : (without L x).length + 1 = L.length := by
  induction L with
  | nil => simp [hasId] at hx
  | cons s r ih =>
    obtain ⟨h1, h2⟩ := List.pairwise_cons.1 h
    unfold without
    by_cases e : s.id = x
    · rw [List.filter_cons_of_neg (by simp [e]), List.filter_eq_self.2 (fun a ha => by have := (h1 a ha).1; simp; omega)]; rfl
    · rw [List.filter_cons_of_pos (by simpa using e)]
      have hx' : hasId r x = true := by simpa [hasId, e] using hx
      simp only [List.length_cons]
      have := ih h2 hx'
      unfold without at this
      omega
theorem without_none {L : List Sl} {x : Nat} (hx : hasId L x = false) : without L x = L :=
  List.filter_eq_self.2 fun a ha => by have := hasId_false hx a ha; simpa using this
theorem hasId_without (L : List Sl) (x y : Nat) : hasId (without L x) y = (hasId L y && y != x) := by
  rw [Bool.eq_iff_iff]
  simp only [hasId, without, List.any_filter, List.any_eq_true, Bool.and_eq_true, bne_iff_ne, beq_iff_eq]
  constructor
  · rintro ⟨a, h1, h2, rfl⟩; exact ⟨⟨a, h1, rfl⟩, h2⟩
  · rintro ⟨⟨a, h1, rfl⟩, h2⟩; exact ⟨a, h1, h2, rfl⟩
/-- Striking by an id strikes one place. -/
theorem without_erase {l : List Sl} (h : Once l) {i : Nat} {s : Sl} (hi : l[i]? = some s) : without l s.id = l.eraseIdx i := by
  induction l generalizing i with
  | nil => simp at hi
  | cons a r ih =>
    obtain ⟨h1, h2⟩ := List.pairwise_cons.1 h
    cases i with
    | zero =>
      obtain rfl : a = s := by simpa using hi
      unfold without
      rw [List.filter_cons_of_neg (by simp), List.filter_eq_self.2 (fun x hx => by have := (h1 x hx).1; simp; omega)]
      rfl
    | succ i =>
      have hi' : r[i]? = some s := by simpa using hi
      have hne := (h1 s (List.mem_of_getElem? hi')).1
      unfold without
      rw [List.filter_cons_of_pos (by simpa using hne)]
      have := ih h2 hi'
      unfold without at this
      rw [this]; rfl

/-- Who waits in a bucket. -/
def inB (bf : Nat → Nat) (L : List Sl) (j : Nat) : List Sl := L.filter fun s => bf s.addr == j
theorem inB_mem {bf : Nat → Nat} {L : List Sl} {j : Nat} {s : Sl} : s ∈ inB bf L j ↔ s ∈ L ∧ bf s.addr = j := by simp [inB]
theorem inB_snoc (bf : Nat → Nat) (L : List Sl) (s : Sl) (j : Nat) : inB bf (L ++ [s]) j = if bf s.addr = j then inB bf L j ++ [s] else inB bf L j := by
  unfold inB
  rw [List.filter_append]
  by_cases e : bf s.addr = j
  · rw [if_pos e]; simp [e]
  · rw [if_neg e]; simp [e]
theorem inB_without (bf : Nat → Nat) (L : List Sl) (x j : Nat) : inB bf (without L x) j = without (inB bf L j) x := by
  unfold inB without
  rw [List.filter_filter, List.filter_filter]
  congr 1; funext s; rw [Bool.and_comm]
theorem Once.inB {L : List Sl} (h : Once L) (bf : Nat → Nat) (j : Nat) : Once (inB bf L j) := List.Pairwise.filter _ h
theorem inB_other {bf : Nat → Nat} {L : List Sl} (h : Once L) {s : Sl} (hs : s ∈ L) {j : Nat} (hj : bf s.addr ≠ j) : without (inB bf L j) s.id = inB bf L j := by
  refine without_none ?_
  rw [Bool.eq_false_iff]
  intro hh
  obtain ⟨a, ha, e⟩ := hasId_iff.1 hh
  obtain ⟨h1, h2⟩ := inB_mem.1 ha
  rw [once_eq h h1 hs (.inl e)] at h2
  exact hj h2

end Go.Proofs.YteeckkkbmlkkiaaDoor
