/- Small laws on worlds, free of any program: a frame with a set of blocks that may turn, blocks of cells behind stores and new blocks. -/
import Derived.Test.YtngpcalgjaglmaaDoorRows
import Derived.WalkKit
import Derived.WalkSpells
import Derived.WalkLawsBesides
namespace Go.Proofs.YtngpcalgjaglmaaDoor
open Go.RowKit

/-- What was there stays as it was, but for the blocks of S. -/
structure Fr (S : Nat → Prop) (w w' : World) : Prop where
  os : w'.os = w.os
  tape : w'.tape = w.tape
  output : w'.output = w.output
  size : w.heap.size ≤ w'.heap.size
  block : ∀ k, k < w.heap.size → ¬ S k → w'.heap[k]? = w.heap[k]?

theorem Fr.refl (S : Nat → Prop) (w : World) : Fr S w w := ⟨rfl, rfl, rfl, Nat.le_refl _, fun _ _ _ => rfl⟩
theorem Fr.trans {S : Nat → Prop} {a b c : World} (h : Fr S a b) (k : Fr S b c) : Fr S a c :=
  ⟨k.os.trans h.os, k.tape.trans h.tape, k.output.trans h.output, Nat.le_trans h.size k.size,
    fun i hi hs => (k.block i (Nat.lt_of_lt_of_le hi h.size) hs).trans (h.block i hi hs)⟩
theorem Fr.mono {S T : Nat → Prop} {w w' : World} (h : Fr S w w') (hst : ∀ k, k < w.heap.size → S k → T k) : Fr T w w' :=
  ⟨h.os, h.tape, h.output, h.size, fun i hi hs => h.block i hi (fun x => hs (hst i hi x))⟩
/-- Two steps: what the second may turn was either allowed, or was made by the first. -/
theorem Fr.then {S T : Nat → Prop} {a b c : World} (h : Fr S a b) (k : Fr T b c) (hst : ∀ i, i < a.heap.size → T i → S i) : Fr S a c :=
  ⟨k.os.trans h.os, k.tape.trans h.tape, k.output.trans h.output, Nat.le_trans h.size k.size,
    fun i hi hs => (k.block i (Nat.lt_of_lt_of_le hi h.size) (fun x => hs (hst i hi x))).trans (h.block i hi hs)⟩
theorem Fr.alloc {S : Nat → Prop} {a w : World} (h : Fr S a w) (o : Obj) : Fr S a (w.alloc o) :=
  h.trans ⟨rfl, rfl, rfl, by simp, fun _ hk _ => Below.heap_alloc _ _ _ hk⟩
theorem Fr.drew {S : Nat → Prop} {a w : World} (h : Fr S a w) : Fr S a w.drew := ⟨h.os, h.tape, h.output, h.size, h.block⟩
theorem Fr.drewN {S : Nat → Prop} {a w : World} (h : Fr S a w) (n : Nat) : Fr S a (w.drewN n) := ⟨h.os, h.tape, h.output, h.size, h.block⟩
theorem Fr.setCell {S : Nat → Prop} {a w : World} (h : Fr S a w) {p : Addr} (hp : p.block < a.heap.size → S p.block) (u : Value) : Fr S a (w.setCell p u) :=
  ⟨h.os, h.tape, h.output, by simpa using h.size, fun k hk hs => by
    rw [Below.heap_setCell _ _ _ _ (by intro e; subst e; exact hs (hp hk))]; exact h.block k hk hs⟩
theorem Fr.grown {S : Nat → Prop} {a w w' : World} {row : Option Nat} (h : Fr S a w) (hg : w.grownBy w' row) (hr : ∀ k, row = some k → k < a.heap.size → S k) : Fr S a w' :=
  h.then (T := fun k => row = some k) ⟨hg.os, hg.tape, hg.output, hg.size, fun k hk hs => hg.block k hk (fun e => hs e.symm)⟩ (fun i hi e => hr i e hi)
theorem Fr.below {S : Nat → Prop} {w w' : World} {B : Nat} (h : Fr S w w') (hB : B ≤ w.heap.size) (hs : ∀ k, S k → B ≤ k) : Below B w w' :=
  ⟨h.os, h.tape, h.output, h.size, fun k hk => h.block k (by omega) (fun x => by have := hs k x; omega)⟩
theorem Fr.ofBelow {S : Nat → Prop} {w w' : World} {B : Nat} (h : Below B w w') (hs : ∀ k, k < w.heap.size → B ≤ k → S k) : Fr S w w' :=
  ⟨h.os, h.tape, h.output, h.size, fun k hk hn => h.block k (by by_cases e : k < B; exact e; exact absurd (hs k hk (by omega)) hn)⟩
theorem Fr.cell {S : Nat → Prop} {w w' : World} (h : Fr S w w') {b : Nat} (hb : b < w.heap.size) (hs : ¬ S b) (o : Nat) : w'.cell? ⟨b, o, none⟩ = w.cell? ⟨b, o, none⟩ :=
  World.cell?_of_block (a := ⟨b, o, none⟩) (h.block b hb hs)
theorem Fr.frozen {S : Nat → Prop} {w w' : World} (h : Fr S w w') {b : Nat} (hb : b < w.heap.size) (hs : ¬ S b) (o : Nat) : w'.frozen? ⟨b, o, none⟩ = w.frozen? ⟨b, o, none⟩ :=
  World.frozen?_of_block (a := ⟨b, o, none⟩) (h.block b hb hs)

/-- Nothing that was there has turned. -/
abbrev New (w w' : World) : Prop := Fr (fun _ => False) w w'

theorem cell_of_block {w : World} {b : Nat} {c : Array Value} {T : TypeId} {f : Nat × Nat} (h : w.heap[b]? = some (.cells c T f)) (o : Nat) : w.cell? ⟨b, o, none⟩ = c[o]? := by
  simp [World.cell?, h]
theorem free_of_block {w : World} {b : Nat} {c : Array Value} {T : TypeId} (h : w.heap[b]? = some (.cells c T (0, 0))) (o : Nat) : w.frozen? ⟨b, o, none⟩ = false := by
  simp [World.frozen?, h]
theorem lt_of_block {w : World} {b : Nat} {o : Obj} (h : w.heap[b]? = some o) : b < w.heap.size := (Array.getElem?_eq_some_iff.1 h).1
theorem block_setCell {w : World} {b o : Nat} {c : Array Value} {T : TypeId} {f : Nat × Nat} (h : w.heap[b]? = some (.cells c T f)) (v : Value) :
    (w.setCell ⟨b, o, none⟩ v).heap[b]? = some (.cells (c.setIfInBounds o v) T f) := by
  show (w.heap.modify b _)[b]? = _
  rw [Array.getElem?_modify, if_pos rfl, h]; rfl
theorem block_setCell_ne {w : World} {b b' o : Nat} (h : b ≠ b') (v : Value) : (w.setCell ⟨b', o, none⟩ v).heap[b]? = w.heap[b]? :=
  Below.heap_setCell _ _ _ _ h
theorem block_alloc {w : World} {b : Nat} {o : Obj} (h : b < w.heap.size) : (w.alloc o).heap[b]? = w.heap[b]? := Below.heap_alloc _ _ _ h
theorem block_alloc_new (w : World) (o : Obj) : (w.alloc o).heap[w.heap.size]? = some o := by
  show (w.heap.push o)[w.heap.size]? = _
  simp
theorem lt_of_cell {w : World} {b o : Nat} {v : Value} (h : w.cell? ⟨b, o, none⟩ = some v) : b < w.heap.size := World.block_lt_of_cell? _ _ h
theorem ret_int {k : IntKind} {a b : Int} (h : a = b) : Ending.returned (.int k a) = .returned (.int k b) := by rw [h]
theorem ret_bool {a b : Bool} (h : a = b) : Ending.returned (.bool a) = .returned (.bool b) := by rw [h]

/-- Block b holds the cells xs (at its head), and may be written. -/
structure Arr (w : World) (b : Nat) (xs : List Value) : Prop where
  lt : b < w.heap.size
  cell : ∀ j v, xs[j]? = some v → w.cell? ⟨b, j, none⟩ = some v
  free : ∀ j, w.frozen? ⟨b, j, none⟩ = false

theorem Arr.at {w : World} {b : Nat} {xs : List Value} (h : Arr w b xs) (j : Nat) (hj : j < xs.length) : w.cell? ⟨b, j, none⟩ = some xs[j] :=
  h.cell j _ (by simp)
theorem Arr.of_block {w : World} {b : Nat} {c : Array Value} {T : TypeId} (h : w.heap[b]? = some (.cells c T (0, 0))) : Arr w b c.toList :=
  ⟨lt_of_block h, fun j v hj => by rw [cell_of_block h]; simpa using hj, free_of_block h⟩
theorem Arr.new (w : World) (c : Array Value) (T : TypeId) : Arr (w.alloc (.cells c T)) w.heap.size c.toList := Arr.of_block (block_alloc_new _ _)
theorem Arr.keep {w w' : World} {b : Nat} {xs : List Value} {S : Nat → Prop} (h : Arr w b xs) (f : Fr S w w') (hs : ¬ S b) : Arr w' b xs :=
  ⟨Nat.lt_of_lt_of_le h.lt f.size, fun j v hj => by rw [f.cell h.lt hs]; exact h.cell j v hj, fun j => by rw [f.frozen h.lt hs]; exact h.free j⟩
theorem Arr.pre {w : World} {b : Nat} {xs ys : List Value} (h : Arr w b xs) (hp : ys <+: xs) : Arr w b ys :=
  ⟨h.lt, fun j v hj => h.cell j v (by
    obtain ⟨t, rfl⟩ := hp
    rw [List.getElem?_append_left (by exact (List.getElem?_eq_some_iff.1 hj).1)]; exact hj), h.free⟩
theorem Arr.alloc {w : World} {b : Nat} {xs : List Value} (h : Arr w b xs) (o : Obj) : Arr (w.alloc o) b xs :=
  h.keep ((Fr.refl (fun _ => False) w).alloc o) id
theorem Arr.drew {w : World} {b : Nat} {xs : List Value} (h : Arr w b xs) : Arr w.drew b xs := ⟨h.lt, h.cell, h.free⟩
theorem cell_set_ne {w : World} {b o b' o' : Nat} (v : Value) (h : b ≠ b' ∨ o ≠ o') : (w.setCell ⟨b, o, none⟩ v).cell? ⟨b', o', none⟩ = w.cell? ⟨b', o', none⟩ :=
  World.cell?_setCell_other _ _ _ _ (by intro e; simp only [Addr.mk.injEq, and_true] at e; omega)
theorem cell_set_eq {w : World} {b o : Nat} {u : Value} (v : Value) (h : w.cell? ⟨b, o, none⟩ = some u) : (w.setCell ⟨b, o, none⟩ v).cell? ⟨b, o, none⟩ = some v :=
  World.cell?_setCell_same _ _ _ h
theorem Arr.set {w : World} {b : Nat} {xs : List Value} (h : Arr w b xs) (o : Nat) (v : Value) : Arr (w.setCell ⟨b, o, none⟩ v) b (xs.set o v) := by
  refine ⟨by simpa using h.lt, fun j u hj => ?_, fun j => by rw [World.frozen?_setCell]; exact h.free j⟩
  by_cases e : o = j
  · subst e
    rw [List.getElem?_set_self' ] at hj
    cases hx : xs[o]? with
    | none => simp [hx] at hj
    | some y => simp [hx] at hj; subst hj; exact cell_set_eq _ (h.cell _ _ hx)
  · rw [List.getElem?_set_ne e] at hj
    rw [cell_set_ne _ (.inr e)]; exact h.cell _ _ hj
theorem Arr.setNe {w : World} {b b' o : Nat} {xs : List Value} (h : Arr w b xs) (hb : b' ≠ b) (v : Value) : Arr (w.setCell ⟨b', o, none⟩ v) b xs :=
  ⟨by simpa using h.lt, fun j u hj => by rw [cell_set_ne _ (.inl hb)]; exact h.cell _ _ hj, fun j => by rw [World.frozen?_setCell]; exact h.free j⟩

theorem len_flatMap {α : Type} (f : α → List Value) (n : Nat) (hf : ∀ a, (f a).length = n) : ∀ l : List α, (l.flatMap f).length = l.length * n
  | [] => by simp
  | a :: l => by simp [hf, len_flatMap f n hf l, Nat.add_mul]; omega
theorem get_flatMap {α : Type} (f : α → List Value) (n : Nat) (hf : ∀ a, (f a).length = n) : ∀ (l : List α) (p j : Nat), j < n →
    (l.flatMap f)[p * n + j]? = l[p]?.bind fun a => (f a)[j]?
  | [], p, j, hj => by simp
  | a :: l, 0, j, hj => by
    simp only [List.flatMap_cons, Nat.zero_mul, Nat.zero_add, List.getElem?_cons_zero, Option.bind_some]
    rw [List.getElem?_append_left (by rw [hf]; exact hj)]
  | a :: l, p + 1, j, hj => by
    simp only [List.flatMap_cons, List.getElem?_cons_succ]
    rw [List.getElem?_append_right (by rw [hf, Nat.add_mul]; omega), hf, ← get_flatMap f n hf l p j hj]
    congr 1; rw [Nat.add_mul]; omega
/-- Rows of n cells each: one row is written over. -/
theorem Arr.put {α : Type} {f : α → List Value} {n : Nat} (hf : ∀ a, (f a).length = n) {w w' : World} {b : Nat} {l : List α} (h : Arr w b (l.flatMap f)) (p : Nat) (a : α)
    (hp : ∀ j v, (f a)[j]? = some v → w'.cell? ⟨b, p * n + j, none⟩ = some v)
    (ho : ∀ o, (o < p * n ∨ p * n + n ≤ o) → w'.cell? ⟨b, o, none⟩ = w.cell? ⟨b, o, none⟩)
    (hs : b < w'.heap.size) (hz : ∀ j, w'.frozen? ⟨b, j, none⟩ = false) : Arr w' b ((l.set p a).flatMap f) := by
  refine ⟨hs, fun o v hv => ?_, hz⟩
  by_cases n0 : n = 0
  · exfalso
    have := len_flatMap f n hf (l.set p a)
    have := (List.getElem?_eq_some_iff.1 hv).1
    subst n0; simp at *; omega
  · have hdm := Nat.div_add_mod o n
    have hm := Nat.mod_lt o (show 0 < n by omega)
    generalize hq : o / n = q at hdm
    generalize o % n = j at hdm hm
    have ho' : o = q * n + j := by rw [Nat.mul_comm]; omega
    subst ho'
    rw [get_flatMap f n hf _ _ _ hm] at hv
    by_cases e : q = p
    · subst e
      rw [List.getElem?_set_self'] at hv
      cases hx : l[q]? with
      | none => simp [hx] at hv
      | some y => simp [hx] at hv; exact hp _ _ hv
    · rw [List.getElem?_set_ne (fun x => e x.symm)] at hv
      rw [ho _ (by
        rcases Nat.lt_or_gt_of_ne e with h' | h'
        · left
          have := Nat.mul_le_mul_right n (show q + 1 ≤ p from h')
          rw [Nat.add_mul] at this; omega
        · right
          have := Nat.mul_le_mul_right n (show p + 1 ≤ q from h')
          rw [Nat.add_mul] at this; omega)]
      exact h.cell _ _ (by rw [get_flatMap f n hf _ _ _ hm]; exact hv)
/-- A cell of a row. -/
theorem Arr.row {α : Type} {f : α → List Value} {n : Nat} (hf : ∀ a, (f a).length = n) {w : World} {b : Nat} {l : List α} (h : Arr w b (l.flatMap f)) {p : Nat} {a : α} (hp : l[p]? = some a)
    (j : Nat) (v : Value) (hv : (f a)[j]? = some v) : w.cell? ⟨b, p * n + j, none⟩ = some v := by
  have hj : j < n := by rw [← hf a]; exact (List.getElem?_eq_some_iff.1 hv).1
  exact h.cell _ _ (by rw [get_flatMap f n hf _ _ _ hj, hp]; exact hv)

theorem Arr.of_owns {w : World} {base : Nat} {e : TypeId} {size g n cap : Nat} {xs : List Value} (h : w.ownsRow base e size (.slice (some ⟨g, 0, none⟩) n cap) n xs) : Arr w g xs :=
  ⟨(h.lt g rfl).2, fun j v hj => by
    have hl : j < n * size := by rw [← h.1]; exact (List.getElem?_eq_some_iff.1 hj).1
    rw [h.cellAt j hl]; exact hj, fun j => h.frozenAt j⟩
theorem madeRows (z : List Value) (hz : z ≠ []) (n : Nat) : (madeCells z.toArray (n * z.length)).toList = (List.replicate n ()).flatMap fun _ => z := by
  have h0 : 0 < z.length := List.length_pos_iff.2 hz
  apply List.ext_getElem?
  intro o
  have hdm := Nat.div_add_mod o z.length
  have hm := Nat.mod_lt o h0
  generalize hq : o / z.length = q at hdm
  generalize hj : o % z.length = j at hdm hm
  have ho : o = q * z.length + j := by rw [Nat.mul_comm]; omega
  rw [ho, get_flatMap (fun _ => z) z.length (fun _ => rfl) _ _ _ hm, ← ho]
  by_cases hn : q < n
  · have hlt : o < n * z.length := by
      have := Nat.mul_le_mul_right z.length (show q + 1 ≤ n from hn)
      rw [Nat.add_mul] at this; omega
    simp [madeCells, hlt, hn, hj, hm]
  · have hge : ¬ o < n * z.length := by
      have := Nat.mul_le_mul_right z.length (show n ≤ q by omega); omega
    simp [madeCells, hge, hn]
theorem flatMap_replicate {α : Type} (f : α → List Value) (a : α) (n : Nat) : (List.replicate n ()).flatMap (fun _ => f a) = (List.replicate n a).flatMap f := by
  induction n with
  | zero => rfl
  | succ n ih => simp only [List.replicate_succ, List.flatMap_cons, ih]

theorem Arr.add {w : World} {b : Nat} {xs : List Value} (h : Arr w b xs) : ∀ j u, xs[j]? = some u → w.cell? ((⟨b, 0, none⟩ : Addr).add j) = some u := by
  intro j u hj
  have := h.cell j u hj
  unfold Addr.add; split <;> simp_all

theorem own_keep {w w' : World} {S : Nat → Prop} {base : Nat} {e : TypeId} {size n : Nat} {v : Value} {xs : List Value} (h : w.ownsRow base e size v n xs) (f : Fr S w w') (hs : ∀ k, base ≤ k → ¬ S k) : w'.ownsRow base e size v n xs := by
  refine ⟨h.1, ?_⟩
  rcases h.2 with h2 | ⟨g, cap, cur, hv, hg, hh, r⟩
  · exact .inl h2
  · exact .inr ⟨g, cap, cur, hv, hg, by rw [f.block g (lt_of_block hh) (hs g hg)]; exact hh, r⟩

/-- An owned slice, whether nil or not: its cells, one by one. -/
theorem owned_form {w : World} {base : Nat} {e : TypeId} {size n : Nat} {v : Value} {xs : List Value} (h : w.ownsRow base e size v n xs) :
    ∃ (ao : Option Addr) (cap : Nat), v = .slice ao n cap ∧ ∀ j u, xs[j]? = some u → ∃ g, ao = some ⟨g, 0, none⟩ ∧ base ≤ g ∧ g < w.heap.size ∧ w.cell? ⟨g, j, none⟩ = some u := by
  rcases h.2 with ⟨rfl, rfl⟩ | ⟨g, cap, cur, rfl, h2, h3, h4, h5, h6, h7⟩
  · refine ⟨none, 0, rfl, fun j u hj => ?_⟩
    have : xs = [] := List.eq_nil_of_length_eq_zero (by rw [h.1]; omega)
    subst this; simp at hj
  · refine ⟨_, cap, rfl, fun j u hj => ⟨g, rfl, h2, lt_of_block h3, ?_⟩⟩
    rw [cell_of_block h3]
    rw [← h7, List.getElem?_take] at hj
    split at hj
    · rwa [Array.getElem?_toList] at hj
    · cases hj

/-- The cells behind an address that a reading has met. -/
theorem cells_at {w : World} {x : Addr} {n cap : Nat} {V : Nat → Value} (h : ∀ i, i < cap → w.cell? (x.add i) = some (V i)) (hl : n ≤ cap) :
    ∀ j, j < n → ∃ b off, some x = some (⟨b, off, none⟩ : Addr) ∧ b < w.heap.size ∧ w.cell? ⟨b, off + j, none⟩ = some (V j) := by
  intro j hj
  obtain ⟨b, off, spot⟩ := x
  have h0 := h 0 (by omega)
  have hs : spot = none := by simpa [Addr.add] using World.cell?_spot h0
  subst hs
  have hc := h j (by omega)
  refine ⟨b, off, rfl, World.block_lt_of_cell? _ _ h0, ?_⟩
  unfold Addr.add at hc
  split at hc <;> simp_all

theorem block_alloc_new1 (w : World) (a b : Obj) : ((w.alloc a).alloc b).heap[w.heap.size + 1]? = some b := by
  have := block_alloc_new (w.alloc a) b; rwa [World.size_alloc] at this
theorem block_alloc_new2 (w : World) (a b c : Obj) : (((w.alloc a).alloc b).alloc c).heap[w.heap.size + 1 + 1]? = some c := by
  have := block_alloc_new ((w.alloc a).alloc b) c; rwa [World.size_alloc, World.size_alloc] at this

end Go.Proofs.YtngpcalgjaglmaaDoor
