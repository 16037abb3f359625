/- The document's lists, further: rows that are kept, places of structs, results. -/
import Derived.Test.YtkpliapmllabaaaDoorDocs
import Derived.Laws.ResultCell
import Derived.Laws.Rows
import Derived.Deep.Onto
namespace Go.Proofs.YtkpliapmllabaaaDoor
open Go.RowKit

theorem own_kept {w w' : World} {S : Nat → Prop} {base : Nat} {e : TypeId} {size n : Nat} {v : Value} {xs : List Value} (h : w.ownsRow base e size v n xs) (f : Fr S w w') (hs : ∀ k, v.ownBlock = some k → ¬ S k) : w'.ownsRow base e size v n xs := by
  refine ⟨h.1, ?_⟩
  rcases h.2 with h2 | ⟨g, cap, cur, hv, hg, hh, r⟩
  · exact .inl h2
  · exact .inr ⟨g, cap, cur, hv, hg, by rw [f.block g (lt_of_block hh) (hs g (by rw [hv]; rfl))]; exact hh, r⟩
theorem own_ne {w : World} {base b size n : Nat} {e T : TypeId} {v : Value} {xs : List Value} {cs : Array Value} {z : Nat × Nat} (h : w.ownsRow base e size v n xs) (hb : w.heap[b]? = some (.cells cs T z)) (hT : T ≠ e) : ∀ k, v.ownBlock = some k → k ≠ b := by
  rintro k hk rfl
  rcases h.2 with ⟨rfl, _⟩ | ⟨g, cap, cur, rfl, _, hg, _⟩
  · cases hk
  · obtain rfl : g = k := by simpa [Value.ownBlock] using hk
    rw [hb, Option.some.injEq, Obj.cells.injEq] at hg
    exact absurd hg.2.1 hT
theorem doc_cap {w : World} {base n c size : Nat} {e : TypeId} {A : Option Addr} {cs : List Value} (h : w.ownsRow base e size (.slice A n c) n cs) : n ≤ c := by
  rcases h.2 with ⟨h1, h2⟩ | ⟨g, cap, cur, hv, _, _, hc, _⟩
  · omega
  · obtain ⟨_, rfl⟩ : A = some ⟨g, 0, none⟩ ∧ c = cap := by simpa using hv
    exact hc

theorem own_some {w : World} {base n c k size : Nat} {e : TypeId} {A : Option Addr} {cs : List Value} (h : w.ownsRow base e size (.slice A n c) n cs) (hk : k ≤ n) (hc : c ≠ k) : ∃ g, A = some ⟨g, 0, none⟩ ∧ g < w.heap.size := by
  rcases h.2 with ⟨h1, rfl⟩ | ⟨g, cap, cur, hv, _, hh, r⟩
  · obtain ⟨_, rfl⟩ : A = none ∧ c = 0 := by simpa using h1
    omega
  · obtain ⟨rfl, _⟩ : A = some ⟨g, 0, none⟩ ∧ c = cap := by simpa using hv
    exact ⟨g, rfl, lt_of_block hh⟩
theorem map_add (g n : Nat) : (some (⟨g, 0, none⟩ : Addr)).map (·.add n) = some ⟨g, n, none⟩ := by
  by_cases h : n = 0 <;> simp [Addr.add, h]
theorem int_succ (n : Nat) : (n : Int) + 1 = ((n + 1 : Nat) : Int) := by omega

theorem ret_cell2 {P : Program} {fn : Func} {p u : Tmp} {ty : TypeId} (h : fn.results = #[.cell p ty, .tmp u]) (tmps : Array Value) (w : World) (g : Nat) (t : TypeId) (cs : Array Value) (fr : Nat × Nat) (d : TypeDesc)
    (hp : tmps.getD p undef = .pointer (some ⟨g, 0, none⟩)) (hg : w.heap[g]? = some (.cells cs t fr))
    (hu : P.underlying ty = some d) (hd : (match d with | .struct _ | .array _ _ => true | _ => false) = true) (hi : (P.info? ty).map (·.size) = some cs.size) :
    (results fn tmps).run P w = .ok (.tuple #[.agg cs, tmps.getD u undef]) w := by
  rw [results_cell_tmp h, hp]
  simp [asAddr, Result.andThen, run_loadVar_row w g t ty cs fr d hg hu hd hi]
/-- A struct's result alone. -/
theorem ret_cell1 {P : Program} {fn : Func} {p : Tmp} {ty : TypeId} (h : fn.results = #[.cell p ty]) (tmps : Array Value) (w : World) (g : Nat) (t : TypeId) (cs : Array Value) (fr : Nat × Nat) (d : TypeDesc)
    (hp : tmps.getD p undef = .pointer (some ⟨g, 0, none⟩)) (hg : w.heap[g]? = some (.cells cs t fr))
    (hu : P.underlying ty = some d) (hd : (match d with | .struct _ | .array _ _ => true | _ => false) = true) (hi : (P.info? ty).map (·.size) = some cs.size) :
    (results fn tmps).run P w = .ok (.agg cs) w := by
  rw [Array.getD_eq_getD_getElem?] at hp
  simp only [results, h]
  simp [Sem.run_bind, hp, asAddr, Result.andThen, run_loadVar_row w g t ty cs fr d hg hu hd hi]
section
variable {α : Type} (f : α → List Value) (n : Nat) (hf : ∀ x, (f x).length = n)
include hf
theorem flat_drop' (L : List α) (k : Nat) : (L.flatMap f).drop (k * n) = (L.drop k).flatMap f := by
  induction L generalizing k with
  | nil => simp
  | cons x r ih =>
    cases k with
    | zero => simp
    | succ k =>
      rw [List.flatMap_cons, List.drop_succ_cons, ← ih k, show (k + 1) * n = (f x).length + k * n by rw [hf, Nat.add_mul]; omega, List.drop_append]
      simp
theorem flat_take' (L : List α) (k : Nat) : (L.flatMap f).take (k * n) = (L.take k).flatMap f := by
  induction L generalizing k with
  | nil => simp
  | cons x r ih =>
    cases k with
    | zero => simp
    | succ k =>
      rw [List.flatMap_cons, List.take_succ_cons, List.flatMap_cons, ← ih k, show (k + 1) * n = (f x).length + k * n by rw [hf, Nat.add_mul]; omega, List.take_append]
      simp
      exact List.take_of_length_le (by omega)
/-- What stands at place q of a row of structs. -/
theorem flat_at {w : World} {base N c : Nat} {e : TypeId} {A : Option Addr} {L : List α} (h : w.ownsRow base e n (.slice A N c) N (L.flatMap f)) {q : Nat} {t : α} (ht : L[q]? = some t) (hn : 0 < n) :
    ∃ g, A = some ⟨g, 0, none⟩ ∧ g < w.heap.size ∧ ∀ i u, (f t)[i]? = some u → w.cell? ⟨g, q * n + i, none⟩ = some u := by
  obtain ⟨ao, cap, hv, hc⟩ := owned_form h
  obtain ⟨rfl, rfl⟩ : A = ao ∧ c = cap := by simpa using hv
  have k : ∀ i u, (f t)[i]? = some u → (L.flatMap f)[q * n + i]? = some u := fun i u hu => by
    have hi : i < n := by rw [← hf t]; exact (List.getElem?_eq_some_iff.1 hu).1
    rw [get_flatMap f n hf _ _ _ hi, ht]; exact hu
  obtain ⟨u0, hu0⟩ : ∃ u, (f t)[0]? = some u := ⟨(f t)[0]'(by rw [hf]; exact hn), by simp⟩
  obtain ⟨g, rfl, _, hg, _⟩ := hc _ _ (k 0 u0 hu0)
  refine ⟨g, rfl, hg, fun i u hu => ?_⟩
  obtain ⟨g1, e1, _, _, h1⟩ := hc _ _ (k i u hu)
  obtain rfl : g = g1 := by simpa using e1
  exact h1
end

end Go.Proofs.YtkpliapmllabaaaDoor
