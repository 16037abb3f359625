/- Slices of ints that came in, as a walk wants them. -/
import Derived.Test.YtngpcalgjaglmaaDoorLib
import Derived.ProofKit
import Derived.OpenShut
import Derived.ChangeSlices
namespace Go.Proofs.YtngpcalgjaglmaaDoor
open Go.ChangeShapes Go.WideShapes Go.ChangeAt Go.RowKit

/-- The cells behind ao are the ints xs. -/
def IntsI (w : World) (ao : Option Addr) (xs : List Int) : Prop :=
  ∀ (j : Nat) (x : Int), xs[j]? = some x → ∃ b off, ao = some ⟨b, off, none⟩ ∧ b < w.heap.size ∧ w.cell? ⟨b, off + j, none⟩ = some (.int .i64 x)
theorem IntsI.keep {w w' : World} {ao : Option Addr} {xs : List Int} (h : IntsI w ao xs) (f : New w w') : IntsI w' ao xs := fun j x hx => by
  obtain ⟨b, off, h1, h2, h3⟩ := h j x hx
  exact ⟨b, off, h1, Nat.lt_of_lt_of_le h2 f.size, (f.cell h2 id _).trans h3⟩

theorem open_intsl {H : Type} {enc : TypeId × Value → H} {P : Program} {w : World} {t e : TypeId} {a0 : Option Addr} {len0 cap0 : Nat} {d : DataW H} {p : List MemPlace}
    (ht : P.underlying t = some (.slice e)) (he : P.underlying e = some (.int .i64)) (hc : P.cellsOf e = 1) (h : DataW.Trod enc P w 0 (fun _ => true) true t (.slice a0 len0 cap0) d p) :
    ∃ xs : List Int, xs.length = len0 ∧ len0 ≤ maxLen ∧ (∀ x ∈ xs, -9223372036854775808 ≤ x ∧ x ≤ 9223372036854775807) ∧ IntsI w a0 xs := by
  obtain ⟨fuel, hf⟩ := h
  rcases open_ints ht he hc hf with ⟨hcs, _⟩ | ⟨a, l, c, zs, hcs, _, hl, hm, hz, _, hcell, hwf⟩
  · simp [Value.cells] at hcs
    obtain ⟨rfl, rfl, rfl⟩ := hcs
    exact ⟨[], rfl, by unfold maxLen; omega, fun x hx => by simp at hx, fun j x hj => by simp at hj⟩
  · simp [Value.cells] at hcs
    obtain ⟨rfl, rfl, rfl⟩ := hcs
    simp only [if_true] at hz
    refine ⟨zs.take len0, by simp; omega, by omega, fun x hx => ?_, fun j x hj => ?_⟩
    · have := bounds_i64 (hwf x (List.mem_of_mem_take hx))
      exact this
    · have hjl : j < len0 := by have := (List.getElem?_eq_some_iff.1 hj).1; simp at this; omega
      obtain ⟨b, off, h1, h2, h3⟩ := cells_at (V := fun i => .int .i64 (zs.getD i 0)) (fun i hi => hcell i (by omega)) hl j hjl
      refine ⟨b, off, h1, h2, ?_⟩
      rw [h3]
      rw [List.getElem?_take_of_lt hjl] at hj
      rw [List.getD_eq_getElem?_getD, hj]; rfl

end Go.Proofs.YtngpcalgjaglmaaDoor
