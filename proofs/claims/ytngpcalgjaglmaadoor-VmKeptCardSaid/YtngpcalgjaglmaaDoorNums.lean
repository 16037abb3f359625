/- Slices of numbers that came in, as a walk wants them. -/
import Derived.Test.YtngpcalgjaglmaaDoorLib
import Derived.ProofKit
import Derived.OpenShut
import Derived.ChangeSlices
namespace Go.Proofs.YtngpcalgjaglmaaDoor
open Go.ChangeShapes Go.WideShapes Go.ChangeAt Go.RowKit

/-- The cells behind ao are the numbers xs. -/
def Nats (w : World) (ao : Option Addr) (xs : List Nat) : Prop :=
  ∀ j x : Nat, xs[j]? = some x → ∃ b off, ao = some ⟨b, off, none⟩ ∧ b < w.heap.size ∧ w.cell? ⟨b, off + j, none⟩ = some (.int .u64 x)
theorem Nats.keep {w w' : World} {ao : Option Addr} {xs : List Nat} (h : Nats w ao xs) (f : New w w') : Nats w' ao xs := fun j x hx => by
  obtain ⟨b, off, h1, h2, h3⟩ := h j x hx
  exact ⟨b, off, h1, Nat.lt_of_lt_of_le h2 f.size, (f.cell h2 id _).trans h3⟩

theorem open_nats {H : Type} {enc : TypeId × Value → H} {P : Program} {w : World} {t e : TypeId} {a0 : Option Addr} {len0 cap0 : Nat} {d : DataW H} {p : List MemPlace}
    (ht : P.underlying t = some (.slice e)) (he : P.underlying e = some (.int .u64)) (hc : P.cellsOf e = 1) (h : DataW.Trod enc P w 0 (fun _ => true) true t (.slice a0 len0 cap0) d p) :
    ∃ xs : List Nat, xs.length = len0 ∧ len0 ≤ maxLen ∧ (∀ x ∈ xs, x < 18446744073709551616) ∧ Nats w a0 xs := by
  obtain ⟨fuel, hf⟩ := h
  rcases open_ints ht he hc hf with ⟨hcs, _⟩ | ⟨a, l, c, zs, hcs, _, hl, hm, hz, _, hcell, hwf⟩
  · simp [Value.cells] at hcs
    obtain ⟨rfl, rfl, rfl⟩ := hcs
    exact ⟨[], rfl, by unfold maxLen; omega, fun x hx => by simp at hx, fun j x hj => by simp at hj⟩
  · simp [Value.cells] at hcs
    obtain ⟨rfl, rfl, rfl⟩ := hcs
    simp only [if_true] at hz
    have hnn : ∀ i, i < zs.length → 0 ≤ zs.getD i 0 ∧ zs.getD i 0 ≤ 18446744073709551615 := fun i hi => by
      have := bounds_u64 (hwf (zs.getD i 0) (by rw [List.getD_eq_getElem?_getD, List.getElem?_eq_getElem hi]; simp))
      exact this
    refine ⟨(zs.take len0).map Int.toNat, by simp; omega, by omega, fun x hx => ?_, fun j x hj => ?_⟩
    · obtain ⟨z, hz1, rfl⟩ := List.mem_map.1 hx
      have := bounds_u64 (hwf z (List.mem_of_mem_take hz1))
      omega
    · have hjl : j < len0 := by have := (List.getElem?_eq_some_iff.1 hj).1; simp at this; omega
      obtain ⟨b, off, h1, h2, h3⟩ := cells_at (V := fun i => .int .u64 (zs.getD i 0)) (fun i hi => hcell i (by omega)) hl j hjl
      have := hnn j (by omega)
      refine ⟨b, off, h1, h2, ?_⟩
      rw [h3]
      rw [List.getElem?_map, List.getElem?_take_of_lt hjl] at hj
      obtain ⟨z, hz1, rfl⟩ := Option.map_eq_some_iff.1 hj
      rw [List.getD_eq_getElem?_getD, hz1]
      have := bounds_u64 (hwf z (List.mem_of_getElem? hz1))
      simp; omega

end Go.Proofs.YtngpcalgjaglmaaDoor
