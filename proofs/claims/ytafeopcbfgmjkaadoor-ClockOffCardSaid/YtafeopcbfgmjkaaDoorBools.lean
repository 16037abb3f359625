/- Slices of bools that came in, as a walk wants them. -/
import Derived.Test.YtafeopcbfgmjkaaDoorLib
import Derived.ProofKit
import Derived.OpenShut
import Derived.ChangeSlices
import Derived.Deep.Grids
namespace Go.Proofs.YtafeopcbfgmjkaaDoor
open Go.ChangeShapes Go.WideShapes Go.ChangeAt Go.RowKit
open Go.Deep (open_bools)

def gat (gs : List Bool) (i : Nat) : Bool := gs.getD i false
/-- Cells of bools, as a slice holds them. -/
def Bools (w : World) (ao : Option Addr) (gs : List Bool) : Prop :=
  ∀ j, j < gs.length → ∃ b off, ao = some ⟨b, off, none⟩ ∧ b < w.heap.size ∧ w.cell? ⟨b, off + j, none⟩ = some (.bool (gat gs j))
theorem Bools.keep {w w' : World} {ao : Option Addr} {gs : List Bool} (h : Bools w ao gs) (f : New w w') : Bools w' ao gs := fun j hj => by
  obtain ⟨b, off, h1, h2, h3⟩ := h j hj
  exact ⟨b, off, h1, Nat.lt_of_lt_of_le h2 f.size, (f.cell h2 id _).trans h3⟩
theorem bools_of {w : World} {x : Addr} {len cap : Nat} {B : Nat → Bool} (h : ∀ i, i < cap → w.cell? (x.add i) = some (.bool (B i))) (hl : len ≤ cap) :
    ∃ gs : List Bool, gs.length = len ∧ Bools w (some x) gs := by
  refine ⟨(List.range len).map B, by simp, fun j hj => ?_⟩
  have hj' : j < len := by simpa using hj
  obtain ⟨b, off, h1, h2, h3⟩ := cells_at (V := fun i => .bool (B i)) h hl j hj'
  refine ⟨b, off, h1, h2, ?_⟩
  rw [h3]; unfold gat; simp [hj']
theorem open_boolsl {H : Type} {enc : TypeId × Value → H} {P : Program} {w : World} {t e : TypeId} {a0 : Option Addr} {len0 cap0 : Nat} {d : DataW H} {p : List MemPlace}
    (ht : P.underlying t = some (.slice e)) (he : P.underlying e = some .bool) (hc : P.cellsOf e = 1) (h : DataW.Trod enc P w 0 (fun _ => true) true t (.slice a0 len0 cap0) d p) :
    ∃ bs : List Bool, bs.length = len0 ∧ len0 ≤ maxLen ∧ Bools w a0 bs := by
  obtain ⟨fuel, hf⟩ := h
  rcases open_bools ht he hc hf with ⟨hcs, _⟩ | ⟨x, l, c, B, hcs, _, hl, hm, _, hcell⟩
  · simp [Value.cells] at hcs
    obtain ⟨rfl, rfl, rfl⟩ := hcs
    exact ⟨[], rfl, by unfold maxLen; omega, fun j hj => by simp at hj⟩
  · simp [Value.cells] at hcs
    obtain ⟨rfl, rfl, rfl⟩ := hcs
    obtain ⟨bs, e, hb⟩ := bools_of hcell hl
    exact ⟨bs, e, by omega, hb⟩

end Go.Proofs.YtafeopcbfgmjkaaDoor
