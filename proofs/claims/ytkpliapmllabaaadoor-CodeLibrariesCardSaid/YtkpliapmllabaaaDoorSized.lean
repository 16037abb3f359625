/- The form's own reach, as a bound on a slice's length. -/
import Derived.Test.YtkpliapmllabaaaDoorLib
import Derived.Test.YtkpliapmllabaaaDoorRecs
import Derived.SizedLaws
namespace Go.Proofs.YtkpliapmllabaaaDoor
open Go.ChangeShapes Go.WideShapes Go.ChangeAt Go.RowKit Go.Deep

theorem slice_reach {H : Type} {enc : TypeId × Value → H} {P : Program} {w : World} {t e : TypeId} {a0 : Option Addr} {len0 cap0 : Nat} {d : DataW H} {p : List MemPlace} {ts : List TypeId} {ds : List (DataW H)} {j : Nat}
    (ht : P.underlying t = some (.slice e)) (hz : (DataW.weightsEach P ts ds).all (· ≤ reachBytes) = true) (htj : ts[j]? = some t) (hdj : ds[j]? = some d)
    (h : DataW.Trod enc P w 0 (fun _ => true) true t (.slice a0 len0 cap0) d p) : len0 * P.bytesOf e ≤ 140737488351232 := by
  obtain ⟨fuel, hf⟩ := h
  rcases open_slice ht hf with ⟨hcs, _⟩ | ⟨a, l, c, m, n, D, Pl, hcs, _, hl, hm, hmm, hx, hel⟩
  · simp [Value.cells] at hcs
    obtain ⟨rfl, rfl, rfl⟩ := hcs
    simp
  · simp [Value.cells] at hcs
    obtain ⟨rfl, rfl, rfl⟩ := hcs
    obtain ⟨hd, _⟩ := Prod.mk.inj hx
    subst hd
    have := sized_slice hz htj hdj ht
    simp only [List.length_map, List.length_range, reachBytes] at this
    refine Nat.le_trans (Nat.mul_le_mul_right _ (Nat.le_add_right _ _)) this

end Go.Proofs.YtkpliapmllabaaaDoor
