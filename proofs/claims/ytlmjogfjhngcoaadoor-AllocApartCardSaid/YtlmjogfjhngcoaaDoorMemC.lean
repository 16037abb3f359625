/- The accesses that lay a new value, and the methods that do them. -/
import Derived.Test.YtlmjogfjhngcoaaDoorMemB
namespace Go.Proofs.YtlmjogfjhngcoaaDoor
open Go.RowKit

/-- What one access lays down. -/
def laidBy (kind W c o v : Nat) : Nat := if kind = 0 then c else if kind = 3 then sumN W c v else if kind = 4 then (if c = cutN W o then cutN W v else c) else cutN W v

theorem set_self {xs : List Nat} {p c : Nat} (h : xs[p]? = some c) : xs.set p c = xs := by
  apply List.ext_getElem?
  intro j
  by_cases e : p = j
  · subst e; rw [List.getElem?_set_self']; simp [h]
  · rw [List.getElem?_set_ne e]

end Go.Proofs.YtlmjogfjhngcoaaDoor
