/- Three operations of a region that may come up in any order. -/
import Derived.Test.YteeckkkbmlkkiaaDoorReg
namespace Go
theorem heldThree {P : Program} {md : Region.Mode} {Q : Exit → Act → World → Prop} {S : World → Prop} {l0 : List Oper} {i j k : Nat} {o o' o'' : Oper} {fuel : Nat} {listed : Array Bool} {a : Act} {w : World} (hr : Region.ready md l0.toArray listed = [i, j, k]) (ho : l0[i]? = some o) (ho' : l0[j]? = some o') (ho'' : l0[k]? = some o'')
    (hw : Region.wanted o (yielded l0.toArray a.tmps) = true) (hw' : Region.wanted o' (yielded l0.toArray a.tmps) = true) (hw'' : Region.wanted o'' (yielded l0.toArray a.tmps) = true)
    (h : ∀ K : Act → World → Prop, Shut (∀ a' w', S w' → wpAnyH P md l0.toArray Q S fuel (listed.setIfInBounds i true) a' w' → K a' w') → o.wp P a w K Q)
    (h' : ∀ K : Act → World → Prop, Shut (∀ a' w', S w' → wpAnyH P md l0.toArray Q S fuel (listed.setIfInBounds j true) a' w' → K a' w') → o'.wp P a w K Q)
    (h'' : ∀ K : Act → World → Prop, Shut (∀ a' w', S w' → wpAnyH P md l0.toArray Q S fuel (listed.setIfInBounds k true) a' w' → K a' w') → o''.wp P a w K Q) : wpAnyH P md l0.toArray Q S (fuel + 1) listed a w :=
  ⟨fun h0 => by rw [hr] at h0; simp at h0, fun x hx => by
    rw [hr] at hx
    rcases List.mem_cons.1 hx with rfl | hx
    · unfold wpOp
      rw [show l0.toArray[x]? = some o by simpa using ho]; simp only [hw, if_true]
      exact .inl (h _ (fun a' w' hs hh => ⟨hs, hh⟩))
    · rcases List.mem_cons.1 hx with rfl | hx
      · unfold wpOp
        rw [show l0.toArray[x]? = some o' by simpa using ho']; simp only [hw', if_true]
        exact .inl (h' _ (fun a' w' hs hh => ⟨hs, hh⟩))
      · obtain rfl : x = k := by simpa using hx
        unfold wpOp
        rw [show l0.toArray[x]? = some o'' by simpa using ho'']; simp only [hw'', if_true]
        exact .inl (h'' _ (fun a' w' hs hh => ⟨hs, hh⟩))⟩
end Go
