/- A region that draws its order, whose one writing call stands before all reads: the operations ahead of the call are taken first, the call is a barrier, what follows it is walked once in the order of the text. Free of any program. -/
import Derived.Test.YtngpcalgjaglmaaDoorRows
import Derived.WalkKit
import Derived.BigQuiet
import Derived.Deep.QuietTactic
import Derived.Deep.RegionHeld
namespace Go
section
variable {P : Program} {md : Region.Mode} {Q : Exit → Act → World → Prop}

theorem regStart {id : Nat} {ops : Array Oper} {a : Act} {w : World} (hm : P.follows .mixedOrders = true)
    (h : wpAnyH P .any ops Q (fun _ => True) ops.size (Array.replicate ops.size false) a w.drew) : (Code.region id ops true).wp P Q a w := wp_region_held hm h

theorem regBarrier {ops : Array Oper} {i : Nat} {o : Oper} {fuel : Nat} {listed : Array Bool} {a : Act} {w : World} (hr : Region.ready md ops listed = [i]) (ho : ops[i]? = some o) (hw : Region.wanted o (yielded ops a.tmps) = true)
    (h : ∀ K : Act → World → Prop, Shut (∀ a' w', wpAnyH P md ops Q (fun _ => True) fuel (listed.setIfInBounds i true) a' w' → K a' w') → o.wp P a w K Q) : wpAnyH P md ops Q (fun _ => True) (fuel + 1) listed a w :=
  ⟨fun h0 => by rw [hr] at h0; simp at h0, fun j hj => by
    rw [hr] at hj
    obtain rfl : j = i := by simpa using hj
    unfold wpOp
    simp only [ho, hw, if_true]
    exact .inl (h _ (fun a' w' hh => ⟨trivial, hh⟩))⟩

theorem regOfQuiet {ops : Array Oper} {C : World → Prop} {K : Act → Prop} (hQ : ∀ a w, C w → K a → Q .normal a w) : ∀ (fuel : Nat) (listed : Array Bool) (a : Act) (w : World), C w →
    wpAnyQ P md ops C K fuel listed a → wpAnyH P md ops Q (fun _ => True) fuel listed a w
  | 0, _, _, _, hw, h => ⟨h.1, hQ _ _ hw h.2⟩
  | fuel + 1, _, _, _, hw, h => ⟨fun h0 => hQ _ _ hw (h.1 h0), fun i hi => wpOp_of_qOp hw (fun a' w' hw' hh => ⟨trivial, regOfQuiet hQ fuel _ a' w' hw' hh⟩) (h.2 i hi)⟩

theorem regRest {l0 : List Oper} {fuel : Nat} {listed : Array Bool} {a : Act} {w : World} (k : Nat) (hs : Region.noSelect l0.toArray = true) (hf : fuel = (l0.drop k).length)
    (hB : Region.lexFrom md l0.toArray (l0.drop k).length k listed = true)
    (h : wpQuiet P l0.toArray (fun w' => ∃ n, w' = w.drewN n) (fun a' => ∀ w', (∃ n, w' = w.drewN n) → Q .normal a' w') (l0.drop k) a) : wpAnyH P md l0.toArray Q (fun _ => True) fuel listed a w := by
  subst hf
  exact regOfQuiet (K := fun a' => ∀ w', (∃ n, w' = w.drewN n) → Q .normal a' w') (fun _ w' hw' hh => hh w' hw') _ _ _ _ ⟨0, rfl⟩
    (wpAnyQ_lex hs _ k _ _ (fun j => by simp) hB h)
end
end Go
namespace Go
/-- 'make' of a full slice, at the operation itself. -/
theorem opMakeFull {P : Program} (w : World) {o : Oper} {a : Act} {K : Act → World → Prop} {Q : Exit → Act → World → Prop}
    (l c : Operand) (t : TypeId) (hop : o.op = Op.makeSlice t l c)
    (base : Nat) (e : TypeId) (i : TypeInfo) (z : Value) (size : Nat) (h1 : P.underlying t = some (.slice e)) (h2 : P.info? e = some i) (h3 : i.zero = some z) (h4 : i.size = size)
    (kl kc : IntKind) (L C : Int) (n : Nat) (hl : a.eval l = .int kl L) (hc : a.eval c = .int kc C) (hL : L = (n : Int)) (hC : C = (n : Int)) (b2 : i.bytes * n ≤ 281474976710656) (b3 : n ≤ maxLen) (b4 : base ≤ w.heap.size)
    (hK : ∀ w', w'.ownsRow base e size (.slice (some ⟨w.heap.size, 0, none⟩) n n) n (madeCells z.cells (n * size)).toList → w.grownBy w' none → K (a.put o.dst (.slice (some ⟨w.heap.size, 0, none⟩) n n)) w') :
    o.wp P a w K Q := by
  obtain ⟨w', hrun, r1, r2⟩ := run_make_full (P := P) w base t e i z size h1 h2 h3 h4 kl kc n b2 b3 b4
  subst hL
  subst hC
  unfold Oper.wp
  simp [execOp, hop, hl, hc, hrun, Result.andThen]
  exact hK w' r1 r2
/-- One operation comes up next, and no other; whatever it does. -/
theorem regOne {P : Program} {md : Region.Mode} {Q : Exit → Act → World → Prop} {l0 : List Oper} {i : Nat} {o : Oper} {fuel : Nat} {listed : Array Bool} {a : Act} {w : World} (hr : Region.ready md l0.toArray listed = [i]) (ho : l0[i]? = some o)
    (hw : Region.wanted o (yielded l0.toArray a.tmps) = true)
    (h : ∀ K : Act → World → Prop, Shut (∀ a' w', wpAnyH P md l0.toArray Q (fun _ => True) fuel (listed.setIfInBounds i true) a' w' → K a' w') → o.wp P a w K Q) : wpAnyH P md l0.toArray Q (fun _ => True) (fuel + 1) listed a w :=
  ⟨fun h0 => by rw [hr] at h0; simp at h0, fun k hk => by
    rw [hr] at hk
    obtain rfl : k = i := by simpa using hk
    unfold wpOp
    rw [show l0.toArray[k]? = some o by simpa using ho]; simp only [hw, if_true]
    exact .inl (h _ (fun a' w' hh => ⟨trivial, hh⟩))⟩
theorem regEither {P : Program} {md : Region.Mode} {Q : Exit → Act → World → Prop} {l0 : List Oper} {i j : Nat} {o o' : Oper} {fuel : Nat} {listed : Array Bool} {a : Act} {w : World} (hr : Region.ready md l0.toArray listed = [i, j]) (ho : l0[i]? = some o) (ho' : l0[j]? = some o')
    (hw : Region.wanted o (yielded l0.toArray a.tmps) = true) (hw' : Region.wanted o' (yielded l0.toArray a.tmps) = true)
    (h : ∀ K : Act → World → Prop, Shut (∀ a' w', wpAnyH P md l0.toArray Q (fun _ => True) fuel (listed.setIfInBounds i true) a' w' → K a' w') → o.wp P a w K Q)
    (h' : ∀ K : Act → World → Prop, Shut (∀ a' w', wpAnyH P md l0.toArray Q (fun _ => True) fuel (listed.setIfInBounds j true) a' w' → K a' w') → o'.wp P a w K Q) : wpAnyH P md l0.toArray Q (fun _ => True) (fuel + 1) listed a w :=
  ⟨fun h0 => by rw [hr] at h0; simp at h0, fun k hk => by
    rw [hr] at hk
    rcases List.mem_cons.1 hk with rfl | hk
    · unfold wpOp
      rw [show l0.toArray[k]? = some o by simpa using ho]; simp only [hw, if_true]
      exact .inl (h _ (fun a' w' hh => ⟨trivial, hh⟩))
    · obtain rfl : k = j := by simpa using hk
      unfold wpOp
      rw [show l0.toArray[k]? = some o' by simpa using ho']; simp only [hw', if_true]
      exact .inl (h' _ (fun a' w' hh => ⟨trivial, hh⟩))⟩
/-- The same where worlds meet S throughout. -/
theorem heldStart {P : Program} {Q : Exit → Act → World → Prop} {id : Nat} {ops : Array Oper} {a : Act} {w : World} (S : World → Prop) (hm : P.follows .mixedOrders = true)
    (h : wpAnyH P .any ops Q S ops.size (Array.replicate ops.size false) a w.drew) : (Code.region id ops true).wp P Q a w := wp_region_held hm h
theorem heldOne {P : Program} {md : Region.Mode} {Q : Exit → Act → World → Prop} {S : World → Prop} {l0 : List Oper} {i : Nat} {o : Oper} {fuel : Nat} {listed : Array Bool} {a : Act} {w : World} (hr : Region.ready md l0.toArray listed = [i]) (ho : l0[i]? = some o)
    (hw : Region.wanted o (yielded l0.toArray a.tmps) = true)
    (h : ∀ K : Act → World → Prop, Shut (∀ a' w', S w' → wpAnyH P md l0.toArray Q S fuel (listed.setIfInBounds i true) a' w' → K a' w') → o.wp P a w K Q) : wpAnyH P md l0.toArray Q S (fuel + 1) listed a w :=
  ⟨fun h0 => by rw [hr] at h0; simp at h0, fun k hk => by
    rw [hr] at hk
    obtain rfl : k = i := by simpa using hk
    unfold wpOp
    rw [show l0.toArray[k]? = some o by simpa using ho]; simp only [hw, if_true]
    exact .inl (h _ (fun a' w' hs hh => ⟨hs, hh⟩))⟩
theorem heldEither {P : Program} {md : Region.Mode} {Q : Exit → Act → World → Prop} {S : World → Prop} {l0 : List Oper} {i j : Nat} {o o' : Oper} {fuel : Nat} {listed : Array Bool} {a : Act} {w : World} (hr : Region.ready md l0.toArray listed = [i, j]) (ho : l0[i]? = some o) (ho' : l0[j]? = some o')
    (hw : Region.wanted o (yielded l0.toArray a.tmps) = true) (hw' : Region.wanted o' (yielded l0.toArray a.tmps) = true)
    (h : ∀ K : Act → World → Prop, Shut (∀ a' w', S w' → wpAnyH P md l0.toArray Q S fuel (listed.setIfInBounds i true) a' w' → K a' w') → o.wp P a w K Q)
    (h' : ∀ K : Act → World → Prop, Shut (∀ a' w', S w' → wpAnyH P md l0.toArray Q S fuel (listed.setIfInBounds j true) a' w' → K a' w') → o'.wp P a w K Q) : wpAnyH P md l0.toArray Q S (fuel + 1) listed a w :=
  ⟨fun h0 => by rw [hr] at h0; simp at h0, fun k hk => by
    rw [hr] at hk
    rcases List.mem_cons.1 hk with rfl | hk
    · unfold wpOp
      rw [show l0.toArray[k]? = some o by simpa using ho]; simp only [hw, if_true]
      exact .inl (h _ (fun a' w' hs hh => ⟨hs, hh⟩))
    · obtain rfl : k = j := by simpa using hk
      unfold wpOp
      rw [show l0.toArray[k]? = some o' by simpa using ho']; simp only [hw', if_true]
      exact .inl (h' _ (fun a' w' hs hh => ⟨hs, hh⟩))⟩
end Go
