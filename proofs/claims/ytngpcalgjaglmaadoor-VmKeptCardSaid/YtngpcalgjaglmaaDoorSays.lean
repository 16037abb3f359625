/- What an error says: none, or one with one place; on both sides; and their comparison. -/
import Derived.Test.YtngpcalgjaglmaaDoorErrC
namespace Go.Proofs.YtngpcalgjaglmaaDoor
open Go.RowKit

/-- The error v is none, or the one of layer L with this place and this kind. -/
def Says (w : World) (L : ByteArray) (v : Value) : Option (Int × Int) → Prop
  | none => v = .nilIface
  | some (n, k) => ErrIs w v [(L, n)] k ∧ 1 ≤ k ∧ k ≤ 10
/-- The same of the document's. -/
def SaysF (w : World) (L : ByteArray) (f : Value) : Option (Int × Int) → Prop
  | none => f = .pointer none
  | some (n, k) => FailIs w f L n k

theorem Says.new {w w' : World} (f : New w w') {L : ByteArray} {v : Value} : ∀ {o : Option (Int × Int)}, Says w L v o → Says w' L v o
  | none, h => h
  | some (_, _), h => ⟨h.1.new f, h.2⟩
theorem SaysF.new {w w' : World} (f : New w w') {L : ByteArray} {v : Value} : ∀ {o : Option (Int × Int)}, SaysF w L v o → SaysF w' L v o
  | none, h => h
  | some (_, _), h => FailIs.new f h
theorem Says.at {w : World} {L : ByteArray} {v : Value} {n k : Int} (h : Says w L v (some (n, k))) : ∃ eb, v = .iface 88 (.pointer (some ⟨eb, 0, none⟩)) := by
  obtain ⟨b, inner, h1, _⟩ := h.1
  exact ⟨b, h1⟩
theorem SaysF.at {w : World} {L : ByteArray} {v : Value} {n k : Int} (h : SaysF w L v (some (n, k))) : ∃ eb, v = .pointer (some ⟨eb, 0, none⟩) := by
  obtain ⟨b, _, _, _, _, h1, _⟩ := h
  exact ⟨b, h1⟩
/-- A block of these kinds lies outside S: no store into S can touch what is said. -/
theorem Says.keep {w w' : World} {S : Nat → Prop} (f : Fr S w w') {L : ByteArray} {v : Value} (hs : ∀ b c, w.heap[b]? = some (.cells c 92 (0, 0)) → ¬ S b) : ∀ {o : Option (Int × Int)}, Says w L v o → Says w' L v o
  | none, h => h
  | some (_, _), h => ⟨h.1.keep f hs, h.2⟩
theorem SaysF.keep {w w' : World} {S : Nat → Prop} (f : Fr S w w') {L : ByteArray} {v : Value} (hs : ∀ b c, (w.heap[b]? = some (.cells c 87 (0, 0)) ∨ w.heap[b]? = some (.cells c 9 (0, 0)) ∨ w.heap[b]? = some (.cells c 3 (0, 0))) → ¬ S b) :
    ∀ {o : Option (Int × Int)}, SaysF w L v o → SaysF w' L v o
  | none, h => h
  | some (_, _), ⟨b, lb, pb, lc, pc, hv, h1, h2, h3⟩ => ⟨b, lb, pb, lc, pc, hv, by rw [f.block b (lt_of_block h1) (hs b _ (.inl h1))]; exact h1, by rw [f.block lb (lt_of_block h2) (hs lb _ (.inr (.inl h2)))]; exact h2, by rw [f.block pb (lt_of_block h3) (hs pb _ (.inr (.inr h3)))]; exact h3⟩

theorem Says.keepIf {w w' : World} {T : Nat → Prop} {L : ByteArray} {v : Value} : ∀ {o : Option (Int × Int)}, Fr (fun k => o = none ∧ T k) w w' → Says w L v o → Says w' L v o
  | none, _, h => h
  | some (_, _), f, h => Says.new (f.mono (fun _ _ h => by cases h.1)) h
theorem SaysF.keepIf {w w' : World} {T : Nat → Prop} {L : ByteArray} {v : Value} : ∀ {o : Option (Int × Int)}, Fr (fun k => o = none ∧ T k) w w' → SaysF w L v o → SaysF w' L v o
  | none, _, h => h
  | some (_, _), f, h => SaysF.new (f.mono (fun _ _ h => by cases h.1)) h

theorem same_says (v f : Value) (L : ByteArray) (o : Option (Int × Int)) (w : World) (hg : Laid w) (hv : Says w L v o) (hf : SaysF w L f o) :
    Calls Tryd.prog 12 #[v, f] w fun e w' => e = .returned (.bool true) ∧ New w w' := by
  cases o with
  | none =>
    obtain rfl : v = .nilIface := hv
    obtain rfl : f = .pointer none := hf
    exact same_nil w
  | some x =>
    obtain ⟨n, k⟩ := x
    exact same_1 v f L n k w hg hv.1 hf hv.2.1 hv.2.2

theorem no_says (L : ByteArray) (n k : Int) (w : World) :
    Calls Tryd.prog 16 #[.string L, .int .i64 n, .int .i64 k] w fun e w' => ∃ f, e = .returned f ∧ SaysF w' L f (some (n, k)) ∧ New w w' := no_any L n k w

end Go.Proofs.YtngpcalgjaglmaaDoor
