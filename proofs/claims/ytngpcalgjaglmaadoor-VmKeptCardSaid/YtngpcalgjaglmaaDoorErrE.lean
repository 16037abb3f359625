/- What is said of an error of one place or two: none, or its places and its kind; on both sides. -/
import Derived.Test.YtngpcalgjaglmaaDoorErrD
import Derived.Test.YtngpcalgjaglmaaDoorSays
namespace Go.Proofs.YtngpcalgjaglmaaDoor
open Go.RowKit

/-- What is said: none, or an error with its places and its kind. -/
abbrev ErrL := Option (List (ByteArray × Int) × Int)
def Tells (w : World) (v : Value) : ErrL → Prop
  | none => v = .nilIface
  | some (ps, k) => ErrIs w v ps k ∧ 1 ≤ k ∧ k ≤ 10
def TellsF (w : World) (f : Value) : ErrL → Prop
  | none => f = .pointer none
  | some (ps, k) => FailN w f ps k
theorem Tells.new {w w' : World} (f : New w w') {v : Value} : ∀ {o : ErrL}, Tells w v o → Tells w' v o
  | none, h => h
  | some (_, _), h => ⟨h.1.new f, h.2⟩
theorem TellsF.new {w w' : World} (f : New w w') {v : Value} : ∀ {o : ErrL}, TellsF w v o → TellsF w' v o
  | none, h => h
  | some (_, _), h => FailN.new f h
theorem Tells.keepIf {w w' : World} {T : Nat → Prop} {v : Value} : ∀ {o : ErrL}, Fr (fun k => o = none ∧ T k) w w' → Tells w v o → Tells w' v o
  | none, _, h => h
  | some (_, _), f, h => Tells.new (f.mono (fun _ _ h => by cases h.1)) h
theorem TellsF.keepIf {w w' : World} {T : Nat → Prop} {v : Value} : ∀ {o : ErrL}, Fr (fun k => o = none ∧ T k) w w' → TellsF w v o → TellsF w' v o
  | none, _, h => h
  | some (_, _), f, h => TellsF.new (f.mono (fun _ _ h => by cases h.1)) h
/-- One place; two, the outer one given. -/
def oneL (L : ByteArray) (o : Option (Int × Int)) : ErrL := o.map fun x => ([(L, x.1)], x.2)
def inL (L : ByteArray) (n : Int) (L2 : ByteArray) (o : Option (Int × Int)) : ErrL := o.map fun x => ([(L, n), (L2, x.1)], x.2)
theorem tells_one {w : World} {L : ByteArray} {v : Value} {o : Option (Int × Int)} (h : Says w L v o) : Tells w v (oneL L o) := by
  cases o with
  | none => exact h
  | some x => exact h
theorem tellsF_one {w : World} {L : ByteArray} {v : Value} {o : Option (Int × Int)} (h : SaysF w L v o) : TellsF w v (oneL L o) := by
  cases o with
  | none => exact h
  | some x => exact failN_of h
/-- One place or two. -/
def Few : ErrL → Prop
  | none => True
  | some (ps, _) => (∃ a, ps = [a]) ∨ ∃ a b, ps = [a, b]
theorem few_one (L : ByteArray) (o : Option (Int × Int)) : Few (oneL L o) := by cases o with | none => trivial | some x => exact .inl ⟨_, rfl⟩
theorem few_in (L : ByteArray) (n : Int) (L2 : ByteArray) (o : Option (Int × Int)) : Few (inL L n L2 o) := by cases o with | none => trivial | some x => exact .inr ⟨_, _, rfl⟩
theorem same_tells (v f : Value) (o : ErrL) (w : World) (hg : Laid w) (hv : Tells w v o) (hf : TellsF w f o) (hw : Few o) :
    Calls Tryd.prog 12 #[v, f] w fun e w' => e = .returned (.bool true) ∧ New w w' := by
  cases o with
  | none =>
    obtain rfl : v = .nilIface := hv
    obtain rfl : f = .pointer none := hf
    exact same_nil w
  | some x =>
    obtain ⟨ps, k⟩ := x
    rcases hw with ⟨⟨l, n⟩, rfl⟩ | ⟨⟨l, n⟩, ⟨l2, n2⟩, rfl⟩
    · exact same_n v f _ k w hg hv.1 hf (by simp) (by simp) (fun w' fr => kind_1 v l n k w' (hv.1.new fr) hv.2.1 hv.2.2)
    · exact same_2 v f l l2 n n2 k w hg hv.1 hf hv.2.1 hv.2.2
theorem Tells.form {w : World} {v : Value} {x : List (ByteArray × Int) × Int} (h : Tells w v (some x)) : (∃ k', v = .iface 55 (.int .i64 k')) ∨ ∃ eb, v = .iface 88 (.pointer (some ⟨eb, 0, none⟩)) := errIs_form h.1

end Go.Proofs.YtngpcalgjaglmaaDoor
