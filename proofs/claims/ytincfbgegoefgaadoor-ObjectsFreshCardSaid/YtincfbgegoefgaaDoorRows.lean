/-
  NARROWER THAN 'FOR EVERY INPUT', by the rows' own cells (each row's printed sentence says how): ObjectsNews: laid · ObjectsPlays: laid · ObjectsFresh: laid · ObjectsKinds: laid.
  DERIVED. THE GIVEN ROWS OF THIS SEAT. 4 by the template 'for every input the law returns true; each argument reads behind the call as it read before'; 0 by the template 'total and deterministic' (their statements: YtincfbgegoefgaaDoorTotals.lean).
  GIVEN WITH THE SEED: the statements are not yours to turn. If you find one false, say at which input.
  Laid BY PROGRAM, IN A SANDBOX (cutbox-rows.mjs): the forced cells as the released guide's own fill.sh prints them over the translation c9cd34b25dd0a018… (all of the seat's roots in one cut). By AI agents, Wed Nov 11 2026. No macro, syntax, notation, axiom, sorry.
-/
import Derived.Test.YtincfbgegoefgaaDoorChecked
import GoSem.Claim
import GoSem.ClaimJoined
import GoSem.ClaimMapViews
import Derived.JoinedTies
import Derived.KernelRfl
namespace Go.Proofs.YtincfbgegoefgaaDoor
/- THE CELL 'sum', in the pinned program and in every row, IS THE sha256 OF THE DUMP (.gsa) THAT YtincfbgegoefgaaDoorProg.lean LOADS. Nothing in Lean hashes anything: it is a label: what it is worth is what the hold of that sum in a sandbox is worth. -/
noncomputable def Tryd.pinned : Pinned := { name := "ytincfbgegoefgaadoor", sum := "c9cd34b25dd0a018669fb9fb063251025fca7b181c3212ed18d7c24b35d8d461", checked := Tryd.checked }
namespace Rows
def none {H : Type} : Left H := { results := [], args := [] }

/- WHAT THE LISTED PACKAGE-LEVEL VARIABLES READ AS WHEN THE CALL BEGINS. Each datum BY PROGRAM (the guide's laid-datum.mjs) off the statement by which the dump's own 'gosem.cut.vars' lays the variable. In a bare row this is a premise. The card (YtincfbgegoefgaaDoorCards.lean) ties it to the program's text. -/
def laid_errors_errorType {H : Type} : DataW H := .iface "internal/reflectlite.rtype" (.agg [.ptr (.lit (.string [101, 114, 114, 111, 114]))])

/-- 'distafflaw12.ObjectsNews': WHATEVER THE INPUT: true; the input reads as it did. -/
def objectsNewsSpec : ChangeSpec := { name := "objectsNews", fn := fun _ => fun
  | [d] => { results := [.lit (.bool true)], args := [d] }
  | _ => none }
def objectsNewsRow : OpenClaim := { program := "ytincfbgegoefgaadoor", sum := "c9cd34b25dd0a018669fb9fb063251025fca7b181c3212ed18d7c24b35d8d461", func := "distaff/distafflaw12.ObjectsNews", spec := "objectsNews", inPlace := ["internal/reflectlite.TypeOf", "internal/reflectlite.ValueOf", "(internal/reflectlite.Value).Type", "(internal/reflectlite.Value).IsNil", "(internal/reflectlite.Value).Elem", "(internal/reflectlite.Value).Set"], unfollowed := true, recurses := true, named := ["errors.errorType"], apart := false, laid := [("errors.errorType", laid_errors_errorType)] }
def ObjectsNewsSaid : Prop := objectsNewsRow.holds Tryd.pinned (OpenSpec.ofChange objectsNewsSpec)

/-- ITS FALSE NEIGHBOUR: 'it returns false'. Refute it at one input. -/
def objectsNewsWrong : ChangeSpec := { name := "objectsNews", fn := fun _ => fun
  | [d] => { results := [.lit (.bool false)], args := [d] }
  | _ => none }
def ObjectsNewsWrongFalsely : Prop := objectsNewsRow.holds Tryd.pinned (OpenSpec.ofChange objectsNewsWrong)

/-- 'distafflaw12.ObjectsPlays': WHATEVER THE INPUT: true; the input reads as it did. -/
def objectsPlaysSpec : ChangeSpec := { name := "objectsPlays", fn := fun _ => fun
  | [d1, d2] => { results := [.lit (.bool true)], args := [d1, d2] }
  | _ => none }
def objectsPlaysRow : OpenClaim := { program := "ytincfbgegoefgaadoor", sum := "c9cd34b25dd0a018669fb9fb063251025fca7b181c3212ed18d7c24b35d8d461", func := "distaff/distafflaw12.ObjectsPlays", spec := "objectsPlays", inPlace := ["internal/reflectlite.TypeOf", "internal/reflectlite.ValueOf", "(internal/reflectlite.Value).Type", "(internal/reflectlite.Value).IsNil", "(internal/reflectlite.Value).Elem", "(internal/reflectlite.Value).Set"], unfollowed := true, recurses := true, named := ["errors.errorType"], apart := false, laid := [("errors.errorType", laid_errors_errorType)] }
def ObjectsPlaysSaid : Prop := objectsPlaysRow.holds Tryd.pinned (OpenSpec.ofChange objectsPlaysSpec)

/-- ITS FALSE NEIGHBOUR: 'it returns false'. Refute it at one input. -/
def objectsPlaysWrong : ChangeSpec := { name := "objectsPlays", fn := fun _ => fun
  | [d1, d2] => { results := [.lit (.bool false)], args := [d1, d2] }
  | _ => none }
def ObjectsPlaysWrongFalsely : Prop := objectsPlaysRow.holds Tryd.pinned (OpenSpec.ofChange objectsPlaysWrong)

/-- 'distafflaw12.ObjectsFresh': WHATEVER THE INPUT: true; the input reads as it did. -/
def objectsFreshSpec : ChangeSpec := { name := "objectsFresh", fn := fun _ => fun
  | [d1, d2] => { results := [.lit (.bool true)], args := [d1, d2] }
  | _ => none }
def objectsFreshRow : OpenClaim := { program := "ytincfbgegoefgaadoor", sum := "c9cd34b25dd0a018669fb9fb063251025fca7b181c3212ed18d7c24b35d8d461", func := "distaff/distafflaw12.ObjectsFresh", spec := "objectsFresh", inPlace := ["internal/reflectlite.TypeOf", "internal/reflectlite.ValueOf", "(internal/reflectlite.Value).Type", "(internal/reflectlite.Value).IsNil", "(internal/reflectlite.Value).Elem", "(internal/reflectlite.Value).Set"], unfollowed := true, recurses := true, named := ["errors.errorType"], apart := false, laid := [("errors.errorType", laid_errors_errorType)] }
def ObjectsFreshSaid : Prop := objectsFreshRow.holds Tryd.pinned (OpenSpec.ofChange objectsFreshSpec)

/-- ITS FALSE NEIGHBOUR: 'it returns false'. Refute it at one input. -/
def objectsFreshWrong : ChangeSpec := { name := "objectsFresh", fn := fun _ => fun
  | [d1, d2] => { results := [.lit (.bool false)], args := [d1, d2] }
  | _ => none }
def ObjectsFreshWrongFalsely : Prop := objectsFreshRow.holds Tryd.pinned (OpenSpec.ofChange objectsFreshWrong)

/-- 'distafflaw12.ObjectsKinds': WHATEVER THE INPUT: true; the input reads as it did. -/
def objectsKindsSpec : ChangeSpec := { name := "objectsKinds", fn := fun _ => fun
  | [d1, d2, d3] => { results := [.lit (.bool true)], args := [d1, d2, d3] }
  | _ => none }
def objectsKindsRow : OpenClaim := { program := "ytincfbgegoefgaadoor", sum := "c9cd34b25dd0a018669fb9fb063251025fca7b181c3212ed18d7c24b35d8d461", func := "distaff/distafflaw12.ObjectsKinds", spec := "objectsKinds", inPlace := ["internal/reflectlite.TypeOf", "internal/reflectlite.ValueOf", "(internal/reflectlite.Value).Type", "(internal/reflectlite.Value).IsNil", "(internal/reflectlite.Value).Elem", "(internal/reflectlite.Value).Set"], unfollowed := true, recurses := true, named := ["errors.errorType"], apart := false, laid := [("errors.errorType", laid_errors_errorType)] }
def ObjectsKindsSaid : Prop := objectsKindsRow.holds Tryd.pinned (OpenSpec.ofChange objectsKindsSpec)

/-- ITS FALSE NEIGHBOUR: 'it returns false'. Refute it at one input. -/
def objectsKindsWrong : ChangeSpec := { name := "objectsKinds", fn := fun _ => fun
  | [d1, d2, d3] => { results := [.lit (.bool false)], args := [d1, d2, d3] }
  | _ => none }
def ObjectsKindsWrongFalsely : Prop := objectsKindsRow.holds Tryd.pinned (OpenSpec.ofChange objectsKindsWrong)

/- THE SECOND FORM. 'bulk': how many values and letters a reading holds, each counted each time it is reached (what is shared counts as often as it is met; a slice's spare places count too). A statement '..UptoSaid' is the law's where the arguments, and the package variables that the reading takes, are together of bulk at most 1048576: NARROWER than '..Said'. Prove '..Said' where nothing that the law and all that it calls make is longer than what came in: it says more and counts as full. Else prove '..UptoSaid'. A law counts once. -/
mutual
def uptoBulk {H : Type} : DataW H → Nat
  | .lit (.string bytes) => bytes.length + 1
  | .lit _ => 1
  | .nil => 1
  | .ptr d => uptoBulk d + 1
  | .slice elems spare => uptoBulkAll elems + uptoBulkAll spare + 1
  | .agg parts => uptoBulkAll parts + 1
  | .iface _ d => uptoBulk d + 1
  | .map entries => uptoBulkEntries entries + 1
  | .held _ => 1
def uptoBulkAll {H : Type} : List (DataW H) → Nat
  | [] => 0
  | d :: r => uptoBulk d + uptoBulkAll r
def uptoBulkEntries {H : Type} : List (Lit × DataW H) → Nat
  | [] => 0
  | x :: r => uptoBulkEntry x + uptoBulkEntries r
def uptoBulkEntry {H : Type} : Lit × DataW H → Nat
  | (.string bytes, d) => bytes.length + uptoBulk d + 1
  | (_, d) => uptoBulk d + 1
 end
def uptoSmall : (H : Type) → List (DataW H) → Bool := fun _ ds => decide (uptoBulkAll ds ≤ 1048576)
def OpenSpec.upto (s : _root_.Go.ChangeSpec) : _root_.Go.OpenSpec := { _root_.Go.OpenSpec.ofChange s with cond := some uptoSmall }

/-- 'distafflaw12.ObjectsNews', WHERE WHAT IT READS IS OF BULK AT MOST 1048576: true; the input reads as it did. -/
def objectsNewsUptoRow : OpenClaim := { program := "ytincfbgegoefgaadoor", sum := "c9cd34b25dd0a018669fb9fb063251025fca7b181c3212ed18d7c24b35d8d461", func := "distaff/distafflaw12.ObjectsNews", spec := "objectsNews", inPlace := ["internal/reflectlite.TypeOf", "internal/reflectlite.ValueOf", "(internal/reflectlite.Value).Type", "(internal/reflectlite.Value).IsNil", "(internal/reflectlite.Value).Elem", "(internal/reflectlite.Value).Set"], unfollowed := true, recurses := true, named := ["errors.errorType"], apart := false, laid := [("errors.errorType", laid_errors_errorType)], narrowed := true }
def ObjectsNewsUptoSaid : Prop := objectsNewsUptoRow.holds Tryd.pinned (OpenSpec.upto objectsNewsSpec)

/-- 'distafflaw12.ObjectsPlays', WHERE WHAT IT READS IS OF BULK AT MOST 1048576: true; the input reads as it did. -/
def objectsPlaysUptoRow : OpenClaim := { program := "ytincfbgegoefgaadoor", sum := "c9cd34b25dd0a018669fb9fb063251025fca7b181c3212ed18d7c24b35d8d461", func := "distaff/distafflaw12.ObjectsPlays", spec := "objectsPlays", inPlace := ["internal/reflectlite.TypeOf", "internal/reflectlite.ValueOf", "(internal/reflectlite.Value).Type", "(internal/reflectlite.Value).IsNil", "(internal/reflectlite.Value).Elem", "(internal/reflectlite.Value).Set"], unfollowed := true, recurses := true, named := ["errors.errorType"], apart := false, laid := [("errors.errorType", laid_errors_errorType)], narrowed := true }
def ObjectsPlaysUptoSaid : Prop := objectsPlaysUptoRow.holds Tryd.pinned (OpenSpec.upto objectsPlaysSpec)

/-- 'distafflaw12.ObjectsFresh', WHERE WHAT IT READS IS OF BULK AT MOST 1048576: true; the input reads as it did. -/
def objectsFreshUptoRow : OpenClaim := { program := "ytincfbgegoefgaadoor", sum := "c9cd34b25dd0a018669fb9fb063251025fca7b181c3212ed18d7c24b35d8d461", func := "distaff/distafflaw12.ObjectsFresh", spec := "objectsFresh", inPlace := ["internal/reflectlite.TypeOf", "internal/reflectlite.ValueOf", "(internal/reflectlite.Value).Type", "(internal/reflectlite.Value).IsNil", "(internal/reflectlite.Value).Elem", "(internal/reflectlite.Value).Set"], unfollowed := true, recurses := true, named := ["errors.errorType"], apart := false, laid := [("errors.errorType", laid_errors_errorType)], narrowed := true }
def ObjectsFreshUptoSaid : Prop := objectsFreshUptoRow.holds Tryd.pinned (OpenSpec.upto objectsFreshSpec)

/-- 'distafflaw12.ObjectsKinds', WHERE WHAT IT READS IS OF BULK AT MOST 1048576: true; the input reads as it did. -/
def objectsKindsUptoRow : OpenClaim := { program := "ytincfbgegoefgaadoor", sum := "c9cd34b25dd0a018669fb9fb063251025fca7b181c3212ed18d7c24b35d8d461", func := "distaff/distafflaw12.ObjectsKinds", spec := "objectsKinds", inPlace := ["internal/reflectlite.TypeOf", "internal/reflectlite.ValueOf", "(internal/reflectlite.Value).Type", "(internal/reflectlite.Value).IsNil", "(internal/reflectlite.Value).Elem", "(internal/reflectlite.Value).Set"], unfollowed := true, recurses := true, named := ["errors.errorType"], apart := false, laid := [("errors.errorType", laid_errors_errorType)], narrowed := true }
def ObjectsKindsUptoSaid : Prop := objectsKindsUptoRow.holds Tryd.pinned (OpenSpec.upto objectsKindsSpec)

end Rows
end Go.Proofs.YtincfbgegoefgaaDoor
