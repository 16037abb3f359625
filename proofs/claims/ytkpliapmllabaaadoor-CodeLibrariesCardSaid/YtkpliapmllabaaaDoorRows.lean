/-
  NARROWER THAN 'FOR EVERY INPUT', by the rows' own cells (each row's printed sentence says how): CodeChecks: laid · CodeFields: laid · CodeEach: laid · CodeUnused: laid · CodeSides: laid · CodeClients: laid · CodeEdges: laid · CodeLibraries: laid.
  DERIVED. THE GIVEN ROWS OF THIS SEAT. 8 by the template 'for every input the law returns true; each argument reads behind the call as it read before'; 0 by the template 'total and deterministic' (their statements: YtkpliapmllabaaaDoorTotals.lean).
  GIVEN WITH THE SEED: the statements are not yours to turn. If you find one false, say at which input.
  Laid BY PROGRAM, IN A SANDBOX (cutbox-rows.mjs): the forced cells as the released guide's own fill.sh prints them over the translation 520930952bbfba02… (all of the seat's roots in one cut). By AI agents, Wed Nov 11 2026. No macro, syntax, notation, axiom, sorry.
-/
import Derived.Test.YtkpliapmllabaaaDoorChecked
import GoSem.Claim
import GoSem.ClaimJoined
import GoSem.ClaimMapViews
import Derived.JoinedTies
import Derived.KernelRfl
namespace Go.Proofs.YtkpliapmllabaaaDoor
/- THE CELL 'sum', in the pinned program and in every row, IS THE sha256 OF THE DUMP (.gsa) THAT YtkpliapmllabaaaDoorProg.lean LOADS. Nothing in Lean hashes anything: it is a label: what it is worth is what the hold of that sum in a sandbox is worth. -/
noncomputable def Tryd.pinned : Pinned := { name := "ytkpliapmllabaaadoor", sum := "520930952bbfba02d7f5a3622ac891538b3998c9dc535502699de1b5374093f2", checked := Tryd.checked }
namespace Rows
def none {H : Type} : Left H := { results := [], args := [] }

/- WHAT THE LISTED PACKAGE-LEVEL VARIABLES READ AS WHEN THE CALL BEGINS. Each datum BY PROGRAM (the guide's laid-datum.mjs) off the statement by which the dump's own 'gosem.cut.vars' lays the variable. In a bare row this is a premise. The card (YtkpliapmllabaaaDoorCards.lean) ties it to the program's text. -/
def laid_errors_errorType {H : Type} : DataW H := .iface "internal/reflectlite.rtype" (.agg [.ptr (.lit (.string [101, 114, 114, 111, 114]))])

/-- 'distafflaw04.CodeChecks': WHATEVER THE INPUT: true; the input reads as it did. -/
def codeChecksSpec : ChangeSpec := { name := "codeChecks", fn := fun _ => fun
  | [d1, d2] => { results := [.lit (.bool true)], args := [d1, d2] }
  | _ => none }
def codeChecksRow : OpenClaim := { program := "ytkpliapmllabaaadoor", sum := "520930952bbfba02d7f5a3622ac891538b3998c9dc535502699de1b5374093f2", func := "distaff/distafflaw04.CodeChecks", spec := "codeChecks", inPlace := ["internal/reflectlite.TypeOf", "internal/reflectlite.ValueOf", "(internal/reflectlite.Value).Type", "(internal/reflectlite.Value).IsNil", "(internal/reflectlite.Value).Elem", "(internal/reflectlite.Value).Set"], unfollowed := true, recurses := true, named := ["errors.errorType"], apart := false, laid := [("errors.errorType", laid_errors_errorType)] }
def CodeChecksSaid : Prop := codeChecksRow.holds Tryd.pinned (OpenSpec.ofChange codeChecksSpec)

/-- ITS FALSE NEIGHBOUR: 'it returns false'. Refute it at one input. -/
def codeChecksWrong : ChangeSpec := { name := "codeChecks", fn := fun _ => fun
  | [d1, d2] => { results := [.lit (.bool false)], args := [d1, d2] }
  | _ => none }
def CodeChecksWrongFalsely : Prop := codeChecksRow.holds Tryd.pinned (OpenSpec.ofChange codeChecksWrong)

/-- 'distafflaw04.CodeFields': WHATEVER THE INPUT: true; the input reads as it did. -/
def codeFieldsSpec : ChangeSpec := { name := "codeFields", fn := fun _ => fun
  | [d] => { results := [.lit (.bool true)], args := [d] }
  | _ => none }
def codeFieldsRow : OpenClaim := { program := "ytkpliapmllabaaadoor", sum := "520930952bbfba02d7f5a3622ac891538b3998c9dc535502699de1b5374093f2", func := "distaff/distafflaw04.CodeFields", spec := "codeFields", inPlace := ["internal/reflectlite.TypeOf", "internal/reflectlite.ValueOf", "(internal/reflectlite.Value).Type", "(internal/reflectlite.Value).IsNil", "(internal/reflectlite.Value).Elem", "(internal/reflectlite.Value).Set"], unfollowed := true, recurses := true, named := ["errors.errorType"], apart := false, laid := [("errors.errorType", laid_errors_errorType)] }
def CodeFieldsSaid : Prop := codeFieldsRow.holds Tryd.pinned (OpenSpec.ofChange codeFieldsSpec)

/-- ITS FALSE NEIGHBOUR: 'it returns false'. Refute it at one input. -/
def codeFieldsWrong : ChangeSpec := { name := "codeFields", fn := fun _ => fun
  | [d] => { results := [.lit (.bool false)], args := [d] }
  | _ => none }
def CodeFieldsWrongFalsely : Prop := codeFieldsRow.holds Tryd.pinned (OpenSpec.ofChange codeFieldsWrong)

/-- 'distafflaw04.CodeEach': WHATEVER THE INPUT: true; the input reads as it did. -/
def codeEachSpec : ChangeSpec := { name := "codeEach", fn := fun _ => fun
  | [d1, d2] => { results := [.lit (.bool true)], args := [d1, d2] }
  | _ => none }
def codeEachRow : OpenClaim := { program := "ytkpliapmllabaaadoor", sum := "520930952bbfba02d7f5a3622ac891538b3998c9dc535502699de1b5374093f2", func := "distaff/distafflaw04.CodeEach", spec := "codeEach", inPlace := ["internal/reflectlite.TypeOf", "internal/reflectlite.ValueOf", "(internal/reflectlite.Value).Type", "(internal/reflectlite.Value).IsNil", "(internal/reflectlite.Value).Elem", "(internal/reflectlite.Value).Set"], unfollowed := true, recurses := true, named := ["errors.errorType"], apart := false, laid := [("errors.errorType", laid_errors_errorType)] }
def CodeEachSaid : Prop := codeEachRow.holds Tryd.pinned (OpenSpec.ofChange codeEachSpec)

/-- ITS FALSE NEIGHBOUR: 'it returns false'. Refute it at one input. -/
def codeEachWrong : ChangeSpec := { name := "codeEach", fn := fun _ => fun
  | [d1, d2] => { results := [.lit (.bool false)], args := [d1, d2] }
  | _ => none }
def CodeEachWrongFalsely : Prop := codeEachRow.holds Tryd.pinned (OpenSpec.ofChange codeEachWrong)

/-- 'distafflaw04.CodeUnused': WHATEVER THE INPUT: true; the input reads as it did. -/
def codeUnusedSpec : ChangeSpec := { name := "codeUnused", fn := fun _ => fun
  | [d1, d2, d3] => { results := [.lit (.bool true)], args := [d1, d2, d3] }
  | _ => none }
def codeUnusedRow : OpenClaim := { program := "ytkpliapmllabaaadoor", sum := "520930952bbfba02d7f5a3622ac891538b3998c9dc535502699de1b5374093f2", func := "distaff/distafflaw04.CodeUnused", spec := "codeUnused", inPlace := ["internal/reflectlite.TypeOf", "internal/reflectlite.ValueOf", "(internal/reflectlite.Value).Type", "(internal/reflectlite.Value).IsNil", "(internal/reflectlite.Value).Elem", "(internal/reflectlite.Value).Set"], unfollowed := true, recurses := true, named := ["errors.errorType"], apart := false, laid := [("errors.errorType", laid_errors_errorType)] }
def CodeUnusedSaid : Prop := codeUnusedRow.holds Tryd.pinned (OpenSpec.ofChange codeUnusedSpec)

/-- ITS FALSE NEIGHBOUR: 'it returns false'. Refute it at one input. -/
def codeUnusedWrong : ChangeSpec := { name := "codeUnused", fn := fun _ => fun
  | [d1, d2, d3] => { results := [.lit (.bool false)], args := [d1, d2, d3] }
  | _ => none }
def CodeUnusedWrongFalsely : Prop := codeUnusedRow.holds Tryd.pinned (OpenSpec.ofChange codeUnusedWrong)

/-- 'distafflaw04.CodeSides': WHATEVER THE INPUT: true; the input reads as it did. -/
def codeSidesSpec : ChangeSpec := { name := "codeSides", fn := fun _ => fun
  | [d1, d2] => { results := [.lit (.bool true)], args := [d1, d2] }
  | _ => none }
def codeSidesRow : OpenClaim := { program := "ytkpliapmllabaaadoor", sum := "520930952bbfba02d7f5a3622ac891538b3998c9dc535502699de1b5374093f2", func := "distaff/distafflaw04.CodeSides", spec := "codeSides", inPlace := ["internal/reflectlite.TypeOf", "internal/reflectlite.ValueOf", "(internal/reflectlite.Value).Type", "(internal/reflectlite.Value).IsNil", "(internal/reflectlite.Value).Elem", "(internal/reflectlite.Value).Set"], unfollowed := true, recurses := true, named := ["errors.errorType"], apart := false, laid := [("errors.errorType", laid_errors_errorType)] }
def CodeSidesSaid : Prop := codeSidesRow.holds Tryd.pinned (OpenSpec.ofChange codeSidesSpec)

/-- ITS FALSE NEIGHBOUR: 'it returns false'. Refute it at one input. -/
def codeSidesWrong : ChangeSpec := { name := "codeSides", fn := fun _ => fun
  | [d1, d2] => { results := [.lit (.bool false)], args := [d1, d2] }
  | _ => none }
def CodeSidesWrongFalsely : Prop := codeSidesRow.holds Tryd.pinned (OpenSpec.ofChange codeSidesWrong)

/-- 'distafflaw04.CodeClients': WHATEVER THE INPUT: true; the input reads as it did. -/
def codeClientsSpec : ChangeSpec := { name := "codeClients", fn := fun _ => fun
  | [d] => { results := [.lit (.bool true)], args := [d] }
  | _ => none }
def codeClientsRow : OpenClaim := { program := "ytkpliapmllabaaadoor", sum := "520930952bbfba02d7f5a3622ac891538b3998c9dc535502699de1b5374093f2", func := "distaff/distafflaw04.CodeClients", spec := "codeClients", inPlace := ["internal/reflectlite.ValueOf", "(internal/reflectlite.Value).Type", "(internal/reflectlite.Value).IsNil", "internal/reflectlite.TypeOf", "(internal/reflectlite.Value).Elem", "(internal/reflectlite.Value).Set"], unfollowed := true, recurses := true, named := ["errors.errorType"], apart := false, laid := [("errors.errorType", laid_errors_errorType)] }
def CodeClientsSaid : Prop := codeClientsRow.holds Tryd.pinned (OpenSpec.ofChange codeClientsSpec)

/-- ITS FALSE NEIGHBOUR: 'it returns false'. Refute it at one input. -/
def codeClientsWrong : ChangeSpec := { name := "codeClients", fn := fun _ => fun
  | [d] => { results := [.lit (.bool false)], args := [d] }
  | _ => none }
def CodeClientsWrongFalsely : Prop := codeClientsRow.holds Tryd.pinned (OpenSpec.ofChange codeClientsWrong)

/-- 'distafflaw04.CodeEdges': WHATEVER THE INPUT: true; the input reads as it did. -/
def codeEdgesSpec : ChangeSpec := { name := "codeEdges", fn := fun _ => fun
  | [d1, d2] => { results := [.lit (.bool true)], args := [d1, d2] }
  | _ => none }
def codeEdgesRow : OpenClaim := { program := "ytkpliapmllabaaadoor", sum := "520930952bbfba02d7f5a3622ac891538b3998c9dc535502699de1b5374093f2", func := "distaff/distafflaw04.CodeEdges", spec := "codeEdges", inPlace := ["internal/reflectlite.TypeOf", "internal/reflectlite.ValueOf", "(internal/reflectlite.Value).Type", "(internal/reflectlite.Value).IsNil", "(internal/reflectlite.Value).Elem", "(internal/reflectlite.Value).Set"], unfollowed := true, recurses := true, named := ["errors.errorType"], apart := false, laid := [("errors.errorType", laid_errors_errorType)] }
def CodeEdgesSaid : Prop := codeEdgesRow.holds Tryd.pinned (OpenSpec.ofChange codeEdgesSpec)

/-- ITS FALSE NEIGHBOUR: 'it returns false'. Refute it at one input. -/
def codeEdgesWrong : ChangeSpec := { name := "codeEdges", fn := fun _ => fun
  | [d1, d2] => { results := [.lit (.bool false)], args := [d1, d2] }
  | _ => none }
def CodeEdgesWrongFalsely : Prop := codeEdgesRow.holds Tryd.pinned (OpenSpec.ofChange codeEdgesWrong)

/-- 'distafflaw04.CodeLibraries': WHATEVER THE INPUT: true; the input reads as it did. -/
def codeLibrariesSpec : ChangeSpec := { name := "codeLibraries", fn := fun _ => fun
  | [d] => { results := [.lit (.bool true)], args := [d] }
  | _ => none }
def codeLibrariesRow : OpenClaim := { program := "ytkpliapmllabaaadoor", sum := "520930952bbfba02d7f5a3622ac891538b3998c9dc535502699de1b5374093f2", func := "distaff/distafflaw04.CodeLibraries", spec := "codeLibraries", inPlace := ["internal/reflectlite.TypeOf", "internal/reflectlite.ValueOf", "(internal/reflectlite.Value).Type", "(internal/reflectlite.Value).IsNil", "(internal/reflectlite.Value).Elem", "(internal/reflectlite.Value).Set"], unfollowed := true, recurses := true, named := ["errors.errorType"], apart := false, laid := [("errors.errorType", laid_errors_errorType)] }
def CodeLibrariesSaid : Prop := codeLibrariesRow.holds Tryd.pinned (OpenSpec.ofChange codeLibrariesSpec)

/-- ITS FALSE NEIGHBOUR: 'it returns false'. Refute it at one input. -/
def codeLibrariesWrong : ChangeSpec := { name := "codeLibraries", fn := fun _ => fun
  | [d] => { results := [.lit (.bool false)], args := [d] }
  | _ => none }
def CodeLibrariesWrongFalsely : Prop := codeLibrariesRow.holds Tryd.pinned (OpenSpec.ofChange codeLibrariesWrong)

/- THE SECOND FORM. 'bulk': how many values and letters a reading holds, each counted each time it is reached (what is shared counts as often as it is met; a slice's spare places count too). A statement '..UptoSaid' is the law's where the arguments, and the package variables that the reading takes, are together of bulk at most 1048576: NARROWER than '..Said'. Prove '..Said' where nothing that the law and all that it calls make is longer than what came in: it says more and counts as full. Else prove '..UptoSaid'. A law counts once. -/
mutual
def uptoBulk {H : Type} : DataW H → Nat
  | .lit (.string bytes) => bytes.length + 1
  | .lit _ => 1
  | .nil => 1
  | .ptr d => uptoBulk d + 1
  | .slice elems spare => uptoBulkAll elems + uptoBulkAll spare + 1
  | .agg parts => uptoBulkAll parts + 1
  | .iface _ d => uptoBulk d + 1
  | .map entries => uptoBulkEntries entries + 1
  | .held _ => 1
def uptoBulkAll {H : Type} : List (DataW H) → Nat
  | [] => 0
  | d :: r => uptoBulk d + uptoBulkAll r
def uptoBulkEntries {H : Type} : List (Lit × DataW H) → Nat
  | [] => 0
  | x :: r => uptoBulkEntry x + uptoBulkEntries r
def uptoBulkEntry {H : Type} : Lit × DataW H → Nat
  | (.string bytes, d) => bytes.length + uptoBulk d + 1
  | (_, d) => uptoBulk d + 1
 end
def uptoSmall : (H : Type) → List (DataW H) → Bool := fun _ ds => decide (uptoBulkAll ds ≤ 1048576)
def OpenSpec.upto (s : _root_.Go.ChangeSpec) : _root_.Go.OpenSpec := { _root_.Go.OpenSpec.ofChange s with cond := some uptoSmall }

/-- 'distafflaw04.CodeChecks', WHERE WHAT IT READS IS OF BULK AT MOST 1048576: true; the input reads as it did. -/
def codeChecksUptoRow : OpenClaim := { program := "ytkpliapmllabaaadoor", sum := "520930952bbfba02d7f5a3622ac891538b3998c9dc535502699de1b5374093f2", func := "distaff/distafflaw04.CodeChecks", spec := "codeChecks", inPlace := ["internal/reflectlite.TypeOf", "internal/reflectlite.ValueOf", "(internal/reflectlite.Value).Type", "(internal/reflectlite.Value).IsNil", "(internal/reflectlite.Value).Elem", "(internal/reflectlite.Value).Set"], unfollowed := true, recurses := true, named := ["errors.errorType"], apart := false, laid := [("errors.errorType", laid_errors_errorType)], narrowed := true }
def CodeChecksUptoSaid : Prop := codeChecksUptoRow.holds Tryd.pinned (OpenSpec.upto codeChecksSpec)

/-- 'distafflaw04.CodeFields', WHERE WHAT IT READS IS OF BULK AT MOST 1048576: true; the input reads as it did. -/
def codeFieldsUptoRow : OpenClaim := { program := "ytkpliapmllabaaadoor", sum := "520930952bbfba02d7f5a3622ac891538b3998c9dc535502699de1b5374093f2", func := "distaff/distafflaw04.CodeFields", spec := "codeFields", inPlace := ["internal/reflectlite.TypeOf", "internal/reflectlite.ValueOf", "(internal/reflectlite.Value).Type", "(internal/reflectlite.Value).IsNil", "(internal/reflectlite.Value).Elem", "(internal/reflectlite.Value).Set"], unfollowed := true, recurses := true, named := ["errors.errorType"], apart := false, laid := [("errors.errorType", laid_errors_errorType)], narrowed := true }
def CodeFieldsUptoSaid : Prop := codeFieldsUptoRow.holds Tryd.pinned (OpenSpec.upto codeFieldsSpec)

/-- 'distafflaw04.CodeEach', WHERE WHAT IT READS IS OF BULK AT MOST 1048576: true; the input reads as it did. -/
def codeEachUptoRow : OpenClaim := { program := "ytkpliapmllabaaadoor", sum := "520930952bbfba02d7f5a3622ac891538b3998c9dc535502699de1b5374093f2", func := "distaff/distafflaw04.CodeEach", spec := "codeEach", inPlace := ["internal/reflectlite.TypeOf", "internal/reflectlite.ValueOf", "(internal/reflectlite.Value).Type", "(internal/reflectlite.Value).IsNil", "(internal/reflectlite.Value).Elem", "(internal/reflectlite.Value).Set"], unfollowed := true, recurses := true, named := ["errors.errorType"], apart := false, laid := [("errors.errorType", laid_errors_errorType)], narrowed := true }
def CodeEachUptoSaid : Prop := codeEachUptoRow.holds Tryd.pinned (OpenSpec.upto codeEachSpec)

/-- 'distafflaw04.CodeUnused', WHERE WHAT IT READS IS OF BULK AT MOST 1048576: true; the input reads as it did. -/
def codeUnusedUptoRow : OpenClaim := { program := "ytkpliapmllabaaadoor", sum := "520930952bbfba02d7f5a3622ac891538b3998c9dc535502699de1b5374093f2", func := "distaff/distafflaw04.CodeUnused", spec := "codeUnused", inPlace := ["internal/reflectlite.TypeOf", "internal/reflectlite.ValueOf", "(internal/reflectlite.Value).Type", "(internal/reflectlite.Value).IsNil", "(internal/reflectlite.Value).Elem", "(internal/reflectlite.Value).Set"], unfollowed := true, recurses := true, named := ["errors.errorType"], apart := false, laid := [("errors.errorType", laid_errors_errorType)], narrowed := true }
def CodeUnusedUptoSaid : Prop := codeUnusedUptoRow.holds Tryd.pinned (OpenSpec.upto codeUnusedSpec)

/-- 'distafflaw04.CodeSides', WHERE WHAT IT READS IS OF BULK AT MOST 1048576: true; the input reads as it did. -/
def codeSidesUptoRow : OpenClaim := { program := "ytkpliapmllabaaadoor", sum := "520930952bbfba02d7f5a3622ac891538b3998c9dc535502699de1b5374093f2", func := "distaff/distafflaw04.CodeSides", spec := "codeSides", inPlace := ["internal/reflectlite.TypeOf", "internal/reflectlite.ValueOf", "(internal/reflectlite.Value).Type", "(internal/reflectlite.Value).IsNil", "(internal/reflectlite.Value).Elem", "(internal/reflectlite.Value).Set"], unfollowed := true, recurses := true, named := ["errors.errorType"], apart := false, laid := [("errors.errorType", laid_errors_errorType)], narrowed := true }
def CodeSidesUptoSaid : Prop := codeSidesUptoRow.holds Tryd.pinned (OpenSpec.upto codeSidesSpec)

/-- 'distafflaw04.CodeClients', WHERE WHAT IT READS IS OF BULK AT MOST 1048576: true; the input reads as it did. -/
def codeClientsUptoRow : OpenClaim := { program := "ytkpliapmllabaaadoor", sum := "520930952bbfba02d7f5a3622ac891538b3998c9dc535502699de1b5374093f2", func := "distaff/distafflaw04.CodeClients", spec := "codeClients", inPlace := ["internal/reflectlite.ValueOf", "(internal/reflectlite.Value).Type", "(internal/reflectlite.Value).IsNil", "internal/reflectlite.TypeOf", "(internal/reflectlite.Value).Elem", "(internal/reflectlite.Value).Set"], unfollowed := true, recurses := true, named := ["errors.errorType"], apart := false, laid := [("errors.errorType", laid_errors_errorType)], narrowed := true }
def CodeClientsUptoSaid : Prop := codeClientsUptoRow.holds Tryd.pinned (OpenSpec.upto codeClientsSpec)

/-- 'distafflaw04.CodeEdges', WHERE WHAT IT READS IS OF BULK AT MOST 1048576: true; the input reads as it did. -/
def codeEdgesUptoRow : OpenClaim := { program := "ytkpliapmllabaaadoor", sum := "520930952bbfba02d7f5a3622ac891538b3998c9dc535502699de1b5374093f2", func := "distaff/distafflaw04.CodeEdges", spec := "codeEdges", inPlace := ["internal/reflectlite.TypeOf", "internal/reflectlite.ValueOf", "(internal/reflectlite.Value).Type", "(internal/reflectlite.Value).IsNil", "(internal/reflectlite.Value).Elem", "(internal/reflectlite.Value).Set"], unfollowed := true, recurses := true, named := ["errors.errorType"], apart := false, laid := [("errors.errorType", laid_errors_errorType)], narrowed := true }
def CodeEdgesUptoSaid : Prop := codeEdgesUptoRow.holds Tryd.pinned (OpenSpec.upto codeEdgesSpec)

/-- 'distafflaw04.CodeLibraries', WHERE WHAT IT READS IS OF BULK AT MOST 1048576: true; the input reads as it did. -/
def codeLibrariesUptoRow : OpenClaim := { program := "ytkpliapmllabaaadoor", sum := "520930952bbfba02d7f5a3622ac891538b3998c9dc535502699de1b5374093f2", func := "distaff/distafflaw04.CodeLibraries", spec := "codeLibraries", inPlace := ["internal/reflectlite.TypeOf", "internal/reflectlite.ValueOf", "(internal/reflectlite.Value).Type", "(internal/reflectlite.Value).IsNil", "(internal/reflectlite.Value).Elem", "(internal/reflectlite.Value).Set"], unfollowed := true, recurses := true, named := ["errors.errorType"], apart := false, laid := [("errors.errorType", laid_errors_errorType)], narrowed := true }
def CodeLibrariesUptoSaid : Prop := codeLibrariesUptoRow.holds Tryd.pinned (OpenSpec.upto codeLibrariesSpec)

end Rows
end Go.Proofs.YtkpliapmllabaaaDoor
