/-
  NARROWER THAN 'FOR EVERY INPUT', by the rows' own cells (each row's printed sentence says how): WaitqNews: laid · WaitqOnce: laid · WaitqPlays: laid.
  DERIVED. THE GIVEN ROWS OF THIS SEAT. 3 by the template 'for every input the law returns true; each argument reads behind the call as it read before'; 0 by the template 'total and deterministic' (their statements: YteeckkkbmlkkiaaDoorTotals.lean).
  GIVEN WITH THE SEED: the statements are not yours to turn. If you find one false, say at which input.
  Laid BY PROGRAM, IN A SANDBOX (cutbox-rows.mjs): the forced cells as the released guide's own fill.sh prints them over the translation 876313597170b89c… (all of the seat's roots in one cut). By AI agents, Wed Nov 11 2026. No macro, syntax, notation, axiom, sorry.
-/
import Derived.Test.YteeckkkbmlkkiaaDoorChecked
import GoSem.Claim
import GoSem.ClaimJoined
import GoSem.ClaimMapViews
import Derived.JoinedTies
import Derived.KernelRfl
namespace Go.Proofs.YteeckkkbmlkkiaaDoor
/- THE CELL 'sum', in the pinned program and in every row, IS THE sha256 OF THE DUMP (.gsa) THAT YteeckkkbmlkkiaaDoorProg.lean LOADS. Nothing in Lean hashes anything: it is a label: what it is worth is what the hold of that sum in a sandbox is worth. -/
noncomputable def Tryd.pinned : Pinned := { name := "yteeckkkbmlkkiaadoor", sum := "876313597170b89ca54f2768a1b612ccc1eea87b53a1b72dcd836c3e0b3fe410", checked := Tryd.checked }
namespace Rows
def none {H : Type} : Left H := { results := [], args := [] }

/- WHAT THE LISTED PACKAGE-LEVEL VARIABLES READ AS WHEN THE CALL BEGINS. Each datum BY PROGRAM (the guide's laid-datum.mjs) off the statement by which the dump's own 'gosem.cut.vars' lays the variable. In a bare row this is a premise. The card (YteeckkkbmlkkiaaDoorCards.lean) ties it to the program's text. -/
def laid_errors_errorType {H : Type} : DataW H := .iface "internal/reflectlite.rtype" (.agg [.ptr (.lit (.string [101, 114, 114, 111, 114]))])

/-- 'distafflaw10.WaitqNews': WHATEVER THE INPUT: true; the input reads as it did. -/
def waitqNewsSpec : ChangeSpec := { name := "waitqNews", fn := fun _ => fun
  | [d] => { results := [.lit (.bool true)], args := [d] }
  | _ => none }
def waitqNewsRow : OpenClaim := { program := "yteeckkkbmlkkiaadoor", sum := "876313597170b89ca54f2768a1b612ccc1eea87b53a1b72dcd836c3e0b3fe410", func := "distaff/distafflaw10.WaitqNews", spec := "waitqNews", inPlace := ["internal/reflectlite.TypeOf", "internal/reflectlite.ValueOf", "(internal/reflectlite.Value).Type", "(internal/reflectlite.Value).IsNil", "(internal/reflectlite.Value).Elem", "(internal/reflectlite.Value).Set"], unfollowed := true, recurses := true, named := ["errors.errorType"], apart := false, laid := [("errors.errorType", laid_errors_errorType)] }
def WaitqNewsSaid : Prop := waitqNewsRow.holds Tryd.pinned (OpenSpec.ofChange waitqNewsSpec)

/-- ITS FALSE NEIGHBOUR: 'it returns false'. Refute it at one input. -/
def waitqNewsWrong : ChangeSpec := { name := "waitqNews", fn := fun _ => fun
  | [d] => { results := [.lit (.bool false)], args := [d] }
  | _ => none }
def WaitqNewsWrongFalsely : Prop := waitqNewsRow.holds Tryd.pinned (OpenSpec.ofChange waitqNewsWrong)

/-- 'distafflaw10.WaitqOnce': WHATEVER THE INPUT: true; the input reads as it did. -/
def waitqOnceSpec : ChangeSpec := { name := "waitqOnce", fn := fun _ => fun
  | [d1, d2, d3] => { results := [.lit (.bool true)], args := [d1, d2, d3] }
  | _ => none }
def waitqOnceRow : OpenClaim := { program := "yteeckkkbmlkkiaadoor", sum := "876313597170b89ca54f2768a1b612ccc1eea87b53a1b72dcd836c3e0b3fe410", func := "distaff/distafflaw10.WaitqOnce", spec := "waitqOnce", inPlace := ["internal/reflectlite.TypeOf", "internal/reflectlite.ValueOf", "(internal/reflectlite.Value).Type", "(internal/reflectlite.Value).IsNil", "(internal/reflectlite.Value).Elem", "(internal/reflectlite.Value).Set"], unfollowed := true, recurses := true, named := ["errors.errorType"], apart := false, laid := [("errors.errorType", laid_errors_errorType)] }
def WaitqOnceSaid : Prop := waitqOnceRow.holds Tryd.pinned (OpenSpec.ofChange waitqOnceSpec)

/-- ITS FALSE NEIGHBOUR: 'it returns false'. Refute it at one input. -/
def waitqOnceWrong : ChangeSpec := { name := "waitqOnce", fn := fun _ => fun
  | [d1, d2, d3] => { results := [.lit (.bool false)], args := [d1, d2, d3] }
  | _ => none }
def WaitqOnceWrongFalsely : Prop := waitqOnceRow.holds Tryd.pinned (OpenSpec.ofChange waitqOnceWrong)

/-- 'distafflaw10.WaitqPlays': WHATEVER THE INPUT: true; the input reads as it did. -/
def waitqPlaysSpec : ChangeSpec := { name := "waitqPlays", fn := fun _ => fun
  | [d1, d2] => { results := [.lit (.bool true)], args := [d1, d2] }
  | _ => none }
def waitqPlaysRow : OpenClaim := { program := "yteeckkkbmlkkiaadoor", sum := "876313597170b89ca54f2768a1b612ccc1eea87b53a1b72dcd836c3e0b3fe410", func := "distaff/distafflaw10.WaitqPlays", spec := "waitqPlays", inPlace := ["internal/reflectlite.TypeOf", "internal/reflectlite.ValueOf", "(internal/reflectlite.Value).Type", "(internal/reflectlite.Value).IsNil", "(internal/reflectlite.Value).Elem", "(internal/reflectlite.Value).Set"], unfollowed := true, recurses := true, named := ["errors.errorType"], apart := false, laid := [("errors.errorType", laid_errors_errorType)] }
def WaitqPlaysSaid : Prop := waitqPlaysRow.holds Tryd.pinned (OpenSpec.ofChange waitqPlaysSpec)

/-- ITS FALSE NEIGHBOUR: 'it returns false'. Refute it at one input. -/
def waitqPlaysWrong : ChangeSpec := { name := "waitqPlays", fn := fun _ => fun
  | [d1, d2] => { results := [.lit (.bool false)], args := [d1, d2] }
  | _ => none }
def WaitqPlaysWrongFalsely : Prop := waitqPlaysRow.holds Tryd.pinned (OpenSpec.ofChange waitqPlaysWrong)

/- THE SECOND FORM. 'bulk': how many values and letters a reading holds, each counted each time it is reached (what is shared counts as often as it is met; a slice's spare places count too). A statement '..UptoSaid' is the law's where the arguments, and the package variables that the reading takes, are together of bulk at most 1048576: NARROWER than '..Said'. Prove '..Said' where nothing that the law and all that it calls make is longer than what came in: it says more and counts as full. Else prove '..UptoSaid'. A law counts once. -/
mutual
def uptoBulk {H : Type} : DataW H → Nat
  | .lit (.string bytes) => bytes.length + 1
  | .lit _ => 1
  | .nil => 1
  | .ptr d => uptoBulk d + 1
  | .slice elems spare => uptoBulkAll elems + uptoBulkAll spare + 1
  | .agg parts => uptoBulkAll parts + 1
  | .iface _ d => uptoBulk d + 1
  | .map entries => uptoBulkEntries entries + 1
  | .held _ => 1
def uptoBulkAll {H : Type} : List (DataW H) → Nat
  | [] => 0
  | d :: r => uptoBulk d + uptoBulkAll r
def uptoBulkEntries {H : Type} : List (Lit × DataW H) → Nat
  | [] => 0
  | x :: r => uptoBulkEntry x + uptoBulkEntries r
def uptoBulkEntry {H : Type} : Lit × DataW H → Nat
  | (.string bytes, d) => bytes.length + uptoBulk d + 1
  | (_, d) => uptoBulk d + 1
 end
def uptoSmall : (H : Type) → List (DataW H) → Bool := fun _ ds => decide (uptoBulkAll ds ≤ 1048576)
def OpenSpec.upto (s : _root_.Go.ChangeSpec) : _root_.Go.OpenSpec := { _root_.Go.OpenSpec.ofChange s with cond := some uptoSmall }

/-- 'distafflaw10.WaitqNews', WHERE WHAT IT READS IS OF BULK AT MOST 1048576: true; the input reads as it did. -/
def waitqNewsUptoRow : OpenClaim := { program := "yteeckkkbmlkkiaadoor", sum := "876313597170b89ca54f2768a1b612ccc1eea87b53a1b72dcd836c3e0b3fe410", func := "distaff/distafflaw10.WaitqNews", spec := "waitqNews", inPlace := ["internal/reflectlite.TypeOf", "internal/reflectlite.ValueOf", "(internal/reflectlite.Value).Type", "(internal/reflectlite.Value).IsNil", "(internal/reflectlite.Value).Elem", "(internal/reflectlite.Value).Set"], unfollowed := true, recurses := true, named := ["errors.errorType"], apart := false, laid := [("errors.errorType", laid_errors_errorType)], narrowed := true }
def WaitqNewsUptoSaid : Prop := waitqNewsUptoRow.holds Tryd.pinned (OpenSpec.upto waitqNewsSpec)

/-- 'distafflaw10.WaitqOnce', WHERE WHAT IT READS IS OF BULK AT MOST 1048576: true; the input reads as it did. -/
def waitqOnceUptoRow : OpenClaim := { program := "yteeckkkbmlkkiaadoor", sum := "876313597170b89ca54f2768a1b612ccc1eea87b53a1b72dcd836c3e0b3fe410", func := "distaff/distafflaw10.WaitqOnce", spec := "waitqOnce", inPlace := ["internal/reflectlite.TypeOf", "internal/reflectlite.ValueOf", "(internal/reflectlite.Value).Type", "(internal/reflectlite.Value).IsNil", "(internal/reflectlite.Value).Elem", "(internal/reflectlite.Value).Set"], unfollowed := true, recurses := true, named := ["errors.errorType"], apart := false, laid := [("errors.errorType", laid_errors_errorType)], narrowed := true }
def WaitqOnceUptoSaid : Prop := waitqOnceUptoRow.holds Tryd.pinned (OpenSpec.upto waitqOnceSpec)

/-- 'distafflaw10.WaitqPlays', WHERE WHAT IT READS IS OF BULK AT MOST 1048576: true; the input reads as it did. -/
def waitqPlaysUptoRow : OpenClaim := { program := "yteeckkkbmlkkiaadoor", sum := "876313597170b89ca54f2768a1b612ccc1eea87b53a1b72dcd836c3e0b3fe410", func := "distaff/distafflaw10.WaitqPlays", spec := "waitqPlays", inPlace := ["internal/reflectlite.TypeOf", "internal/reflectlite.ValueOf", "(internal/reflectlite.Value).Type", "(internal/reflectlite.Value).IsNil", "(internal/reflectlite.Value).Elem", "(internal/reflectlite.Value).Set"], unfollowed := true, recurses := true, named := ["errors.errorType"], apart := false, laid := [("errors.errorType", laid_errors_errorType)], narrowed := true }
def WaitqPlaysUptoSaid : Prop := waitqPlaysUptoRow.holds Tryd.pinned (OpenSpec.upto waitqPlaysSpec)

end Rows
end Go.Proofs.YteeckkkbmlkkiaaDoor
