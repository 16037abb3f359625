/-
  NARROWER THAN 'FOR EVERY INPUT', by the rows' own cells (each row's printed sentence says how): RingNews: laid · RingQueues: laid · RingPlays: laid · RingDrops: laid.
  DERIVED. THE GIVEN ROWS OF THIS SEAT. 4 by the template 'for every input the law returns true; each argument reads behind the call as it read before'; 0 by the template 'total and deterministic' (their statements: YtgjogiddpfnamaaDoorTotals.lean).
  GIVEN WITH THE SEED: the statements are not yours to turn. If you find one false, say at which input.
  Laid BY PROGRAM, IN A SANDBOX (cutbox-rows.mjs): the forced cells as the released guide's own fill.sh prints them over the translation 385e18d3afe9263a… (all of the seat's roots in one cut). By AI agents, Wed Nov 11 2026. No macro, syntax, notation, axiom, sorry.
-/
import Derived.Test.YtgjogiddpfnamaaDoorChecked
import GoSem.Claim
import GoSem.ClaimJoined
import GoSem.ClaimMapViews
import Derived.JoinedTies
import Derived.KernelRfl
namespace Go.Proofs.YtgjogiddpfnamaaDoor
/- THE CELL 'sum', in the pinned program and in every row, IS THE sha256 OF THE DUMP (.gsa) THAT YtgjogiddpfnamaaDoorProg.lean LOADS. Nothing in Lean hashes anything: it is a label: what it is worth is what the hold of that sum in a sandbox is worth. -/
noncomputable def Tryd.pinned : Pinned := { name := "ytgjogiddpfnamaadoor", sum := "385e18d3afe9263a0f1ce9b6d57f2ef75fa6eb24b3a96687fef72cf52c96c597", checked := Tryd.checked }
namespace Rows
def none {H : Type} : Left H := { results := [], args := [] }

/- WHAT THE LISTED PACKAGE-LEVEL VARIABLES READ AS WHEN THE CALL BEGINS. Each datum BY PROGRAM (the guide's laid-datum.mjs) off the statement by which the dump's own 'gosem.cut.vars' lays the variable. In a bare row this is a premise. The card (YtgjogiddpfnamaaDoorCards.lean) ties it to the program's text. -/
def laid_errors_errorType {H : Type} : DataW H := .iface "internal/reflectlite.rtype" (.agg [.ptr (.lit (.string [101, 114, 114, 111, 114]))])

/-- 'distafflaw09.RingNews': WHATEVER THE INPUT: true; the input reads as it did. -/
def ringNewsSpec : ChangeSpec := { name := "ringNews", fn := fun _ => fun
  | [d] => { results := [.lit (.bool true)], args := [d] }
  | _ => none }
def ringNewsRow : OpenClaim := { program := "ytgjogiddpfnamaadoor", sum := "385e18d3afe9263a0f1ce9b6d57f2ef75fa6eb24b3a96687fef72cf52c96c597", func := "distaff/distafflaw09.RingNews", spec := "ringNews", inPlace := ["internal/reflectlite.TypeOf", "internal/reflectlite.ValueOf", "(internal/reflectlite.Value).Type", "(internal/reflectlite.Value).IsNil", "(internal/reflectlite.Value).Elem", "(internal/reflectlite.Value).Set"], unfollowed := true, recurses := true, named := ["errors.errorType"], apart := false, laid := [("errors.errorType", laid_errors_errorType)] }
def RingNewsSaid : Prop := ringNewsRow.holds Tryd.pinned (OpenSpec.ofChange ringNewsSpec)

/-- ITS FALSE NEIGHBOUR: 'it returns false'. Refute it at one input. -/
def ringNewsWrong : ChangeSpec := { name := "ringNews", fn := fun _ => fun
  | [d] => { results := [.lit (.bool false)], args := [d] }
  | _ => none }
def RingNewsWrongFalsely : Prop := ringNewsRow.holds Tryd.pinned (OpenSpec.ofChange ringNewsWrong)

/-- 'distafflaw09.RingQueues': WHATEVER THE INPUT: true; the input reads as it did. -/
def ringQueuesSpec : ChangeSpec := { name := "ringQueues", fn := fun _ => fun
  | [d1, d2] => { results := [.lit (.bool true)], args := [d1, d2] }
  | _ => none }
def ringQueuesRow : OpenClaim := { program := "ytgjogiddpfnamaadoor", sum := "385e18d3afe9263a0f1ce9b6d57f2ef75fa6eb24b3a96687fef72cf52c96c597", func := "distaff/distafflaw09.RingQueues", spec := "ringQueues", inPlace := ["internal/reflectlite.TypeOf", "internal/reflectlite.ValueOf", "(internal/reflectlite.Value).Type", "(internal/reflectlite.Value).IsNil", "(internal/reflectlite.Value).Elem", "(internal/reflectlite.Value).Set"], unfollowed := true, recurses := true, named := ["errors.errorType"], apart := false, laid := [("errors.errorType", laid_errors_errorType)] }
def RingQueuesSaid : Prop := ringQueuesRow.holds Tryd.pinned (OpenSpec.ofChange ringQueuesSpec)

/-- ITS FALSE NEIGHBOUR: 'it returns false'. Refute it at one input. -/
def ringQueuesWrong : ChangeSpec := { name := "ringQueues", fn := fun _ => fun
  | [d1, d2] => { results := [.lit (.bool false)], args := [d1, d2] }
  | _ => none }
def RingQueuesWrongFalsely : Prop := ringQueuesRow.holds Tryd.pinned (OpenSpec.ofChange ringQueuesWrong)

/-- 'distafflaw09.RingPlays': WHATEVER THE INPUT: true; the input reads as it did. -/
def ringPlaysSpec : ChangeSpec := { name := "ringPlays", fn := fun _ => fun
  | [d1, d2, d3] => { results := [.lit (.bool true)], args := [d1, d2, d3] }
  | _ => none }
def ringPlaysRow : OpenClaim := { program := "ytgjogiddpfnamaadoor", sum := "385e18d3afe9263a0f1ce9b6d57f2ef75fa6eb24b3a96687fef72cf52c96c597", func := "distaff/distafflaw09.RingPlays", spec := "ringPlays", inPlace := ["internal/reflectlite.TypeOf", "internal/reflectlite.ValueOf", "(internal/reflectlite.Value).Type", "(internal/reflectlite.Value).IsNil", "(internal/reflectlite.Value).Elem", "(internal/reflectlite.Value).Set"], unfollowed := true, recurses := true, named := ["errors.errorType"], apart := false, laid := [("errors.errorType", laid_errors_errorType)] }
def RingPlaysSaid : Prop := ringPlaysRow.holds Tryd.pinned (OpenSpec.ofChange ringPlaysSpec)

/-- ITS FALSE NEIGHBOUR: 'it returns false'. Refute it at one input. -/
def ringPlaysWrong : ChangeSpec := { name := "ringPlays", fn := fun _ => fun
  | [d1, d2, d3] => { results := [.lit (.bool false)], args := [d1, d2, d3] }
  | _ => none }
def RingPlaysWrongFalsely : Prop := ringPlaysRow.holds Tryd.pinned (OpenSpec.ofChange ringPlaysWrong)

/-- 'distafflaw09.RingDrops': WHATEVER THE INPUT: true; the input reads as it did. -/
def ringDropsSpec : ChangeSpec := { name := "ringDrops", fn := fun _ => fun
  | [d1, d2] => { results := [.lit (.bool true)], args := [d1, d2] }
  | _ => none }
def ringDropsRow : OpenClaim := { program := "ytgjogiddpfnamaadoor", sum := "385e18d3afe9263a0f1ce9b6d57f2ef75fa6eb24b3a96687fef72cf52c96c597", func := "distaff/distafflaw09.RingDrops", spec := "ringDrops", inPlace := ["internal/reflectlite.TypeOf", "internal/reflectlite.ValueOf", "(internal/reflectlite.Value).Type", "(internal/reflectlite.Value).IsNil", "(internal/reflectlite.Value).Elem", "(internal/reflectlite.Value).Set"], unfollowed := true, recurses := true, named := ["errors.errorType"], apart := false, laid := [("errors.errorType", laid_errors_errorType)] }
def RingDropsSaid : Prop := ringDropsRow.holds Tryd.pinned (OpenSpec.ofChange ringDropsSpec)

/-- ITS FALSE NEIGHBOUR: 'it returns false'. Refute it at one input. -/
def ringDropsWrong : ChangeSpec := { name := "ringDrops", fn := fun _ => fun
  | [d1, d2] => { results := [.lit (.bool false)], args := [d1, d2] }
  | _ => none }
def RingDropsWrongFalsely : Prop := ringDropsRow.holds Tryd.pinned (OpenSpec.ofChange ringDropsWrong)

/- THE SECOND FORM. 'bulk': how many values and letters a reading holds, each counted each time it is reached (what is shared counts as often as it is met; a slice's spare places count too). A statement '..UptoSaid' is the law's where the arguments, and the package variables that the reading takes, are together of bulk at most 1048576: NARROWER than '..Said'. Prove '..Said' where nothing that the law and all that it calls make is longer than what came in: it says more and counts as full. Else prove '..UptoSaid'. A law counts once. -/
mutual
def uptoBulk {H : Type} : DataW H → Nat
  | .lit (.string bytes) => bytes.length + 1
  | .lit _ => 1
  | .nil => 1
  | .ptr d => uptoBulk d + 1
  | .slice elems spare => uptoBulkAll elems + uptoBulkAll spare + 1
  | .agg parts => uptoBulkAll parts + 1
  | .iface _ d => uptoBulk d + 1
  | .map entries => uptoBulkEntries entries + 1
  | .held _ => 1
def uptoBulkAll {H : Type} : List (DataW H) → Nat
  | [] => 0
  | d :: r => uptoBulk d + uptoBulkAll r
def uptoBulkEntries {H : Type} : List (Lit × DataW H) → Nat
  | [] => 0
  | x :: r => uptoBulkEntry x + uptoBulkEntries r
def uptoBulkEntry {H : Type} : Lit × DataW H → Nat
  | (.string bytes, d) => bytes.length + uptoBulk d + 1
  | (_, d) => uptoBulk d + 1
 end
def uptoSmall : (H : Type) → List (DataW H) → Bool := fun _ ds => decide (uptoBulkAll ds ≤ 1048576)
def OpenSpec.upto (s : _root_.Go.ChangeSpec) : _root_.Go.OpenSpec := { _root_.Go.OpenSpec.ofChange s with cond := some uptoSmall }

/-- 'distafflaw09.RingNews', WHERE WHAT IT READS IS OF BULK AT MOST 1048576: true; the input reads as it did. -/
def ringNewsUptoRow : OpenClaim := { program := "ytgjogiddpfnamaadoor", sum := "385e18d3afe9263a0f1ce9b6d57f2ef75fa6eb24b3a96687fef72cf52c96c597", func := "distaff/distafflaw09.RingNews", spec := "ringNews", inPlace := ["internal/reflectlite.TypeOf", "internal/reflectlite.ValueOf", "(internal/reflectlite.Value).Type", "(internal/reflectlite.Value).IsNil", "(internal/reflectlite.Value).Elem", "(internal/reflectlite.Value).Set"], unfollowed := true, recurses := true, named := ["errors.errorType"], apart := false, laid := [("errors.errorType", laid_errors_errorType)], narrowed := true }
def RingNewsUptoSaid : Prop := ringNewsUptoRow.holds Tryd.pinned (OpenSpec.upto ringNewsSpec)

/-- 'distafflaw09.RingQueues', WHERE WHAT IT READS IS OF BULK AT MOST 1048576: true; the input reads as it did. -/
def ringQueuesUptoRow : OpenClaim := { program := "ytgjogiddpfnamaadoor", sum := "385e18d3afe9263a0f1ce9b6d57f2ef75fa6eb24b3a96687fef72cf52c96c597", func := "distaff/distafflaw09.RingQueues", spec := "ringQueues", inPlace := ["internal/reflectlite.TypeOf", "internal/reflectlite.ValueOf", "(internal/reflectlite.Value).Type", "(internal/reflectlite.Value).IsNil", "(internal/reflectlite.Value).Elem", "(internal/reflectlite.Value).Set"], unfollowed := true, recurses := true, named := ["errors.errorType"], apart := false, laid := [("errors.errorType", laid_errors_errorType)], narrowed := true }
def RingQueuesUptoSaid : Prop := ringQueuesUptoRow.holds Tryd.pinned (OpenSpec.upto ringQueuesSpec)

/-- 'distafflaw09.RingPlays', WHERE WHAT IT READS IS OF BULK AT MOST 1048576: true; the input reads as it did. -/
def ringPlaysUptoRow : OpenClaim := { program := "ytgjogiddpfnamaadoor", sum := "385e18d3afe9263a0f1ce9b6d57f2ef75fa6eb24b3a96687fef72cf52c96c597", func := "distaff/distafflaw09.RingPlays", spec := "ringPlays", inPlace := ["internal/reflectlite.TypeOf", "internal/reflectlite.ValueOf", "(internal/reflectlite.Value).Type", "(internal/reflectlite.Value).IsNil", "(internal/reflectlite.Value).Elem", "(internal/reflectlite.Value).Set"], unfollowed := true, recurses := true, named := ["errors.errorType"], apart := false, laid := [("errors.errorType", laid_errors_errorType)], narrowed := true }
def RingPlaysUptoSaid : Prop := ringPlaysUptoRow.holds Tryd.pinned (OpenSpec.upto ringPlaysSpec)

/-- 'distafflaw09.RingDrops', WHERE WHAT IT READS IS OF BULK AT MOST 1048576: true; the input reads as it did. -/
def ringDropsUptoRow : OpenClaim := { program := "ytgjogiddpfnamaadoor", sum := "385e18d3afe9263a0f1ce9b6d57f2ef75fa6eb24b3a96687fef72cf52c96c597", func := "distaff/distafflaw09.RingDrops", spec := "ringDrops", inPlace := ["internal/reflectlite.TypeOf", "internal/reflectlite.ValueOf", "(internal/reflectlite.Value).Type", "(internal/reflectlite.Value).IsNil", "(internal/reflectlite.Value).Elem", "(internal/reflectlite.Value).Set"], unfollowed := true, recurses := true, named := ["errors.errorType"], apart := false, laid := [("errors.errorType", laid_errors_errorType)], narrowed := true }
def RingDropsUptoSaid : Prop := ringDropsUptoRow.holds Tryd.pinned (OpenSpec.upto ringDropsSpec)

end Rows
end Go.Proofs.YtgjogiddpfnamaaDoor
