/-
  NARROWER THAN 'FOR EVERY INPUT', by the rows' own cells (each row's printed sentence says how): WordPrints: laid · WordReads: laid · WordBack: laid · WordHex: laid · WordRings: laid · WordCuts: laid · WordBuckets: laid.
  DERIVED. THE GIVEN ROWS OF THIS SEAT. 7 by the template 'for every input the law returns true; each argument reads behind the call as it read before'; 0 by the template 'total and deterministic' (their statements: YtnnilcadmakamaaDoorTotals.lean).
  GIVEN WITH THE SEED: the statements are not yours to turn. If you find one false, say at which input.
  Laid BY PROGRAM, IN A SANDBOX (cutbox-rows.mjs): the forced cells as the released guide's own fill.sh prints them over the translation 62b2b8b7dc4529c9… (all of the seat's roots in one cut). By AI agents, Wed Nov 11 2026. No macro, syntax, notation, axiom, sorry.
-/
import Derived.Test.YtnnilcadmakamaaDoorChecked
import GoSem.Claim
import GoSem.ClaimJoined
import GoSem.ClaimMapViews
import Derived.JoinedTies
import Derived.KernelRfl
namespace Go.Proofs.YtnnilcadmakamaaDoor
/- THE CELL 'sum', in the pinned program and in every row, IS THE sha256 OF THE DUMP (.gsa) THAT YtnnilcadmakamaaDoorProg.lean LOADS. Nothing in Lean hashes anything: it is a label: what it is worth is what the hold of that sum in a sandbox is worth. -/
noncomputable def Tryd.pinned : Pinned := { name := "ytnnilcadmakamaadoor", sum := "62b2b8b7dc4529c92af83415ed9dd9b30c9ab73511a144576e0dcc3f5cea2177", checked := Tryd.checked }
namespace Rows
def none {H : Type} : Left H := { results := [], args := [] }

/- WHAT THE LISTED PACKAGE-LEVEL VARIABLES READ AS WHEN THE CALL BEGINS. Each datum BY PROGRAM (the guide's laid-datum.mjs) off the statement by which the dump's own 'gosem.cut.vars' lays the variable. In a bare row this is a premise. The card (YtnnilcadmakamaaDoorCards.lean) ties it to the program's text. -/
def laid_errors_errorType {H : Type} : DataW H := .iface "internal/reflectlite.rtype" (.agg [.ptr (.lit (.string [101, 114, 114, 111, 114]))])

/-- 'distafflaw01.WordPrints': WHATEVER THE INPUT: true; the input reads as it did. -/
def wordPrintsSpec : ChangeSpec := { name := "wordPrints", fn := fun _ => fun
  | [d] => { results := [.lit (.bool true)], args := [d] }
  | _ => none }
def wordPrintsRow : OpenClaim := { program := "ytnnilcadmakamaadoor", sum := "62b2b8b7dc4529c92af83415ed9dd9b30c9ab73511a144576e0dcc3f5cea2177", func := "distaff/distafflaw01.WordPrints", spec := "wordPrints", inPlace := ["internal/reflectlite.TypeOf", "internal/reflectlite.ValueOf", "(internal/reflectlite.Value).Type", "(internal/reflectlite.Value).IsNil", "(internal/reflectlite.Value).Elem", "(internal/reflectlite.Value).Set"], unfollowed := true, recurses := true, named := ["errors.errorType"], apart := false, laid := [("errors.errorType", laid_errors_errorType)] }
def WordPrintsSaid : Prop := wordPrintsRow.holds Tryd.pinned (OpenSpec.ofChange wordPrintsSpec)

/-- ITS FALSE NEIGHBOUR: 'it returns false'. Refute it at one input. -/
def wordPrintsWrong : ChangeSpec := { name := "wordPrints", fn := fun _ => fun
  | [d] => { results := [.lit (.bool false)], args := [d] }
  | _ => none }
def WordPrintsWrongFalsely : Prop := wordPrintsRow.holds Tryd.pinned (OpenSpec.ofChange wordPrintsWrong)

/-- 'distafflaw01.WordReads': WHATEVER THE INPUT: true; the input reads as it did. -/
def wordReadsSpec : ChangeSpec := { name := "wordReads", fn := fun _ => fun
  | [d] => { results := [.lit (.bool true)], args := [d] }
  | _ => none }
def wordReadsRow : OpenClaim := { program := "ytnnilcadmakamaadoor", sum := "62b2b8b7dc4529c92af83415ed9dd9b30c9ab73511a144576e0dcc3f5cea2177", func := "distaff/distafflaw01.WordReads", spec := "wordReads", inPlace := ["internal/reflectlite.TypeOf", "internal/reflectlite.ValueOf", "(internal/reflectlite.Value).Type", "(internal/reflectlite.Value).IsNil", "(internal/reflectlite.Value).Elem", "(internal/reflectlite.Value).Set"], unfollowed := true, recurses := true, named := ["errors.errorType"], apart := false, laid := [("errors.errorType", laid_errors_errorType)] }
def WordReadsSaid : Prop := wordReadsRow.holds Tryd.pinned (OpenSpec.ofChange wordReadsSpec)

/-- ITS FALSE NEIGHBOUR: 'it returns false'. Refute it at one input. -/
def wordReadsWrong : ChangeSpec := { name := "wordReads", fn := fun _ => fun
  | [d] => { results := [.lit (.bool false)], args := [d] }
  | _ => none }
def WordReadsWrongFalsely : Prop := wordReadsRow.holds Tryd.pinned (OpenSpec.ofChange wordReadsWrong)

/-- 'distafflaw01.WordBack': WHATEVER THE INPUT: true; the input reads as it did. -/
def wordBackSpec : ChangeSpec := { name := "wordBack", fn := fun _ => fun
  | [d1, d2] => { results := [.lit (.bool true)], args := [d1, d2] }
  | _ => none }
def wordBackRow : OpenClaim := { program := "ytnnilcadmakamaadoor", sum := "62b2b8b7dc4529c92af83415ed9dd9b30c9ab73511a144576e0dcc3f5cea2177", func := "distaff/distafflaw01.WordBack", spec := "wordBack", inPlace := ["internal/reflectlite.TypeOf", "internal/reflectlite.ValueOf", "(internal/reflectlite.Value).Type", "(internal/reflectlite.Value).IsNil", "(internal/reflectlite.Value).Elem", "(internal/reflectlite.Value).Set"], unfollowed := true, recurses := true, named := ["errors.errorType"], apart := false, laid := [("errors.errorType", laid_errors_errorType)] }
def WordBackSaid : Prop := wordBackRow.holds Tryd.pinned (OpenSpec.ofChange wordBackSpec)

/-- ITS FALSE NEIGHBOUR: 'it returns false'. Refute it at one input. -/
def wordBackWrong : ChangeSpec := { name := "wordBack", fn := fun _ => fun
  | [d1, d2] => { results := [.lit (.bool false)], args := [d1, d2] }
  | _ => none }
def WordBackWrongFalsely : Prop := wordBackRow.holds Tryd.pinned (OpenSpec.ofChange wordBackWrong)

/-- 'distafflaw01.WordHex': WHATEVER THE INPUT: true; the input reads as it did. -/
def wordHexSpec : ChangeSpec := { name := "wordHex", fn := fun _ => fun
  | [d1, d2, d3] => { results := [.lit (.bool true)], args := [d1, d2, d3] }
  | _ => none }
def wordHexRow : OpenClaim := { program := "ytnnilcadmakamaadoor", sum := "62b2b8b7dc4529c92af83415ed9dd9b30c9ab73511a144576e0dcc3f5cea2177", func := "distaff/distafflaw01.WordHex", spec := "wordHex", inPlace := ["internal/reflectlite.TypeOf", "internal/reflectlite.ValueOf", "(internal/reflectlite.Value).Type", "(internal/reflectlite.Value).IsNil", "(internal/reflectlite.Value).Elem", "(internal/reflectlite.Value).Set"], unfollowed := true, recurses := true, named := ["errors.errorType"], apart := false, laid := [("errors.errorType", laid_errors_errorType)] }
def WordHexSaid : Prop := wordHexRow.holds Tryd.pinned (OpenSpec.ofChange wordHexSpec)

/-- ITS FALSE NEIGHBOUR: 'it returns false'. Refute it at one input. -/
def wordHexWrong : ChangeSpec := { name := "wordHex", fn := fun _ => fun
  | [d1, d2, d3] => { results := [.lit (.bool false)], args := [d1, d2, d3] }
  | _ => none }
def WordHexWrongFalsely : Prop := wordHexRow.holds Tryd.pinned (OpenSpec.ofChange wordHexWrong)

/-- 'distafflaw01.WordRings': WHATEVER THE INPUT: true; the input reads as it did. -/
def wordRingsSpec : ChangeSpec := { name := "wordRings", fn := fun _ => fun
  | [d1, d2, d3] => { results := [.lit (.bool true)], args := [d1, d2, d3] }
  | _ => none }
def wordRingsRow : OpenClaim := { program := "ytnnilcadmakamaadoor", sum := "62b2b8b7dc4529c92af83415ed9dd9b30c9ab73511a144576e0dcc3f5cea2177", func := "distaff/distafflaw01.WordRings", spec := "wordRings", inPlace := ["internal/reflectlite.TypeOf", "internal/reflectlite.ValueOf", "(internal/reflectlite.Value).Type", "(internal/reflectlite.Value).IsNil", "(internal/reflectlite.Value).Elem", "(internal/reflectlite.Value).Set"], unfollowed := true, recurses := true, named := ["errors.errorType"], apart := false, laid := [("errors.errorType", laid_errors_errorType)] }
def WordRingsSaid : Prop := wordRingsRow.holds Tryd.pinned (OpenSpec.ofChange wordRingsSpec)

/-- ITS FALSE NEIGHBOUR: 'it returns false'. Refute it at one input. -/
def wordRingsWrong : ChangeSpec := { name := "wordRings", fn := fun _ => fun
  | [d1, d2, d3] => { results := [.lit (.bool false)], args := [d1, d2, d3] }
  | _ => none }
def WordRingsWrongFalsely : Prop := wordRingsRow.holds Tryd.pinned (OpenSpec.ofChange wordRingsWrong)

/-- 'distafflaw01.WordCuts': WHATEVER THE INPUT: true; the input reads as it did. -/
def wordCutsSpec : ChangeSpec := { name := "wordCuts", fn := fun _ => fun
  | [d1, d2, d3] => { results := [.lit (.bool true)], args := [d1, d2, d3] }
  | _ => none }
def wordCutsRow : OpenClaim := { program := "ytnnilcadmakamaadoor", sum := "62b2b8b7dc4529c92af83415ed9dd9b30c9ab73511a144576e0dcc3f5cea2177", func := "distaff/distafflaw01.WordCuts", spec := "wordCuts", inPlace := ["internal/reflectlite.TypeOf", "internal/reflectlite.ValueOf", "(internal/reflectlite.Value).Type", "(internal/reflectlite.Value).IsNil", "(internal/reflectlite.Value).Elem", "(internal/reflectlite.Value).Set"], unfollowed := true, recurses := true, named := ["errors.errorType"], apart := false, laid := [("errors.errorType", laid_errors_errorType)] }
def WordCutsSaid : Prop := wordCutsRow.holds Tryd.pinned (OpenSpec.ofChange wordCutsSpec)

/-- ITS FALSE NEIGHBOUR: 'it returns false'. Refute it at one input. -/
def wordCutsWrong : ChangeSpec := { name := "wordCuts", fn := fun _ => fun
  | [d1, d2, d3] => { results := [.lit (.bool false)], args := [d1, d2, d3] }
  | _ => none }
def WordCutsWrongFalsely : Prop := wordCutsRow.holds Tryd.pinned (OpenSpec.ofChange wordCutsWrong)

/-- 'distafflaw01.WordBuckets': WHATEVER THE INPUT: true; the input reads as it did. -/
def wordBucketsSpec : ChangeSpec := { name := "wordBuckets", fn := fun _ => fun
  | [d1, d2] => { results := [.lit (.bool true)], args := [d1, d2] }
  | _ => none }
def wordBucketsRow : OpenClaim := { program := "ytnnilcadmakamaadoor", sum := "62b2b8b7dc4529c92af83415ed9dd9b30c9ab73511a144576e0dcc3f5cea2177", func := "distaff/distafflaw01.WordBuckets", spec := "wordBuckets", inPlace := ["internal/reflectlite.TypeOf", "internal/reflectlite.ValueOf", "(internal/reflectlite.Value).Type", "(internal/reflectlite.Value).IsNil", "(internal/reflectlite.Value).Elem", "(internal/reflectlite.Value).Set"], unfollowed := true, recurses := true, named := ["errors.errorType"], apart := false, laid := [("errors.errorType", laid_errors_errorType)] }
def WordBucketsSaid : Prop := wordBucketsRow.holds Tryd.pinned (OpenSpec.ofChange wordBucketsSpec)

/-- ITS FALSE NEIGHBOUR: 'it returns false'. Refute it at one input. -/
def wordBucketsWrong : ChangeSpec := { name := "wordBuckets", fn := fun _ => fun
  | [d1, d2] => { results := [.lit (.bool false)], args := [d1, d2] }
  | _ => none }
def WordBucketsWrongFalsely : Prop := wordBucketsRow.holds Tryd.pinned (OpenSpec.ofChange wordBucketsWrong)

/- THE SECOND FORM. 'bulk': how many values and letters a reading holds, each counted each time it is reached (what is shared counts as often as it is met; a slice's spare places count too). A statement '..UptoSaid' is the law's where the arguments, and the package variables that the reading takes, are together of bulk at most 1048576: NARROWER than '..Said'. Prove '..Said' where nothing that the law and all that it calls make is longer than what came in: it says more and counts as full. Else prove '..UptoSaid'. A law counts once. -/
mutual
def uptoBulk {H : Type} : DataW H → Nat
  | .lit (.string bytes) => bytes.length + 1
  | .lit _ => 1
  | .nil => 1
  | .ptr d => uptoBulk d + 1
  | .slice elems spare => uptoBulkAll elems + uptoBulkAll spare + 1
  | .agg parts => uptoBulkAll parts + 1
  | .iface _ d => uptoBulk d + 1
  | .map entries => uptoBulkEntries entries + 1
  | .held _ => 1
def uptoBulkAll {H : Type} : List (DataW H) → Nat
  | [] => 0
  | d :: r => uptoBulk d + uptoBulkAll r
def uptoBulkEntries {H : Type} : List (Lit × DataW H) → Nat
  | [] => 0
  | x :: r => uptoBulkEntry x + uptoBulkEntries r
def uptoBulkEntry {H : Type} : Lit × DataW H → Nat
  | (.string bytes, d) => bytes.length + uptoBulk d + 1
  | (_, d) => uptoBulk d + 1
 end
def uptoSmall : (H : Type) → List (DataW H) → Bool := fun _ ds => decide (uptoBulkAll ds ≤ 1048576)
def OpenSpec.upto (s : _root_.Go.ChangeSpec) : _root_.Go.OpenSpec := { _root_.Go.OpenSpec.ofChange s with cond := some uptoSmall }

/-- 'distafflaw01.WordPrints', WHERE WHAT IT READS IS OF BULK AT MOST 1048576: true; the input reads as it did. -/
def wordPrintsUptoRow : OpenClaim := { program := "ytnnilcadmakamaadoor", sum := "62b2b8b7dc4529c92af83415ed9dd9b30c9ab73511a144576e0dcc3f5cea2177", func := "distaff/distafflaw01.WordPrints", spec := "wordPrints", inPlace := ["internal/reflectlite.TypeOf", "internal/reflectlite.ValueOf", "(internal/reflectlite.Value).Type", "(internal/reflectlite.Value).IsNil", "(internal/reflectlite.Value).Elem", "(internal/reflectlite.Value).Set"], unfollowed := true, recurses := true, named := ["errors.errorType"], apart := false, laid := [("errors.errorType", laid_errors_errorType)], narrowed := true }
def WordPrintsUptoSaid : Prop := wordPrintsUptoRow.holds Tryd.pinned (OpenSpec.upto wordPrintsSpec)

/-- 'distafflaw01.WordReads', WHERE WHAT IT READS IS OF BULK AT MOST 1048576: true; the input reads as it did. -/
def wordReadsUptoRow : OpenClaim := { program := "ytnnilcadmakamaadoor", sum := "62b2b8b7dc4529c92af83415ed9dd9b30c9ab73511a144576e0dcc3f5cea2177", func := "distaff/distafflaw01.WordReads", spec := "wordReads", inPlace := ["internal/reflectlite.TypeOf", "internal/reflectlite.ValueOf", "(internal/reflectlite.Value).Type", "(internal/reflectlite.Value).IsNil", "(internal/reflectlite.Value).Elem", "(internal/reflectlite.Value).Set"], unfollowed := true, recurses := true, named := ["errors.errorType"], apart := false, laid := [("errors.errorType", laid_errors_errorType)], narrowed := true }
def WordReadsUptoSaid : Prop := wordReadsUptoRow.holds Tryd.pinned (OpenSpec.upto wordReadsSpec)

/-- 'distafflaw01.WordBack', WHERE WHAT IT READS IS OF BULK AT MOST 1048576: true; the input reads as it did. -/
def wordBackUptoRow : OpenClaim := { program := "ytnnilcadmakamaadoor", sum := "62b2b8b7dc4529c92af83415ed9dd9b30c9ab73511a144576e0dcc3f5cea2177", func := "distaff/distafflaw01.WordBack", spec := "wordBack", inPlace := ["internal/reflectlite.TypeOf", "internal/reflectlite.ValueOf", "(internal/reflectlite.Value).Type", "(internal/reflectlite.Value).IsNil", "(internal/reflectlite.Value).Elem", "(internal/reflectlite.Value).Set"], unfollowed := true, recurses := true, named := ["errors.errorType"], apart := false, laid := [("errors.errorType", laid_errors_errorType)], narrowed := true }
def WordBackUptoSaid : Prop := wordBackUptoRow.holds Tryd.pinned (OpenSpec.upto wordBackSpec)

/-- 'distafflaw01.WordHex', WHERE WHAT IT READS IS OF BULK AT MOST 1048576: true; the input reads as it did. -/
def wordHexUptoRow : OpenClaim := { program := "ytnnilcadmakamaadoor", sum := "62b2b8b7dc4529c92af83415ed9dd9b30c9ab73511a144576e0dcc3f5cea2177", func := "distaff/distafflaw01.WordHex", spec := "wordHex", inPlace := ["internal/reflectlite.TypeOf", "internal/reflectlite.ValueOf", "(internal/reflectlite.Value).Type", "(internal/reflectlite.Value).IsNil", "(internal/reflectlite.Value).Elem", "(internal/reflectlite.Value).Set"], unfollowed := true, recurses := true, named := ["errors.errorType"], apart := false, laid := [("errors.errorType", laid_errors_errorType)], narrowed := true }
def WordHexUptoSaid : Prop := wordHexUptoRow.holds Tryd.pinned (OpenSpec.upto wordHexSpec)

/-- 'distafflaw01.WordRings', WHERE WHAT IT READS IS OF BULK AT MOST 1048576: true; the input reads as it did. -/
def wordRingsUptoRow : OpenClaim := { program := "ytnnilcadmakamaadoor", sum := "62b2b8b7dc4529c92af83415ed9dd9b30c9ab73511a144576e0dcc3f5cea2177", func := "distaff/distafflaw01.WordRings", spec := "wordRings", inPlace := ["internal/reflectlite.TypeOf", "internal/reflectlite.ValueOf", "(internal/reflectlite.Value).Type", "(internal/reflectlite.Value).IsNil", "(internal/reflectlite.Value).Elem", "(internal/reflectlite.Value).Set"], unfollowed := true, recurses := true, named := ["errors.errorType"], apart := false, laid := [("errors.errorType", laid_errors_errorType)], narrowed := true }
def WordRingsUptoSaid : Prop := wordRingsUptoRow.holds Tryd.pinned (OpenSpec.upto wordRingsSpec)

/-- 'distafflaw01.WordCuts', WHERE WHAT IT READS IS OF BULK AT MOST 1048576: true; the input reads as it did. -/
def wordCutsUptoRow : OpenClaim := { program := "ytnnilcadmakamaadoor", sum := "62b2b8b7dc4529c92af83415ed9dd9b30c9ab73511a144576e0dcc3f5cea2177", func := "distaff/distafflaw01.WordCuts", spec := "wordCuts", inPlace := ["internal/reflectlite.TypeOf", "internal/reflectlite.ValueOf", "(internal/reflectlite.Value).Type", "(internal/reflectlite.Value).IsNil", "(internal/reflectlite.Value).Elem", "(internal/reflectlite.Value).Set"], unfollowed := true, recurses := true, named := ["errors.errorType"], apart := false, laid := [("errors.errorType", laid_errors_errorType)], narrowed := true }
def WordCutsUptoSaid : Prop := wordCutsUptoRow.holds Tryd.pinned (OpenSpec.upto wordCutsSpec)

/-- 'distafflaw01.WordBuckets', WHERE WHAT IT READS IS OF BULK AT MOST 1048576: true; the input reads as it did. -/
def wordBucketsUptoRow : OpenClaim := { program := "ytnnilcadmakamaadoor", sum := "62b2b8b7dc4529c92af83415ed9dd9b30c9ab73511a144576e0dcc3f5cea2177", func := "distaff/distafflaw01.WordBuckets", spec := "wordBuckets", inPlace := ["internal/reflectlite.TypeOf", "internal/reflectlite.ValueOf", "(internal/reflectlite.Value).Type", "(internal/reflectlite.Value).IsNil", "(internal/reflectlite.Value).Elem", "(internal/reflectlite.Value).Set"], unfollowed := true, recurses := true, named := ["errors.errorType"], apart := false, laid := [("errors.errorType", laid_errors_errorType)], narrowed := true }
def WordBucketsUptoSaid : Prop := wordBucketsUptoRow.holds Tryd.pinned (OpenSpec.upto wordBucketsSpec)

end Rows
end Go.Proofs.YtnnilcadmakamaaDoor
