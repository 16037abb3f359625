/-
  NARROWER THAN 'FOR EVERY INPUT', by the rows' own cells (each row's printed sentence says how): AllocFinds: laid · AllocTells: laid · AllocNews: laid · AllocApart: laid · AllocFills: laid · AllocPlays: laid · AllocBack: laid.
  DERIVED. THE GIVEN ROWS OF THIS SEAT. 7 by the template 'for every input the law returns true; each argument reads behind the call as it read before'; 0 by the template 'total and deterministic' (their statements: YtlmjogfjhngcoaaDoorTotals.lean).
  GIVEN WITH THE SEED: the statements are not yours to turn. If you find one false, say at which input.
  Laid BY PROGRAM, IN A SANDBOX (cutbox-rows.mjs): the forced cells as the released guide's own fill.sh prints them over the translation bc83a5ee7e9aa4ab… (all of the seat's roots in one cut). By AI agents, Wed Nov 11 2026. No macro, syntax, notation, axiom, sorry.
-/
import Derived.Test.YtlmjogfjhngcoaaDoorChecked
import GoSem.Claim
import GoSem.ClaimJoined
import GoSem.ClaimMapViews
import Derived.JoinedTies
import Derived.KernelRfl
namespace Go.Proofs.YtlmjogfjhngcoaaDoor
/- THE CELL 'sum', in the pinned program and in every row, IS THE sha256 OF THE DUMP (.gsa) THAT YtlmjogfjhngcoaaDoorProg.lean LOADS. Nothing in Lean hashes anything: it is a label: what it is worth is what the hold of that sum in a sandbox is worth. -/
noncomputable def Tryd.pinned : Pinned := { name := "ytlmjogfjhngcoaadoor", sum := "bc83a5ee7e9aa4abd79189b998ba63e1649b7d819032f92709f75cf5db7a6438", checked := Tryd.checked }
namespace Rows
def none {H : Type} : Left H := { results := [], args := [] }

/- WHAT THE LISTED PACKAGE-LEVEL VARIABLES READ AS WHEN THE CALL BEGINS. Each datum BY PROGRAM (the guide's laid-datum.mjs) off the statement by which the dump's own 'gosem.cut.vars' lays the variable. In a bare row this is a premise. The card (YtlmjogfjhngcoaaDoorCards.lean) ties it to the program's text. -/
def laid_errors_errorType {H : Type} : DataW H := .iface "internal/reflectlite.rtype" (.agg [.ptr (.lit (.string [101, 114, 114, 111, 114]))])

/-- 'distafflaw03.AllocFinds': WHATEVER THE INPUT: true; the input reads as it did. -/
def allocFindsSpec : ChangeSpec := { name := "allocFinds", fn := fun _ => fun
  | [d1, d2, d3] => { results := [.lit (.bool true)], args := [d1, d2, d3] }
  | _ => none }
def allocFindsRow : OpenClaim := { program := "ytlmjogfjhngcoaadoor", sum := "bc83a5ee7e9aa4abd79189b998ba63e1649b7d819032f92709f75cf5db7a6438", func := "distaff/distafflaw03.AllocFinds", spec := "allocFinds", inPlace := ["internal/reflectlite.TypeOf", "internal/reflectlite.ValueOf", "(internal/reflectlite.Value).Type", "(internal/reflectlite.Value).IsNil", "(internal/reflectlite.Value).Elem", "(internal/reflectlite.Value).Set"], unfollowed := true, recurses := true, named := ["errors.errorType"], apart := false, laid := [("errors.errorType", laid_errors_errorType)] }
def AllocFindsSaid : Prop := allocFindsRow.holds Tryd.pinned (OpenSpec.ofChange allocFindsSpec)

/-- ITS FALSE NEIGHBOUR: 'it returns false'. Refute it at one input. -/
def allocFindsWrong : ChangeSpec := { name := "allocFinds", fn := fun _ => fun
  | [d1, d2, d3] => { results := [.lit (.bool false)], args := [d1, d2, d3] }
  | _ => none }
def AllocFindsWrongFalsely : Prop := allocFindsRow.holds Tryd.pinned (OpenSpec.ofChange allocFindsWrong)

/-- 'distafflaw03.AllocTells': WHATEVER THE INPUT: true; the input reads as it did. -/
def allocTellsSpec : ChangeSpec := { name := "allocTells", fn := fun _ => fun
  | [d1, d2] => { results := [.lit (.bool true)], args := [d1, d2] }
  | _ => none }
def allocTellsRow : OpenClaim := { program := "ytlmjogfjhngcoaadoor", sum := "bc83a5ee7e9aa4abd79189b998ba63e1649b7d819032f92709f75cf5db7a6438", func := "distaff/distafflaw03.AllocTells", spec := "allocTells", inPlace := ["internal/reflectlite.TypeOf", "internal/reflectlite.ValueOf", "(internal/reflectlite.Value).Type", "(internal/reflectlite.Value).IsNil", "(internal/reflectlite.Value).Elem", "(internal/reflectlite.Value).Set"], unfollowed := true, recurses := true, named := ["errors.errorType"], apart := false, laid := [("errors.errorType", laid_errors_errorType)] }
def AllocTellsSaid : Prop := allocTellsRow.holds Tryd.pinned (OpenSpec.ofChange allocTellsSpec)

/-- ITS FALSE NEIGHBOUR: 'it returns false'. Refute it at one input. -/
def allocTellsWrong : ChangeSpec := { name := "allocTells", fn := fun _ => fun
  | [d1, d2] => { results := [.lit (.bool false)], args := [d1, d2] }
  | _ => none }
def AllocTellsWrongFalsely : Prop := allocTellsRow.holds Tryd.pinned (OpenSpec.ofChange allocTellsWrong)

/-- 'distafflaw03.AllocNews': WHATEVER THE INPUT: true; the input reads as it did. -/
def allocNewsSpec : ChangeSpec := { name := "allocNews", fn := fun _ => fun
  | [d1, d2, d3] => { results := [.lit (.bool true)], args := [d1, d2, d3] }
  | _ => none }
def allocNewsRow : OpenClaim := { program := "ytlmjogfjhngcoaadoor", sum := "bc83a5ee7e9aa4abd79189b998ba63e1649b7d819032f92709f75cf5db7a6438", func := "distaff/distafflaw03.AllocNews", spec := "allocNews", inPlace := ["internal/reflectlite.TypeOf", "internal/reflectlite.ValueOf", "(internal/reflectlite.Value).Type", "(internal/reflectlite.Value).IsNil", "(internal/reflectlite.Value).Elem", "(internal/reflectlite.Value).Set"], unfollowed := true, recurses := true, named := ["errors.errorType"], apart := false, laid := [("errors.errorType", laid_errors_errorType)] }
def AllocNewsSaid : Prop := allocNewsRow.holds Tryd.pinned (OpenSpec.ofChange allocNewsSpec)

/-- ITS FALSE NEIGHBOUR: 'it returns false'. Refute it at one input. -/
def allocNewsWrong : ChangeSpec := { name := "allocNews", fn := fun _ => fun
  | [d1, d2, d3] => { results := [.lit (.bool false)], args := [d1, d2, d3] }
  | _ => none }
def AllocNewsWrongFalsely : Prop := allocNewsRow.holds Tryd.pinned (OpenSpec.ofChange allocNewsWrong)

/-- 'distafflaw03.AllocApart': WHATEVER THE INPUT: true; the input reads as it did. -/
def allocApartSpec : ChangeSpec := { name := "allocApart", fn := fun _ => fun
  | [d1, d2] => { results := [.lit (.bool true)], args := [d1, d2] }
  | _ => none }
def allocApartRow : OpenClaim := { program := "ytlmjogfjhngcoaadoor", sum := "bc83a5ee7e9aa4abd79189b998ba63e1649b7d819032f92709f75cf5db7a6438", func := "distaff/distafflaw03.AllocApart", spec := "allocApart", inPlace := ["internal/reflectlite.TypeOf", "internal/reflectlite.ValueOf", "(internal/reflectlite.Value).Type", "(internal/reflectlite.Value).IsNil", "(internal/reflectlite.Value).Elem", "(internal/reflectlite.Value).Set"], unfollowed := true, recurses := true, named := ["errors.errorType"], apart := false, laid := [("errors.errorType", laid_errors_errorType)] }
def AllocApartSaid : Prop := allocApartRow.holds Tryd.pinned (OpenSpec.ofChange allocApartSpec)

/-- ITS FALSE NEIGHBOUR: 'it returns false'. Refute it at one input. -/
def allocApartWrong : ChangeSpec := { name := "allocApart", fn := fun _ => fun
  | [d1, d2] => { results := [.lit (.bool false)], args := [d1, d2] }
  | _ => none }
def AllocApartWrongFalsely : Prop := allocApartRow.holds Tryd.pinned (OpenSpec.ofChange allocApartWrong)

/-- 'distafflaw03.AllocFills': WHATEVER THE INPUT: true; the input reads as it did. -/
def allocFillsSpec : ChangeSpec := { name := "allocFills", fn := fun _ => fun
  | [d] => { results := [.lit (.bool true)], args := [d] }
  | _ => none }
def allocFillsRow : OpenClaim := { program := "ytlmjogfjhngcoaadoor", sum := "bc83a5ee7e9aa4abd79189b998ba63e1649b7d819032f92709f75cf5db7a6438", func := "distaff/distafflaw03.AllocFills", spec := "allocFills", inPlace := ["internal/reflectlite.TypeOf", "internal/reflectlite.ValueOf", "(internal/reflectlite.Value).Type", "(internal/reflectlite.Value).IsNil", "(internal/reflectlite.Value).Elem", "(internal/reflectlite.Value).Set"], unfollowed := true, recurses := true, named := ["errors.errorType"], apart := false, laid := [("errors.errorType", laid_errors_errorType)] }
def AllocFillsSaid : Prop := allocFillsRow.holds Tryd.pinned (OpenSpec.ofChange allocFillsSpec)

/-- ITS FALSE NEIGHBOUR: 'it returns false'. Refute it at one input. -/
def allocFillsWrong : ChangeSpec := { name := "allocFills", fn := fun _ => fun
  | [d] => { results := [.lit (.bool false)], args := [d] }
  | _ => none }
def AllocFillsWrongFalsely : Prop := allocFillsRow.holds Tryd.pinned (OpenSpec.ofChange allocFillsWrong)

/-- 'distafflaw03.AllocPlays': WHATEVER THE INPUT: true; the input reads as it did. -/
def allocPlaysSpec : ChangeSpec := { name := "allocPlays", fn := fun _ => fun
  | [d1, d2, d3] => { results := [.lit (.bool true)], args := [d1, d2, d3] }
  | _ => none }
def allocPlaysRow : OpenClaim := { program := "ytlmjogfjhngcoaadoor", sum := "bc83a5ee7e9aa4abd79189b998ba63e1649b7d819032f92709f75cf5db7a6438", func := "distaff/distafflaw03.AllocPlays", spec := "allocPlays", inPlace := ["internal/reflectlite.TypeOf", "internal/reflectlite.ValueOf", "(internal/reflectlite.Value).Type", "(internal/reflectlite.Value).IsNil", "(internal/reflectlite.Value).Elem", "(internal/reflectlite.Value).Set"], unfollowed := true, recurses := true, named := ["errors.errorType"], apart := false, laid := [("errors.errorType", laid_errors_errorType)] }
def AllocPlaysSaid : Prop := allocPlaysRow.holds Tryd.pinned (OpenSpec.ofChange allocPlaysSpec)

/-- ITS FALSE NEIGHBOUR: 'it returns false'. Refute it at one input. -/
def allocPlaysWrong : ChangeSpec := { name := "allocPlays", fn := fun _ => fun
  | [d1, d2, d3] => { results := [.lit (.bool false)], args := [d1, d2, d3] }
  | _ => none }
def AllocPlaysWrongFalsely : Prop := allocPlaysRow.holds Tryd.pinned (OpenSpec.ofChange allocPlaysWrong)

/-- 'distafflaw03.AllocBack': WHATEVER THE INPUT: true; the input reads as it did. -/
def allocBackSpec : ChangeSpec := { name := "allocBack", fn := fun _ => fun
  | [d1, d2] => { results := [.lit (.bool true)], args := [d1, d2] }
  | _ => none }
def allocBackRow : OpenClaim := { program := "ytlmjogfjhngcoaadoor", sum := "bc83a5ee7e9aa4abd79189b998ba63e1649b7d819032f92709f75cf5db7a6438", func := "distaff/distafflaw03.AllocBack", spec := "allocBack", inPlace := ["internal/reflectlite.TypeOf", "internal/reflectlite.ValueOf", "(internal/reflectlite.Value).Type", "(internal/reflectlite.Value).IsNil", "(internal/reflectlite.Value).Elem", "(internal/reflectlite.Value).Set"], unfollowed := true, recurses := true, named := ["errors.errorType"], apart := false, laid := [("errors.errorType", laid_errors_errorType)] }
def AllocBackSaid : Prop := allocBackRow.holds Tryd.pinned (OpenSpec.ofChange allocBackSpec)

/-- ITS FALSE NEIGHBOUR: 'it returns false'. Refute it at one input. -/
def allocBackWrong : ChangeSpec := { name := "allocBack", fn := fun _ => fun
  | [d1, d2] => { results := [.lit (.bool false)], args := [d1, d2] }
  | _ => none }
def AllocBackWrongFalsely : Prop := allocBackRow.holds Tryd.pinned (OpenSpec.ofChange allocBackWrong)

/- THE SECOND FORM. 'bulk': how many values and letters a reading holds, each counted each time it is reached (what is shared counts as often as it is met; a slice's spare places count too). A statement '..UptoSaid' is the law's where the arguments, and the package variables that the reading takes, are together of bulk at most 1048576: NARROWER than '..Said'. Prove '..Said' where nothing that the law and all that it calls make is longer than what came in: it says more and counts as full. Else prove '..UptoSaid'. A law counts once. -/
mutual
def uptoBulk {H : Type} : DataW H → Nat
  | .lit (.string bytes) => bytes.length + 1
  | .lit _ => 1
  | .nil => 1
  | .ptr d => uptoBulk d + 1
  | .slice elems spare => uptoBulkAll elems + uptoBulkAll spare + 1
  | .agg parts => uptoBulkAll parts + 1
  | .iface _ d => uptoBulk d + 1
  | .map entries => uptoBulkEntries entries + 1
  | .held _ => 1
def uptoBulkAll {H : Type} : List (DataW H) → Nat
  | [] => 0
  | d :: r => uptoBulk d + uptoBulkAll r
def uptoBulkEntries {H : Type} : List (Lit × DataW H) → Nat
  | [] => 0
  | x :: r => uptoBulkEntry x + uptoBulkEntries r
def uptoBulkEntry {H : Type} : Lit × DataW H → Nat
  | (.string bytes, d) => bytes.length + uptoBulk d + 1
  | (_, d) => uptoBulk d + 1
 end
def uptoSmall : (H : Type) → List (DataW H) → Bool := fun _ ds => decide (uptoBulkAll ds ≤ 1048576)
def OpenSpec.upto (s : _root_.Go.ChangeSpec) : _root_.Go.OpenSpec := { _root_.Go.OpenSpec.ofChange s with cond := some uptoSmall }

/-- 'distafflaw03.AllocFinds', WHERE WHAT IT READS IS OF BULK AT MOST 1048576: true; the input reads as it did. -/
def allocFindsUptoRow : OpenClaim := { program := "ytlmjogfjhngcoaadoor", sum := "bc83a5ee7e9aa4abd79189b998ba63e1649b7d819032f92709f75cf5db7a6438", func := "distaff/distafflaw03.AllocFinds", spec := "allocFinds", inPlace := ["internal/reflectlite.TypeOf", "internal/reflectlite.ValueOf", "(internal/reflectlite.Value).Type", "(internal/reflectlite.Value).IsNil", "(internal/reflectlite.Value).Elem", "(internal/reflectlite.Value).Set"], unfollowed := true, recurses := true, named := ["errors.errorType"], apart := false, laid := [("errors.errorType", laid_errors_errorType)], narrowed := true }
def AllocFindsUptoSaid : Prop := allocFindsUptoRow.holds Tryd.pinned (OpenSpec.upto allocFindsSpec)

/-- 'distafflaw03.AllocTells', WHERE WHAT IT READS IS OF BULK AT MOST 1048576: true; the input reads as it did. -/
def allocTellsUptoRow : OpenClaim := { program := "ytlmjogfjhngcoaadoor", sum := "bc83a5ee7e9aa4abd79189b998ba63e1649b7d819032f92709f75cf5db7a6438", func := "distaff/distafflaw03.AllocTells", spec := "allocTells", inPlace := ["internal/reflectlite.TypeOf", "internal/reflectlite.ValueOf", "(internal/reflectlite.Value).Type", "(internal/reflectlite.Value).IsNil", "(internal/reflectlite.Value).Elem", "(internal/reflectlite.Value).Set"], unfollowed := true, recurses := true, named := ["errors.errorType"], apart := false, laid := [("errors.errorType", laid_errors_errorType)], narrowed := true }
def AllocTellsUptoSaid : Prop := allocTellsUptoRow.holds Tryd.pinned (OpenSpec.upto allocTellsSpec)

/-- 'distafflaw03.AllocNews', WHERE WHAT IT READS IS OF BULK AT MOST 1048576: true; the input reads as it did. -/
def allocNewsUptoRow : OpenClaim := { program := "ytlmjogfjhngcoaadoor", sum := "bc83a5ee7e9aa4abd79189b998ba63e1649b7d819032f92709f75cf5db7a6438", func := "distaff/distafflaw03.AllocNews", spec := "allocNews", inPlace := ["internal/reflectlite.TypeOf", "internal/reflectlite.ValueOf", "(internal/reflectlite.Value).Type", "(internal/reflectlite.Value).IsNil", "(internal/reflectlite.Value).Elem", "(internal/reflectlite.Value).Set"], unfollowed := true, recurses := true, named := ["errors.errorType"], apart := false, laid := [("errors.errorType", laid_errors_errorType)], narrowed := true }
def AllocNewsUptoSaid : Prop := allocNewsUptoRow.holds Tryd.pinned (OpenSpec.upto allocNewsSpec)

/-- 'distafflaw03.AllocApart', WHERE WHAT IT READS IS OF BULK AT MOST 1048576: true; the input reads as it did. -/
def allocApartUptoRow : OpenClaim := { program := "ytlmjogfjhngcoaadoor", sum := "bc83a5ee7e9aa4abd79189b998ba63e1649b7d819032f92709f75cf5db7a6438", func := "distaff/distafflaw03.AllocApart", spec := "allocApart", inPlace := ["internal/reflectlite.TypeOf", "internal/reflectlite.ValueOf", "(internal/reflectlite.Value).Type", "(internal/reflectlite.Value).IsNil", "(internal/reflectlite.Value).Elem", "(internal/reflectlite.Value).Set"], unfollowed := true, recurses := true, named := ["errors.errorType"], apart := false, laid := [("errors.errorType", laid_errors_errorType)], narrowed := true }
def AllocApartUptoSaid : Prop := allocApartUptoRow.holds Tryd.pinned (OpenSpec.upto allocApartSpec)

/-- 'distafflaw03.AllocFills', WHERE WHAT IT READS IS OF BULK AT MOST 1048576: true; the input reads as it did. -/
def allocFillsUptoRow : OpenClaim := { program := "ytlmjogfjhngcoaadoor", sum := "bc83a5ee7e9aa4abd79189b998ba63e1649b7d819032f92709f75cf5db7a6438", func := "distaff/distafflaw03.AllocFills", spec := "allocFills", inPlace := ["internal/reflectlite.TypeOf", "internal/reflectlite.ValueOf", "(internal/reflectlite.Value).Type", "(internal/reflectlite.Value).IsNil", "(internal/reflectlite.Value).Elem", "(internal/reflectlite.Value).Set"], unfollowed := true, recurses := true, named := ["errors.errorType"], apart := false, laid := [("errors.errorType", laid_errors_errorType)], narrowed := true }
def AllocFillsUptoSaid : Prop := allocFillsUptoRow.holds Tryd.pinned (OpenSpec.upto allocFillsSpec)

/-- 'distafflaw03.AllocPlays', WHERE WHAT IT READS IS OF BULK AT MOST 1048576: true; the input reads as it did. -/
def allocPlaysUptoRow : OpenClaim := { program := "ytlmjogfjhngcoaadoor", sum := "bc83a5ee7e9aa4abd79189b998ba63e1649b7d819032f92709f75cf5db7a6438", func := "distaff/distafflaw03.AllocPlays", spec := "allocPlays", inPlace := ["internal/reflectlite.TypeOf", "internal/reflectlite.ValueOf", "(internal/reflectlite.Value).Type", "(internal/reflectlite.Value).IsNil", "(internal/reflectlite.Value).Elem", "(internal/reflectlite.Value).Set"], unfollowed := true, recurses := true, named := ["errors.errorType"], apart := false, laid := [("errors.errorType", laid_errors_errorType)], narrowed := true }
def AllocPlaysUptoSaid : Prop := allocPlaysUptoRow.holds Tryd.pinned (OpenSpec.upto allocPlaysSpec)

/-- 'distafflaw03.AllocBack', WHERE WHAT IT READS IS OF BULK AT MOST 1048576: true; the input reads as it did. -/
def allocBackUptoRow : OpenClaim := { program := "ytlmjogfjhngcoaadoor", sum := "bc83a5ee7e9aa4abd79189b998ba63e1649b7d819032f92709f75cf5db7a6438", func := "distaff/distafflaw03.AllocBack", spec := "allocBack", inPlace := ["internal/reflectlite.TypeOf", "internal/reflectlite.ValueOf", "(internal/reflectlite.Value).Type", "(internal/reflectlite.Value).IsNil", "(internal/reflectlite.Value).Elem", "(internal/reflectlite.Value).Set"], unfollowed := true, recurses := true, named := ["errors.errorType"], apart := false, laid := [("errors.errorType", laid_errors_errorType)], narrowed := true }
def AllocBackUptoSaid : Prop := allocBackUptoRow.holds Tryd.pinned (OpenSpec.upto allocBackSpec)

end Rows
end Go.Proofs.YtlmjogfjhngcoaaDoor
