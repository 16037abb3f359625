/-
  No cell of these rows narrows 'for every input' (looked for: loops, veiled, ifaces, maps, wideKeys, modest, calm, conditions, laid).
  DERIVED. THE GIVEN ROWS OF THIS SEAT. 4 by the template 'for every input the law returns true; each argument reads behind the call as it read before'; 0 by the template 'total and deterministic' (their statements: YtngpcalgjaglmaaTotals.lean).
  GIVEN WITH THE SEED: the statements are not yours to turn. If you find one false, say at which input.
  Laid BY PROGRAM, IN A SANDBOX (cutbox-rows.mjs): the forced cells as the released guide's own fill.sh prints them over the translation 01d4ede416bf2892… (all of the seat's roots in one cut). By AI agents, Wed Nov 11 2026. No macro, syntax, notation, axiom, sorry.
-/
import Derived.Test.YtngpcalgjaglmaaChecked
import GoSem.Claim
import GoSem.ClaimJoined
import GoSem.ClaimMapViews
import Derived.JoinedTies
import Derived.KernelRfl
namespace Go.Proofs.Ytngpcalgjaglmaa
/- THE CELL 'sum', in the pinned program and in every row, IS THE sha256 OF THE DUMP (.gsa) THAT YtngpcalgjaglmaaProg.lean LOADS. Nothing in Lean hashes anything: it is a label: what it is worth is what the hold of that sum in a sandbox is worth. -/
noncomputable def Try.pinned : Pinned := { name := "ytngpcalgjaglmaa", sum := "01d4ede416bf2892d5d10267c2a71968435e666c25e2b22dd76eba745ce81afd", checked := Try.checked }
namespace Rows
def none {H : Type} : Left H := { results := [], args := [] }

/-- 'distafflaw06.VmValues': WHATEVER THE INPUT: true; the input reads as it did. -/
def vmValuesSpec : ChangeSpec := { name := "vmValues", fn := fun _ => fun
  | [d1, d2] => { results := [.lit (.bool true)], args := [d1, d2] }
  | _ => none }
def vmValuesRow : OpenClaim := { program := "ytngpcalgjaglmaa", sum := "01d4ede416bf2892d5d10267c2a71968435e666c25e2b22dd76eba745ce81afd", func := "distaff/distafflaw06.VmValues", spec := "vmValues", unfollowed := true, recurses := true, apart := false }
def VmValuesSaid : Prop := vmValuesRow.holds Try.pinned (OpenSpec.ofChange vmValuesSpec)

/-- ITS FALSE NEIGHBOUR: 'it returns false'. Refute it at one input. -/
def vmValuesWrong : ChangeSpec := { name := "vmValues", fn := fun _ => fun
  | [d1, d2] => { results := [.lit (.bool false)], args := [d1, d2] }
  | _ => none }
def VmValuesWrongFalsely : Prop := vmValuesRow.holds Try.pinned (OpenSpec.ofChange vmValuesWrong)

/-- 'distafflaw06.VmReckons': WHATEVER THE INPUT: true; the input reads as it did. -/
def vmReckonsSpec : ChangeSpec := { name := "vmReckons", fn := fun _ => fun
  | [d1, d2] => { results := [.lit (.bool true)], args := [d1, d2] }
  | _ => none }
def vmReckonsRow : OpenClaim := { program := "ytngpcalgjaglmaa", sum := "01d4ede416bf2892d5d10267c2a71968435e666c25e2b22dd76eba745ce81afd", func := "distaff/distafflaw06.VmReckons", spec := "vmReckons", unfollowed := true, recurses := true, apart := false }
def VmReckonsSaid : Prop := vmReckonsRow.holds Try.pinned (OpenSpec.ofChange vmReckonsSpec)

/-- ITS FALSE NEIGHBOUR: 'it returns false'. Refute it at one input. -/
def vmReckonsWrong : ChangeSpec := { name := "vmReckons", fn := fun _ => fun
  | [d1, d2] => { results := [.lit (.bool false)], args := [d1, d2] }
  | _ => none }
def VmReckonsWrongFalsely : Prop := vmReckonsRow.holds Try.pinned (OpenSpec.ofChange vmReckonsWrong)

/-- 'distafflaw06.VmReturns': WHATEVER THE INPUT: true; the input reads as it did. -/
def vmReturnsSpec : ChangeSpec := { name := "vmReturns", fn := fun _ => fun
  | [d] => { results := [.lit (.bool true)], args := [d] }
  | _ => none }
def vmReturnsRow : OpenClaim := { program := "ytngpcalgjaglmaa", sum := "01d4ede416bf2892d5d10267c2a71968435e666c25e2b22dd76eba745ce81afd", func := "distaff/distafflaw06.VmReturns", spec := "vmReturns", unfollowed := true, recurses := true, apart := false }
def VmReturnsSaid : Prop := vmReturnsRow.holds Try.pinned (OpenSpec.ofChange vmReturnsSpec)

/-- ITS FALSE NEIGHBOUR: 'it returns false'. Refute it at one input. -/
def vmReturnsWrong : ChangeSpec := { name := "vmReturns", fn := fun _ => fun
  | [d] => { results := [.lit (.bool false)], args := [d] }
  | _ => none }
def VmReturnsWrongFalsely : Prop := vmReturnsRow.holds Try.pinned (OpenSpec.ofChange vmReturnsWrong)

/-- 'distafflaw06.VmSums': WHATEVER THE INPUT: true; the input reads as it did. -/
def vmSumsSpec : ChangeSpec := { name := "vmSums", fn := fun _ => fun
  | [d] => { results := [.lit (.bool true)], args := [d] }
  | _ => none }
def vmSumsRow : OpenClaim := { program := "ytngpcalgjaglmaa", sum := "01d4ede416bf2892d5d10267c2a71968435e666c25e2b22dd76eba745ce81afd", func := "distaff/distafflaw06.VmSums", spec := "vmSums", unfollowed := true, recurses := true, apart := false }
def VmSumsSaid : Prop := vmSumsRow.holds Try.pinned (OpenSpec.ofChange vmSumsSpec)

/-- ITS FALSE NEIGHBOUR: 'it returns false'. Refute it at one input. -/
def vmSumsWrong : ChangeSpec := { name := "vmSums", fn := fun _ => fun
  | [d] => { results := [.lit (.bool false)], args := [d] }
  | _ => none }
def VmSumsWrongFalsely : Prop := vmSumsRow.holds Try.pinned (OpenSpec.ofChange vmSumsWrong)

/- THE SECOND FORM. 'bulk': how many values and letters a reading holds, each counted each time it is reached (what is shared counts as often as it is met; a slice's spare places count too). A statement '..UptoSaid' is the law's where the arguments, and the package variables that the reading takes, are together of bulk at most 1048576: NARROWER than '..Said'. Prove '..Said' where nothing that the law and all that it calls make is longer than what came in: it says more and counts as full. Else prove '..UptoSaid'. A law counts once. -/
mutual
def uptoBulk {H : Type} : DataW H → Nat
  | .lit (.string bytes) => bytes.length + 1
  | .lit _ => 1
  | .nil => 1
  | .ptr d => uptoBulk d + 1
  | .slice elems spare => uptoBulkAll elems + uptoBulkAll spare + 1
  | .agg parts => uptoBulkAll parts + 1
  | .iface _ d => uptoBulk d + 1
  | .map entries => uptoBulkEntries entries + 1
  | .held _ => 1
def uptoBulkAll {H : Type} : List (DataW H) → Nat
  | [] => 0
  | d :: r => uptoBulk d + uptoBulkAll r
def uptoBulkEntries {H : Type} : List (Lit × DataW H) → Nat
  | [] => 0
  | x :: r => uptoBulkEntry x + uptoBulkEntries r
def uptoBulkEntry {H : Type} : Lit × DataW H → Nat
  | (.string bytes, d) => bytes.length + uptoBulk d + 1
  | (_, d) => uptoBulk d + 1
 end
def uptoSmall : (H : Type) → List (DataW H) → Bool := fun _ ds => decide (uptoBulkAll ds ≤ 1048576)
def OpenSpec.upto (s : _root_.Go.ChangeSpec) : _root_.Go.OpenSpec := { _root_.Go.OpenSpec.ofChange s with cond := some uptoSmall }

/-- 'distafflaw06.VmValues', WHERE WHAT IT READS IS OF BULK AT MOST 1048576: true; the input reads as it did. -/
def vmValuesUptoRow : OpenClaim := { program := "ytngpcalgjaglmaa", sum := "01d4ede416bf2892d5d10267c2a71968435e666c25e2b22dd76eba745ce81afd", func := "distaff/distafflaw06.VmValues", spec := "vmValues", unfollowed := true, recurses := true, apart := false, narrowed := true }
def VmValuesUptoSaid : Prop := vmValuesUptoRow.holds Try.pinned (OpenSpec.upto vmValuesSpec)

/-- 'distafflaw06.VmReckons', WHERE WHAT IT READS IS OF BULK AT MOST 1048576: true; the input reads as it did. -/
def vmReckonsUptoRow : OpenClaim := { program := "ytngpcalgjaglmaa", sum := "01d4ede416bf2892d5d10267c2a71968435e666c25e2b22dd76eba745ce81afd", func := "distaff/distafflaw06.VmReckons", spec := "vmReckons", unfollowed := true, recurses := true, apart := false, narrowed := true }
def VmReckonsUptoSaid : Prop := vmReckonsUptoRow.holds Try.pinned (OpenSpec.upto vmReckonsSpec)

/-- 'distafflaw06.VmReturns', WHERE WHAT IT READS IS OF BULK AT MOST 1048576: true; the input reads as it did. -/
def vmReturnsUptoRow : OpenClaim := { program := "ytngpcalgjaglmaa", sum := "01d4ede416bf2892d5d10267c2a71968435e666c25e2b22dd76eba745ce81afd", func := "distaff/distafflaw06.VmReturns", spec := "vmReturns", unfollowed := true, recurses := true, apart := false, narrowed := true }
def VmReturnsUptoSaid : Prop := vmReturnsUptoRow.holds Try.pinned (OpenSpec.upto vmReturnsSpec)

/-- 'distafflaw06.VmSums', WHERE WHAT IT READS IS OF BULK AT MOST 1048576: true; the input reads as it did. -/
def vmSumsUptoRow : OpenClaim := { program := "ytngpcalgjaglmaa", sum := "01d4ede416bf2892d5d10267c2a71968435e666c25e2b22dd76eba745ce81afd", func := "distaff/distafflaw06.VmSums", spec := "vmSums", unfollowed := true, recurses := true, apart := false, narrowed := true }
def VmSumsUptoSaid : Prop := vmSumsUptoRow.holds Try.pinned (OpenSpec.upto vmSumsSpec)

end Rows
end Go.Proofs.Ytngpcalgjaglmaa
