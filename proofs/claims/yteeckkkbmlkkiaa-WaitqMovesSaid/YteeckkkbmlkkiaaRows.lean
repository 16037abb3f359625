/-
  No cell of these rows narrows 'for every input' (looked for: loops, veiled, ifaces, maps, wideKeys, modest, calm, conditions, laid).
  DERIVED. THE GIVEN ROWS OF THIS SEAT. 3 by the template 'for every input the law returns true; each argument reads behind the call as it read before'; 0 by the template 'total and deterministic' (their statements: YteeckkkbmlkkiaaTotals.lean).
  GIVEN WITH THE SEED: the statements are not yours to turn. If you find one false, say at which input.
  Laid BY PROGRAM, IN A SANDBOX (cutbox-rows.mjs): the forced cells as the released guide's own fill.sh prints them over the translation ce9854347a3562fc… (all of the seat's roots in one cut). By AI agents, Wed Nov 11 2026. No macro, syntax, notation, axiom, sorry.
-/
import Derived.Test.YteeckkkbmlkkiaaChecked
import GoSem.Claim
import GoSem.ClaimJoined
import GoSem.ClaimMapViews
import Derived.JoinedTies
import Derived.KernelRfl
namespace Go.Proofs.Yteeckkkbmlkkiaa
/- THE CELL 'sum', in the pinned program and in every row, IS THE sha256 OF THE DUMP (.gsa) THAT YteeckkkbmlkkiaaProg.lean LOADS. Nothing in Lean hashes anything: it is a label: what it is worth is what the hold of that sum in a sandbox is worth. -/
noncomputable def Try.pinned : Pinned := { name := "yteeckkkbmlkkiaa", sum := "ce9854347a3562fcf03c8a078a00682c33d11a1ae1f35b7f41bd3784ee4ed631", checked := Try.checked }
namespace Rows
def none {H : Type} : Left H := { results := [], args := [] }

/-- 'distafflaw10.WaitqMasks': WHATEVER THE INPUT: true; the input reads as it did. -/
def waitqMasksSpec : ChangeSpec := { name := "waitqMasks", fn := fun _ => fun
  | [d1, d2] => { results := [.lit (.bool true)], args := [d1, d2] }
  | _ => none }
def waitqMasksRow : OpenClaim := { program := "yteeckkkbmlkkiaa", sum := "ce9854347a3562fcf03c8a078a00682c33d11a1ae1f35b7f41bd3784ee4ed631", func := "distaff/distafflaw10.WaitqMasks", spec := "waitqMasks", apart := false }
def WaitqMasksSaid : Prop := waitqMasksRow.holds Try.pinned (OpenSpec.ofChange waitqMasksSpec)

/-- ITS FALSE NEIGHBOUR: 'it returns false'. Refute it at one input. -/
def waitqMasksWrong : ChangeSpec := { name := "waitqMasks", fn := fun _ => fun
  | [d1, d2] => { results := [.lit (.bool false)], args := [d1, d2] }
  | _ => none }
def WaitqMasksWrongFalsely : Prop := waitqMasksRow.holds Try.pinned (OpenSpec.ofChange waitqMasksWrong)

/-- 'distafflaw10.WaitqOrder': WHATEVER THE INPUT: true; the input reads as it did. -/
def waitqOrderSpec : ChangeSpec := { name := "waitqOrder", fn := fun _ => fun
  | [d1, d2] => { results := [.lit (.bool true)], args := [d1, d2] }
  | _ => none }
def waitqOrderRow : OpenClaim := { program := "yteeckkkbmlkkiaa", sum := "ce9854347a3562fcf03c8a078a00682c33d11a1ae1f35b7f41bd3784ee4ed631", func := "distaff/distafflaw10.WaitqOrder", spec := "waitqOrder", apart := false }
def WaitqOrderSaid : Prop := waitqOrderRow.holds Try.pinned (OpenSpec.ofChange waitqOrderSpec)

/-- ITS FALSE NEIGHBOUR: 'it returns false'. Refute it at one input. -/
def waitqOrderWrong : ChangeSpec := { name := "waitqOrder", fn := fun _ => fun
  | [d1, d2] => { results := [.lit (.bool false)], args := [d1, d2] }
  | _ => none }
def WaitqOrderWrongFalsely : Prop := waitqOrderRow.holds Try.pinned (OpenSpec.ofChange waitqOrderWrong)

/-- 'distafflaw10.WaitqMoves': WHATEVER THE INPUT: true; the input reads as it did. -/
def waitqMovesSpec : ChangeSpec := { name := "waitqMoves", fn := fun _ => fun
  | [d1, d2, d3] => { results := [.lit (.bool true)], args := [d1, d2, d3] }
  | _ => none }
def waitqMovesRow : OpenClaim := { program := "yteeckkkbmlkkiaa", sum := "ce9854347a3562fcf03c8a078a00682c33d11a1ae1f35b7f41bd3784ee4ed631", func := "distaff/distafflaw10.WaitqMoves", spec := "waitqMoves", apart := false }
def WaitqMovesSaid : Prop := waitqMovesRow.holds Try.pinned (OpenSpec.ofChange waitqMovesSpec)

/-- ITS FALSE NEIGHBOUR: 'it returns false'. Refute it at one input. -/
def waitqMovesWrong : ChangeSpec := { name := "waitqMoves", fn := fun _ => fun
  | [d1, d2, d3] => { results := [.lit (.bool false)], args := [d1, d2, d3] }
  | _ => none }
def WaitqMovesWrongFalsely : Prop := waitqMovesRow.holds Try.pinned (OpenSpec.ofChange waitqMovesWrong)

/- THE SECOND FORM. 'bulk': how many values and letters a reading holds, each counted each time it is reached (what is shared counts as often as it is met; a slice's spare places count too). A statement '..UptoSaid' is the law's where the arguments, and the package variables that the reading takes, are together of bulk at most 1048576: NARROWER than '..Said'. Prove '..Said' where nothing that the law and all that it calls make is longer than what came in: it says more and counts as full. Else prove '..UptoSaid'. A law counts once. -/
mutual
def uptoBulk {H : Type} : DataW H → Nat
  | .lit (.string bytes) => bytes.length + 1
  | .lit _ => 1
  | .nil => 1
  | .ptr d => uptoBulk d + 1
  | .slice elems spare => uptoBulkAll elems + uptoBulkAll spare + 1
  | .agg parts => uptoBulkAll parts + 1
  | .iface _ d => uptoBulk d + 1
  | .map entries => uptoBulkEntries entries + 1
  | .held _ => 1
def uptoBulkAll {H : Type} : List (DataW H) → Nat
  | [] => 0
  | d :: r => uptoBulk d + uptoBulkAll r
def uptoBulkEntries {H : Type} : List (Lit × DataW H) → Nat
  | [] => 0
  | x :: r => uptoBulkEntry x + uptoBulkEntries r
def uptoBulkEntry {H : Type} : Lit × DataW H → Nat
  | (.string bytes, d) => bytes.length + uptoBulk d + 1
  | (_, d) => uptoBulk d + 1
 end
def uptoSmall : (H : Type) → List (DataW H) → Bool := fun _ ds => decide (uptoBulkAll ds ≤ 1048576)
def OpenSpec.upto (s : _root_.Go.ChangeSpec) : _root_.Go.OpenSpec := { _root_.Go.OpenSpec.ofChange s with cond := some uptoSmall }

/-- 'distafflaw10.WaitqMasks', WHERE WHAT IT READS IS OF BULK AT MOST 1048576: true; the input reads as it did. -/
def waitqMasksUptoRow : OpenClaim := { program := "yteeckkkbmlkkiaa", sum := "ce9854347a3562fcf03c8a078a00682c33d11a1ae1f35b7f41bd3784ee4ed631", func := "distaff/distafflaw10.WaitqMasks", spec := "waitqMasks", apart := false, narrowed := true }
def WaitqMasksUptoSaid : Prop := waitqMasksUptoRow.holds Try.pinned (OpenSpec.upto waitqMasksSpec)

/-- 'distafflaw10.WaitqOrder', WHERE WHAT IT READS IS OF BULK AT MOST 1048576: true; the input reads as it did. -/
def waitqOrderUptoRow : OpenClaim := { program := "yteeckkkbmlkkiaa", sum := "ce9854347a3562fcf03c8a078a00682c33d11a1ae1f35b7f41bd3784ee4ed631", func := "distaff/distafflaw10.WaitqOrder", spec := "waitqOrder", apart := false, narrowed := true }
def WaitqOrderUptoSaid : Prop := waitqOrderUptoRow.holds Try.pinned (OpenSpec.upto waitqOrderSpec)

/-- 'distafflaw10.WaitqMoves', WHERE WHAT IT READS IS OF BULK AT MOST 1048576: true; the input reads as it did. -/
def waitqMovesUptoRow : OpenClaim := { program := "yteeckkkbmlkkiaa", sum := "ce9854347a3562fcf03c8a078a00682c33d11a1ae1f35b7f41bd3784ee4ed631", func := "distaff/distafflaw10.WaitqMoves", spec := "waitqMoves", apart := false, narrowed := true }
def WaitqMovesUptoSaid : Prop := waitqMovesUptoRow.holds Try.pinned (OpenSpec.upto waitqMovesSpec)

end Rows
end Go.Proofs.Yteeckkkbmlkkiaa
