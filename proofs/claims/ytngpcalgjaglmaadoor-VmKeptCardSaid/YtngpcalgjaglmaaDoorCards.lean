/-
  DERIVED. GIVEN WITH THE SEED: THE CARDS: each row of YtngpcalgjaglmaaDoorRows.lean that lists a variable, with what it lists TIED to the program's text (the seventh form; the later family's looks); each row that meets fmt, with fmt's text TOLD by the authors' own Lean function (tested against real Go, not proved from fmt's source: count such statements apart). THE CARD IS WHAT COUNTS. Prove the row's statement (the work); the ties are given (YtngpcalgjaglmaaDoorTie.lean); close each card by the builder's one call (the guide's Derived/Test/ToyasCard.lean, 'card_holds'). Laid BY PROGRAM, IN A SANDBOX (cutbox-door.mjs). By AI agents, Wed Nov 11 2026. No macro, syntax, notation, axiom, sorry.
-/
import Derived.Test.YtngpcalgjaglmaaDoorRows
import GoSem.ClaimSeven
namespace Go.Proofs.YtngpcalgjaglmaaDoor
namespace Rows

/-- THE TIED CARD OF 'distafflaw06.VmRuns'. -/
def vmRunsCard : Claim7 := { stood := { row := vmRunsRow, standIns := [], harness := (true, "692608666ff8307751fe62d69a85fb96520b30e05101e9b70796a9cce51ec1a3"), looks := true }, kinds := [], alts := [], laidByText := true, laidKinds := [.handle], laidTests := true, laidLooks := .later }
def VmRunsCardSaid : Prop := Claim7.holds Tryd.pinned (.plain (OpenSpec.ofChange vmRunsSpec)) vmRunsCard

/-- THE TIED CARD OF 'distafflaw06.VmKept'. -/
def vmKeptCard : Claim7 := { stood := { row := vmKeptRow, standIns := [], harness := (true, "692608666ff8307751fe62d69a85fb96520b30e05101e9b70796a9cce51ec1a3"), looks := true }, kinds := [], alts := [], laidByText := true, laidKinds := [.handle], laidTests := true, laidLooks := .later }
def VmKeptCardSaid : Prop := Claim7.holds Tryd.pinned (.plain (OpenSpec.ofChange vmKeptSpec)) vmKeptCard

/-- THE SECOND FORM's CARD OF 'distafflaw06.VmRuns'. -/
def vmRunsUptoCard : Claim7 := { stood := { row := vmRunsUptoRow, standIns := [], harness := (true, "692608666ff8307751fe62d69a85fb96520b30e05101e9b70796a9cce51ec1a3"), looks := true }, kinds := [], alts := [], laidByText := true, laidKinds := [.handle], laidTests := true, laidLooks := .later }
def VmRunsUptoCardSaid : Prop := Claim7.holds Tryd.pinned (.plain (OpenSpec.upto vmRunsSpec)) vmRunsUptoCard

/-- THE SECOND FORM's CARD OF 'distafflaw06.VmKept'. -/
def vmKeptUptoCard : Claim7 := { stood := { row := vmKeptUptoRow, standIns := [], harness := (true, "692608666ff8307751fe62d69a85fb96520b30e05101e9b70796a9cce51ec1a3"), looks := true }, kinds := [], alts := [], laidByText := true, laidKinds := [.handle], laidTests := true, laidLooks := .later }
def VmKeptUptoCardSaid : Prop := Claim7.holds Tryd.pinned (.plain (OpenSpec.upto vmKeptSpec)) vmKeptUptoCard
end Rows
end Go.Proofs.YtngpcalgjaglmaaDoor
