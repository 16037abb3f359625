/-
  DERIVED. GIVEN WITH THE SEED: THE CARDS: each row of YtfppipbdmjnbcaaDoorRows.lean that lists a variable, with what it lists TIED to the program's text (the seventh form; the later family's looks); each row that meets fmt, with fmt's text TOLD by the authors' own Lean function (tested against real Go, not proved from fmt's source: count such statements apart). THE CARD IS WHAT COUNTS. Prove the row's statement (the work); the ties are given (YtfppipbdmjnbcaaDoorTie.lean); close each card by the builder's one call (the guide's Derived/Test/ToyasCard.lean, 'card_holds'). Laid BY PROGRAM, IN A SANDBOX (cutbox-door.mjs). By AI agents, Wed Nov 11 2026. No macro, syntax, notation, axiom, sorry.
-/
import Derived.Test.YtfppipbdmjnbcaaDoorRows
import GoSem.ClaimSeven
namespace Go.Proofs.YtfppipbdmjnbcaaDoor
namespace Rows

/-- THE TIED CARD OF 'distafflaw02.MemNews'. -/
def memNewsCard : Claim7 := { stood := { row := memNewsRow, standIns := [], harness := (true, "614b0847209dc2b39bb14e1fb7b2a02b81f85fbb34bcb5a1cd1d114fde04d066"), looks := true }, kinds := [], alts := [], laidByText := true, laidKinds := [.handle], laidTests := true, laidLooks := .later }
def MemNewsCardSaid : Prop := Claim7.holds Tryd.pinned (.plain (OpenSpec.ofChange memNewsSpec)) memNewsCard

/-- THE TIED CARD OF 'distafflaw02.MemGone'. -/
def memGoneCard : Claim7 := { stood := { row := memGoneRow, standIns := [], harness := (true, "614b0847209dc2b39bb14e1fb7b2a02b81f85fbb34bcb5a1cd1d114fde04d066"), looks := true }, kinds := [], alts := [], laidByText := true, laidKinds := [.handle], laidTests := true, laidLooks := .later }
def MemGoneCardSaid : Prop := Claim7.holds Tryd.pinned (.plain (OpenSpec.ofChange memGoneSpec)) memGoneCard

/-- THE TIED CARD OF 'distafflaw02.MemPlays'. -/
def memPlaysCard : Claim7 := { stood := { row := memPlaysRow, standIns := [], harness := (true, "614b0847209dc2b39bb14e1fb7b2a02b81f85fbb34bcb5a1cd1d114fde04d066"), looks := true }, kinds := [], alts := [], laidByText := true, laidKinds := [.handle], laidTests := true, laidLooks := .later }
def MemPlaysCardSaid : Prop := Claim7.holds Tryd.pinned (.plain (OpenSpec.ofChange memPlaysSpec)) memPlaysCard

/-- THE TIED CARD OF 'distafflaw02.MemTwo'. -/
def memTwoCard : Claim7 := { stood := { row := memTwoRow, standIns := [], harness := (true, "614b0847209dc2b39bb14e1fb7b2a02b81f85fbb34bcb5a1cd1d114fde04d066"), looks := true }, kinds := [], alts := [], laidByText := true, laidKinds := [.handle], laidTests := true, laidLooks := .later }
def MemTwoCardSaid : Prop := Claim7.holds Tryd.pinned (.plain (OpenSpec.ofChange memTwoSpec)) memTwoCard

/-- THE SECOND FORM's CARD OF 'distafflaw02.MemNews'. -/
def memNewsUptoCard : Claim7 := { stood := { row := memNewsUptoRow, standIns := [], harness := (true, "614b0847209dc2b39bb14e1fb7b2a02b81f85fbb34bcb5a1cd1d114fde04d066"), looks := true }, kinds := [], alts := [], laidByText := true, laidKinds := [.handle], laidTests := true, laidLooks := .later }
def MemNewsUptoCardSaid : Prop := Claim7.holds Tryd.pinned (.plain (OpenSpec.upto memNewsSpec)) memNewsUptoCard

/-- THE SECOND FORM's CARD OF 'distafflaw02.MemGone'. -/
def memGoneUptoCard : Claim7 := { stood := { row := memGoneUptoRow, standIns := [], harness := (true, "614b0847209dc2b39bb14e1fb7b2a02b81f85fbb34bcb5a1cd1d114fde04d066"), looks := true }, kinds := [], alts := [], laidByText := true, laidKinds := [.handle], laidTests := true, laidLooks := .later }
def MemGoneUptoCardSaid : Prop := Claim7.holds Tryd.pinned (.plain (OpenSpec.upto memGoneSpec)) memGoneUptoCard

/-- THE SECOND FORM's CARD OF 'distafflaw02.MemPlays'. -/
def memPlaysUptoCard : Claim7 := { stood := { row := memPlaysUptoRow, standIns := [], harness := (true, "614b0847209dc2b39bb14e1fb7b2a02b81f85fbb34bcb5a1cd1d114fde04d066"), looks := true }, kinds := [], alts := [], laidByText := true, laidKinds := [.handle], laidTests := true, laidLooks := .later }
def MemPlaysUptoCardSaid : Prop := Claim7.holds Tryd.pinned (.plain (OpenSpec.upto memPlaysSpec)) memPlaysUptoCard

/-- THE SECOND FORM's CARD OF 'distafflaw02.MemTwo'. -/
def memTwoUptoCard : Claim7 := { stood := { row := memTwoUptoRow, standIns := [], harness := (true, "614b0847209dc2b39bb14e1fb7b2a02b81f85fbb34bcb5a1cd1d114fde04d066"), looks := true }, kinds := [], alts := [], laidByText := true, laidKinds := [.handle], laidTests := true, laidLooks := .later }
def MemTwoUptoCardSaid : Prop := Claim7.holds Tryd.pinned (.plain (OpenSpec.upto memTwoSpec)) memTwoUptoCard
end Rows
end Go.Proofs.YtfppipbdmjnbcaaDoor
