/-
  DERIVED. GIVEN WITH THE SEED: THE CARDS: each row of YteeckkkbmlkkiaaDoorRows.lean that lists a variable, with what it lists TIED to the program's text (the seventh form; the later family's looks); each row that meets fmt, with fmt's text TOLD by the authors' own Lean function (tested against real Go, not proved from fmt's source: count such statements apart). THE CARD IS WHAT COUNTS. Prove the row's statement (the work); the ties are given (YteeckkkbmlkkiaaDoorTie.lean); close each card by the builder's one call (the guide's Derived/Test/ToyasCard.lean, 'card_holds'). Laid BY PROGRAM, IN A SANDBOX (cutbox-door.mjs). By AI agents, Wed Nov 11 2026. No macro, syntax, notation, axiom, sorry.
-/
import Derived.Test.YteeckkkbmlkkiaaDoorRows
import GoSem.ClaimSeven
namespace Go.Proofs.YteeckkkbmlkkiaaDoor
namespace Rows

/-- THE TIED CARD OF 'distafflaw10.WaitqNews'. -/
def waitqNewsCard : Claim7 := { stood := { row := waitqNewsRow, standIns := [], harness := (true, "0268091b5b17b9615851f4ef6178f6d29b66ca4d555be0f7c01bdbdd0567ce05"), looks := true }, kinds := [], alts := [], laidByText := true, laidKinds := [.handle], laidTests := true, laidLooks := .later }
def WaitqNewsCardSaid : Prop := Claim7.holds Tryd.pinned (.plain (OpenSpec.ofChange waitqNewsSpec)) waitqNewsCard

/-- THE TIED CARD OF 'distafflaw10.WaitqOnce'. -/
def waitqOnceCard : Claim7 := { stood := { row := waitqOnceRow, standIns := [], harness := (true, "0268091b5b17b9615851f4ef6178f6d29b66ca4d555be0f7c01bdbdd0567ce05"), looks := true }, kinds := [], alts := [], laidByText := true, laidKinds := [.handle], laidTests := true, laidLooks := .later }
def WaitqOnceCardSaid : Prop := Claim7.holds Tryd.pinned (.plain (OpenSpec.ofChange waitqOnceSpec)) waitqOnceCard

/-- THE TIED CARD OF 'distafflaw10.WaitqPlays'. -/
def waitqPlaysCard : Claim7 := { stood := { row := waitqPlaysRow, standIns := [], harness := (true, "0268091b5b17b9615851f4ef6178f6d29b66ca4d555be0f7c01bdbdd0567ce05"), looks := true }, kinds := [], alts := [], laidByText := true, laidKinds := [.handle], laidTests := true, laidLooks := .later }
def WaitqPlaysCardSaid : Prop := Claim7.holds Tryd.pinned (.plain (OpenSpec.ofChange waitqPlaysSpec)) waitqPlaysCard

/-- THE SECOND FORM's CARD OF 'distafflaw10.WaitqNews'. -/
def waitqNewsUptoCard : Claim7 := { stood := { row := waitqNewsUptoRow, standIns := [], harness := (true, "0268091b5b17b9615851f4ef6178f6d29b66ca4d555be0f7c01bdbdd0567ce05"), looks := true }, kinds := [], alts := [], laidByText := true, laidKinds := [.handle], laidTests := true, laidLooks := .later }
def WaitqNewsUptoCardSaid : Prop := Claim7.holds Tryd.pinned (.plain (OpenSpec.upto waitqNewsSpec)) waitqNewsUptoCard

/-- THE SECOND FORM's CARD OF 'distafflaw10.WaitqOnce'. -/
def waitqOnceUptoCard : Claim7 := { stood := { row := waitqOnceUptoRow, standIns := [], harness := (true, "0268091b5b17b9615851f4ef6178f6d29b66ca4d555be0f7c01bdbdd0567ce05"), looks := true }, kinds := [], alts := [], laidByText := true, laidKinds := [.handle], laidTests := true, laidLooks := .later }
def WaitqOnceUptoCardSaid : Prop := Claim7.holds Tryd.pinned (.plain (OpenSpec.upto waitqOnceSpec)) waitqOnceUptoCard

/-- THE SECOND FORM's CARD OF 'distafflaw10.WaitqPlays'. -/
def waitqPlaysUptoCard : Claim7 := { stood := { row := waitqPlaysUptoRow, standIns := [], harness := (true, "0268091b5b17b9615851f4ef6178f6d29b66ca4d555be0f7c01bdbdd0567ce05"), looks := true }, kinds := [], alts := [], laidByText := true, laidKinds := [.handle], laidTests := true, laidLooks := .later }
def WaitqPlaysUptoCardSaid : Prop := Claim7.holds Tryd.pinned (.plain (OpenSpec.upto waitqPlaysSpec)) waitqPlaysUptoCard
end Rows
end Go.Proofs.YteeckkkbmlkkiaaDoor
