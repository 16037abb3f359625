/-
  DERIVED. GIVEN WITH THE SEED: THE CARDS: each row of YtnnilcadmakamaaDoorRows.lean that lists a variable, with what it lists TIED to the program's text (the seventh form; the later family's looks); each row that meets fmt, with fmt's text TOLD by the authors' own Lean function (tested against real Go, not proved from fmt's source: count such statements apart). THE CARD IS WHAT COUNTS. Prove the row's statement (the work); the ties are given (YtnnilcadmakamaaDoorTie.lean); close each card by the builder's one call (the guide's Derived/Test/ToyasCard.lean, 'card_holds'). Laid BY PROGRAM, IN A SANDBOX (cutbox-door.mjs). By AI agents, Wed Nov 11 2026. No macro, syntax, notation, axiom, sorry.
-/
import Derived.Test.YtnnilcadmakamaaDoorRows
import GoSem.ClaimSeven
namespace Go.Proofs.YtnnilcadmakamaaDoor
namespace Rows

/-- THE TIED CARD OF 'distafflaw01.WordPrints'. -/
def wordPrintsCard : Claim7 := { stood := { row := wordPrintsRow, standIns := [], harness := (true, "c70bcaa5880396b494b0f4150d21507a5d423f06d1b5a735c278a893e5e491eb"), looks := true }, kinds := [], alts := [], laidByText := true, laidKinds := [.handle], laidTests := true, laidLooks := .later }
def WordPrintsCardSaid : Prop := Claim7.holds Tryd.pinned (.plain (OpenSpec.ofChange wordPrintsSpec)) wordPrintsCard

/-- THE TIED CARD OF 'distafflaw01.WordReads'. -/
def wordReadsCard : Claim7 := { stood := { row := wordReadsRow, standIns := [], harness := (true, "c70bcaa5880396b494b0f4150d21507a5d423f06d1b5a735c278a893e5e491eb"), looks := true }, kinds := [], alts := [], laidByText := true, laidKinds := [.handle], laidTests := true, laidLooks := .later }
def WordReadsCardSaid : Prop := Claim7.holds Tryd.pinned (.plain (OpenSpec.ofChange wordReadsSpec)) wordReadsCard

/-- THE TIED CARD OF 'distafflaw01.WordBack'. -/
def wordBackCard : Claim7 := { stood := { row := wordBackRow, standIns := [], harness := (true, "c70bcaa5880396b494b0f4150d21507a5d423f06d1b5a735c278a893e5e491eb"), looks := true }, kinds := [], alts := [], laidByText := true, laidKinds := [.handle], laidTests := true, laidLooks := .later }
def WordBackCardSaid : Prop := Claim7.holds Tryd.pinned (.plain (OpenSpec.ofChange wordBackSpec)) wordBackCard

/-- THE TIED CARD OF 'distafflaw01.WordHex'. -/
def wordHexCard : Claim7 := { stood := { row := wordHexRow, standIns := [], harness := (true, "c70bcaa5880396b494b0f4150d21507a5d423f06d1b5a735c278a893e5e491eb"), looks := true }, kinds := [], alts := [], laidByText := true, laidKinds := [.handle], laidTests := true, laidLooks := .later }
def WordHexCardSaid : Prop := Claim7.holds Tryd.pinned (.plain (OpenSpec.ofChange wordHexSpec)) wordHexCard

/-- THE TIED CARD OF 'distafflaw01.WordRings'. -/
def wordRingsCard : Claim7 := { stood := { row := wordRingsRow, standIns := [], harness := (true, "c70bcaa5880396b494b0f4150d21507a5d423f06d1b5a735c278a893e5e491eb"), looks := true }, kinds := [], alts := [], laidByText := true, laidKinds := [.handle], laidTests := true, laidLooks := .later }
def WordRingsCardSaid : Prop := Claim7.holds Tryd.pinned (.plain (OpenSpec.ofChange wordRingsSpec)) wordRingsCard

/-- THE TIED CARD OF 'distafflaw01.WordCuts'. -/
def wordCutsCard : Claim7 := { stood := { row := wordCutsRow, standIns := [], harness := (true, "c70bcaa5880396b494b0f4150d21507a5d423f06d1b5a735c278a893e5e491eb"), looks := true }, kinds := [], alts := [], laidByText := true, laidKinds := [.handle], laidTests := true, laidLooks := .later }
def WordCutsCardSaid : Prop := Claim7.holds Tryd.pinned (.plain (OpenSpec.ofChange wordCutsSpec)) wordCutsCard

/-- THE TIED CARD OF 'distafflaw01.WordBuckets'. -/
def wordBucketsCard : Claim7 := { stood := { row := wordBucketsRow, standIns := [], harness := (true, "c70bcaa5880396b494b0f4150d21507a5d423f06d1b5a735c278a893e5e491eb"), looks := true }, kinds := [], alts := [], laidByText := true, laidKinds := [.handle], laidTests := true, laidLooks := .later }
def WordBucketsCardSaid : Prop := Claim7.holds Tryd.pinned (.plain (OpenSpec.ofChange wordBucketsSpec)) wordBucketsCard

/-- THE SECOND FORM's CARD OF 'distafflaw01.WordPrints'. -/
def wordPrintsUptoCard : Claim7 := { stood := { row := wordPrintsUptoRow, standIns := [], harness := (true, "c70bcaa5880396b494b0f4150d21507a5d423f06d1b5a735c278a893e5e491eb"), looks := true }, kinds := [], alts := [], laidByText := true, laidKinds := [.handle], laidTests := true, laidLooks := .later }
def WordPrintsUptoCardSaid : Prop := Claim7.holds Tryd.pinned (.plain (OpenSpec.upto wordPrintsSpec)) wordPrintsUptoCard

/-- THE SECOND FORM's CARD OF 'distafflaw01.WordReads'. -/
def wordReadsUptoCard : Claim7 := { stood := { row := wordReadsUptoRow, standIns := [], harness := (true, "c70bcaa5880396b494b0f4150d21507a5d423f06d1b5a735c278a893e5e491eb"), looks := true }, kinds := [], alts := [], laidByText := true, laidKinds := [.handle], laidTests := true, laidLooks := .later }
def WordReadsUptoCardSaid : Prop := Claim7.holds Tryd.pinned (.plain (OpenSpec.upto wordReadsSpec)) wordReadsUptoCard

/-- THE SECOND FORM's CARD OF 'distafflaw01.WordBack'. -/
def wordBackUptoCard : Claim7 := { stood := { row := wordBackUptoRow, standIns := [], harness := (true, "c70bcaa5880396b494b0f4150d21507a5d423f06d1b5a735c278a893e5e491eb"), looks := true }, kinds := [], alts := [], laidByText := true, laidKinds := [.handle], laidTests := true, laidLooks := .later }
def WordBackUptoCardSaid : Prop := Claim7.holds Tryd.pinned (.plain (OpenSpec.upto wordBackSpec)) wordBackUptoCard

/-- THE SECOND FORM's CARD OF 'distafflaw01.WordHex'. -/
def wordHexUptoCard : Claim7 := { stood := { row := wordHexUptoRow, standIns := [], harness := (true, "c70bcaa5880396b494b0f4150d21507a5d423f06d1b5a735c278a893e5e491eb"), looks := true }, kinds := [], alts := [], laidByText := true, laidKinds := [.handle], laidTests := true, laidLooks := .later }
def WordHexUptoCardSaid : Prop := Claim7.holds Tryd.pinned (.plain (OpenSpec.upto wordHexSpec)) wordHexUptoCard

/-- THE SECOND FORM's CARD OF 'distafflaw01.WordRings'. -/
def wordRingsUptoCard : Claim7 := { stood := { row := wordRingsUptoRow, standIns := [], harness := (true, "c70bcaa5880396b494b0f4150d21507a5d423f06d1b5a735c278a893e5e491eb"), looks := true }, kinds := [], alts := [], laidByText := true, laidKinds := [.handle], laidTests := true, laidLooks := .later }
def WordRingsUptoCardSaid : Prop := Claim7.holds Tryd.pinned (.plain (OpenSpec.upto wordRingsSpec)) wordRingsUptoCard

/-- THE SECOND FORM's CARD OF 'distafflaw01.WordCuts'. -/
def wordCutsUptoCard : Claim7 := { stood := { row := wordCutsUptoRow, standIns := [], harness := (true, "c70bcaa5880396b494b0f4150d21507a5d423f06d1b5a735c278a893e5e491eb"), looks := true }, kinds := [], alts := [], laidByText := true, laidKinds := [.handle], laidTests := true, laidLooks := .later }
def WordCutsUptoCardSaid : Prop := Claim7.holds Tryd.pinned (.plain (OpenSpec.upto wordCutsSpec)) wordCutsUptoCard

/-- THE SECOND FORM's CARD OF 'distafflaw01.WordBuckets'. -/
def wordBucketsUptoCard : Claim7 := { stood := { row := wordBucketsUptoRow, standIns := [], harness := (true, "c70bcaa5880396b494b0f4150d21507a5d423f06d1b5a735c278a893e5e491eb"), looks := true }, kinds := [], alts := [], laidByText := true, laidKinds := [.handle], laidTests := true, laidLooks := .later }
def WordBucketsUptoCardSaid : Prop := Claim7.holds Tryd.pinned (.plain (OpenSpec.upto wordBucketsSpec)) wordBucketsUptoCard
end Rows
end Go.Proofs.YtnnilcadmakamaaDoor
