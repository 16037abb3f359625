/-
  DERIVED. GIVEN WITH THE SEED: THE CARDS: each row of YtlmjogfjhngcoaaDoorRows.lean that lists a variable, with what it lists TIED to the program's text (the seventh form; the later family's looks); each row that meets fmt, with fmt's text TOLD by the authors' own Lean function (tested against real Go, not proved from fmt's source: count such statements apart). THE CARD IS WHAT COUNTS. Prove the row's statement (the work); the ties are given (YtlmjogfjhngcoaaDoorTie.lean); close each card by the builder's one call (the guide's Derived/Test/ToyasCard.lean, 'card_holds'). Laid BY PROGRAM, IN A SANDBOX (cutbox-door.mjs). By AI agents, Wed Nov 11 2026. No macro, syntax, notation, axiom, sorry.
-/
import Derived.Test.YtlmjogfjhngcoaaDoorRows
import GoSem.ClaimSeven
namespace Go.Proofs.YtlmjogfjhngcoaaDoor
namespace Rows

/-- THE TIED CARD OF 'distafflaw03.AllocFinds'. -/
def allocFindsCard : Claim7 := { stood := { row := allocFindsRow, standIns := [], harness := (true, "6325be13e553def0310e710fd5dc67857926301bd0a22b5bf36f5e56e72b49da"), looks := true }, kinds := [], alts := [], laidByText := true, laidKinds := [.handle], laidTests := true, laidLooks := .later }
def AllocFindsCardSaid : Prop := Claim7.holds Tryd.pinned (.plain (OpenSpec.ofChange allocFindsSpec)) allocFindsCard

/-- THE TIED CARD OF 'distafflaw03.AllocTells'. -/
def allocTellsCard : Claim7 := { stood := { row := allocTellsRow, standIns := [], harness := (true, "6325be13e553def0310e710fd5dc67857926301bd0a22b5bf36f5e56e72b49da"), looks := true }, kinds := [], alts := [], laidByText := true, laidKinds := [.handle], laidTests := true, laidLooks := .later }
def AllocTellsCardSaid : Prop := Claim7.holds Tryd.pinned (.plain (OpenSpec.ofChange allocTellsSpec)) allocTellsCard

/-- THE TIED CARD OF 'distafflaw03.AllocNews'. -/
def allocNewsCard : Claim7 := { stood := { row := allocNewsRow, standIns := [], harness := (true, "6325be13e553def0310e710fd5dc67857926301bd0a22b5bf36f5e56e72b49da"), looks := true }, kinds := [], alts := [], laidByText := true, laidKinds := [.handle], laidTests := true, laidLooks := .later }
def AllocNewsCardSaid : Prop := Claim7.holds Tryd.pinned (.plain (OpenSpec.ofChange allocNewsSpec)) allocNewsCard

/-- THE TIED CARD OF 'distafflaw03.AllocApart'. -/
def allocApartCard : Claim7 := { stood := { row := allocApartRow, standIns := [], harness := (true, "6325be13e553def0310e710fd5dc67857926301bd0a22b5bf36f5e56e72b49da"), looks := true }, kinds := [], alts := [], laidByText := true, laidKinds := [.handle], laidTests := true, laidLooks := .later }
def AllocApartCardSaid : Prop := Claim7.holds Tryd.pinned (.plain (OpenSpec.ofChange allocApartSpec)) allocApartCard

/-- THE TIED CARD OF 'distafflaw03.AllocFills'. -/
def allocFillsCard : Claim7 := { stood := { row := allocFillsRow, standIns := [], harness := (true, "6325be13e553def0310e710fd5dc67857926301bd0a22b5bf36f5e56e72b49da"), looks := true }, kinds := [], alts := [], laidByText := true, laidKinds := [.handle], laidTests := true, laidLooks := .later }
def AllocFillsCardSaid : Prop := Claim7.holds Tryd.pinned (.plain (OpenSpec.ofChange allocFillsSpec)) allocFillsCard

/-- THE TIED CARD OF 'distafflaw03.AllocPlays'. -/
def allocPlaysCard : Claim7 := { stood := { row := allocPlaysRow, standIns := [], harness := (true, "6325be13e553def0310e710fd5dc67857926301bd0a22b5bf36f5e56e72b49da"), looks := true }, kinds := [], alts := [], laidByText := true, laidKinds := [.handle], laidTests := true, laidLooks := .later }
def AllocPlaysCardSaid : Prop := Claim7.holds Tryd.pinned (.plain (OpenSpec.ofChange allocPlaysSpec)) allocPlaysCard

/-- THE TIED CARD OF 'distafflaw03.AllocBack'. -/
def allocBackCard : Claim7 := { stood := { row := allocBackRow, standIns := [], harness := (true, "6325be13e553def0310e710fd5dc67857926301bd0a22b5bf36f5e56e72b49da"), looks := true }, kinds := [], alts := [], laidByText := true, laidKinds := [.handle], laidTests := true, laidLooks := .later }
def AllocBackCardSaid : Prop := Claim7.holds Tryd.pinned (.plain (OpenSpec.ofChange allocBackSpec)) allocBackCard

/-- THE SECOND FORM's CARD OF 'distafflaw03.AllocFinds'. -/
def allocFindsUptoCard : Claim7 := { stood := { row := allocFindsUptoRow, standIns := [], harness := (true, "6325be13e553def0310e710fd5dc67857926301bd0a22b5bf36f5e56e72b49da"), looks := true }, kinds := [], alts := [], laidByText := true, laidKinds := [.handle], laidTests := true, laidLooks := .later }
def AllocFindsUptoCardSaid : Prop := Claim7.holds Tryd.pinned (.plain (OpenSpec.upto allocFindsSpec)) allocFindsUptoCard

/-- THE SECOND FORM's CARD OF 'distafflaw03.AllocTells'. -/
def allocTellsUptoCard : Claim7 := { stood := { row := allocTellsUptoRow, standIns := [], harness := (true, "6325be13e553def0310e710fd5dc67857926301bd0a22b5bf36f5e56e72b49da"), looks := true }, kinds := [], alts := [], laidByText := true, laidKinds := [.handle], laidTests := true, laidLooks := .later }
def AllocTellsUptoCardSaid : Prop := Claim7.holds Tryd.pinned (.plain (OpenSpec.upto allocTellsSpec)) allocTellsUptoCard

/-- THE SECOND FORM's CARD OF 'distafflaw03.AllocNews'. -/
def allocNewsUptoCard : Claim7 := { stood := { row := allocNewsUptoRow, standIns := [], harness := (true, "6325be13e553def0310e710fd5dc67857926301bd0a22b5bf36f5e56e72b49da"), looks := true }, kinds := [], alts := [], laidByText := true, laidKinds := [.handle], laidTests := true, laidLooks := .later }
def AllocNewsUptoCardSaid : Prop := Claim7.holds Tryd.pinned (.plain (OpenSpec.upto allocNewsSpec)) allocNewsUptoCard

/-- THE SECOND FORM's CARD OF 'distafflaw03.AllocApart'. -/
def allocApartUptoCard : Claim7 := { stood := { row := allocApartUptoRow, standIns := [], harness := (true, "6325be13e553def0310e710fd5dc67857926301bd0a22b5bf36f5e56e72b49da"), looks := true }, kinds := [], alts := [], laidByText := true, laidKinds := [.handle], laidTests := true, laidLooks := .later }
def AllocApartUptoCardSaid : Prop := Claim7.holds Tryd.pinned (.plain (OpenSpec.upto allocApartSpec)) allocApartUptoCard

/-- THE SECOND FORM's CARD OF 'distafflaw03.AllocFills'. -/
def allocFillsUptoCard : Claim7 := { stood := { row := allocFillsUptoRow, standIns := [], harness := (true, "6325be13e553def0310e710fd5dc67857926301bd0a22b5bf36f5e56e72b49da"), looks := true }, kinds := [], alts := [], laidByText := true, laidKinds := [.handle], laidTests := true, laidLooks := .later }
def AllocFillsUptoCardSaid : Prop := Claim7.holds Tryd.pinned (.plain (OpenSpec.upto allocFillsSpec)) allocFillsUptoCard

/-- THE SECOND FORM's CARD OF 'distafflaw03.AllocPlays'. -/
def allocPlaysUptoCard : Claim7 := { stood := { row := allocPlaysUptoRow, standIns := [], harness := (true, "6325be13e553def0310e710fd5dc67857926301bd0a22b5bf36f5e56e72b49da"), looks := true }, kinds := [], alts := [], laidByText := true, laidKinds := [.handle], laidTests := true, laidLooks := .later }
def AllocPlaysUptoCardSaid : Prop := Claim7.holds Tryd.pinned (.plain (OpenSpec.upto allocPlaysSpec)) allocPlaysUptoCard

/-- THE SECOND FORM's CARD OF 'distafflaw03.AllocBack'. -/
def allocBackUptoCard : Claim7 := { stood := { row := allocBackUptoRow, standIns := [], harness := (true, "6325be13e553def0310e710fd5dc67857926301bd0a22b5bf36f5e56e72b49da"), looks := true }, kinds := [], alts := [], laidByText := true, laidKinds := [.handle], laidTests := true, laidLooks := .later }
def AllocBackUptoCardSaid : Prop := Claim7.holds Tryd.pinned (.plain (OpenSpec.upto allocBackSpec)) allocBackUptoCard
end Rows
end Go.Proofs.YtlmjogfjhngcoaaDoor
