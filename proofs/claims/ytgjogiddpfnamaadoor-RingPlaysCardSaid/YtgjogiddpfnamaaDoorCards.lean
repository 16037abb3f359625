/-
  DERIVED. GIVEN WITH THE SEED: THE CARDS: each row of YtgjogiddpfnamaaDoorRows.lean that lists a variable, with what it lists TIED to the program's text (the seventh form; the later family's looks); each row that meets fmt, with fmt's text TOLD by the authors' own Lean function (tested against real Go, not proved from fmt's source: count such statements apart). THE CARD IS WHAT COUNTS. Prove the row's statement (the work); the ties are given (YtgjogiddpfnamaaDoorTie.lean); close each card by the builder's one call (the guide's Derived/Test/ToyasCard.lean, 'card_holds'). Laid BY PROGRAM, IN A SANDBOX (cutbox-door.mjs). By AI agents, Wed Nov 11 2026. No macro, syntax, notation, axiom, sorry.
-/
import Derived.Test.YtgjogiddpfnamaaDoorRows
import GoSem.ClaimSeven
namespace Go.Proofs.YtgjogiddpfnamaaDoor
namespace Rows

/-- THE TIED CARD OF 'distafflaw09.RingNews'. -/
def ringNewsCard : Claim7 := { stood := { row := ringNewsRow, standIns := [], harness := (true, "ad2562fa94519173404e2f517ed17965ed6101f235bc4e498d48ab431bb1daf6"), looks := true }, kinds := [], alts := [], laidByText := true, laidKinds := [.handle], laidTests := true, laidLooks := .later }
def RingNewsCardSaid : Prop := Claim7.holds Tryd.pinned (.plain (OpenSpec.ofChange ringNewsSpec)) ringNewsCard

/-- THE TIED CARD OF 'distafflaw09.RingQueues'. -/
def ringQueuesCard : Claim7 := { stood := { row := ringQueuesRow, standIns := [], harness := (true, "ad2562fa94519173404e2f517ed17965ed6101f235bc4e498d48ab431bb1daf6"), looks := true }, kinds := [], alts := [], laidByText := true, laidKinds := [.handle], laidTests := true, laidLooks := .later }
def RingQueuesCardSaid : Prop := Claim7.holds Tryd.pinned (.plain (OpenSpec.ofChange ringQueuesSpec)) ringQueuesCard

/-- THE TIED CARD OF 'distafflaw09.RingPlays'. -/
def ringPlaysCard : Claim7 := { stood := { row := ringPlaysRow, standIns := [], harness := (true, "ad2562fa94519173404e2f517ed17965ed6101f235bc4e498d48ab431bb1daf6"), looks := true }, kinds := [], alts := [], laidByText := true, laidKinds := [.handle], laidTests := true, laidLooks := .later }
def RingPlaysCardSaid : Prop := Claim7.holds Tryd.pinned (.plain (OpenSpec.ofChange ringPlaysSpec)) ringPlaysCard

/-- THE TIED CARD OF 'distafflaw09.RingDrops'. -/
def ringDropsCard : Claim7 := { stood := { row := ringDropsRow, standIns := [], harness := (true, "ad2562fa94519173404e2f517ed17965ed6101f235bc4e498d48ab431bb1daf6"), looks := true }, kinds := [], alts := [], laidByText := true, laidKinds := [.handle], laidTests := true, laidLooks := .later }
def RingDropsCardSaid : Prop := Claim7.holds Tryd.pinned (.plain (OpenSpec.ofChange ringDropsSpec)) ringDropsCard

/-- THE SECOND FORM's CARD OF 'distafflaw09.RingNews'. -/
def ringNewsUptoCard : Claim7 := { stood := { row := ringNewsUptoRow, standIns := [], harness := (true, "ad2562fa94519173404e2f517ed17965ed6101f235bc4e498d48ab431bb1daf6"), looks := true }, kinds := [], alts := [], laidByText := true, laidKinds := [.handle], laidTests := true, laidLooks := .later }
def RingNewsUptoCardSaid : Prop := Claim7.holds Tryd.pinned (.plain (OpenSpec.upto ringNewsSpec)) ringNewsUptoCard

/-- THE SECOND FORM's CARD OF 'distafflaw09.RingQueues'. -/
def ringQueuesUptoCard : Claim7 := { stood := { row := ringQueuesUptoRow, standIns := [], harness := (true, "ad2562fa94519173404e2f517ed17965ed6101f235bc4e498d48ab431bb1daf6"), looks := true }, kinds := [], alts := [], laidByText := true, laidKinds := [.handle], laidTests := true, laidLooks := .later }
def RingQueuesUptoCardSaid : Prop := Claim7.holds Tryd.pinned (.plain (OpenSpec.upto ringQueuesSpec)) ringQueuesUptoCard

/-- THE SECOND FORM's CARD OF 'distafflaw09.RingPlays'. -/
def ringPlaysUptoCard : Claim7 := { stood := { row := ringPlaysUptoRow, standIns := [], harness := (true, "ad2562fa94519173404e2f517ed17965ed6101f235bc4e498d48ab431bb1daf6"), looks := true }, kinds := [], alts := [], laidByText := true, laidKinds := [.handle], laidTests := true, laidLooks := .later }
def RingPlaysUptoCardSaid : Prop := Claim7.holds Tryd.pinned (.plain (OpenSpec.upto ringPlaysSpec)) ringPlaysUptoCard

/-- THE SECOND FORM's CARD OF 'distafflaw09.RingDrops'. -/
def ringDropsUptoCard : Claim7 := { stood := { row := ringDropsUptoRow, standIns := [], harness := (true, "ad2562fa94519173404e2f517ed17965ed6101f235bc4e498d48ab431bb1daf6"), looks := true }, kinds := [], alts := [], laidByText := true, laidKinds := [.handle], laidTests := true, laidLooks := .later }
def RingDropsUptoCardSaid : Prop := Claim7.holds Tryd.pinned (.plain (OpenSpec.upto ringDropsSpec)) ringDropsUptoCard
end Rows
end Go.Proofs.YtgjogiddpfnamaaDoor
