/-
  DERIVED. GIVEN WITH THE SEED: THE CARDS: each row of YtpeocjkboabibaaGreatDoorRows.lean that lists a variable, with what it lists TIED to the program's text (the seventh form; the later family's looks); each row that meets fmt, with fmt's text TOLD by the authors' own Lean function (tested against real Go, not proved from fmt's source: count such statements apart). THE CARD IS WHAT COUNTS. Prove the row's statement (the work); the ties are given (YtpeocjkboabibaaGreatDoorTie.lean); close each card by the builder's one call (the guide's Derived/Test/ToyasCard.lean, 'card_holds'). Laid BY PROGRAM, IN A SANDBOX (cutbox-door.mjs). By AI agents, Wed Nov 11 2026. No macro, syntax, notation, axiom, sorry.
-/
import Derived.Test.YtpeocjkboabibaaGreatDoorRows
import GoSem.ClaimSeven
namespace Go.Proofs.YtpeocjkboabibaaGreatDoor
namespace Rows

/-- THE TIED CARD OF 'gridmarketlaw17.CasetextLayout'. -/
def casetextLayoutCard : Claim7 := { stood := { row := casetextLayoutRow, standIns := [], harness := (true, "b2b3a011170f67db8f8f459969e21a171ba6c823af9b96b5968b39057a3ee280"), looks := true }, kinds := [], alts := [], laidByText := true, laidKinds := [.data, .data, .data, .sentinel, .sentinel], laidTests := true, laidLooks := .later }
def CasetextLayoutCardSaid : Prop := Claim7.holds Tryz.pinned (.plain (OpenSpec.ofChange casetextLayoutSpec)) casetextLayoutCard

/-- THE TIED CARD OF 'gridmarketlaw17.CasetextErrorLine'. -/
def casetextErrorLineCard : Claim7 := { stood := { row := casetextErrorLineRow, standIns := [], harness := (true, "b2b3a011170f67db8f8f459969e21a171ba6c823af9b96b5968b39057a3ee280"), looks := true }, kinds := [], alts := [], laidByText := true, laidKinds := [.data, .data, .data, .sentinel, .sentinel], laidTests := true, laidLooks := .later }
def CasetextErrorLineCardSaid : Prop := Claim7.holds Tryz.pinned (.plain (OpenSpec.ofChange casetextErrorLineSpec)) casetextErrorLineCard

/-- THE TIED CARD OF 'gridmarketlaw17.CasetextFormats'. -/
def casetextFormatsCard : Claim7 := { stood := { row := casetextFormatsRow, standIns := [], harness := (true, "b2b3a011170f67db8f8f459969e21a171ba6c823af9b96b5968b39057a3ee280"), looks := true }, kinds := [], alts := [], laidByText := true, laidKinds := [.data, .data, .data, .sentinel, .sentinel], laidTests := true, laidLooks := .later }
def CasetextFormatsCardSaid : Prop := Claim7.holds Tryz.pinned (.plain (OpenSpec.ofChange casetextFormatsSpec)) casetextFormatsCard

/-- THE TIED CARD OF 'gridmarketlaw17.CasetextRoundTrip'. -/
def casetextRoundTripCard : Claim7 := { stood := { row := casetextRoundTripRow, standIns := [], harness := (true, "b2b3a011170f67db8f8f459969e21a171ba6c823af9b96b5968b39057a3ee280"), looks := true }, kinds := [], alts := [], laidByText := true, laidKinds := [.data, .data, .data, .sentinel, .sentinel], laidTests := true, laidLooks := .later }
def CasetextRoundTripCardSaid : Prop := Claim7.holds Tryz.pinned (.plain (OpenSpec.ofChange casetextRoundTripSpec)) casetextRoundTripCard

/-- THE SECOND FORM's CARD OF 'gridmarketlaw17.CasetextLayout'. -/
def casetextLayoutUptoCard : Claim7 := { stood := { row := casetextLayoutUptoRow, standIns := [], harness := (true, "b2b3a011170f67db8f8f459969e21a171ba6c823af9b96b5968b39057a3ee280"), looks := true }, kinds := [], alts := [], laidByText := true, laidKinds := [.data, .data, .data, .sentinel, .sentinel], laidTests := true, laidLooks := .later }
def CasetextLayoutUptoCardSaid : Prop := Claim7.holds Tryz.pinned (.plain (OpenSpec.upto casetextLayoutSpec)) casetextLayoutUptoCard

/-- THE SECOND FORM's CARD OF 'gridmarketlaw17.CasetextErrorLine'. -/
def casetextErrorLineUptoCard : Claim7 := { stood := { row := casetextErrorLineUptoRow, standIns := [], harness := (true, "b2b3a011170f67db8f8f459969e21a171ba6c823af9b96b5968b39057a3ee280"), looks := true }, kinds := [], alts := [], laidByText := true, laidKinds := [.data, .data, .data, .sentinel, .sentinel], laidTests := true, laidLooks := .later }
def CasetextErrorLineUptoCardSaid : Prop := Claim7.holds Tryz.pinned (.plain (OpenSpec.upto casetextErrorLineSpec)) casetextErrorLineUptoCard

/-- THE SECOND FORM's CARD OF 'gridmarketlaw17.CasetextFormats'. -/
def casetextFormatsUptoCard : Claim7 := { stood := { row := casetextFormatsUptoRow, standIns := [], harness := (true, "b2b3a011170f67db8f8f459969e21a171ba6c823af9b96b5968b39057a3ee280"), looks := true }, kinds := [], alts := [], laidByText := true, laidKinds := [.data, .data, .data, .sentinel, .sentinel], laidTests := true, laidLooks := .later }
def CasetextFormatsUptoCardSaid : Prop := Claim7.holds Tryz.pinned (.plain (OpenSpec.upto casetextFormatsSpec)) casetextFormatsUptoCard

/-- THE SECOND FORM's CARD OF 'gridmarketlaw17.CasetextRoundTrip'. -/
def casetextRoundTripUptoCard : Claim7 := { stood := { row := casetextRoundTripUptoRow, standIns := [], harness := (true, "b2b3a011170f67db8f8f459969e21a171ba6c823af9b96b5968b39057a3ee280"), looks := true }, kinds := [], alts := [], laidByText := true, laidKinds := [.data, .data, .data, .sentinel, .sentinel], laidTests := true, laidLooks := .later }
def CasetextRoundTripUptoCardSaid : Prop := Claim7.holds Tryz.pinned (.plain (OpenSpec.upto casetextRoundTripSpec)) casetextRoundTripUptoCard
end Rows
end Go.Proofs.YtpeocjkboabibaaGreatDoor
