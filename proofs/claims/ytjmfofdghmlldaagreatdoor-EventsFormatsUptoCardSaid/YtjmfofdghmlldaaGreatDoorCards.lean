/-
  DERIVED. GIVEN WITH THE SEED: THE CARDS: each row of YtjmfofdghmlldaaGreatDoorRows.lean that lists a variable, with what it lists TIED to the program's text (the seventh form; the later family's looks); each row that meets fmt, with fmt's text TOLD by the authors' own Lean function (tested against real Go, not proved from fmt's source: count such statements apart). THE CARD IS WHAT COUNTS. Prove the row's statement (the work); the ties are given (YtjmfofdghmlldaaGreatDoorTie.lean); close each card by the builder's one call (the guide's Derived/Test/ToyasCard.lean, 'card_holds'). Laid BY PROGRAM, IN A SANDBOX (cutbox-door.mjs). By AI agents, Wed Nov 11 2026. No macro, syntax, notation, axiom, sorry.
-/
import Derived.Test.YtjmfofdghmlldaaGreatDoorRows
import GoSem.ClaimSeven
namespace Go.Proofs.YtjmfofdghmlldaaGreatDoor
namespace Rows

/-- THE TIED CARD OF 'gridmarketlaw04.NumtextFormats'. -/
def numtextFormatsCard : Claim7 := { stood := { row := numtextFormatsRow, standIns := [], harness := (true, "469409c19caf6ad48bc36de0e503239ddaa56654e1402506143a19205fd9540c"), looks := true }, kinds := [], alts := [], laidByText := true, laidKinds := [.data, .data, .data, .sentinel, .sentinel], laidTests := true, laidLooks := .later }
def NumtextFormatsCardSaid : Prop := Claim7.holds Tryz.pinned (.plain (OpenSpec.ofChange numtextFormatsSpec)) numtextFormatsCard

/-- THE TIED CARD OF 'gridmarketlaw04.NumtextDecimals'. -/
def numtextDecimalsCard : Claim7 := { stood := { row := numtextDecimalsRow, standIns := [], harness := (true, "469409c19caf6ad48bc36de0e503239ddaa56654e1402506143a19205fd9540c"), looks := true }, kinds := [], alts := [], laidByText := true, laidKinds := [.data, .data, .data, .sentinel, .sentinel], laidTests := true, laidLooks := .later }
def NumtextDecimalsCardSaid : Prop := Claim7.holds Tryz.pinned (.plain (OpenSpec.ofChange numtextDecimalsSpec)) numtextDecimalsCard

/-- THE TIED CARD OF 'gridmarketlaw04.NumtextRoundTrip'. -/
def numtextRoundTripCard : Claim7 := { stood := { row := numtextRoundTripRow, standIns := [], harness := (true, "469409c19caf6ad48bc36de0e503239ddaa56654e1402506143a19205fd9540c"), looks := true }, kinds := [], alts := [], laidByText := true, laidKinds := [.data, .data, .data, .sentinel, .sentinel], laidTests := true, laidLooks := .later }
def NumtextRoundTripCardSaid : Prop := Claim7.holds Tryz.pinned (.plain (OpenSpec.ofChange numtextRoundTripSpec)) numtextRoundTripCard

/-- THE TIED CARD OF 'gridmarketlaw04.NumtextExact'. -/
def numtextExactCard : Claim7 := { stood := { row := numtextExactRow, standIns := [], harness := (true, "469409c19caf6ad48bc36de0e503239ddaa56654e1402506143a19205fd9540c"), looks := true }, kinds := [], alts := [], laidByText := true, laidKinds := [.data, .data, .data, .sentinel, .sentinel], laidTests := true, laidLooks := .later }
def NumtextExactCardSaid : Prop := Claim7.holds Tryz.pinned (.plain (OpenSpec.ofChange numtextExactSpec)) numtextExactCard

/-- THE TIED CARD OF 'gridmarketlaw04.NumtextNative'. -/
def numtextNativeCard : Claim7 := { stood := { row := numtextNativeRow, standIns := [], harness := (true, "469409c19caf6ad48bc36de0e503239ddaa56654e1402506143a19205fd9540c"), looks := true }, kinds := [], alts := [], laidByText := true, laidKinds := [.data, .data, .data, .sentinel, .sentinel], laidTests := true, laidLooks := .later }
def NumtextNativeCardSaid : Prop := Claim7.holds Tryz.pinned (.plain (OpenSpec.ofChange numtextNativeSpec)) numtextNativeCard

/-- THE TIED CARD OF 'gridmarketlaw16.QuantityDimensions'. -/
def quantityDimensionsCard : Claim7 := { stood := { row := quantityDimensionsRow, standIns := [], harness := (true, "469409c19caf6ad48bc36de0e503239ddaa56654e1402506143a19205fd9540c"), looks := true }, kinds := [], alts := [], laidByText := true, laidKinds := [.data, .data, .data, .sentinel, .sentinel], laidTests := true, laidLooks := .later }
def QuantityDimensionsCardSaid : Prop := Claim7.holds Tryz.pinned (.plain (OpenSpec.ofChange quantityDimensionsSpec)) quantityDimensionsCard

/-- THE TIED CARD OF 'gridmarketlaw42.EventsMany'. -/
def eventsManyCard : Claim7 := { stood := { row := eventsManyRow, standIns := [], harness := (true, "469409c19caf6ad48bc36de0e503239ddaa56654e1402506143a19205fd9540c"), looks := true }, kinds := [], alts := [], laidByText := true, laidKinds := [.data, .data, .data, .data, .sentinel, .sentinel, .pinned], laidTests := true, laidLooks := .later }
def EventsManyCardSaid : Prop := Claim7.holds Tryz.pinned (.plain (OpenSpec.ofChange eventsManySpec)) eventsManyCard

/-- THE TIED CARD OF 'gridmarketlaw42.EventsValid'. -/
def eventsValidCard : Claim7 := { stood := { row := eventsValidRow, standIns := [], harness := (true, "469409c19caf6ad48bc36de0e503239ddaa56654e1402506143a19205fd9540c"), looks := true }, kinds := [], alts := [], laidByText := true, laidKinds := [.data, .data, .data, .data, .sentinel, .sentinel, .pinned], laidTests := true, laidLooks := .later }
def EventsValidCardSaid : Prop := Claim7.holds Tryz.pinned (.plain (OpenSpec.ofChange eventsValidSpec)) eventsValidCard

/-- THE TIED CARD OF 'gridmarketlaw42.EventsFormats'. -/
def eventsFormatsCard : Claim7 := { stood := { row := eventsFormatsRow, standIns := [], harness := (true, "469409c19caf6ad48bc36de0e503239ddaa56654e1402506143a19205fd9540c"), looks := true }, kinds := [], alts := [], laidByText := true, laidKinds := [.data, .data, .data, .data, .sentinel, .sentinel, .pinned], laidTests := true, laidLooks := .later }
def EventsFormatsCardSaid : Prop := Claim7.holds Tryz.pinned (.plain (OpenSpec.ofChange eventsFormatsSpec)) eventsFormatsCard

/-- THE TIED CARD OF 'gridmarketlaw42.EventsRound'. -/
def eventsRoundCard : Claim7 := { stood := { row := eventsRoundRow, standIns := [], harness := (true, "469409c19caf6ad48bc36de0e503239ddaa56654e1402506143a19205fd9540c"), looks := true }, kinds := [], alts := [], laidByText := true, laidKinds := [.data, .data, .data, .data, .sentinel, .sentinel, .pinned], laidTests := true, laidLooks := .later }
def EventsRoundCardSaid : Prop := Claim7.holds Tryz.pinned (.plain (OpenSpec.ofChange eventsRoundSpec)) eventsRoundCard

/-- THE TIED CARD OF 'gridmarketlaw16.QuantityRoundTrip'. -/
def quantityRoundTripCard : Claim7 := { stood := { row := quantityRoundTripRow, standIns := [], harness := (true, "469409c19caf6ad48bc36de0e503239ddaa56654e1402506143a19205fd9540c"), looks := true }, kinds := [], alts := [], laidByText := true, laidKinds := [.data, .data, .data, .sentinel, .sentinel], laidTests := true, laidLooks := .later }
def QuantityRoundTripCardSaid : Prop := Claim7.holds Tryz.pinned (.plain (OpenSpec.ofChange quantityRoundTripSpec)) quantityRoundTripCard

/-- THE SECOND FORM's CARD OF 'gridmarketlaw04.NumtextFormats'. -/
def numtextFormatsUptoCard : Claim7 := { stood := { row := numtextFormatsUptoRow, standIns := [], harness := (true, "469409c19caf6ad48bc36de0e503239ddaa56654e1402506143a19205fd9540c"), looks := true }, kinds := [], alts := [], laidByText := true, laidKinds := [.data, .data, .data, .sentinel, .sentinel], laidTests := true, laidLooks := .later }
def NumtextFormatsUptoCardSaid : Prop := Claim7.holds Tryz.pinned (.plain (OpenSpec.upto numtextFormatsSpec)) numtextFormatsUptoCard

/-- THE SECOND FORM's CARD OF 'gridmarketlaw04.NumtextDecimals'. -/
def numtextDecimalsUptoCard : Claim7 := { stood := { row := numtextDecimalsUptoRow, standIns := [], harness := (true, "469409c19caf6ad48bc36de0e503239ddaa56654e1402506143a19205fd9540c"), looks := true }, kinds := [], alts := [], laidByText := true, laidKinds := [.data, .data, .data, .sentinel, .sentinel], laidTests := true, laidLooks := .later }
def NumtextDecimalsUptoCardSaid : Prop := Claim7.holds Tryz.pinned (.plain (OpenSpec.upto numtextDecimalsSpec)) numtextDecimalsUptoCard

/-- THE SECOND FORM's CARD OF 'gridmarketlaw04.NumtextRoundTrip'. -/
def numtextRoundTripUptoCard : Claim7 := { stood := { row := numtextRoundTripUptoRow, standIns := [], harness := (true, "469409c19caf6ad48bc36de0e503239ddaa56654e1402506143a19205fd9540c"), looks := true }, kinds := [], alts := [], laidByText := true, laidKinds := [.data, .data, .data, .sentinel, .sentinel], laidTests := true, laidLooks := .later }
def NumtextRoundTripUptoCardSaid : Prop := Claim7.holds Tryz.pinned (.plain (OpenSpec.upto numtextRoundTripSpec)) numtextRoundTripUptoCard

/-- THE SECOND FORM's CARD OF 'gridmarketlaw04.NumtextExact'. -/
def numtextExactUptoCard : Claim7 := { stood := { row := numtextExactUptoRow, standIns := [], harness := (true, "469409c19caf6ad48bc36de0e503239ddaa56654e1402506143a19205fd9540c"), looks := true }, kinds := [], alts := [], laidByText := true, laidKinds := [.data, .data, .data, .sentinel, .sentinel], laidTests := true, laidLooks := .later }
def NumtextExactUptoCardSaid : Prop := Claim7.holds Tryz.pinned (.plain (OpenSpec.upto numtextExactSpec)) numtextExactUptoCard

/-- THE SECOND FORM's CARD OF 'gridmarketlaw04.NumtextNative'. -/
def numtextNativeUptoCard : Claim7 := { stood := { row := numtextNativeUptoRow, standIns := [], harness := (true, "469409c19caf6ad48bc36de0e503239ddaa56654e1402506143a19205fd9540c"), looks := true }, kinds := [], alts := [], laidByText := true, laidKinds := [.data, .data, .data, .sentinel, .sentinel], laidTests := true, laidLooks := .later }
def NumtextNativeUptoCardSaid : Prop := Claim7.holds Tryz.pinned (.plain (OpenSpec.upto numtextNativeSpec)) numtextNativeUptoCard

/-- THE SECOND FORM's CARD OF 'gridmarketlaw16.QuantityDimensions'. -/
def quantityDimensionsUptoCard : Claim7 := { stood := { row := quantityDimensionsUptoRow, standIns := [], harness := (true, "469409c19caf6ad48bc36de0e503239ddaa56654e1402506143a19205fd9540c"), looks := true }, kinds := [], alts := [], laidByText := true, laidKinds := [.data, .data, .data, .sentinel, .sentinel], laidTests := true, laidLooks := .later }
def QuantityDimensionsUptoCardSaid : Prop := Claim7.holds Tryz.pinned (.plain (OpenSpec.upto quantityDimensionsSpec)) quantityDimensionsUptoCard

/-- THE SECOND FORM's CARD OF 'gridmarketlaw42.EventsMany'. -/
def eventsManyUptoCard : Claim7 := { stood := { row := eventsManyUptoRow, standIns := [], harness := (true, "469409c19caf6ad48bc36de0e503239ddaa56654e1402506143a19205fd9540c"), looks := true }, kinds := [], alts := [], laidByText := true, laidKinds := [.data, .data, .data, .data, .sentinel, .sentinel, .pinned], laidTests := true, laidLooks := .later }
def EventsManyUptoCardSaid : Prop := Claim7.holds Tryz.pinned (.plain (OpenSpec.upto eventsManySpec)) eventsManyUptoCard

/-- THE SECOND FORM's CARD OF 'gridmarketlaw42.EventsValid'. -/
def eventsValidUptoCard : Claim7 := { stood := { row := eventsValidUptoRow, standIns := [], harness := (true, "469409c19caf6ad48bc36de0e503239ddaa56654e1402506143a19205fd9540c"), looks := true }, kinds := [], alts := [], laidByText := true, laidKinds := [.data, .data, .data, .data, .sentinel, .sentinel, .pinned], laidTests := true, laidLooks := .later }
def EventsValidUptoCardSaid : Prop := Claim7.holds Tryz.pinned (.plain (OpenSpec.upto eventsValidSpec)) eventsValidUptoCard

/-- THE SECOND FORM's CARD OF 'gridmarketlaw42.EventsFormats'. -/
def eventsFormatsUptoCard : Claim7 := { stood := { row := eventsFormatsUptoRow, standIns := [], harness := (true, "469409c19caf6ad48bc36de0e503239ddaa56654e1402506143a19205fd9540c"), looks := true }, kinds := [], alts := [], laidByText := true, laidKinds := [.data, .data, .data, .data, .sentinel, .sentinel, .pinned], laidTests := true, laidLooks := .later }
def EventsFormatsUptoCardSaid : Prop := Claim7.holds Tryz.pinned (.plain (OpenSpec.upto eventsFormatsSpec)) eventsFormatsUptoCard

/-- THE SECOND FORM's CARD OF 'gridmarketlaw42.EventsRound'. -/
def eventsRoundUptoCard : Claim7 := { stood := { row := eventsRoundUptoRow, standIns := [], harness := (true, "469409c19caf6ad48bc36de0e503239ddaa56654e1402506143a19205fd9540c"), looks := true }, kinds := [], alts := [], laidByText := true, laidKinds := [.data, .data, .data, .data, .sentinel, .sentinel, .pinned], laidTests := true, laidLooks := .later }
def EventsRoundUptoCardSaid : Prop := Claim7.holds Tryz.pinned (.plain (OpenSpec.upto eventsRoundSpec)) eventsRoundUptoCard

/-- THE SECOND FORM's CARD OF 'gridmarketlaw16.QuantityRoundTrip'. -/
def quantityRoundTripUptoCard : Claim7 := { stood := { row := quantityRoundTripUptoRow, standIns := [], harness := (true, "469409c19caf6ad48bc36de0e503239ddaa56654e1402506143a19205fd9540c"), looks := true }, kinds := [], alts := [], laidByText := true, laidKinds := [.data, .data, .data, .sentinel, .sentinel], laidTests := true, laidLooks := .later }
def QuantityRoundTripUptoCardSaid : Prop := Claim7.holds Tryz.pinned (.plain (OpenSpec.upto quantityRoundTripSpec)) quantityRoundTripUptoCard
end Rows
end Go.Proofs.YtjmfofdghmlldaaGreatDoor
