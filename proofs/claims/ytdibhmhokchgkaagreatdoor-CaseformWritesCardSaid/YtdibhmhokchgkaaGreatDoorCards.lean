/-
  DERIVED. GIVEN WITH THE SEED: THE CARDS: each row of YtdibhmhokchgkaaGreatDoorRows.lean that lists a variable, with what it lists TIED to the program's text (the seventh form; the later family's looks); each row that meets fmt, with fmt's text TOLD by the authors' own Lean function (tested against real Go, not proved from fmt's source: count such statements apart). THE CARD IS WHAT COUNTS. Prove the row's statement (the work); the ties are given (YtdibhmhokchgkaaGreatDoorTie.lean); close each card by the builder's one call (the guide's Derived/Test/ToyasCard.lean, 'card_holds'). Laid BY PROGRAM, IN A SANDBOX (cutbox-door.mjs). By AI agents, Wed Nov 11 2026. No macro, syntax, notation, axiom, sorry.
-/
import Derived.Test.YtdibhmhokchgkaaGreatDoorRows
import GoSem.ClaimSeven
namespace Go.Proofs.YtdibhmhokchgkaaGreatDoor
namespace Rows

/-- THE TIED CARD OF 'gridmarketlaw18.CaseformWrites'. -/
def caseformWritesCard : Claim7 := { stood := { row := caseformWritesRow, standIns := [], harness := (true, "896d88313c9aa64a3a18224c68473cf8166fdf2b2aecefee0ec195b7ef987ee9"), looks := true }, kinds := [], alts := [], laidByText := true, laidKinds := [.data, .data, .data, .sentinel, .sentinel], laidTests := true, laidLooks := .later }
def CaseformWritesCardSaid : Prop := Claim7.holds Tryz.pinned (.plain (OpenSpec.ofChange caseformWritesSpec)) caseformWritesCard

/-- THE SECOND FORM's CARD OF 'gridmarketlaw18.CaseformWrites'. -/
def caseformWritesUptoCard : Claim7 := { stood := { row := caseformWritesUptoRow, standIns := [], harness := (true, "896d88313c9aa64a3a18224c68473cf8166fdf2b2aecefee0ec195b7ef987ee9"), looks := true }, kinds := [], alts := [], laidByText := true, laidKinds := [.data, .data, .data, .sentinel, .sentinel], laidTests := true, laidLooks := .later }
def CaseformWritesUptoCardSaid : Prop := Claim7.holds Tryz.pinned (.plain (OpenSpec.upto caseformWritesSpec)) caseformWritesUptoCard
end Rows
end Go.Proofs.YtdibhmhokchgkaaGreatDoor
