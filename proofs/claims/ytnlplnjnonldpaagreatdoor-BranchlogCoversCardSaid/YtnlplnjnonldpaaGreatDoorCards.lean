/-
  DERIVED. GIVEN WITH THE SEED: THE CARDS: each row of YtnlplnjnonldpaaGreatDoorRows.lean that lists a variable, with what it lists TIED to the program's text (the seventh form; the later family's looks); each row that meets fmt, with fmt's text TOLD by the authors' own Lean function (tested against real Go, not proved from fmt's source: count such statements apart). THE CARD IS WHAT COUNTS. Prove the row's statement (the work); the ties are given (YtnlplnjnonldpaaGreatDoorTie.lean); close each card by the builder's one call (the guide's Derived/Test/ToyasCard.lean, 'card_holds'). Laid BY PROGRAM, IN A SANDBOX (cutbox-door.mjs). By AI agents, Wed Nov 11 2026. No macro, syntax, notation, axiom, sorry.
-/
import Derived.Test.YtnlplnjnonldpaaGreatDoorRows
import GoSem.ClaimSeven
namespace Go.Proofs.YtnlplnjnonldpaaGreatDoor
namespace Rows

/-- THE TIED CARD OF 'gridmarketlaw35.BranchlogRound'. -/
def branchlogRoundCard : Claim7 := { stood := { row := branchlogRoundRow, standIns := [], harness := (true, "c73e9210460795327da29ac31cfc408209c10d9d5bf8f7cd02d946eaf358ace3"), looks := true }, kinds := [], alts := [], laidByText := true, laidKinds := [.data, .data, .data, .data, .sentinel, .sentinel, .pinned], laidTests := true, laidLooks := .later }
def BranchlogRoundCardSaid : Prop := Claim7.holds Tryz.pinned (.plain (OpenSpec.ofChange branchlogRoundSpec)) branchlogRoundCard

/-- THE TIED CARD OF 'gridmarketlaw35.BranchlogChecks'. -/
def branchlogChecksCard : Claim7 := { stood := { row := branchlogChecksRow, standIns := [], harness := (true, "c73e9210460795327da29ac31cfc408209c10d9d5bf8f7cd02d946eaf358ace3"), looks := true }, kinds := [], alts := [], laidByText := true, laidKinds := [.data, .data, .data, .data, .sentinel, .sentinel, .pinned], laidTests := true, laidLooks := .later }
def BranchlogChecksCardSaid : Prop := Claim7.holds Tryz.pinned (.plain (OpenSpec.ofChange branchlogChecksSpec)) branchlogChecksCard

/-- THE TIED CARD OF 'gridmarketlaw35.BranchlogTrees'. -/
def branchlogTreesCard : Claim7 := { stood := { row := branchlogTreesRow, standIns := [], harness := (true, "c73e9210460795327da29ac31cfc408209c10d9d5bf8f7cd02d946eaf358ace3"), looks := true }, kinds := [], alts := [], laidByText := true, laidKinds := [.data, .data, .data, .data, .sentinel, .sentinel, .pinned], laidTests := true, laidLooks := .later }
def BranchlogTreesCardSaid : Prop := Claim7.holds Tryz.pinned (.plain (OpenSpec.ofChange branchlogTreesSpec)) branchlogTreesCard

/-- THE TIED CARD OF 'gridmarketlaw35.BranchlogCovers'. -/
def branchlogCoversCard : Claim7 := { stood := { row := branchlogCoversRow, standIns := [], harness := (true, "c73e9210460795327da29ac31cfc408209c10d9d5bf8f7cd02d946eaf358ace3"), looks := true }, kinds := [], alts := [], laidByText := true, laidKinds := [.data, .data, .data, .data, .sentinel, .sentinel, .pinned], laidTests := true, laidLooks := .later }
def BranchlogCoversCardSaid : Prop := Claim7.holds Tryz.pinned (.plain (OpenSpec.ofChange branchlogCoversSpec)) branchlogCoversCard

/-- THE SECOND FORM's CARD OF 'gridmarketlaw35.BranchlogRound'. -/
def branchlogRoundUptoCard : Claim7 := { stood := { row := branchlogRoundUptoRow, standIns := [], harness := (true, "c73e9210460795327da29ac31cfc408209c10d9d5bf8f7cd02d946eaf358ace3"), looks := true }, kinds := [], alts := [], laidByText := true, laidKinds := [.data, .data, .data, .data, .sentinel, .sentinel, .pinned], laidTests := true, laidLooks := .later }
def BranchlogRoundUptoCardSaid : Prop := Claim7.holds Tryz.pinned (.plain (OpenSpec.upto branchlogRoundSpec)) branchlogRoundUptoCard

/-- THE SECOND FORM's CARD OF 'gridmarketlaw35.BranchlogChecks'. -/
def branchlogChecksUptoCard : Claim7 := { stood := { row := branchlogChecksUptoRow, standIns := [], harness := (true, "c73e9210460795327da29ac31cfc408209c10d9d5bf8f7cd02d946eaf358ace3"), looks := true }, kinds := [], alts := [], laidByText := true, laidKinds := [.data, .data, .data, .data, .sentinel, .sentinel, .pinned], laidTests := true, laidLooks := .later }
def BranchlogChecksUptoCardSaid : Prop := Claim7.holds Tryz.pinned (.plain (OpenSpec.upto branchlogChecksSpec)) branchlogChecksUptoCard

/-- THE SECOND FORM's CARD OF 'gridmarketlaw35.BranchlogTrees'. -/
def branchlogTreesUptoCard : Claim7 := { stood := { row := branchlogTreesUptoRow, standIns := [], harness := (true, "c73e9210460795327da29ac31cfc408209c10d9d5bf8f7cd02d946eaf358ace3"), looks := true }, kinds := [], alts := [], laidByText := true, laidKinds := [.data, .data, .data, .data, .sentinel, .sentinel, .pinned], laidTests := true, laidLooks := .later }
def BranchlogTreesUptoCardSaid : Prop := Claim7.holds Tryz.pinned (.plain (OpenSpec.upto branchlogTreesSpec)) branchlogTreesUptoCard

/-- THE SECOND FORM's CARD OF 'gridmarketlaw35.BranchlogCovers'. -/
def branchlogCoversUptoCard : Claim7 := { stood := { row := branchlogCoversUptoRow, standIns := [], harness := (true, "c73e9210460795327da29ac31cfc408209c10d9d5bf8f7cd02d946eaf358ace3"), looks := true }, kinds := [], alts := [], laidByText := true, laidKinds := [.data, .data, .data, .data, .sentinel, .sentinel, .pinned], laidTests := true, laidLooks := .later }
def BranchlogCoversUptoCardSaid : Prop := Claim7.holds Tryz.pinned (.plain (OpenSpec.upto branchlogCoversSpec)) branchlogCoversUptoCard
end Rows
end Go.Proofs.YtnlplnjnonldpaaGreatDoor
