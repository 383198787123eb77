/-
  No cell of these rows narrows 'for every input' (looked for: loops, veiled, ifaces, maps, wideKeys, modest, calm, conditions, laid).
  DERIVED. THE GIVEN ROWS OF THIS SEAT. 2 by the template 'for every input the law returns true; each argument reads behind the call as it read before'; 0 by the template 'total and deterministic' (their statements: YtekpdhpnlfcobaaTotals.lean).
  GIVEN WITH THE SEED: the statements are not yours to turn. If you find one false, say at which input.
  Laid BY PROGRAM, IN A SANDBOX (cutbox-rows.mjs): the forced cells as the released guide's own fill.sh prints them over the translation dc3f6ba6f17ddaad… (all of the seat's roots in one cut). By AI agents, Wed Nov 11 2026. No macro, syntax, notation, axiom, sorry.
-/
import Derived.Test.YtekpdhpnlfcobaaChecked
import GoSem.Claim
import GoSem.ClaimJoined
import GoSem.ClaimMapViews
import Derived.JoinedTies
import Derived.KernelRfl
namespace Go.Proofs.Ytekpdhpnlfcobaa
/- THE CELL 'sum', in the pinned program and in every row, IS THE sha256 OF THE DUMP (.gsa) THAT YtekpdhpnlfcobaaProg.lean LOADS. Nothing in Lean hashes anything: it is a label: what it is worth is what the hold of that sum in a sandbox is worth. -/
noncomputable def Try.pinned : Pinned := { name := "ytekpdhpnlfcobaa", sum := "dc3f6ba6f17ddaadc980b060e0b64539ec0708003a3becc5a084c99c7c64b864", checked := Try.checked }
namespace Rows
def none {H : Type} : Left H := { results := [], args := [] }

/-- 'gridmarketlaw18.CaseformIslands': WHATEVER THE INPUT: true; the input reads as it did. -/
def caseformIslandsSpec : ChangeSpec := { name := "caseformIslands", fn := fun _ => fun
  | [d1, d2, d3] => { results := [.lit (.bool true)], args := [d1, d2, d3] }
  | _ => none }
def caseformIslandsRow : OpenClaim := { program := "ytekpdhpnlfcobaa", sum := "dc3f6ba6f17ddaadc980b060e0b64539ec0708003a3becc5a084c99c7c64b864", func := "gridmarket/gridmarketlaw18.CaseformIslands", spec := "caseformIslands", unfollowed := true, recurses := true, apart := false }
def CaseformIslandsSaid : Prop := caseformIslandsRow.holds Try.pinned (OpenSpec.ofChange caseformIslandsSpec)

/-- ITS FALSE NEIGHBOUR: 'it returns false'. Refute it at one input. -/
def caseformIslandsWrong : ChangeSpec := { name := "caseformIslands", fn := fun _ => fun
  | [d1, d2, d3] => { results := [.lit (.bool false)], args := [d1, d2, d3] }
  | _ => none }
def CaseformIslandsWrongFalsely : Prop := caseformIslandsRow.holds Try.pinned (OpenSpec.ofChange caseformIslandsWrong)

/-- 'gridmarketlaw18.CaseformHours': WHATEVER THE INPUT: true; the input reads as it did. -/
def caseformHoursSpec : ChangeSpec := { name := "caseformHours", fn := fun _ => fun
  | [d1, d2, d3] => { results := [.lit (.bool true)], args := [d1, d2, d3] }
  | _ => none }
def caseformHoursRow : OpenClaim := { program := "ytekpdhpnlfcobaa", sum := "dc3f6ba6f17ddaadc980b060e0b64539ec0708003a3becc5a084c99c7c64b864", func := "gridmarket/gridmarketlaw18.CaseformHours", spec := "caseformHours", unfollowed := true, recurses := true, apart := false }
def CaseformHoursSaid : Prop := caseformHoursRow.holds Try.pinned (OpenSpec.ofChange caseformHoursSpec)

/-- ITS FALSE NEIGHBOUR: 'it returns false'. Refute it at one input. -/
def caseformHoursWrong : ChangeSpec := { name := "caseformHours", fn := fun _ => fun
  | [d1, d2, d3] => { results := [.lit (.bool false)], args := [d1, d2, d3] }
  | _ => none }
def CaseformHoursWrongFalsely : Prop := caseformHoursRow.holds Try.pinned (OpenSpec.ofChange caseformHoursWrong)

/- THE SECOND FORM. 'bulk': how many values and letters a reading holds, each counted each time it is reached (what is shared counts as often as it is met; a slice's spare places count too). A statement '..UptoSaid' is the law's where the arguments, and the package variables that the reading takes, are together of bulk at most 1048576: NARROWER than '..Said'. Prove '..Said' where nothing that the law and all that it calls make is longer than what came in: it says more and counts as full. Else prove '..UptoSaid'. A law counts once. -/
mutual
def uptoBulk {H : Type} : DataW H → Nat
  | .lit (.string bytes) => bytes.length + 1
  | .lit _ => 1
  | .nil => 1
  | .ptr d => uptoBulk d + 1
  | .slice elems spare => uptoBulkAll elems + uptoBulkAll spare + 1
  | .agg parts => uptoBulkAll parts + 1
  | .iface _ d => uptoBulk d + 1
  | .map entries => uptoBulkEntries entries + 1
  | .held _ => 1
def uptoBulkAll {H : Type} : List (DataW H) → Nat
  | [] => 0
  | d :: r => uptoBulk d + uptoBulkAll r
def uptoBulkEntries {H : Type} : List (Lit × DataW H) → Nat
  | [] => 0
  | x :: r => uptoBulkEntry x + uptoBulkEntries r
def uptoBulkEntry {H : Type} : Lit × DataW H → Nat
  | (.string bytes, d) => bytes.length + uptoBulk d + 1
  | (_, d) => uptoBulk d + 1
 end
def uptoSmall : (H : Type) → List (DataW H) → Bool := fun _ ds => decide (uptoBulkAll ds ≤ 1048576)
def OpenSpec.upto (s : _root_.Go.ChangeSpec) : _root_.Go.OpenSpec := { _root_.Go.OpenSpec.ofChange s with cond := some uptoSmall }

/-- 'gridmarketlaw18.CaseformIslands', WHERE WHAT IT READS IS OF BULK AT MOST 1048576: true; the input reads as it did. -/
def caseformIslandsUptoRow : OpenClaim := { program := "ytekpdhpnlfcobaa", sum := "dc3f6ba6f17ddaadc980b060e0b64539ec0708003a3becc5a084c99c7c64b864", func := "gridmarket/gridmarketlaw18.CaseformIslands", spec := "caseformIslands", unfollowed := true, recurses := true, apart := false, narrowed := true }
def CaseformIslandsUptoSaid : Prop := caseformIslandsUptoRow.holds Try.pinned (OpenSpec.upto caseformIslandsSpec)

/-- 'gridmarketlaw18.CaseformHours', WHERE WHAT IT READS IS OF BULK AT MOST 1048576: true; the input reads as it did. -/
def caseformHoursUptoRow : OpenClaim := { program := "ytekpdhpnlfcobaa", sum := "dc3f6ba6f17ddaadc980b060e0b64539ec0708003a3becc5a084c99c7c64b864", func := "gridmarket/gridmarketlaw18.CaseformHours", spec := "caseformHours", unfollowed := true, recurses := true, apart := false, narrowed := true }
def CaseformHoursUptoSaid : Prop := caseformHoursUptoRow.holds Try.pinned (OpenSpec.upto caseformHoursSpec)

end Rows
end Go.Proofs.Ytekpdhpnlfcobaa
