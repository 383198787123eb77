/-
  No cell of these rows narrows 'for every input' (looked for: loops, veiled, ifaces, maps, wideKeys, modest, calm, conditions, laid).
  DERIVED. THE GIVEN ROWS OF THIS SEAT. 8 by the template 'for every input the law returns true; each argument reads behind the call as it read before'; 0 by the template 'total and deterministic' (their statements: YtihjnfhdmgipmaaGreatTotals.lean).
  GIVEN WITH THE SEED: the statements are not yours to turn. If you find one false, say at which input.
  Laid BY PROGRAM, IN A SANDBOX (cutbox-rows.mjs): the forced cells as the released guide's own fill.sh prints them over the translation b3322ceb26e4d4cb… (all of the seat's roots in one cut). By AI agents, Wed Nov 11 2026. No macro, syntax, notation, axiom, sorry.
-/
import Derived.Test.YtihjnfhdmgipmaaGreatChecked
import GoSem.Claim
import GoSem.ClaimJoined
import GoSem.ClaimMapViews
import Derived.JoinedTies
import Derived.KernelRfl
namespace Go.Proofs.YtihjnfhdmgipmaaGreat
/- THE CELL 'sum', in the pinned program and in every row, IS THE sha256 OF THE DUMP (.gsa) THAT YtihjnfhdmgipmaaGreatProg.lean LOADS. Nothing in Lean hashes anything: it is a label: what it is worth is what the hold of that sum in a sandbox is worth. -/
noncomputable def Tryz.pinned : Pinned := { name := "ytihjnfhdmgipmaagreat", sum := "b3322ceb26e4d4cb794b2a2b804e80a2a93799d4c9e82c51ad7737430f32f32f", checked := Tryz.checked }
namespace Rows
def none {H : Type} : Left H := { results := [], args := [] }

/-- 'gridmarketlaw26.UnitoptBest': WHATEVER THE INPUT: true; the input reads as it did. -/
def unitoptBestSpec : ChangeSpec := { name := "unitoptBest", fn := fun _ => fun
  | [d1, d2, d3, d4, d5] => { results := [.lit (.bool true)], args := [d1, d2, d3, d4, d5] }
  | _ => none }
def unitoptBestRow : OpenClaim := { program := "ytihjnfhdmgipmaagreat", sum := "b3322ceb26e4d4cb794b2a2b804e80a2a93799d4c9e82c51ad7737430f32f32f", func := "gridmarket/gridmarketlaw26.UnitoptBest", spec := "unitoptBest", unfollowed := true, recurses := true, apart := false }
def UnitoptBestSaid : Prop := unitoptBestRow.holds Tryz.pinned (OpenSpec.ofChange unitoptBestSpec)

/-- ITS FALSE NEIGHBOUR: 'it returns false'. Refute it at one input. -/
def unitoptBestWrong : ChangeSpec := { name := "unitoptBest", fn := fun _ => fun
  | [d1, d2, d3, d4, d5] => { results := [.lit (.bool false)], args := [d1, d2, d3, d4, d5] }
  | _ => none }
def UnitoptBestWrongFalsely : Prop := unitoptBestRow.holds Tryz.pinned (OpenSpec.ofChange unitoptBestWrong)

/-- 'gridmarketlaw26.UnitoptAny': WHATEVER THE INPUT: true; the input reads as it did. -/
def unitoptAnySpec : ChangeSpec := { name := "unitoptAny", fn := fun _ => fun
  | [d1, d2, d3, d4, d5, d6] => { results := [.lit (.bool true)], args := [d1, d2, d3, d4, d5, d6] }
  | _ => none }
def unitoptAnyRow : OpenClaim := { program := "ytihjnfhdmgipmaagreat", sum := "b3322ceb26e4d4cb794b2a2b804e80a2a93799d4c9e82c51ad7737430f32f32f", func := "gridmarket/gridmarketlaw26.UnitoptAny", spec := "unitoptAny", unfollowed := true, recurses := true, apart := false }
def UnitoptAnySaid : Prop := unitoptAnyRow.holds Tryz.pinned (OpenSpec.ofChange unitoptAnySpec)

/-- ITS FALSE NEIGHBOUR: 'it returns false'. Refute it at one input. -/
def unitoptAnyWrong : ChangeSpec := { name := "unitoptAny", fn := fun _ => fun
  | [d1, d2, d3, d4, d5, d6] => { results := [.lit (.bool false)], args := [d1, d2, d3, d4, d5, d6] }
  | _ => none }
def UnitoptAnyWrongFalsely : Prop := unitoptAnyRow.holds Tryz.pinned (OpenSpec.ofChange unitoptAnyWrong)

/-- 'gridmarketlaw26.UnitoptHours': WHATEVER THE INPUT: true; the input reads as it did. -/
def unitoptHoursSpec : ChangeSpec := { name := "unitoptHours", fn := fun _ => fun
  | [d1, d2, d3, d4, d5, d6, d7, d8] => { results := [.lit (.bool true)], args := [d1, d2, d3, d4, d5, d6, d7, d8] }
  | _ => none }
def unitoptHoursRow : OpenClaim := { program := "ytihjnfhdmgipmaagreat", sum := "b3322ceb26e4d4cb794b2a2b804e80a2a93799d4c9e82c51ad7737430f32f32f", func := "gridmarket/gridmarketlaw26.UnitoptHours", spec := "unitoptHours", unfollowed := true, recurses := true, apart := false }
def UnitoptHoursSaid : Prop := unitoptHoursRow.holds Tryz.pinned (OpenSpec.ofChange unitoptHoursSpec)

/-- ITS FALSE NEIGHBOUR: 'it returns false'. Refute it at one input. -/
def unitoptHoursWrong : ChangeSpec := { name := "unitoptHours", fn := fun _ => fun
  | [d1, d2, d3, d4, d5, d6, d7, d8] => { results := [.lit (.bool false)], args := [d1, d2, d3, d4, d5, d6, d7, d8] }
  | _ => none }
def UnitoptHoursWrongFalsely : Prop := unitoptHoursRow.holds Tryz.pinned (OpenSpec.ofChange unitoptHoursWrong)

/-- 'gridmarketlaw26.UnitoptConvex': WHATEVER THE INPUT: true; the input reads as it did. -/
def unitoptConvexSpec : ChangeSpec := { name := "unitoptConvex", fn := fun _ => fun
  | [d1, d2, d3, d4, d5, d6] => { results := [.lit (.bool true)], args := [d1, d2, d3, d4, d5, d6] }
  | _ => none }
def unitoptConvexRow : OpenClaim := { program := "ytihjnfhdmgipmaagreat", sum := "b3322ceb26e4d4cb794b2a2b804e80a2a93799d4c9e82c51ad7737430f32f32f", func := "gridmarket/gridmarketlaw26.UnitoptConvex", spec := "unitoptConvex", unfollowed := true, recurses := true, apart := false }
def UnitoptConvexSaid : Prop := unitoptConvexRow.holds Tryz.pinned (OpenSpec.ofChange unitoptConvexSpec)

/-- ITS FALSE NEIGHBOUR: 'it returns false'. Refute it at one input. -/
def unitoptConvexWrong : ChangeSpec := { name := "unitoptConvex", fn := fun _ => fun
  | [d1, d2, d3, d4, d5, d6] => { results := [.lit (.bool false)], args := [d1, d2, d3, d4, d5, d6] }
  | _ => none }
def UnitoptConvexWrongFalsely : Prop := unitoptConvexRow.holds Tryz.pinned (OpenSpec.ofChange unitoptConvexWrong)

/-- 'gridmarketlaw26.UnitoptFixed': WHATEVER THE INPUT: true; the input reads as it did. -/
def unitoptFixedSpec : ChangeSpec := { name := "unitoptFixed", fn := fun _ => fun
  | [d1, d2, d3, d4] => { results := [.lit (.bool true)], args := [d1, d2, d3, d4] }
  | _ => none }
def unitoptFixedRow : OpenClaim := { program := "ytihjnfhdmgipmaagreat", sum := "b3322ceb26e4d4cb794b2a2b804e80a2a93799d4c9e82c51ad7737430f32f32f", func := "gridmarket/gridmarketlaw26.UnitoptFixed", spec := "unitoptFixed", unfollowed := true, recurses := true, apart := false }
def UnitoptFixedSaid : Prop := unitoptFixedRow.holds Tryz.pinned (OpenSpec.ofChange unitoptFixedSpec)

/-- ITS FALSE NEIGHBOUR: 'it returns false'. Refute it at one input. -/
def unitoptFixedWrong : ChangeSpec := { name := "unitoptFixed", fn := fun _ => fun
  | [d1, d2, d3, d4] => { results := [.lit (.bool false)], args := [d1, d2, d3, d4] }
  | _ => none }
def UnitoptFixedWrongFalsely : Prop := unitoptFixedRow.holds Tryz.pinned (OpenSpec.ofChange unitoptFixedWrong)

/-- 'gridmarketlaw26.UnitoptIdle': WHATEVER THE INPUT: true; the input reads as it did. -/
def unitoptIdleSpec : ChangeSpec := { name := "unitoptIdle", fn := fun _ => fun
  | [d1, d2] => { results := [.lit (.bool true)], args := [d1, d2] }
  | _ => none }
def unitoptIdleRow : OpenClaim := { program := "ytihjnfhdmgipmaagreat", sum := "b3322ceb26e4d4cb794b2a2b804e80a2a93799d4c9e82c51ad7737430f32f32f", func := "gridmarket/gridmarketlaw26.UnitoptIdle", spec := "unitoptIdle", unfollowed := true, recurses := true, apart := false }
def UnitoptIdleSaid : Prop := unitoptIdleRow.holds Tryz.pinned (OpenSpec.ofChange unitoptIdleSpec)

/-- ITS FALSE NEIGHBOUR: 'it returns false'. Refute it at one input. -/
def unitoptIdleWrong : ChangeSpec := { name := "unitoptIdle", fn := fun _ => fun
  | [d1, d2] => { results := [.lit (.bool false)], args := [d1, d2] }
  | _ => none }
def UnitoptIdleWrongFalsely : Prop := unitoptIdleRow.holds Tryz.pinned (OpenSpec.ofChange unitoptIdleWrong)

/-- 'gridmarketlaw26.UnitoptRuns': WHATEVER THE INPUT: true; the input reads as it did. -/
def unitoptRunsSpec : ChangeSpec := { name := "unitoptRuns", fn := fun _ => fun
  | [d1, d2, d3, d4, d5, d6] => { results := [.lit (.bool true)], args := [d1, d2, d3, d4, d5, d6] }
  | _ => none }
def unitoptRunsRow : OpenClaim := { program := "ytihjnfhdmgipmaagreat", sum := "b3322ceb26e4d4cb794b2a2b804e80a2a93799d4c9e82c51ad7737430f32f32f", func := "gridmarket/gridmarketlaw26.UnitoptRuns", spec := "unitoptRuns", unfollowed := true, recurses := true, apart := false }
def UnitoptRunsSaid : Prop := unitoptRunsRow.holds Tryz.pinned (OpenSpec.ofChange unitoptRunsSpec)

/-- ITS FALSE NEIGHBOUR: 'it returns false'. Refute it at one input. -/
def unitoptRunsWrong : ChangeSpec := { name := "unitoptRuns", fn := fun _ => fun
  | [d1, d2, d3, d4, d5, d6] => { results := [.lit (.bool false)], args := [d1, d2, d3, d4, d5, d6] }
  | _ => none }
def UnitoptRunsWrongFalsely : Prop := unitoptRunsRow.holds Tryz.pinned (OpenSpec.ofChange unitoptRunsWrong)

/-- 'gridmarketlaw26.UnitoptRunErrors': WHATEVER THE INPUT: true; the input reads as it did. -/
def unitoptRunErrorsSpec : ChangeSpec := { name := "unitoptRunErrors", fn := fun _ => fun
  | [d1, d2, d3, d4, d5, d6] => { results := [.lit (.bool true)], args := [d1, d2, d3, d4, d5, d6] }
  | _ => none }
def unitoptRunErrorsRow : OpenClaim := { program := "ytihjnfhdmgipmaagreat", sum := "b3322ceb26e4d4cb794b2a2b804e80a2a93799d4c9e82c51ad7737430f32f32f", func := "gridmarket/gridmarketlaw26.UnitoptRunErrors", spec := "unitoptRunErrors", unfollowed := true, recurses := true, apart := false }
def UnitoptRunErrorsSaid : Prop := unitoptRunErrorsRow.holds Tryz.pinned (OpenSpec.ofChange unitoptRunErrorsSpec)

/-- ITS FALSE NEIGHBOUR: 'it returns false'. Refute it at one input. -/
def unitoptRunErrorsWrong : ChangeSpec := { name := "unitoptRunErrors", fn := fun _ => fun
  | [d1, d2, d3, d4, d5, d6] => { results := [.lit (.bool false)], args := [d1, d2, d3, d4, d5, d6] }
  | _ => none }
def UnitoptRunErrorsWrongFalsely : Prop := unitoptRunErrorsRow.holds Tryz.pinned (OpenSpec.ofChange unitoptRunErrorsWrong)

/- THE SECOND FORM. 'bulk': how many values and letters a reading holds, each counted each time it is reached (what is shared counts as often as it is met; a slice's spare places count too). A statement '..UptoSaid' is the law's where the arguments, and the package variables that the reading takes, are together of bulk at most 1048576: NARROWER than '..Said'. Prove '..Said' where nothing that the law and all that it calls make is longer than what came in: it says more and counts as full. Else prove '..UptoSaid'. A law counts once. -/
mutual
def uptoBulk {H : Type} : DataW H → Nat
  | .lit (.string bytes) => bytes.length + 1
  | .lit _ => 1
  | .nil => 1
  | .ptr d => uptoBulk d + 1
  | .slice elems spare => uptoBulkAll elems + uptoBulkAll spare + 1
  | .agg parts => uptoBulkAll parts + 1
  | .iface _ d => uptoBulk d + 1
  | .map entries => uptoBulkEntries entries + 1
  | .held _ => 1
def uptoBulkAll {H : Type} : List (DataW H) → Nat
  | [] => 0
  | d :: r => uptoBulk d + uptoBulkAll r
def uptoBulkEntries {H : Type} : List (Lit × DataW H) → Nat
  | [] => 0
  | x :: r => uptoBulkEntry x + uptoBulkEntries r
def uptoBulkEntry {H : Type} : Lit × DataW H → Nat
  | (.string bytes, d) => bytes.length + uptoBulk d + 1
  | (_, d) => uptoBulk d + 1
 end
def uptoSmall : (H : Type) → List (DataW H) → Bool := fun _ ds => decide (uptoBulkAll ds ≤ 1048576)
def OpenSpec.upto (s : _root_.Go.ChangeSpec) : _root_.Go.OpenSpec := { _root_.Go.OpenSpec.ofChange s with cond := some uptoSmall }

/-- 'gridmarketlaw26.UnitoptBest', WHERE WHAT IT READS IS OF BULK AT MOST 1048576: true; the input reads as it did. -/
def unitoptBestUptoRow : OpenClaim := { program := "ytihjnfhdmgipmaagreat", sum := "b3322ceb26e4d4cb794b2a2b804e80a2a93799d4c9e82c51ad7737430f32f32f", func := "gridmarket/gridmarketlaw26.UnitoptBest", spec := "unitoptBest", unfollowed := true, recurses := true, apart := false, narrowed := true }
def UnitoptBestUptoSaid : Prop := unitoptBestUptoRow.holds Tryz.pinned (OpenSpec.upto unitoptBestSpec)

/-- 'gridmarketlaw26.UnitoptAny', WHERE WHAT IT READS IS OF BULK AT MOST 1048576: true; the input reads as it did. -/
def unitoptAnyUptoRow : OpenClaim := { program := "ytihjnfhdmgipmaagreat", sum := "b3322ceb26e4d4cb794b2a2b804e80a2a93799d4c9e82c51ad7737430f32f32f", func := "gridmarket/gridmarketlaw26.UnitoptAny", spec := "unitoptAny", unfollowed := true, recurses := true, apart := false, narrowed := true }
def UnitoptAnyUptoSaid : Prop := unitoptAnyUptoRow.holds Tryz.pinned (OpenSpec.upto unitoptAnySpec)

/-- 'gridmarketlaw26.UnitoptHours', WHERE WHAT IT READS IS OF BULK AT MOST 1048576: true; the input reads as it did. -/
def unitoptHoursUptoRow : OpenClaim := { program := "ytihjnfhdmgipmaagreat", sum := "b3322ceb26e4d4cb794b2a2b804e80a2a93799d4c9e82c51ad7737430f32f32f", func := "gridmarket/gridmarketlaw26.UnitoptHours", spec := "unitoptHours", unfollowed := true, recurses := true, apart := false, narrowed := true }
def UnitoptHoursUptoSaid : Prop := unitoptHoursUptoRow.holds Tryz.pinned (OpenSpec.upto unitoptHoursSpec)

/-- 'gridmarketlaw26.UnitoptConvex', WHERE WHAT IT READS IS OF BULK AT MOST 1048576: true; the input reads as it did. -/
def unitoptConvexUptoRow : OpenClaim := { program := "ytihjnfhdmgipmaagreat", sum := "b3322ceb26e4d4cb794b2a2b804e80a2a93799d4c9e82c51ad7737430f32f32f", func := "gridmarket/gridmarketlaw26.UnitoptConvex", spec := "unitoptConvex", unfollowed := true, recurses := true, apart := false, narrowed := true }
def UnitoptConvexUptoSaid : Prop := unitoptConvexUptoRow.holds Tryz.pinned (OpenSpec.upto unitoptConvexSpec)

/-- 'gridmarketlaw26.UnitoptFixed', WHERE WHAT IT READS IS OF BULK AT MOST 1048576: true; the input reads as it did. -/
def unitoptFixedUptoRow : OpenClaim := { program := "ytihjnfhdmgipmaagreat", sum := "b3322ceb26e4d4cb794b2a2b804e80a2a93799d4c9e82c51ad7737430f32f32f", func := "gridmarket/gridmarketlaw26.UnitoptFixed", spec := "unitoptFixed", unfollowed := true, recurses := true, apart := false, narrowed := true }
def UnitoptFixedUptoSaid : Prop := unitoptFixedUptoRow.holds Tryz.pinned (OpenSpec.upto unitoptFixedSpec)

/-- 'gridmarketlaw26.UnitoptIdle', WHERE WHAT IT READS IS OF BULK AT MOST 1048576: true; the input reads as it did. -/
def unitoptIdleUptoRow : OpenClaim := { program := "ytihjnfhdmgipmaagreat", sum := "b3322ceb26e4d4cb794b2a2b804e80a2a93799d4c9e82c51ad7737430f32f32f", func := "gridmarket/gridmarketlaw26.UnitoptIdle", spec := "unitoptIdle", unfollowed := true, recurses := true, apart := false, narrowed := true }
def UnitoptIdleUptoSaid : Prop := unitoptIdleUptoRow.holds Tryz.pinned (OpenSpec.upto unitoptIdleSpec)

/-- 'gridmarketlaw26.UnitoptRuns', WHERE WHAT IT READS IS OF BULK AT MOST 1048576: true; the input reads as it did. -/
def unitoptRunsUptoRow : OpenClaim := { program := "ytihjnfhdmgipmaagreat", sum := "b3322ceb26e4d4cb794b2a2b804e80a2a93799d4c9e82c51ad7737430f32f32f", func := "gridmarket/gridmarketlaw26.UnitoptRuns", spec := "unitoptRuns", unfollowed := true, recurses := true, apart := false, narrowed := true }
def UnitoptRunsUptoSaid : Prop := unitoptRunsUptoRow.holds Tryz.pinned (OpenSpec.upto unitoptRunsSpec)

/-- 'gridmarketlaw26.UnitoptRunErrors', WHERE WHAT IT READS IS OF BULK AT MOST 1048576: true; the input reads as it did. -/
def unitoptRunErrorsUptoRow : OpenClaim := { program := "ytihjnfhdmgipmaagreat", sum := "b3322ceb26e4d4cb794b2a2b804e80a2a93799d4c9e82c51ad7737430f32f32f", func := "gridmarket/gridmarketlaw26.UnitoptRunErrors", spec := "unitoptRunErrors", unfollowed := true, recurses := true, apart := false, narrowed := true }
def UnitoptRunErrorsUptoSaid : Prop := unitoptRunErrorsUptoRow.holds Tryz.pinned (OpenSpec.upto unitoptRunErrorsSpec)

end Rows
end Go.Proofs.YtihjnfhdmgipmaaGreat
