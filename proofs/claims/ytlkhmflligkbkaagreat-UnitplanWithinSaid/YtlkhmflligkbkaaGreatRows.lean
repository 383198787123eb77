/-
  No cell of these rows narrows 'for every input' (looked for: loops, veiled, ifaces, maps, wideKeys, modest, calm, conditions, laid).
  DERIVED. THE GIVEN ROWS OF THIS SEAT. 8 by the template 'for every input the law returns true; each argument reads behind the call as it read before'; 0 by the template 'total and deterministic' (their statements: YtlkhmflligkbkaaGreatTotals.lean).
  GIVEN WITH THE SEED: the statements are not yours to turn. If you find one false, say at which input.
  Laid BY PROGRAM, IN A SANDBOX (cutbox-rows.mjs): the forced cells as the released guide's own fill.sh prints them over the translation 856343c0ebc6982d… (all of the seat's roots in one cut). By AI agents, Wed Nov 11 2026. No macro, syntax, notation, axiom, sorry.
-/
import Derived.Test.YtlkhmflligkbkaaGreatChecked
import GoSem.Claim
import GoSem.ClaimJoined
import GoSem.ClaimMapViews
import Derived.JoinedTies
import Derived.KernelRfl
namespace Go.Proofs.YtlkhmflligkbkaaGreat
/- THE CELL 'sum', in the pinned program and in every row, IS THE sha256 OF THE DUMP (.gsa) THAT YtlkhmflligkbkaaGreatProg.lean LOADS. Nothing in Lean hashes anything: it is a label: what it is worth is what the hold of that sum in a sandbox is worth. -/
noncomputable def Tryz.pinned : Pinned := { name := "ytlkhmflligkbkaagreat", sum := "856343c0ebc6982dddb52b565767b27f4d1a8be556d39f06fc1a43d963976bbb", checked := Tryz.checked }
namespace Rows
def none {H : Type} : Left H := { results := [], args := [] }

/-- 'gridmarketlaw25.UnitplanValid': WHATEVER THE INPUT: true; the input reads as it did. -/
def unitplanValidSpec : ChangeSpec := { name := "unitplanValid", fn := fun _ => fun
  | [d1, d2, d3, d4, d5] => { results := [.lit (.bool true)], args := [d1, d2, d3, d4, d5] }
  | _ => none }
def unitplanValidRow : OpenClaim := { program := "ytlkhmflligkbkaagreat", sum := "856343c0ebc6982dddb52b565767b27f4d1a8be556d39f06fc1a43d963976bbb", func := "gridmarket/gridmarketlaw25.UnitplanValid", spec := "unitplanValid", unfollowed := true, recurses := true, apart := false }
def UnitplanValidSaid : Prop := unitplanValidRow.holds Tryz.pinned (OpenSpec.ofChange unitplanValidSpec)

/-- ITS FALSE NEIGHBOUR: 'it returns false'. Refute it at one input. -/
def unitplanValidWrong : ChangeSpec := { name := "unitplanValid", fn := fun _ => fun
  | [d1, d2, d3, d4, d5] => { results := [.lit (.bool false)], args := [d1, d2, d3, d4, d5] }
  | _ => none }
def UnitplanValidWrongFalsely : Prop := unitplanValidRow.holds Tryz.pinned (OpenSpec.ofChange unitplanValidWrong)

/-- 'gridmarketlaw25.UnitplanSegments': WHATEVER THE INPUT: true; the input reads as it did. -/
def unitplanSegmentsSpec : ChangeSpec := { name := "unitplanSegments", fn := fun _ => fun
  | [d1, d2, d3, d4, d5] => { results := [.lit (.bool true)], args := [d1, d2, d3, d4, d5] }
  | _ => none }
def unitplanSegmentsRow : OpenClaim := { program := "ytlkhmflligkbkaagreat", sum := "856343c0ebc6982dddb52b565767b27f4d1a8be556d39f06fc1a43d963976bbb", func := "gridmarket/gridmarketlaw25.UnitplanSegments", spec := "unitplanSegments", unfollowed := true, recurses := true, apart := false }
def UnitplanSegmentsSaid : Prop := unitplanSegmentsRow.holds Tryz.pinned (OpenSpec.ofChange unitplanSegmentsSpec)

/-- ITS FALSE NEIGHBOUR: 'it returns false'. Refute it at one input. -/
def unitplanSegmentsWrong : ChangeSpec := { name := "unitplanSegments", fn := fun _ => fun
  | [d1, d2, d3, d4, d5] => { results := [.lit (.bool false)], args := [d1, d2, d3, d4, d5] }
  | _ => none }
def UnitplanSegmentsWrongFalsely : Prop := unitplanSegmentsRow.holds Tryz.pinned (OpenSpec.ofChange unitplanSegmentsWrong)

/-- 'gridmarketlaw25.UnitplanEnvelopes': WHATEVER THE INPUT: true; the input reads as it did. -/
def unitplanEnvelopesSpec : ChangeSpec := { name := "unitplanEnvelopes", fn := fun _ => fun
  | [d1, d2, d3, d4, d5, d6] => { results := [.lit (.bool true)], args := [d1, d2, d3, d4, d5, d6] }
  | _ => none }
def unitplanEnvelopesRow : OpenClaim := { program := "ytlkhmflligkbkaagreat", sum := "856343c0ebc6982dddb52b565767b27f4d1a8be556d39f06fc1a43d963976bbb", func := "gridmarket/gridmarketlaw25.UnitplanEnvelopes", spec := "unitplanEnvelopes", unfollowed := true, recurses := true, apart := false }
def UnitplanEnvelopesSaid : Prop := unitplanEnvelopesRow.holds Tryz.pinned (OpenSpec.ofChange unitplanEnvelopesSpec)

/-- ITS FALSE NEIGHBOUR: 'it returns false'. Refute it at one input. -/
def unitplanEnvelopesWrong : ChangeSpec := { name := "unitplanEnvelopes", fn := fun _ => fun
  | [d1, d2, d3, d4, d5, d6] => { results := [.lit (.bool false)], args := [d1, d2, d3, d4, d5, d6] }
  | _ => none }
def UnitplanEnvelopesWrongFalsely : Prop := unitplanEnvelopesRow.holds Tryz.pinned (OpenSpec.ofChange unitplanEnvelopesWrong)

/-- 'gridmarketlaw25.UnitplanConvex': WHATEVER THE INPUT: true; the input reads as it did. -/
def unitplanConvexSpec : ChangeSpec := { name := "unitplanConvex", fn := fun _ => fun
  | [d1, d2, d3] => { results := [.lit (.bool true)], args := [d1, d2, d3] }
  | _ => none }
def unitplanConvexRow : OpenClaim := { program := "ytlkhmflligkbkaagreat", sum := "856343c0ebc6982dddb52b565767b27f4d1a8be556d39f06fc1a43d963976bbb", func := "gridmarket/gridmarketlaw25.UnitplanConvex", spec := "unitplanConvex", unfollowed := true, recurses := true, apart := false }
def UnitplanConvexSaid : Prop := unitplanConvexRow.holds Tryz.pinned (OpenSpec.ofChange unitplanConvexSpec)

/-- ITS FALSE NEIGHBOUR: 'it returns false'. Refute it at one input. -/
def unitplanConvexWrong : ChangeSpec := { name := "unitplanConvex", fn := fun _ => fun
  | [d1, d2, d3] => { results := [.lit (.bool false)], args := [d1, d2, d3] }
  | _ => none }
def UnitplanConvexWrongFalsely : Prop := unitplanConvexRow.holds Tryz.pinned (OpenSpec.ofChange unitplanConvexWrong)

/-- 'gridmarketlaw25.UnitplanWithin': WHATEVER THE INPUT: true; the input reads as it did. -/
def unitplanWithinSpec : ChangeSpec := { name := "unitplanWithin", fn := fun _ => fun
  | [d1, d2, d3] => { results := [.lit (.bool true)], args := [d1, d2, d3] }
  | _ => none }
def unitplanWithinRow : OpenClaim := { program := "ytlkhmflligkbkaagreat", sum := "856343c0ebc6982dddb52b565767b27f4d1a8be556d39f06fc1a43d963976bbb", func := "gridmarket/gridmarketlaw25.UnitplanWithin", spec := "unitplanWithin", unfollowed := true, recurses := true, apart := false }
def UnitplanWithinSaid : Prop := unitplanWithinRow.holds Tryz.pinned (OpenSpec.ofChange unitplanWithinSpec)

/-- ITS FALSE NEIGHBOUR: 'it returns false'. Refute it at one input. -/
def unitplanWithinWrong : ChangeSpec := { name := "unitplanWithin", fn := fun _ => fun
  | [d1, d2, d3] => { results := [.lit (.bool false)], args := [d1, d2, d3] }
  | _ => none }
def UnitplanWithinWrongFalsely : Prop := unitplanWithinRow.holds Tryz.pinned (OpenSpec.ofChange unitplanWithinWrong)

/-- 'gridmarketlaw25.UnitplanChecks': WHATEVER THE INPUT: true; the input reads as it did. -/
def unitplanChecksSpec : ChangeSpec := { name := "unitplanChecks", fn := fun _ => fun
  | [d1, d2, d3, d4, d5] => { results := [.lit (.bool true)], args := [d1, d2, d3, d4, d5] }
  | _ => none }
def unitplanChecksRow : OpenClaim := { program := "ytlkhmflligkbkaagreat", sum := "856343c0ebc6982dddb52b565767b27f4d1a8be556d39f06fc1a43d963976bbb", func := "gridmarket/gridmarketlaw25.UnitplanChecks", spec := "unitplanChecks", unfollowed := true, recurses := true, apart := false }
def UnitplanChecksSaid : Prop := unitplanChecksRow.holds Tryz.pinned (OpenSpec.ofChange unitplanChecksSpec)

/-- ITS FALSE NEIGHBOUR: 'it returns false'. Refute it at one input. -/
def unitplanChecksWrong : ChangeSpec := { name := "unitplanChecks", fn := fun _ => fun
  | [d1, d2, d3, d4, d5] => { results := [.lit (.bool false)], args := [d1, d2, d3, d4, d5] }
  | _ => none }
def UnitplanChecksWrongFalsely : Prop := unitplanChecksRow.holds Tryz.pinned (OpenSpec.ofChange unitplanChecksWrong)

/-- 'gridmarketlaw25.UnitplanPlays': WHATEVER THE INPUT: true; the input reads as it did. -/
def unitplanPlaysSpec : ChangeSpec := { name := "unitplanPlays", fn := fun _ => fun
  | [d1, d2, d3, d4, d5] => { results := [.lit (.bool true)], args := [d1, d2, d3, d4, d5] }
  | _ => none }
def unitplanPlaysRow : OpenClaim := { program := "ytlkhmflligkbkaagreat", sum := "856343c0ebc6982dddb52b565767b27f4d1a8be556d39f06fc1a43d963976bbb", func := "gridmarket/gridmarketlaw25.UnitplanPlays", spec := "unitplanPlays", unfollowed := true, recurses := true, apart := false }
def UnitplanPlaysSaid : Prop := unitplanPlaysRow.holds Tryz.pinned (OpenSpec.ofChange unitplanPlaysSpec)

/-- ITS FALSE NEIGHBOUR: 'it returns false'. Refute it at one input. -/
def unitplanPlaysWrong : ChangeSpec := { name := "unitplanPlays", fn := fun _ => fun
  | [d1, d2, d3, d4, d5] => { results := [.lit (.bool false)], args := [d1, d2, d3, d4, d5] }
  | _ => none }
def UnitplanPlaysWrongFalsely : Prop := unitplanPlaysRow.holds Tryz.pinned (OpenSpec.ofChange unitplanPlaysWrong)

/-- 'gridmarketlaw25.UnitplanLinear': WHATEVER THE INPUT: true; the input reads as it did. -/
def unitplanLinearSpec : ChangeSpec := { name := "unitplanLinear", fn := fun _ => fun
  | [d1, d2, d3, d4] => { results := [.lit (.bool true)], args := [d1, d2, d3, d4] }
  | _ => none }
def unitplanLinearRow : OpenClaim := { program := "ytlkhmflligkbkaagreat", sum := "856343c0ebc6982dddb52b565767b27f4d1a8be556d39f06fc1a43d963976bbb", func := "gridmarket/gridmarketlaw25.UnitplanLinear", spec := "unitplanLinear", unfollowed := true, recurses := true, apart := false }
def UnitplanLinearSaid : Prop := unitplanLinearRow.holds Tryz.pinned (OpenSpec.ofChange unitplanLinearSpec)

/-- ITS FALSE NEIGHBOUR: 'it returns false'. Refute it at one input. -/
def unitplanLinearWrong : ChangeSpec := { name := "unitplanLinear", fn := fun _ => fun
  | [d1, d2, d3, d4] => { results := [.lit (.bool false)], args := [d1, d2, d3, d4] }
  | _ => none }
def UnitplanLinearWrongFalsely : Prop := unitplanLinearRow.holds Tryz.pinned (OpenSpec.ofChange unitplanLinearWrong)

/- THE SECOND FORM. 'bulk': how many values and letters a reading holds, each counted each time it is reached (what is shared counts as often as it is met; a slice's spare places count too). A statement '..UptoSaid' is the law's where the arguments, and the package variables that the reading takes, are together of bulk at most 1048576: NARROWER than '..Said'. Prove '..Said' where nothing that the law and all that it calls make is longer than what came in: it says more and counts as full. Else prove '..UptoSaid'. A law counts once. -/
mutual
def uptoBulk {H : Type} : DataW H → Nat
  | .lit (.string bytes) => bytes.length + 1
  | .lit _ => 1
  | .nil => 1
  | .ptr d => uptoBulk d + 1
  | .slice elems spare => uptoBulkAll elems + uptoBulkAll spare + 1
  | .agg parts => uptoBulkAll parts + 1
  | .iface _ d => uptoBulk d + 1
  | .map entries => uptoBulkEntries entries + 1
  | .held _ => 1
def uptoBulkAll {H : Type} : List (DataW H) → Nat
  | [] => 0
  | d :: r => uptoBulk d + uptoBulkAll r
def uptoBulkEntries {H : Type} : List (Lit × DataW H) → Nat
  | [] => 0
  | x :: r => uptoBulkEntry x + uptoBulkEntries r
def uptoBulkEntry {H : Type} : Lit × DataW H → Nat
  | (.string bytes, d) => bytes.length + uptoBulk d + 1
  | (_, d) => uptoBulk d + 1
 end
def uptoSmall : (H : Type) → List (DataW H) → Bool := fun _ ds => decide (uptoBulkAll ds ≤ 1048576)
def OpenSpec.upto (s : _root_.Go.ChangeSpec) : _root_.Go.OpenSpec := { _root_.Go.OpenSpec.ofChange s with cond := some uptoSmall }

/-- 'gridmarketlaw25.UnitplanValid', WHERE WHAT IT READS IS OF BULK AT MOST 1048576: true; the input reads as it did. -/
def unitplanValidUptoRow : OpenClaim := { program := "ytlkhmflligkbkaagreat", sum := "856343c0ebc6982dddb52b565767b27f4d1a8be556d39f06fc1a43d963976bbb", func := "gridmarket/gridmarketlaw25.UnitplanValid", spec := "unitplanValid", unfollowed := true, recurses := true, apart := false, narrowed := true }
def UnitplanValidUptoSaid : Prop := unitplanValidUptoRow.holds Tryz.pinned (OpenSpec.upto unitplanValidSpec)

/-- 'gridmarketlaw25.UnitplanSegments', WHERE WHAT IT READS IS OF BULK AT MOST 1048576: true; the input reads as it did. -/
def unitplanSegmentsUptoRow : OpenClaim := { program := "ytlkhmflligkbkaagreat", sum := "856343c0ebc6982dddb52b565767b27f4d1a8be556d39f06fc1a43d963976bbb", func := "gridmarket/gridmarketlaw25.UnitplanSegments", spec := "unitplanSegments", unfollowed := true, recurses := true, apart := false, narrowed := true }
def UnitplanSegmentsUptoSaid : Prop := unitplanSegmentsUptoRow.holds Tryz.pinned (OpenSpec.upto unitplanSegmentsSpec)

/-- 'gridmarketlaw25.UnitplanEnvelopes', WHERE WHAT IT READS IS OF BULK AT MOST 1048576: true; the input reads as it did. -/
def unitplanEnvelopesUptoRow : OpenClaim := { program := "ytlkhmflligkbkaagreat", sum := "856343c0ebc6982dddb52b565767b27f4d1a8be556d39f06fc1a43d963976bbb", func := "gridmarket/gridmarketlaw25.UnitplanEnvelopes", spec := "unitplanEnvelopes", unfollowed := true, recurses := true, apart := false, narrowed := true }
def UnitplanEnvelopesUptoSaid : Prop := unitplanEnvelopesUptoRow.holds Tryz.pinned (OpenSpec.upto unitplanEnvelopesSpec)

/-- 'gridmarketlaw25.UnitplanConvex', WHERE WHAT IT READS IS OF BULK AT MOST 1048576: true; the input reads as it did. -/
def unitplanConvexUptoRow : OpenClaim := { program := "ytlkhmflligkbkaagreat", sum := "856343c0ebc6982dddb52b565767b27f4d1a8be556d39f06fc1a43d963976bbb", func := "gridmarket/gridmarketlaw25.UnitplanConvex", spec := "unitplanConvex", unfollowed := true, recurses := true, apart := false, narrowed := true }
def UnitplanConvexUptoSaid : Prop := unitplanConvexUptoRow.holds Tryz.pinned (OpenSpec.upto unitplanConvexSpec)

/-- 'gridmarketlaw25.UnitplanWithin', WHERE WHAT IT READS IS OF BULK AT MOST 1048576: true; the input reads as it did. -/
def unitplanWithinUptoRow : OpenClaim := { program := "ytlkhmflligkbkaagreat", sum := "856343c0ebc6982dddb52b565767b27f4d1a8be556d39f06fc1a43d963976bbb", func := "gridmarket/gridmarketlaw25.UnitplanWithin", spec := "unitplanWithin", unfollowed := true, recurses := true, apart := false, narrowed := true }
def UnitplanWithinUptoSaid : Prop := unitplanWithinUptoRow.holds Tryz.pinned (OpenSpec.upto unitplanWithinSpec)

/-- 'gridmarketlaw25.UnitplanChecks', WHERE WHAT IT READS IS OF BULK AT MOST 1048576: true; the input reads as it did. -/
def unitplanChecksUptoRow : OpenClaim := { program := "ytlkhmflligkbkaagreat", sum := "856343c0ebc6982dddb52b565767b27f4d1a8be556d39f06fc1a43d963976bbb", func := "gridmarket/gridmarketlaw25.UnitplanChecks", spec := "unitplanChecks", unfollowed := true, recurses := true, apart := false, narrowed := true }
def UnitplanChecksUptoSaid : Prop := unitplanChecksUptoRow.holds Tryz.pinned (OpenSpec.upto unitplanChecksSpec)

/-- 'gridmarketlaw25.UnitplanPlays', WHERE WHAT IT READS IS OF BULK AT MOST 1048576: true; the input reads as it did. -/
def unitplanPlaysUptoRow : OpenClaim := { program := "ytlkhmflligkbkaagreat", sum := "856343c0ebc6982dddb52b565767b27f4d1a8be556d39f06fc1a43d963976bbb", func := "gridmarket/gridmarketlaw25.UnitplanPlays", spec := "unitplanPlays", unfollowed := true, recurses := true, apart := false, narrowed := true }
def UnitplanPlaysUptoSaid : Prop := unitplanPlaysUptoRow.holds Tryz.pinned (OpenSpec.upto unitplanPlaysSpec)

/-- 'gridmarketlaw25.UnitplanLinear', WHERE WHAT IT READS IS OF BULK AT MOST 1048576: true; the input reads as it did. -/
def unitplanLinearUptoRow : OpenClaim := { program := "ytlkhmflligkbkaagreat", sum := "856343c0ebc6982dddb52b565767b27f4d1a8be556d39f06fc1a43d963976bbb", func := "gridmarket/gridmarketlaw25.UnitplanLinear", spec := "unitplanLinear", unfollowed := true, recurses := true, apart := false, narrowed := true }
def UnitplanLinearUptoSaid : Prop := unitplanLinearUptoRow.holds Tryz.pinned (OpenSpec.upto unitplanLinearSpec)

end Rows
end Go.Proofs.YtlkhmflligkbkaaGreat
