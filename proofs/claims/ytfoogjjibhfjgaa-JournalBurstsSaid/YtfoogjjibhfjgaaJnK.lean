/- A part of the proof: what it holds is said at each theorem. -/
import Derived.Test.YtfoogjjibhfjgaaJnJ
import Derived.Test.YtfoogjjibhfjgaaGxZg
set_option linter.unusedVariables false
namespace Gx
open Go Go.RowKit
theorem flat_lists : ∀ l : List { x : List UInt8 // x.length ≤ maxLen }, (l.flatMap fun x => [AV.imm (x.1.flatMap fun b => [AV.int .u8 (b.toNat : Int)]) x.1.length 1 false false]) = listsAV (l.map (·.1))
  | [] => rfl
  | b :: r => by rw [List.flatMap_cons, flat_lists r, flat_bytes]; rfl
end Gx
