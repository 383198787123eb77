/- A part of the proof: what it holds is said at each theorem. -/
import Derived.Test.YtfoogjjibhfjgaaJnN
import Derived.Test.YtfoogjjibhfjgaaJnK
set_option linter.unusedVariables false
namespace Gx
open Go Go.RowKit
theorem flat_ints : ∀ l : List { n : Int // (Lit.int .i64 n).wf = true }, (l.flatMap fun n => [AV.int .i64 n.1]) = intsAV (l.map (·.1))
  | [] => rfl
  | b :: r => by rw [List.flatMap_cons, flat_ints r]; rfl
end Gx
