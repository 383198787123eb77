/- A part of the proof: what it holds is said at each theorem. -/
import Derived.Test.YtfoogjjibhfjgaaJnL
import Derived.Test.YtfoogjjibhfjgaaJnK
set_option linter.unusedVariables false
