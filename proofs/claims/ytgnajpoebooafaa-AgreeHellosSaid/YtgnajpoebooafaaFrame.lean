/-
Two closed facts that every law's frame needs. Conditions: none.
-/
import Derived.Test.YtgnajpoebooafaaRows
import Derived.Test.YtgnajpoebooafaaOpen
namespace Go.Proofs.Ytgnajpoebooafaa
set_option linter.unusedVariables false
set_option linter.unusedSimpArgs false
set_option maxRecDepth 100000
open Go.RowKit Go.WideShapes Go.ChangeShapes Go.ChangeAt
theorem Try.own : ownKnob Try.prog.godebug = none := by kernel_rfl
theorem Try.laidOut : laidOutB Try.prog = true := by kernel_rfl
end Go.Proofs.Ytgnajpoebooafaa
