/-
Two closed facts that every law's frame needs. Conditions: none.
-/
import Derived.Test.YtfhchendnfpbkaaRows
import Derived.Test.YtfhchendnfpbkaaE8
namespace Go.Proofs.Ytfhchendnfpbkaa
open Go.RowKit
theorem Try.own : ownKnob Try.prog.godebug = none := by kernel_rfl
theorem Try.laidOut : laidOutB Try.prog = true := by kernel_rfl
end Go.Proofs.Ytfhchendnfpbkaa
