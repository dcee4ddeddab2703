/-
Two closed facts that every law's frame needs. Conditions: none.
-/
import Derived.Test.YtpleflcfaecojaaGreatRows
import Derived.Test.YtpleflcfaecojaaGreatE8
namespace Go.Proofs.YtpleflcfaecojaaGreat
open Go.RowKit
theorem Tryz.own : ownKnob Tryz.prog.godebug = none := by kernel_rfl
theorem Tryz.laidOut : laidOutB Tryz.prog = true := by kernel_rfl
end Go.Proofs.YtpleflcfaecojaaGreat
