/-
Two closed facts that every law's frame needs. Conditions: none.
-/
import Derived.Test.YthfekfebgghjhaaDoorRows
import Derived.Test.YthfekfebgghjhaaDoorE8
namespace Go.Proofs.YthfekfebgghjhaaDoor
open Go.RowKit
theorem Tryd.own : ownKnob Tryd.prog.godebug = none := by kernel_rfl
theorem Tryd.laidOut : laidOutB Tryd.prog = true := by kernel_rfl
end Go.Proofs.YthfekfebgghjhaaDoor
