/-
AgreeClones answers true: the clone is a value of its own, and a node that is nothing answers. Conditions: none.
-/
import Derived.Test.YtgnajpoebooafaaC1
namespace Go.Proofs.Ytgnajpoebooafaa
open Go.RowKit
theorem o13_yes : o13 = some true := by kernel_rfl
theorem agreeClones_yes {r_ : Round} {cycle : Int} : o12 r_ cycle = some true := by
  unfold o12
  rw [o13_yes]
  rfl
end Go.Proofs.Ytgnajpoebooafaa
