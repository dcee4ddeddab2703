/-
Closed facts of the program at this statement, part 3. Conditions: none.
-/
import Derived.Test.YtpglaekodahcoaaGreatDoorM9
namespace Go.Proofs.YtpglaekodahcoaaGreatDoor
set_option maxRecDepth 100000
open Go.RowKit Go.WideShapes Go.ChangeShapes Go.ChangeAt
theorem jf8 : joinedFacts Tryz.prog 3 Tryz.f3 Rows.topActiveSpec Rows.topActiveRow = true := by
  unfold joinedFacts
  rw [jf1, jf2, jf3, jf4, jf5, jf6, jf7]
  kernel_rfl
end Go.Proofs.YtpglaekodahcoaaGreatDoor
