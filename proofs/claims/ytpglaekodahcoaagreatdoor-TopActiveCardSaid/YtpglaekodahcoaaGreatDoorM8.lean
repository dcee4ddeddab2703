/-
Closed facts of the program at this statement, part 1. Conditions: none.
-/
import Derived.Test.YtpglaekodahcoaaGreatDoorM7
import Derived.Test.YtpglaekodahcoaaGreatDoorCards
import Derived.SevenTiedAt
namespace Go.Proofs.YtpglaekodahcoaaGreatDoor
set_option maxRecDepth 100000
open Go.RowKit Go.WideShapes Go.ChangeShapes Go.ChangeAt
theorem jf1 : Rows.topActiveRow.wf (OpenSpec.ofChange Rows.topActiveSpec) = true := by kernel_rfl
theorem jf2 : laidOutB Tryz.prog = true := by kernel_rfl
theorem jf3 : mapsRowed Tryz.prog = true := by kernel_rfl
theorem jf4 : Tryz.prog.inPlace 3 = Rows.topActiveRow.inPlace := by kernel_rfl
theorem jf5 : Tryz.prog.unfollowed 3 = true := by kernel_rfl
end Go.Proofs.YtpglaekodahcoaaGreatDoor
