/-
Closed facts of the program at this statement, part 1. Conditions: none.
-/
import Derived.Test.YtpglaekodahcoaaGreatDoorM7
import Derived.Test.YtpglaekodahcoaaGreatDoorCards
import Derived.SevenTiedAt
namespace Go.Proofs.YtpglaekodahcoaaGreatDoor
set_option maxRecDepth 100000
open Go.RowKit Go.WideShapes Go.ChangeShapes Go.ChangeAt
theorem jf1 : Rows.topDamageRow.wf (OpenSpec.ofChange Rows.topDamageSpec) = true := by kernel_rfl
theorem jf2 : laidOutB Tryz.prog = true := by kernel_rfl
theorem jf3 : mapsRowed Tryz.prog = true := by kernel_rfl
theorem jf4 : Tryz.prog.inPlace 4 = Rows.topDamageRow.inPlace := by kernel_rfl
theorem jf5 : Tryz.prog.unfollowed 4 = true := by kernel_rfl
end Go.Proofs.YtpglaekodahcoaaGreatDoor
