/-
Closed facts of the program at this statement, part 2. Conditions: none.
-/
import Derived.Test.YtpglaekodahcoaaGreatDoorM8
namespace Go.Proofs.YtpglaekodahcoaaGreatDoor
set_option maxRecDepth 100000
open Go.RowKit Go.WideShapes Go.ChangeShapes Go.ChangeAt
theorem jf6 : Tryz.prog.recurses 3 = true := by kernel_rfl
theorem jf7 : Tryz.prog.varsNamed 3 = Rows.topActiveRow.named := by kernel_rfl
end Go.Proofs.YtpglaekodahcoaaGreatDoor
