/-
Closed facts of the program at this statement, part 4. Conditions: none.
-/
import Derived.Test.YtpglaekodahcoaaGreatDoorM10
namespace Go.Proofs.YtpglaekodahcoaaGreatDoor
set_option maxRecDepth 100000
open Go.RowKit Go.WideShapes Go.ChangeShapes Go.ChangeAt
theorem jf9 : Rows.topActiveRow.wfByText (OpenSpec.ofChange Rows.topActiveSpec) = true := by kernel_rfl
theorem jf10 : Tryz.prog.mainIs = some (true, "27a8041fd38b22cb460d6b7299e697cde53dde6f6f50b869bc665d3c32f8c90f".toList) := by kernel_rfl
theorem jf11 : true = Tryz.prog.looks [] := by kernel_rfl
theorem jf12 : false = Rows.topActiveRow.goesBy Tryz.prog := by kernel_rfl
end Go.Proofs.YtpglaekodahcoaaGreatDoor
