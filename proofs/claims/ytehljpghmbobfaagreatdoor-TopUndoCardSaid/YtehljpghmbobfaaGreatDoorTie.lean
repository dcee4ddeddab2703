/-
  DERIVED. GIVEN WITH THE SEED: THE PROGRAM's TIES (one call each: nine closed facts by the kernel) AND EACH ROW's TIE, after the 31st guide's Derived/Test/Toyas{Tie, Card}.lean. No idea stands in it: it is a product of the set-up. Laid BY PROGRAM, IN A SANDBOX (cutbox-door.mjs). By AI agents, Wed Nov 11 2026. No macro, syntax, notation, axiom, sorry.
-/
import Derived.Test.YtehljpghmbobfaaGreatDoorRows
import Derived.LaidByTextLater
import Derived.SevenTiedAt
import Derived.LaidSub
import Derived.LaidOnce
namespace Go.Proofs.YtehljpghmbobfaaGreatDoor
open Go
set_option maxRecDepth 100000
theorem seatTie1 : Tryz.prog.laidByTextLater [("flightdeck/leg.uses", Rows.laid_flightdeck_leg_uses), ("flightdeck/edit.forms", Rows.laid_flightdeck_edit_forms), ("flightdeck/edit.gap", Rows.laid_flightdeck_edit_gap), ("flightdeck/edit.free", Rows.laid_flightdeck_edit_free)] [.data, .data, .data, .data] true :=
  Program.laidByTextLater_by_one 41 8 27 (by kernel_rfl) (by kernel_rfl) (by kernel_rfl) (by kernel_rfl) (by kernel_rfl) (by kernel_rfl) (fun _ _ => by kernel_rfl)
theorem noOwnUnsafe : Tryz.pinned.checked.prog.headLifts.contains "ownunsafe" = false := by kernel_rfl
theorem tie : Tryz.prog.laidByTextLater [("flightdeck/leg.uses", Rows.laid_flightdeck_leg_uses), ("flightdeck/edit.forms", Rows.laid_flightdeck_edit_forms), ("flightdeck/edit.gap", Rows.laid_flightdeck_edit_gap), ("flightdeck/edit.free", Rows.laid_flightdeck_edit_free)] [.data, .data, .data, .data] true :=
  Program.laidByTextLater.sub seatTie1 ["flightdeck/leg.uses", "flightdeck/edit.forms", "flightdeck/edit.gap", "flightdeck/edit.free"] (by kernel_rfl) (by kernel_rfl)
theorem topUndo_row_tie : Rows.topUndoRow.laidByTextAt .later Tryz.pinned [.data, .data, .data, .data] true :=
  OpenClaim.laidByTextAt_later rfl rfl tie noOwnUnsafe
theorem topUndoUpto_row_tie : Rows.topUndoUptoRow.laidByTextAt .later Tryz.pinned [.data, .data, .data, .data] true :=
  OpenClaim.laidByTextAt_later rfl rfl tie noOwnUnsafe
end Go.Proofs.YtehljpghmbobfaaGreatDoor
