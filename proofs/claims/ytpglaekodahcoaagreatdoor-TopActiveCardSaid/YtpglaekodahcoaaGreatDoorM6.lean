/-
What the listed package-level variables give. Conditions: each lemma's own.
-/
import Derived.Test.YtpglaekodahcoaaGreatDoorM5
import Derived.Test.YtpglaekodahcoaaGreatDoorRows
import Derived.Lay
namespace Go.Proofs.YtpglaekodahcoaaGreatDoor
set_option linter.unusedVariables false
set_option linter.unusedSimpArgs false
set_option maxRecDepth 100000
open Go.RowKit Go.WideShapes Go.ChangeShapes Go.ChangeAt
def laidU : List (String × DataW Unit) := Rows.topActiveRow.laid
theorem door_met (os : Os) (args : Array Value) : laidMetH Tryz.prog laidU ((World.laidAll Tryz.prog os laidU).forCall (fun _ _ => 0) ⟨#[], args, []⟩).memory := by
  rw [MakeChecks.laidMetH_plain _ _ _ (by kernel_rfl)]
  exact laidMet_laidAll _ (by kernel_rfl) (by kernel_rfl)
theorem gi_of {W : World} (h : laidMetH Tryz.prog laidU W) : GI (psiOf W) := by
  refine ⟨fun _ _ => trivial, fun k d cs h1 h2 => ?_⟩
  rw [MakeChecks.laidMetH_plain _ _ _ (by kernel_rfl)] at h
  obtain ⟨ps, hv, _, _⟩ := h
  have hm := getG_mem h1
  rcases List.mem_cons.1 hm with e | hm
  · injection e with e1 e2; subst e1; subst e2
    exact laid_gp hv 7 "flightdeck/leg.uses" Rows.laid_flightdeck_leg_uses 0 214 9 [.int .u16 0, .int .u16 1, .int .u16 9, .int .u16 25, .int .u16 9, .int .u16 71, .int .u16 71, .int .u16 16, .int .u16 50, .int .u16 16, .int .u16 146, .int .u16 17, .int .u16 49, .int .u16 17, .int .u16 53, .int .u16 53, .int .u16 53, .int .u16 53] h2 (by kernel_rfl) (by kernel_rfl) (by kernel_rfl) (by kernel_rfl) (by kernel_rfl) (by kernel_rfl)
  rcases List.mem_cons.1 hm with e | hm
  · injection e with e1 e2; subst e1; subst e2
    exact laid_gp hv 6 "flightdeck/leg.names" Rows.laid_flightdeck_leg_names 1 215 9 [.string [], .string [73, 70], .string [84, 70], .string [67, 70], .string [68, 70], .string [82, 70], .string [65, 70], .string [67, 65], .string [67, 68], .string [67, 73], .string [67, 82], .string [70, 65], .string [70, 67], .string [70, 77], .string [72, 65], .string [72, 70], .string [72, 77], .string [80, 73]] h2 (by kernel_rfl) (by kernel_rfl) (by kernel_rfl) (by kernel_rfl) (by kernel_rfl) (by kernel_rfl)
  rcases List.mem_cons.1 hm with e | hm
  · injection e with e1 e2; subst e1; subst e2
    exact laid_gp hv 0 "math/bits.deBruijn32tab" Rows.laid_math_bits_deBruijn32tab 10 386 9 [.int .u8 0, .int .u8 1, .int .u8 28, .int .u8 2, .int .u8 29, .int .u8 14, .int .u8 24, .int .u8 3, .int .u8 30, .int .u8 22, .int .u8 20, .int .u8 15, .int .u8 25, .int .u8 17, .int .u8 4, .int .u8 8, .int .u8 31, .int .u8 27, .int .u8 13, .int .u8 23, .int .u8 21, .int .u8 19, .int .u8 16, .int .u8 7, .int .u8 26, .int .u8 12, .int .u8 18, .int .u8 6, .int .u8 11, .int .u8 5, .int .u8 10, .int .u8 9] h2 (by kernel_rfl) (by kernel_rfl) (by kernel_rfl) (by kernel_rfl) (by kernel_rfl) (by kernel_rfl)
  rcases List.mem_cons.1 hm with e | hm
  · injection e with e1 e2; subst e1; subst e2
    exact laid_gp hv 1 "math/bits.deBruijn64tab" Rows.laid_math_bits_deBruijn64tab 11 387 9 [.int .u8 0, .int .u8 1, .int .u8 56, .int .u8 2, .int .u8 57, .int .u8 49, .int .u8 28, .int .u8 3, .int .u8 61, .int .u8 58, .int .u8 42, .int .u8 50, .int .u8 38, .int .u8 29, .int .u8 17, .int .u8 4, .int .u8 62, .int .u8 47, .int .u8 59, .int .u8 36, .int .u8 45, .int .u8 43, .int .u8 51, .int .u8 22, .int .u8 53, .int .u8 39, .int .u8 33, .int .u8 30, .int .u8 24, .int .u8 18, .int .u8 12, .int .u8 5, .int .u8 63, .int .u8 55, .int .u8 48, .int .u8 27, .int .u8 60, .int .u8 41, .int .u8 37, .int .u8 16, .int .u8 46, .int .u8 35, .int .u8 44, .int .u8 21, .int .u8 52, .int .u8 32, .int .u8 23, .int .u8 11, .int .u8 54, .int .u8 26, .int .u8 40, .int .u8 15, .int .u8 34, .int .u8 20, .int .u8 31, .int .u8 10, .int .u8 25, .int .u8 14, .int .u8 19, .int .u8 9, .int .u8 13, .int .u8 8, .int .u8 7, .int .u8 6] h2 (by kernel_rfl) (by kernel_rfl) (by kernel_rfl) (by kernel_rfl) (by kernel_rfl) (by kernel_rfl)
  cases hm
end Go.Proofs.YtpglaekodahcoaaGreatDoor
