/-
The role of a computer: the contracts of both Decide. Conditions: the numbers lie in their types.
-/
import Derived.Test.YtgnajpoebooafaaProg
import Derived.Test.YtgnajpoebooafaaAgSpec
namespace Go.Proofs.Ytgnajpoebooafaa
set_option linter.unusedVariables false
set_option linter.unusedSimpArgs false
set_option maxRecDepth 100000
open Go.RowKit
section
variable (number role steps alone : Int) (heard : Bool) (other theirs : Int) (w : World)
set_option maxHeartbeats 1000000 in
theorem decide1_any : Calls Try.prog 19 #[.int .i64 number, .int .u8 role, .int .i64 steps, .int .i64 alone, .bool heard, .int .u8 other, .int .i64 theirs] w fun e w' => e = .returned (.int .u8 (decideI number role steps alone heard other theirs)) ∧ w = w' := by
  cases heard
  all_goals
    go_enter Try.func19, Try.ntmps19
    go_wp2
    all_goals
      go_ret
      refine ⟨ret_int ?_, rfl⟩
      simp only [beq_iff_eq, beq_eq_false_iff_ne, bne_iff_ne, ne_eq, bne_eq_false_iff_eq, decide_eq_true_eq, decide_eq_false_iff_not] at *
      unfold decideI
      simp only [Bool.false_eq_true, false_and, true_and, and_true, false_or, or_false, true_or, reduceCtorEq, if_true, if_false]
      (repeat' split) <;> first | rfl | omega
set_option maxHeartbeats 1000000 in
theorem decide2_any : Calls Try.prog 20 #[.int .i64 number, .int .u8 role, .int .i64 steps, .int .i64 alone, .bool heard, .int .u8 other, .int .i64 theirs] w fun e w' => e = .returned (.int .u8 (decideI number role steps alone heard other theirs)) ∧ w = w' := by
  cases heard
  all_goals
    go_enter Try.func20, Try.ntmps20
    go_wp2
    all_goals
      go_ret
      refine ⟨ret_int ?_, rfl⟩
      simp only [beq_iff_eq, beq_eq_false_iff_ne, bne_iff_ne, ne_eq, bne_eq_false_iff_eq, decide_eq_true_eq, decide_eq_false_iff_not] at *
      unfold decideI
      simp only [Bool.false_eq_true, false_and, true_and, and_true, false_or, or_false, true_or, reduceCtorEq, if_true, if_false]
      (repeat' split) <;> first | rfl | omega
end
end Go.Proofs.Ytgnajpoebooafaa
