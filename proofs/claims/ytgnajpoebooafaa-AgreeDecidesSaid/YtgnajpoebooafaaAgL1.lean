/-
The walks of AgreeDecides and AgreeOne. Conditions: none.
-/
import Derived.Test.YtgnajpoebooafaaAgAwake
import Derived.Test.YtgnajpoebooafaaFrame
namespace Go.Proofs.Ytgnajpoebooafaa
set_option linter.unusedVariables false
set_option linter.unusedSimpArgs false
set_option maxRecDepth 100000
open Go.RowKit
set_option maxHeartbeats 1000000 in
theorem decides_walk (nu al ro ot st th : Int) (he : Bool) (w : World) :
    Calls Try.prog 4 #[.agg #[.int .i64 nu, .int .i64 al, .int .u8 ro, .int .u8 ot, .int .i64 st, .int .i64 th, .bool he]] w fun e w' => e = .returned (.bool true) ∧ Below w.heap.size w w' := by
  go_enter Try.func4, Try.ntmps4
  go_wp2_with (go_at_call 13; refine (awake53 _).mono ?_; rintro e w1 ⟨rfl, hb1⟩; obtain ⟨hc1, hf1, hz1⟩ := bcell hb1; try simp at hz1)
  go_quiet ((first | (go_at_call 19; exact quiet_left (decide1_any _ _ _ _ _ _ _ _)) | (go_at_call 20; exact quiet_left (decide2_any _ _ _ _ _ _ _ _))))
  go_wp2
  go_ret
  exact ⟨ret_bool (by simp), below_drewN (Bt (Ba (Below.refl _ _)) hb1) _⟩
theorem one_a (ro ot st th al : Int) : ((decideI 1 ro st al true ot th == 2) == (decideI 2 ot th al true ro st == 2)) = false := by
  unfold decideI
  by_cases r2 : ro = 2 <;> by_cases r3 : ro = 3 <;> by_cases o2 : ot = 2 <;> by_cases o3 : ot = 3 <;> by_cases s1 : st < th <;> by_cases s2 : th < st <;>
    simp [r2, r3, o2, o3, s1, s2] <;> first | omega | (repeat' split) <;> first | rfl | omega | simp_all
theorem one_b (ro ot st th al : Int) : ((decideI 1 ro st al true ot th != 3 && decideI 2 ot th al true ro st != 3) || st == th) = true := by
  unfold decideI
  by_cases r2 : ro = 2 <;> by_cases r3 : ro = 3 <;> by_cases o2 : ot = 2 <;> by_cases o3 : ot = 3 <;> by_cases s1 : st < th <;> by_cases s2 : th < st <;>
    simp [r2, r3, o2, o3, s1, s2] <;> first | omega | (repeat' split) <;> first | rfl | omega | simp_all
set_option maxHeartbeats 1000000 in
theorem one_walk (nu al ro ot st th : Int) (he : Bool) (w : World) :
    Calls Try.prog 5 #[.agg #[.int .i64 nu, .int .i64 al, .int .u8 ro, .int .u8 ot, .int .i64 st, .int .i64 th, .bool he]] w fun e w' => e = .returned (.bool true) ∧ Below w.heap.size w w' := by
  have oa := one_a ro ot st th al
  have ob := Lib.hid (one_b ro ot st th al)
  go_enter Try.func5, Try.ntmps5
  go_wp2_with (first
    | (go_at_call 13; refine (awake53 _).mono ?_; rintro e w1 ⟨rfl, hb1⟩; obtain ⟨hc1, hf1, hz1⟩ := bcell hb1; try simp at hz1)
    | (go_at_call 19; refine (decide1_any _ _ _ _ _ _ _ _).mono ?_; rintro e w' ⟨rfl, rfl⟩))
  all_goals
    have := ob.out
    go_ret
    refine ⟨ret_bool ?_, Bt (Ba (Below.refl _ _)) hb1⟩
    simp_all
end Go.Proofs.Ytgnajpoebooafaa
