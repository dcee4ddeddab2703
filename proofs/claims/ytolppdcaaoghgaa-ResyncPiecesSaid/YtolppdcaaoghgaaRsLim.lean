/-
Contracts of the targets' limits and of the selection, of the program and of the reference. Conditions: the numbers lie in int64.
-/
import Derived.Test.YtolppdcaaoghgaaBytes
import Derived.Test.YtolppdcaaoghgaaOpen
namespace Go.Proofs.Ytolppdcaaoghgaa
set_option linter.unusedVariables false
set_option linter.unusedSimpArgs false
set_option maxRecDepth 100000
open Go.RowKit
def towardI (l t r : Int) : Int :=
  if l ≤ t then (if t - l ≤ (if r < 0 then 0 else r) then t else l + (if r < 0 then 0 else r)) else (if l - t ≤ (if r < 0 then 0 else r) then t else l - (if r < 0 then 0 else r))
set_option maxHeartbeats 400000 in
theorem toward1 (l t r : Int) (hl : I64 l) (ht : I64 t) (hr : I64 r) (w : World)  :
    Calls Try.prog 43 #[.int .i64 l, .int .i64 t, .int .i64 r] w fun e w' => e = .returned (.int .i64 (towardI l t r)) ∧ w = w' := by
  unfold I64 at *
  by_cases c1 : r < 0
  all_goals
    go_enter Try.func43, Try.ntmps43
    go_wp2
    all_goals
      go_ret
      refine ⟨ret_int ?_, rfl⟩
      unfold towardI
      simp only [IntKind.wrap_u64, wrap64] at *
      repeat (first | omega | split)
theorem toward2 (l t r : Int) (hl : I64 l) (ht : I64 t) (hr : I64 r) (w : World)  :
    Calls Try.prog 44 #[.int .i64 l, .int .i64 t, .int .i64 r] w fun e w' => e = .returned (.int .i64 (towardI l t r)) ∧ w = w' := by
  unfold I64 at *
  by_cases c1 : r < 0
  all_goals
    go_enter Try.func44, Try.ntmps44
    go_wp2
    all_goals
      go_ret
      refine ⟨ret_int ?_, rfl⟩
      unfold towardI
      simp only [IntKind.wrap_u64, wrap64] at *
      repeat (first | omega | split)
set_option maxHeartbeats 400000 in
theorem limit1 (a0 a1 a2 a3 a4 a5 a6 b0 b1 b2 b3 b4 b5 b6 r0 r1 r2 r3 : Int) (w : World) (ha3 : I64 a3) (ha4 : I64 a4) (ha5 : I64 a5) (ha6 : I64 a6) (hb3 : I64 b3) (hb4 : I64 b4) (hb5 : I64 b5) (hb6 : I64 b6)
     (hr0 : I64 r0) (hr1 : I64 r1) (hr2 : I64 r2) (hr3 : I64 r3) :
    Calls Try.prog 16 #[.agg #[.int .u8 a0, .int .u8 a1, .int .u8 a2, .int .i64 a3, .int .i64 a4, .int .i64 a5, .int .i64 a6],
      .agg #[.int .u8 b0, .int .u8 b1, .int .u8 b2, .int .i64 b3, .int .i64 b4, .int .i64 b5, .int .i64 b6], .agg #[.int .i64 r0, .int .i64 r1, .int .i64 r2, .int .i64 r3]] w fun e w' =>
    e = .returned (.agg #[.int .u8 b0, .int .u8 b1, .int .u8 b2, .int .i64 (towardI a3 b3 r0), .int .i64 (towardI a4 b4 r1), .int .i64 (towardI a5 b5 r2), .int .i64 (towardI a6 b6 r3)]) ∧ Below w.heap.size w w' := by
  go_enter Try.func16, Try.ntmps16
  go_wp2_with (go_at_call 43; refine (toward1 _ _ _ (by assumption) (by assumption) (by assumption) _).mono ?_; rintro e w' ⟨rfl, rfl⟩)
  go_returns
  exact ⟨rfl, by go_grown⟩
set_option maxHeartbeats 400000 in
theorem limit2 (a0 a1 a2 a3 a4 a5 a6 b0 b1 b2 b3 b4 b5 b6 r0 r1 r2 r3 : Int) (w : World) (ha3 : I64 a3) (ha4 : I64 a4) (ha5 : I64 a5) (ha6 : I64 a6) (hb3 : I64 b3) (hb4 : I64 b4) (hb5 : I64 b5) (hb6 : I64 b6)
     (hr0 : I64 r0) (hr1 : I64 r1) (hr2 : I64 r2) (hr3 : I64 r3) :
    Calls Try.prog 17 #[.agg #[.int .u8 a0, .int .u8 a1, .int .u8 a2, .int .i64 a3, .int .i64 a4, .int .i64 a5, .int .i64 a6],
      .agg #[.int .u8 b0, .int .u8 b1, .int .u8 b2, .int .i64 b3, .int .i64 b4, .int .i64 b5, .int .i64 b6], .agg #[.int .i64 r0, .int .i64 r1, .int .i64 r2, .int .i64 r3]] w fun e w' =>
    e = .returned (.agg #[.int .u8 b0, .int .u8 b1, .int .u8 b2, .int .i64 (towardI a3 b3 r0), .int .i64 (towardI a4 b4 r1), .int .i64 (towardI a5 b5 r2), .int .i64 (towardI a6 b6 r3)]) ∧ Below w.heap.size w w' := by
  go_enter Try.func17, Try.ntmps17
  go_wp2_with (go_at_call 44; refine (toward2 _ _ _ (by assumption) (by assumption) (by assumption) _).mono ?_; rintro e w' ⟨rfl, rfl⟩)
  go_returns
  exact ⟨rfl, by go_grown⟩

def selV (a b : Int) : Int := if a = 4 ∨ a = 3 then 1 else if b = 4 ∨ b = 3 then 2 else 0
theorem select2 (a b : Int) (w : World) :
    Calls Try.prog 19 #[.int .u8 a, .int .u8 b] w fun e w' => e = .returned (.int .i64 (selV a b)) ∧ w = w' := by
  go_enter Try.func19, Try.ntmps19
  go_wp2
  all_goals
    go_ret
    refine ⟨ret_int ?_, rfl⟩
    unfold selV
    simp_all
theorem select1 (a b : Int) (w : World) :
    Calls Try.prog 18 #[.int .u8 a, .int .u8 b] w fun e w' => e = .returned (.int .i64 (selV a b)) ∧ Below w.heap.size w w' := by
  go_enter Try.func18, Try.ntmps18
  go_wp2
  go_rounds 3
  all_goals
    go_ret
    refine ⟨ret_int ?_, by go_grown⟩
    unfold selV
    simp_all
end Go.Proofs.Ytolppdcaaoghgaa
