/-
Walks, printed by wip/eng/eng.py. Conditions: each theorem's own.
-/
import Derived.Test.YtolppdcaaoghgaaW2
namespace Go.Proofs.Ytolppdcaaoghgaa
set_option linter.unusedVariables false
set_option linter.unusedSimpArgs false
open Go.RowKit
noncomputable def F20_0 : Code := sub (Try.f20.body.getD .skip) []
noncomputable def F20_1 : Code := sub (Try.f20.body.getD .skip) [0]
noncomputable def F20_2 : Code := sub (Try.f20.body.getD .skip) [1]
noncomputable def R20_1 : Array Oper := regOf F20_1
noncomputable def F20_4 : Code := sub (Try.f20.body.getD .skip) [1, 0]
noncomputable def F20_5 : Code := sub (Try.f20.body.getD .skip) [1, 1]
noncomputable def R20_4 : Array Oper := regOf F20_4
def newSenderS  : Sender :=
  (⟨([] : List Piece)⟩ : Sender)
set_option maxRecDepth 100000 in
theorem c20 (g : Gh)  :
    Ctr Try.prog 20 [] g [] (fun v ψ o => ∃ (b_r : Nat) (Ar_pieces : Option Addr) (cr_pieces : Nat), v = Value.pointer (some ⟨b_r, 0, none⟩) ∧ o = [some ⟨b_r, 107, [Value.slice Ar_pieces ((newSenderS).pieces).length cr_pieces]⟩] ∧ Arr ψ tyPiece Ar_pieces cr_pieces (newSenderS).pieces) := by
  refine ctr_of Try.f20 F20_0 3 [] (by kernel_rfl) (by kernel_rfl) (by kernel_rfl) (by kernel_rfl) ?_
  have L0 := Gh.le.refl g
  refine wpc_seq (x := F20_1) (y := F20_2) (by kernel_rfl) ?_
  refine wpc_region (ops := R20_1) (id := 0) (by kernel_rfl) ?_
  refine wpr_val 1 0 (.assign (.const (Value.pointer none))) 50 (Value.pointer none) (Runs.plain (by kernel_rfl)) (by kernel_rfl) (y_assign (by kernel_rfl)) ?_
  refine wpr_end (by kernel_rfl) ?_
  refine wpq_then ?_
  refine wpc_seq (x := F20_4) (y := F20_5) (by kernel_rfl) ?_
  refine wpc_region (ops := R20_4) (id := 1) (by kernel_rfl) ?_
  refine wpr_val 1 1 (.build 107 #[]) 107 (Value.agg #[Value.slice none 0 0]) (Runs.plain (by kernel_rfl)) (by kernel_rfl) (y_pure (by kernel_rfl) (fun _ => by kernel_rfl)) ?_
  refine wpr_eff 2 2 (.box 107 (.tmp 1)) 50 (Runs.plain (by kernel_rfl)) (by kernel_rfl) (e_box (v := Value.agg #[Value.slice none 0 0]) (cs := [Value.slice none 0 0]) (by kernel_rfl) (by kernel_rfl)) ?_
  rintro _ _ _ - ⟨b1, rfl, rfl, rfl⟩
  refine wpr_val 3 0 (.assign (.tmp 2)) 50 (Value.pointer (some ⟨b1, 0, none⟩)) (Runs.plain (by kernel_rfl)) (by kernel_rfl) (y_assign (by kernel_rfl)) ?_
  refine wpr_end (by kernel_rfl) ?_
  refine wpq_then ?_
  refine wpc_ret (rs := [.tmp 0]) [Value.pointer (some ⟨b1, 0, none⟩)] [some ⟨b1, 107, [Value.slice none 0 0]⟩] (by kernel_rfl) (fun _ _ h => h) (by kernel_rfl) (res_tmp (by kernel_rfl) res_nil) L0 (keepP [some 0] (by kernel_rfl) (by kernel_rfl)) ?_
  have eS : (newSenderS) = (⟨([] : List Piece)⟩ : Sender) := by
    unfold newSenderS
    rfl
  rw [eS]
  exact ⟨b1, none, 0, rfl, rfl, Arr.nil⟩

noncomputable def F43_0 : Code := sub (Try.f43.body.getD .skip) []
noncomputable def F43_1 : Code := sub (Try.f43.body.getD .skip) [0]
noncomputable def F43_2 : Code := sub (Try.f43.body.getD .skip) [1]
noncomputable def R43_1 : Array Oper := regOf F43_1
noncomputable def F43_4 : Code := sub (Try.f43.body.getD .skip) [1, 0]
noncomputable def F43_5 : Code := sub (Try.f43.body.getD .skip) [1, 1]
noncomputable def R43_4 : Array Oper := regOf F43_4
noncomputable def F43_7 : Code := sub (Try.f43.body.getD .skip) [1, 1, 0]
noncomputable def F43_8 : Code := sub (Try.f43.body.getD .skip) [1, 1, 1]
noncomputable def F43_9 : Code := sub (Try.f43.body.getD .skip) [1, 1, 0, 0]
noncomputable def F43_10 : Code := sub (Try.f43.body.getD .skip) [1, 1, 0, 1]
noncomputable def R43_9 : Array Oper := regOf F43_9
noncomputable def F43_12 : Code := sub (Try.f43.body.getD .skip) [1, 1, 0, 1, 0]
noncomputable def F43_13 : Code := sub (Try.f43.body.getD .skip) [1, 1, 0, 1, 1]
noncomputable def F43_14 : Code := sub (Try.f43.body.getD .skip) [1, 1, 0, 1, 0, 0]
noncomputable def F43_15 : Code := sub (Try.f43.body.getD .skip) [1, 1, 0, 1, 0, 1]
noncomputable def F43_16 : Code := sub (Try.f43.body.getD .skip) [1, 1, 0, 1, 0, 0, 0]
noncomputable def F43_17 : Code := sub (Try.f43.body.getD .skip) [1, 1, 0, 1, 0, 0, 1]
noncomputable def R43_16 : Array Oper := regOf F43_16
noncomputable def F43_19 : Code := sub (Try.f43.body.getD .skip) [1, 1, 0, 1, 0, 0, 1, 0]
noncomputable def F43_20 : Code := sub (Try.f43.body.getD .skip) [1, 1, 0, 1, 0, 0, 1, 1]
noncomputable def F43_21 : Code := sub (Try.f43.body.getD .skip) [1, 1, 0, 1, 0, 0, 1, 0, 0]
noncomputable def F43_22 : Code := sub (Try.f43.body.getD .skip) [1, 1, 0, 1, 0, 0, 1, 0, 1]
noncomputable def R43_21 : Array Oper := regOf F43_21
noncomputable def F43_24 : Code := sub (Try.f43.body.getD .skip) [1, 1, 0, 1, 0, 1, 0]
noncomputable def F43_25 : Code := sub (Try.f43.body.getD .skip) [1, 1, 0, 1, 0, 1, 1]
noncomputable def R43_24 : Array Oper := regOf F43_24
noncomputable def F43_27 : Code := sub (Try.f43.body.getD .skip) [1, 1, 1, 0]
noncomputable def F43_28 : Code := sub (Try.f43.body.getD .skip) [1, 1, 1, 1]
noncomputable def F43_29 : Code := sub (Try.f43.body.getD .skip) [1, 1, 1, 0, 0]
noncomputable def F43_30 : Code := sub (Try.f43.body.getD .skip) [1, 1, 1, 0, 1]
noncomputable def R43_29 : Array Oper := regOf F43_29
noncomputable def F43_32 : Code := sub (Try.f43.body.getD .skip) [1, 1, 1, 0, 1, 0]
noncomputable def F43_33 : Code := sub (Try.f43.body.getD .skip) [1, 1, 1, 0, 1, 1]
noncomputable def F43_34 : Code := sub (Try.f43.body.getD .skip) [1, 1, 1, 0, 1, 0, 0]
noncomputable def F43_35 : Code := sub (Try.f43.body.getD .skip) [1, 1, 1, 0, 1, 0, 1]
noncomputable def R43_34 : Array Oper := regOf F43_34
noncomputable def F43_37 : Code := sub (Try.f43.body.getD .skip) [1, 1, 1, 1, 0]
noncomputable def F43_38 : Code := sub (Try.f43.body.getD .skip) [1, 1, 1, 1, 1]
noncomputable def R43_37 : Array Oper := regOf F43_37
def towardS (last : Int) (want : Int) (rate : Int) : Int :=
  (cond (decide (want ≥ last)) (cond (decide ((IntKind.u64.wrap ((IntKind.u64.wrap want) - (IntKind.u64.wrap last))) ≤ (IntKind.u64.wrap (maxI rate 0)))) (want : Int) ((IntKind.i64.wrap (last + (maxI rate 0))) : Int)) (cond (decide ((IntKind.u64.wrap ((IntKind.u64.wrap last) - (IntKind.u64.wrap want))) ≤ (IntKind.u64.wrap (maxI rate 0)))) (want : Int) ((IntKind.i64.wrap (last - (maxI rate 0))) : Int)))
set_option maxRecDepth 100000 in
theorem c43 (g : Gh) (last : Int) (want : Int) (rate : Int) :
    Ctr0 Try.prog 43 [Value.int .i64 (last), Value.int .i64 (want), Value.int .i64 (rate)] g (fun v ψ => v = Value.int .i64 ((towardS last want rate))) := by
  refine ctr_of Try.f43 F43_0 36 [Value.int .i64 (last), Value.int .i64 (want), Value.int .i64 (rate)] (by kernel_rfl) (by kernel_rfl) (by kernel_rfl) (by kernel_rfl) ?_
  have L0 := Gh.le.refl g
  refine wpc_seq (x := F43_1) (y := F43_2) (by kernel_rfl) ?_
  refine wpc_region (ops := R43_1) (id := 0) (by kernel_rfl) ?_
  refine wpr_val 1 6 (.assign (.const (Value.int .i64 (0)))) 2 (Value.int .i64 (0)) (Runs.plain (by kernel_rfl)) (by kernel_rfl) (y_assign (by kernel_rfl)) ?_
  refine wpr_end (by kernel_rfl) ?_
  refine wpq_then ?_
  refine wpc_seq (x := F43_4) (y := F43_5) (by kernel_rfl) ?_
  refine wpc_region (ops := R43_4) (id := 1) (by kernel_rfl) ?_
  refine wpr_val 1 7 (.move (.tmp 2)) 2 (Value.int .i64 (rate)) (Runs.plain (by kernel_rfl)) (by kernel_rfl) (y_move (by kernel_rfl)) ?_
  have z1 := maxI_spec rate 0
  refine wpr_val 2 8 (.call { callee := .builtin .max, args := #[(.tmp 7), (.const (Value.int .i64 (0)))], argTypes := #[2, 2] }) 2 (Value.int .i64 ((maxI rate 0))) (Runs.plain (by kernel_rfl)) (by kernel_rfl) (y_pure (by kernel_rfl) (fun _ => by kernel_rfl)) ?_
  refine wpr_val 3 2 (.assign (.tmp 8)) 2 (Value.int .i64 ((maxI rate 0))) (Runs.plain (by kernel_rfl)) (by kernel_rfl) (y_assign (by kernel_rfl)) ?_
  refine wpr_end (by kernel_rfl) ?_
  refine wpq_then ?_
  refine wpc_seq (x := F43_7) (y := F43_8) (by kernel_rfl) ?_
  refine wpc_seq (x := F43_9) (y := F43_10) (by kernel_rfl) ?_
  refine wpc_region (ops := R43_9) (id := 2) (by kernel_rfl) ?_
  refine wpr_val 1 9 (.move (.tmp 1)) 2 (Value.int .i64 (want)) (Runs.plain (by kernel_rfl)) (by kernel_rfl) (y_move (by kernel_rfl)) ?_
  refine wpr_val 2 10 (.move (.tmp 0)) 2 (Value.int .i64 (last)) (Runs.plain (by kernel_rfl)) (by kernel_rfl) (y_move (by kernel_rfl)) ?_
  refine wpr_val 3 11 (.binOp .geq 2 (.tmp 9) (.tmp 10) 2) 4 (Value.bool (decide (want ≥ last))) (Runs.plain (by kernel_rfl)) (by kernel_rfl) (y_pure (by kernel_rfl) (fun _ => by kernel_rfl)) ?_
  refine wpr_end (by kernel_rfl) ?_
  refine wpq_then ?_
  refine wpq_sub [(0, Value.int .i64 (last)), (1, Value.int .i64 (want)), (2, Value.int .i64 ((maxI rate 0))), (11, Value.bool (decide (want ≥ last)))] (by kernel_rfl) ?_
  -- condition 0
  refine wpc_cond (x := F43_12) (y := F43_13) (o := (.tmp 11)) (b := decide (want ≥ last)) (by kernel_rfl) (by kernel_rfl) (fun h0 => ?_) (fun h0 => ?_)
  · have h0p := of_decide_eq_true h0
    refine wpc_seq (x := F43_14) (y := F43_15) (by kernel_rfl) ?_
    refine wpc_seq (x := F43_16) (y := F43_17) (by kernel_rfl) ?_
    refine wpc_region (ops := R43_16) (id := 3) (by kernel_rfl) ?_
    refine wpr_val 1 12 (.move (.tmp 1)) 2 (Value.int .i64 (want)) (Runs.plain (by kernel_rfl)) (by kernel_rfl) (y_move (by kernel_rfl)) ?_
    refine wpr_val 2 13 (.convert 2 111 (.tmp 12)) 111 (Value.int .u64 ((IntKind.u64.wrap want))) (Runs.plain (by kernel_rfl)) (by kernel_rfl) (y_pure (by kernel_rfl) (fun _ => by kernel_rfl)) ?_
    refine wpr_val 3 14 (.move (.tmp 0)) 2 (Value.int .i64 (last)) (Runs.plain (by kernel_rfl)) (by kernel_rfl) (y_move (by kernel_rfl)) ?_
    refine wpr_val 4 15 (.convert 2 111 (.tmp 14)) 111 (Value.int .u64 ((IntKind.u64.wrap last))) (Runs.plain (by kernel_rfl)) (by kernel_rfl) (y_pure (by kernel_rfl) (fun _ => by kernel_rfl)) ?_
    refine wpr_val 5 16 (.binOp .sub 111 (.tmp 13) (.tmp 15) 111) 111 (Value.int .u64 ((IntKind.u64.wrap ((IntKind.u64.wrap want) - (IntKind.u64.wrap last))))) (Runs.plain (by kernel_rfl)) (by kernel_rfl) (y_pure (by kernel_rfl) (fun _ => by kernel_rfl)) ?_
    refine wpr_val 6 17 (.move (.tmp 2)) 2 (Value.int .i64 ((maxI rate 0))) (Runs.plain (by kernel_rfl)) (by kernel_rfl) (y_move (by kernel_rfl)) ?_
    refine wpr_val 7 18 (.convert 2 111 (.tmp 17)) 111 (Value.int .u64 ((IntKind.u64.wrap (maxI rate 0)))) (Runs.plain (by kernel_rfl)) (by kernel_rfl) (y_pure (by kernel_rfl) (fun _ => by kernel_rfl)) ?_
    refine wpr_val 8 19 (.binOp .leq 111 (.tmp 16) (.tmp 18) 111) 4 (Value.bool (decide ((IntKind.u64.wrap ((IntKind.u64.wrap want) - (IntKind.u64.wrap last))) ≤ (IntKind.u64.wrap (maxI rate 0))))) (Runs.plain (by kernel_rfl)) (by kernel_rfl) (y_pure (by kernel_rfl) (fun _ => by kernel_rfl)) ?_
    refine wpr_end (by kernel_rfl) ?_
    refine wpq_then ?_
    refine wpq_sub [(0, Value.int .i64 (last)), (1, Value.int .i64 (want)), (2, Value.int .i64 ((maxI rate 0))), (19, Value.bool (decide ((IntKind.u64.wrap ((IntKind.u64.wrap want) - (IntKind.u64.wrap last))) ≤ (IntKind.u64.wrap (maxI rate 0)))))] (by kernel_rfl) ?_
    -- condition 1
    refine wpc_cond (x := F43_19) (y := F43_20) (o := (.tmp 19)) (b := decide ((IntKind.u64.wrap ((IntKind.u64.wrap want) - (IntKind.u64.wrap last))) ≤ (IntKind.u64.wrap (maxI rate 0)))) (by kernel_rfl) (by kernel_rfl) (fun h1 => ?_) (fun h1 => ?_)
    · have h1p := of_decide_eq_true h1
      refine wpc_seq (x := F43_21) (y := F43_22) (by kernel_rfl) ?_
      refine wpc_region (ops := R43_21) (id := 4) (by kernel_rfl) ?_
      refine wpr_val 1 20 (.move (.tmp 1)) 2 (Value.int .i64 (want)) (Runs.plain (by kernel_rfl)) (by kernel_rfl) (y_move (by kernel_rfl)) ?_
      refine wpr_val 2 6 (.assign (.tmp 20)) 2 (Value.int .i64 (want)) (Runs.plain (by kernel_rfl)) (by kernel_rfl) (y_assign (by kernel_rfl)) ?_
      refine wpr_end (by kernel_rfl) ?_
      refine wpq_then ?_
      refine wpq_sub [(6, Value.int .i64 (want))] (by kernel_rfl) ?_
      refine wpc_ret (rs := [.tmp 6]) [Value.int .i64 (want)] [] (by kernel_rfl) (fun _ _ h => h) (by kernel_rfl) (res_tmp (by kernel_rfl) res_nil) L0 keep0 ?_
      have eS : (towardS last want rate) = (want : Int) := by
        unfold towardS
        rw [h0]
        rw [h1]
        rfl
      rw [eS]
      exact ⟨rfl, rfl⟩
    · have h1p := of_decide_eq_false h1
      refine wpc_skip (by kernel_rfl) ?_
      refine wpq_then ?_
      refine wpc_seq (x := F43_24) (y := F43_25) (by kernel_rfl) ?_
      refine wpc_region (ops := R43_24) (id := 5) (by kernel_rfl) ?_
      refine wpr_val 1 21 (.move (.tmp 0)) 2 (Value.int .i64 (last)) (Runs.plain (by kernel_rfl)) (by kernel_rfl) (y_move (by kernel_rfl)) ?_
      refine wpr_val 2 22 (.move (.tmp 2)) 2 (Value.int .i64 ((maxI rate 0))) (Runs.plain (by kernel_rfl)) (by kernel_rfl) (y_move (by kernel_rfl)) ?_
      refine wpr_val 3 23 (.binOp .add 2 (.tmp 21) (.tmp 22) 2) 2 (Value.int .i64 ((IntKind.i64.wrap (last + (maxI rate 0))))) (Runs.plain (by kernel_rfl)) (by kernel_rfl) (y_pure (by kernel_rfl) (fun _ => by kernel_rfl)) ?_
      refine wpr_val 4 6 (.assign (.tmp 23)) 2 (Value.int .i64 ((IntKind.i64.wrap (last + (maxI rate 0))))) (Runs.plain (by kernel_rfl)) (by kernel_rfl) (y_assign (by kernel_rfl)) ?_
      refine wpr_end (by kernel_rfl) ?_
      refine wpq_then ?_
      refine wpq_sub [(6, Value.int .i64 ((IntKind.i64.wrap (last + (maxI rate 0)))))] (by kernel_rfl) ?_
      refine wpc_ret (rs := [.tmp 6]) [Value.int .i64 ((IntKind.i64.wrap (last + (maxI rate 0))))] [] (by kernel_rfl) (fun _ _ h => h) (by kernel_rfl) (res_tmp (by kernel_rfl) res_nil) L0 keep0 ?_
      have eS : (towardS last want rate) = ((IntKind.i64.wrap (last + (maxI rate 0))) : Int) := by
        unfold towardS
        rw [h0]
        rw [h1]
        rfl
      rw [eS]
      exact ⟨rfl, rfl⟩
  · have h0p := of_decide_eq_false h0
    refine wpc_skip (by kernel_rfl) ?_
    refine wpq_then ?_
    refine wpc_seq (x := F43_27) (y := F43_28) (by kernel_rfl) ?_
    refine wpc_seq (x := F43_29) (y := F43_30) (by kernel_rfl) ?_
    refine wpc_region (ops := R43_29) (id := 6) (by kernel_rfl) ?_
    refine wpr_val 1 24 (.move (.tmp 0)) 2 (Value.int .i64 (last)) (Runs.plain (by kernel_rfl)) (by kernel_rfl) (y_move (by kernel_rfl)) ?_
    refine wpr_val 2 25 (.convert 2 111 (.tmp 24)) 111 (Value.int .u64 ((IntKind.u64.wrap last))) (Runs.plain (by kernel_rfl)) (by kernel_rfl) (y_pure (by kernel_rfl) (fun _ => by kernel_rfl)) ?_
    refine wpr_val 3 26 (.move (.tmp 1)) 2 (Value.int .i64 (want)) (Runs.plain (by kernel_rfl)) (by kernel_rfl) (y_move (by kernel_rfl)) ?_
    refine wpr_val 4 27 (.convert 2 111 (.tmp 26)) 111 (Value.int .u64 ((IntKind.u64.wrap want))) (Runs.plain (by kernel_rfl)) (by kernel_rfl) (y_pure (by kernel_rfl) (fun _ => by kernel_rfl)) ?_
    refine wpr_val 5 28 (.binOp .sub 111 (.tmp 25) (.tmp 27) 111) 111 (Value.int .u64 ((IntKind.u64.wrap ((IntKind.u64.wrap last) - (IntKind.u64.wrap want))))) (Runs.plain (by kernel_rfl)) (by kernel_rfl) (y_pure (by kernel_rfl) (fun _ => by kernel_rfl)) ?_
    refine wpr_val 6 29 (.move (.tmp 2)) 2 (Value.int .i64 ((maxI rate 0))) (Runs.plain (by kernel_rfl)) (by kernel_rfl) (y_move (by kernel_rfl)) ?_
    refine wpr_val 7 30 (.convert 2 111 (.tmp 29)) 111 (Value.int .u64 ((IntKind.u64.wrap (maxI rate 0)))) (Runs.plain (by kernel_rfl)) (by kernel_rfl) (y_pure (by kernel_rfl) (fun _ => by kernel_rfl)) ?_
    refine wpr_val 8 31 (.binOp .leq 111 (.tmp 28) (.tmp 30) 111) 4 (Value.bool (decide ((IntKind.u64.wrap ((IntKind.u64.wrap last) - (IntKind.u64.wrap want))) ≤ (IntKind.u64.wrap (maxI rate 0))))) (Runs.plain (by kernel_rfl)) (by kernel_rfl) (y_pure (by kernel_rfl) (fun _ => by kernel_rfl)) ?_
    refine wpr_end (by kernel_rfl) ?_
    refine wpq_then ?_
    refine wpq_sub [(0, Value.int .i64 (last)), (1, Value.int .i64 (want)), (2, Value.int .i64 ((maxI rate 0))), (31, Value.bool (decide ((IntKind.u64.wrap ((IntKind.u64.wrap last) - (IntKind.u64.wrap want))) ≤ (IntKind.u64.wrap (maxI rate 0)))))] (by kernel_rfl) ?_
    -- condition 2
    refine wpc_cond (x := F43_32) (y := F43_33) (o := (.tmp 31)) (b := decide ((IntKind.u64.wrap ((IntKind.u64.wrap last) - (IntKind.u64.wrap want))) ≤ (IntKind.u64.wrap (maxI rate 0)))) (by kernel_rfl) (by kernel_rfl) (fun h2 => ?_) (fun h2 => ?_)
    · have h2p := of_decide_eq_true h2
      refine wpc_seq (x := F43_34) (y := F43_35) (by kernel_rfl) ?_
      refine wpc_region (ops := R43_34) (id := 7) (by kernel_rfl) ?_
      refine wpr_val 1 32 (.move (.tmp 1)) 2 (Value.int .i64 (want)) (Runs.plain (by kernel_rfl)) (by kernel_rfl) (y_move (by kernel_rfl)) ?_
      refine wpr_val 2 6 (.assign (.tmp 32)) 2 (Value.int .i64 (want)) (Runs.plain (by kernel_rfl)) (by kernel_rfl) (y_assign (by kernel_rfl)) ?_
      refine wpr_end (by kernel_rfl) ?_
      refine wpq_then ?_
      refine wpq_sub [(6, Value.int .i64 (want))] (by kernel_rfl) ?_
      refine wpc_ret (rs := [.tmp 6]) [Value.int .i64 (want)] [] (by kernel_rfl) (fun _ _ h => h) (by kernel_rfl) (res_tmp (by kernel_rfl) res_nil) L0 keep0 ?_
      have eS : (towardS last want rate) = (want : Int) := by
        unfold towardS
        rw [h0]
        rw [h2]
        rfl
      rw [eS]
      exact ⟨rfl, rfl⟩
    · have h2p := of_decide_eq_false h2
      refine wpc_skip (by kernel_rfl) ?_
      refine wpq_then ?_
      refine wpc_seq (x := F43_37) (y := F43_38) (by kernel_rfl) ?_
      refine wpc_region (ops := R43_37) (id := 8) (by kernel_rfl) ?_
      refine wpr_val 1 33 (.move (.tmp 0)) 2 (Value.int .i64 (last)) (Runs.plain (by kernel_rfl)) (by kernel_rfl) (y_move (by kernel_rfl)) ?_
      refine wpr_val 2 34 (.move (.tmp 2)) 2 (Value.int .i64 ((maxI rate 0))) (Runs.plain (by kernel_rfl)) (by kernel_rfl) (y_move (by kernel_rfl)) ?_
      refine wpr_val 3 35 (.binOp .sub 2 (.tmp 33) (.tmp 34) 2) 2 (Value.int .i64 ((IntKind.i64.wrap (last - (maxI rate 0))))) (Runs.plain (by kernel_rfl)) (by kernel_rfl) (y_pure (by kernel_rfl) (fun _ => by kernel_rfl)) ?_
      refine wpr_val 4 6 (.assign (.tmp 35)) 2 (Value.int .i64 ((IntKind.i64.wrap (last - (maxI rate 0))))) (Runs.plain (by kernel_rfl)) (by kernel_rfl) (y_assign (by kernel_rfl)) ?_
      refine wpr_end (by kernel_rfl) ?_
      refine wpq_then ?_
      refine wpq_sub [(6, Value.int .i64 ((IntKind.i64.wrap (last - (maxI rate 0)))))] (by kernel_rfl) ?_
      refine wpc_ret (rs := [.tmp 6]) [Value.int .i64 ((IntKind.i64.wrap (last - (maxI rate 0))))] [] (by kernel_rfl) (fun _ _ h => h) (by kernel_rfl) (res_tmp (by kernel_rfl) res_nil) L0 keep0 ?_
      have eS : (towardS last want rate) = ((IntKind.i64.wrap (last - (maxI rate 0))) : Int) := by
        unfold towardS
        rw [h0]
        rw [h2]
        rfl
      rw [eS]
      exact ⟨rfl, rfl⟩

noncomputable def F16_0 : Code := sub (Try.f16.body.getD .skip) []
noncomputable def F16_1 : Code := sub (Try.f16.body.getD .skip) [0]
noncomputable def F16_2 : Code := sub (Try.f16.body.getD .skip) [1]
noncomputable def R16_1 : Array Oper := regOf F16_1
noncomputable def F16_4 : Code := sub (Try.f16.body.getD .skip) [1, 0]
noncomputable def F16_5 : Code := sub (Try.f16.body.getD .skip) [1, 1]
noncomputable def R16_4 : Array Oper := regOf F16_4
noncomputable def F16_7 : Code := sub (Try.f16.body.getD .skip) [1, 1, 0]
noncomputable def F16_8 : Code := sub (Try.f16.body.getD .skip) [1, 1, 1]
noncomputable def R16_7 : Array Oper := regOf F16_7
noncomputable def F16_10 : Code := sub (Try.f16.body.getD .skip) [1, 1, 1, 0]
noncomputable def F16_11 : Code := sub (Try.f16.body.getD .skip) [1, 1, 1, 1]
noncomputable def R16_10 : Array Oper := regOf F16_10
noncomputable def F16_13 : Code := sub (Try.f16.body.getD .skip) [1, 1, 1, 1, 0]
noncomputable def F16_14 : Code := sub (Try.f16.body.getD .skip) [1, 1, 1, 1, 1]
noncomputable def R16_13 : Array Oper := regOf F16_13
noncomputable def F16_16 : Code := sub (Try.f16.body.getD .skip) [1, 1, 1, 1, 1, 0]
noncomputable def F16_17 : Code := sub (Try.f16.body.getD .skip) [1, 1, 1, 1, 1, 1]
noncomputable def R16_16 : Array Oper := regOf F16_16
def limitS (last : Targets) (want : Targets) (r : Rates) : Targets :=
  (⟨(want.lateral : Int), (want.vertical : Int), (want.phase : Int), ((towardS (last.bank : Int) (want.bank : Int) (r.bank : Int)) : Int), ((towardS (last.speed : Int) (want.speed : Int) (r.speed : Int)) : Int), ((towardS (last.alt : Int) (want.alt : Int) (r.alt : Int)) : Int), ((towardS (last.vs : Int) (want.vs : Int) (r.vs : Int)) : Int)⟩ : Targets)
set_option maxRecDepth 100000 in
theorem c16 (g : Gh) (last : Targets) (want : Targets) (r : Rates) :
    Ctr0 Try.prog 16 [Value.agg #[Value.int .u8 (last.lateral), Value.int .u8 (last.vertical), Value.int .u8 (last.phase), Value.int .i64 (last.bank), Value.int .i64 (last.speed), Value.int .i64 (last.alt), Value.int .i64 (last.vs)], Value.agg #[Value.int .u8 (want.lateral), Value.int .u8 (want.vertical), Value.int .u8 (want.phase), Value.int .i64 (want.bank), Value.int .i64 (want.speed), Value.int .i64 (want.alt), Value.int .i64 (want.vs)], Value.agg #[Value.int .i64 (r.bank), Value.int .i64 (r.speed), Value.int .i64 (r.alt), Value.int .i64 (r.vs)]] g (fun v ψ => v = Value.agg #[Value.int .u8 ((limitS last want r).lateral), Value.int .u8 ((limitS last want r).vertical), Value.int .u8 ((limitS last want r).phase), Value.int .i64 ((limitS last want r).bank), Value.int .i64 ((limitS last want r).speed), Value.int .i64 ((limitS last want r).alt), Value.int .i64 ((limitS last want r).vs)]) := by
  refine ctr_of Try.f16 F16_0 40 [Value.agg #[Value.int .u8 (last.lateral), Value.int .u8 (last.vertical), Value.int .u8 (last.phase), Value.int .i64 (last.bank), Value.int .i64 (last.speed), Value.int .i64 (last.alt), Value.int .i64 (last.vs)], Value.agg #[Value.int .u8 (want.lateral), Value.int .u8 (want.vertical), Value.int .u8 (want.phase), Value.int .i64 (want.bank), Value.int .i64 (want.speed), Value.int .i64 (want.alt), Value.int .i64 (want.vs)], Value.agg #[Value.int .i64 (r.bank), Value.int .i64 (r.speed), Value.int .i64 (r.alt), Value.int .i64 (r.vs)]] (by kernel_rfl) (by kernel_rfl) (by kernel_rfl) (by kernel_rfl) ?_
  have L0 := Gh.le.refl g
  refine wpc_seq (x := F16_1) (y := F16_2) (by kernel_rfl) ?_
  refine wpc_region (ops := R16_1) (id := 0) (by kernel_rfl) ?_
  refine wpr_eff 1 3 (.box 40 (.tmp 0)) 0 (Runs.plain (by kernel_rfl)) (by kernel_rfl) (e_box (v := Value.agg #[Value.int .u8 (last.lateral), Value.int .u8 (last.vertical), Value.int .u8 (last.phase), Value.int .i64 (last.bank), Value.int .i64 (last.speed), Value.int .i64 (last.alt), Value.int .i64 (last.vs)]) (cs := [Value.int .u8 (last.lateral), Value.int .u8 (last.vertical), Value.int .u8 (last.phase), Value.int .i64 (last.bank), Value.int .i64 (last.speed), Value.int .i64 (last.alt), Value.int .i64 (last.vs)]) (by kernel_rfl) (by kernel_rfl)) ?_
  rintro _ _ _ - ⟨b1, rfl, rfl, rfl⟩
  refine wpr_eff 2 4 (.box 40 (.tmp 1)) 0 (Runs.plain (by kernel_rfl)) (by kernel_rfl) (e_box (v := Value.agg #[Value.int .u8 (want.lateral), Value.int .u8 (want.vertical), Value.int .u8 (want.phase), Value.int .i64 (want.bank), Value.int .i64 (want.speed), Value.int .i64 (want.alt), Value.int .i64 (want.vs)]) (cs := [Value.int .u8 (want.lateral), Value.int .u8 (want.vertical), Value.int .u8 (want.phase), Value.int .i64 (want.bank), Value.int .i64 (want.speed), Value.int .i64 (want.alt), Value.int .i64 (want.vs)]) (by kernel_rfl) (by kernel_rfl)) ?_
  rintro _ _ _ - ⟨b2, rfl, rfl, rfl⟩
  refine wpr_eff 3 5 (.box 42 (.tmp 2)) 0 (Runs.plain (by kernel_rfl)) (by kernel_rfl) (e_box (v := Value.agg #[Value.int .i64 (r.bank), Value.int .i64 (r.speed), Value.int .i64 (r.alt), Value.int .i64 (r.vs)]) (cs := [Value.int .i64 (r.bank), Value.int .i64 (r.speed), Value.int .i64 (r.alt), Value.int .i64 (r.vs)]) (by kernel_rfl) (by kernel_rfl)) ?_
  rintro _ _ _ - ⟨b3, rfl, rfl, rfl⟩
  refine wpr_eff 4 6 (.alloc 40) 0 (Runs.plain (by kernel_rfl)) (by kernel_rfl) (e_alloc (cs := [Value.int .u8 (0), Value.int .u8 (0), Value.int .u8 (0), Value.int .i64 (0), Value.int .i64 (0), Value.int .i64 (0), Value.int .i64 (0)]) (by kernel_rfl)) ?_
  rintro _ _ _ - ⟨b4, rfl, rfl, rfl⟩
  refine wpr_end (by kernel_rfl) ?_
  refine wpq_then ?_
  refine wpc_seq (x := F16_4) (y := F16_5) (by kernel_rfl) ?_
  refine wpc_region (ops := R16_4) (id := 1) (by kernel_rfl) ?_
  refine wpr_val 1 7 (.fieldAddr 40 (.tmp 3) 3) 0 (Value.pointer (some ⟨b1, 3, none⟩)) (Runs.plain (by kernel_rfl)) (by kernel_rfl) (y_pure (by kernel_rfl) (fun _ => by kernel_rfl)) ?_
  refine wpr_val 2 8 (.load 2 (.tmp 7)) 2 (Value.int .i64 (last.bank)) (Runs.plain (by kernel_rfl)) (by kernel_rfl) (q_load1 b1 3 3 (by kernel_rfl) (by kernel_rfl) (by kernel_rfl)) ?_
  refine wpr_val 3 9 (.fieldAddr 40 (.tmp 4) 3) 0 (Value.pointer (some ⟨b2, 3, none⟩)) (Runs.plain (by kernel_rfl)) (by kernel_rfl) (y_pure (by kernel_rfl) (fun _ => by kernel_rfl)) ?_
  refine wpr_val 4 10 (.load 2 (.tmp 9)) 2 (Value.int .i64 (want.bank)) (Runs.plain (by kernel_rfl)) (by kernel_rfl) (q_load1 b2 3 2 (by kernel_rfl) (by kernel_rfl) (by kernel_rfl)) ?_
  refine wpr_val 5 11 (.fieldAddr 42 (.tmp 5) 0) 0 (Value.pointer (some ⟨b3, 0, none⟩)) (Runs.plain (by kernel_rfl)) (by kernel_rfl) (y_pure (by kernel_rfl) (fun _ => by kernel_rfl)) ?_
  refine wpr_val 6 12 (.load 2 (.tmp 11)) 2 (Value.int .i64 (r.bank)) (Runs.plain (by kernel_rfl)) (by kernel_rfl) (q_load1 b3 0 1 (by kernel_rfl) (by kernel_rfl) (by kernel_rfl)) ?_
  refine wpr_eff 7 13 (.call { callee := .value (.func 43), args := #[(.tmp 8), (.tmp 10), (.tmp 12)], argTypes := #[2, 2, 2] }) 2 (Runs.plain (by kernel_rfl)) (by kernel_rfl) (e_call [Value.int .i64 (last.bank), Value.int .i64 (want.bank), Value.int .i64 (r.bank)] (by kernel_rfl) (by kernel_rfl) (fun g' lr eb ln => c43 g' (last.bank : Int) (want.bank : Int) (r.bank : Int))) ?_
  rintro _ g6 _ le7 ⟨rfl, rfl⟩
  have L0 := L0.trans le7
  refine wpr_val 8 14 (.fieldAddr 40 (.tmp 4) 3) 0 (Value.pointer (some ⟨b2, 3, none⟩)) (Runs.plain (by kernel_rfl)) (by kernel_rfl) (y_pure (by kernel_rfl) (fun _ => by kernel_rfl)) ?_
  refine wpr_do 9 (.store 2 (.tmp 14) (.tmp 13)) 0 (Runs.plain (by kernel_rfl)) (by kernel_rfl) (q_store b2 3 2 (Value.int .i64 ((towardS (last.bank : Int) (want.bank : Int) (r.bank : Int)))) [Value.int .i64 ((towardS (last.bank : Int) (want.bank : Int) (r.bank : Int)))] 40 [Value.int .u8 (want.lateral), Value.int .u8 (want.vertical), Value.int .u8 (want.phase), Value.int .i64 (want.bank), Value.int .i64 (want.speed), Value.int .i64 (want.alt), Value.int .i64 (want.vs)] [Value.int .u8 (want.lateral), Value.int .u8 (want.vertical), Value.int .u8 (want.phase), Value.int .i64 ((towardS (last.bank : Int) (want.bank : Int) (r.bank : Int))), Value.int .i64 (want.speed), Value.int .i64 (want.alt), Value.int .i64 (want.vs)] (by kernel_rfl) (by kernel_rfl) (by kernel_rfl) (by kernel_rfl) (by kernel_rfl) (by kernel_rfl) (by kernel_rfl)) ?_
  rintro _ _ _ - ⟨rfl, rfl⟩
  refine wpr_end (by kernel_rfl) ?_
  refine wpq_then ?_
  refine wpq_sub [(3, Value.pointer (some ⟨b1, 0, none⟩)), (4, Value.pointer (some ⟨b2, 0, none⟩)), (5, Value.pointer (some ⟨b3, 0, none⟩)), (6, Value.pointer (some ⟨b4, 0, none⟩))] (by kernel_rfl) ?_
  refine wpc_seq (x := F16_7) (y := F16_8) (by kernel_rfl) ?_
  refine wpc_region (ops := R16_7) (id := 2) (by kernel_rfl) ?_
  refine wpr_val 1 15 (.fieldAddr 40 (.tmp 3) 4) 0 (Value.pointer (some ⟨b1, 4, none⟩)) (Runs.plain (by kernel_rfl)) (by kernel_rfl) (y_pure (by kernel_rfl) (fun _ => by kernel_rfl)) ?_
  refine wpr_val 2 16 (.load 2 (.tmp 15)) 2 (Value.int .i64 (last.speed)) (Runs.plain (by kernel_rfl)) (by kernel_rfl) (q_load1 b1 4 3 (by kernel_rfl) (by kernel_rfl) (by kernel_rfl)) ?_
  refine wpr_val 3 17 (.fieldAddr 40 (.tmp 4) 4) 0 (Value.pointer (some ⟨b2, 4, none⟩)) (Runs.plain (by kernel_rfl)) (by kernel_rfl) (y_pure (by kernel_rfl) (fun _ => by kernel_rfl)) ?_
  refine wpr_val 4 18 (.load 2 (.tmp 17)) 2 (Value.int .i64 (want.speed)) (Runs.plain (by kernel_rfl)) (by kernel_rfl) (q_load1 b2 4 2 (by kernel_rfl) (by kernel_rfl) (by kernel_rfl)) ?_
  refine wpr_val 5 19 (.fieldAddr 42 (.tmp 5) 1) 0 (Value.pointer (some ⟨b3, 1, none⟩)) (Runs.plain (by kernel_rfl)) (by kernel_rfl) (y_pure (by kernel_rfl) (fun _ => by kernel_rfl)) ?_
  refine wpr_val 6 20 (.load 2 (.tmp 19)) 2 (Value.int .i64 (r.speed)) (Runs.plain (by kernel_rfl)) (by kernel_rfl) (q_load1 b3 1 1 (by kernel_rfl) (by kernel_rfl) (by kernel_rfl)) ?_
  refine wpr_eff 7 21 (.call { callee := .value (.func 43), args := #[(.tmp 16), (.tmp 18), (.tmp 20)], argTypes := #[2, 2, 2] }) 2 (Runs.plain (by kernel_rfl)) (by kernel_rfl) (e_call [Value.int .i64 (last.speed), Value.int .i64 (want.speed), Value.int .i64 (r.speed)] (by kernel_rfl) (by kernel_rfl) (fun g' lr eb ln => c43 g' (last.speed : Int) (want.speed : Int) (r.speed : Int))) ?_
  rintro _ g9 _ le10 ⟨rfl, rfl⟩
  have L0 := L0.trans le10
  refine wpr_val 8 22 (.fieldAddr 40 (.tmp 4) 4) 0 (Value.pointer (some ⟨b2, 4, none⟩)) (Runs.plain (by kernel_rfl)) (by kernel_rfl) (y_pure (by kernel_rfl) (fun _ => by kernel_rfl)) ?_
  refine wpr_do 9 (.store 2 (.tmp 22) (.tmp 21)) 0 (Runs.plain (by kernel_rfl)) (by kernel_rfl) (q_store b2 4 2 (Value.int .i64 ((towardS (last.speed : Int) (want.speed : Int) (r.speed : Int)))) [Value.int .i64 ((towardS (last.speed : Int) (want.speed : Int) (r.speed : Int)))] 40 [Value.int .u8 (want.lateral), Value.int .u8 (want.vertical), Value.int .u8 (want.phase), Value.int .i64 ((towardS (last.bank : Int) (want.bank : Int) (r.bank : Int))), Value.int .i64 (want.speed), Value.int .i64 (want.alt), Value.int .i64 (want.vs)] [Value.int .u8 (want.lateral), Value.int .u8 (want.vertical), Value.int .u8 (want.phase), Value.int .i64 ((towardS (last.bank : Int) (want.bank : Int) (r.bank : Int))), Value.int .i64 ((towardS (last.speed : Int) (want.speed : Int) (r.speed : Int))), Value.int .i64 (want.alt), Value.int .i64 (want.vs)] (by kernel_rfl) (by kernel_rfl) (by kernel_rfl) (by kernel_rfl) (by kernel_rfl) (by kernel_rfl) (by kernel_rfl)) ?_
  rintro _ _ _ - ⟨rfl, rfl⟩
  refine wpr_end (by kernel_rfl) ?_
  refine wpq_then ?_
  refine wpq_sub [(3, Value.pointer (some ⟨b1, 0, none⟩)), (4, Value.pointer (some ⟨b2, 0, none⟩)), (5, Value.pointer (some ⟨b3, 0, none⟩)), (6, Value.pointer (some ⟨b4, 0, none⟩))] (by kernel_rfl) ?_
  refine wpc_seq (x := F16_10) (y := F16_11) (by kernel_rfl) ?_
  refine wpc_region (ops := R16_10) (id := 3) (by kernel_rfl) ?_
  refine wpr_val 1 23 (.fieldAddr 40 (.tmp 3) 5) 0 (Value.pointer (some ⟨b1, 5, none⟩)) (Runs.plain (by kernel_rfl)) (by kernel_rfl) (y_pure (by kernel_rfl) (fun _ => by kernel_rfl)) ?_
  refine wpr_val 2 24 (.load 2 (.tmp 23)) 2 (Value.int .i64 (last.alt)) (Runs.plain (by kernel_rfl)) (by kernel_rfl) (q_load1 b1 5 3 (by kernel_rfl) (by kernel_rfl) (by kernel_rfl)) ?_
  refine wpr_val 3 25 (.fieldAddr 40 (.tmp 4) 5) 0 (Value.pointer (some ⟨b2, 5, none⟩)) (Runs.plain (by kernel_rfl)) (by kernel_rfl) (y_pure (by kernel_rfl) (fun _ => by kernel_rfl)) ?_
  refine wpr_val 4 26 (.load 2 (.tmp 25)) 2 (Value.int .i64 (want.alt)) (Runs.plain (by kernel_rfl)) (by kernel_rfl) (q_load1 b2 5 2 (by kernel_rfl) (by kernel_rfl) (by kernel_rfl)) ?_
  refine wpr_val 5 27 (.fieldAddr 42 (.tmp 5) 2) 0 (Value.pointer (some ⟨b3, 2, none⟩)) (Runs.plain (by kernel_rfl)) (by kernel_rfl) (y_pure (by kernel_rfl) (fun _ => by kernel_rfl)) ?_
  refine wpr_val 6 28 (.load 2 (.tmp 27)) 2 (Value.int .i64 (r.alt)) (Runs.plain (by kernel_rfl)) (by kernel_rfl) (q_load1 b3 2 1 (by kernel_rfl) (by kernel_rfl) (by kernel_rfl)) ?_
  refine wpr_eff 7 29 (.call { callee := .value (.func 43), args := #[(.tmp 24), (.tmp 26), (.tmp 28)], argTypes := #[2, 2, 2] }) 2 (Runs.plain (by kernel_rfl)) (by kernel_rfl) (e_call [Value.int .i64 (last.alt), Value.int .i64 (want.alt), Value.int .i64 (r.alt)] (by kernel_rfl) (by kernel_rfl) (fun g' lr eb ln => c43 g' (last.alt : Int) (want.alt : Int) (r.alt : Int))) ?_
  rintro _ g12 _ le13 ⟨rfl, rfl⟩
  have L0 := L0.trans le13
  refine wpr_val 8 30 (.fieldAddr 40 (.tmp 4) 5) 0 (Value.pointer (some ⟨b2, 5, none⟩)) (Runs.plain (by kernel_rfl)) (by kernel_rfl) (y_pure (by kernel_rfl) (fun _ => by kernel_rfl)) ?_
  refine wpr_do 9 (.store 2 (.tmp 30) (.tmp 29)) 0 (Runs.plain (by kernel_rfl)) (by kernel_rfl) (q_store b2 5 2 (Value.int .i64 ((towardS (last.alt : Int) (want.alt : Int) (r.alt : Int)))) [Value.int .i64 ((towardS (last.alt : Int) (want.alt : Int) (r.alt : Int)))] 40 [Value.int .u8 (want.lateral), Value.int .u8 (want.vertical), Value.int .u8 (want.phase), Value.int .i64 ((towardS (last.bank : Int) (want.bank : Int) (r.bank : Int))), Value.int .i64 ((towardS (last.speed : Int) (want.speed : Int) (r.speed : Int))), Value.int .i64 (want.alt), Value.int .i64 (want.vs)] [Value.int .u8 (want.lateral), Value.int .u8 (want.vertical), Value.int .u8 (want.phase), Value.int .i64 ((towardS (last.bank : Int) (want.bank : Int) (r.bank : Int))), Value.int .i64 ((towardS (last.speed : Int) (want.speed : Int) (r.speed : Int))), Value.int .i64 ((towardS (last.alt : Int) (want.alt : Int) (r.alt : Int))), Value.int .i64 (want.vs)] (by kernel_rfl) (by kernel_rfl) (by kernel_rfl) (by kernel_rfl) (by kernel_rfl) (by kernel_rfl) (by kernel_rfl)) ?_
  rintro _ _ _ - ⟨rfl, rfl⟩
  refine wpr_end (by kernel_rfl) ?_
  refine wpq_then ?_
  refine wpq_sub [(3, Value.pointer (some ⟨b1, 0, none⟩)), (4, Value.pointer (some ⟨b2, 0, none⟩)), (5, Value.pointer (some ⟨b3, 0, none⟩)), (6, Value.pointer (some ⟨b4, 0, none⟩))] (by kernel_rfl) ?_
  refine wpc_seq (x := F16_13) (y := F16_14) (by kernel_rfl) ?_
  refine wpc_region (ops := R16_13) (id := 4) (by kernel_rfl) ?_
  refine wpr_val 1 31 (.fieldAddr 40 (.tmp 3) 6) 0 (Value.pointer (some ⟨b1, 6, none⟩)) (Runs.plain (by kernel_rfl)) (by kernel_rfl) (y_pure (by kernel_rfl) (fun _ => by kernel_rfl)) ?_
  refine wpr_val 2 32 (.load 2 (.tmp 31)) 2 (Value.int .i64 (last.vs)) (Runs.plain (by kernel_rfl)) (by kernel_rfl) (q_load1 b1 6 3 (by kernel_rfl) (by kernel_rfl) (by kernel_rfl)) ?_
  refine wpr_val 3 33 (.fieldAddr 40 (.tmp 4) 6) 0 (Value.pointer (some ⟨b2, 6, none⟩)) (Runs.plain (by kernel_rfl)) (by kernel_rfl) (y_pure (by kernel_rfl) (fun _ => by kernel_rfl)) ?_
  refine wpr_val 4 34 (.load 2 (.tmp 33)) 2 (Value.int .i64 (want.vs)) (Runs.plain (by kernel_rfl)) (by kernel_rfl) (q_load1 b2 6 2 (by kernel_rfl) (by kernel_rfl) (by kernel_rfl)) ?_
  refine wpr_val 5 35 (.fieldAddr 42 (.tmp 5) 3) 0 (Value.pointer (some ⟨b3, 3, none⟩)) (Runs.plain (by kernel_rfl)) (by kernel_rfl) (y_pure (by kernel_rfl) (fun _ => by kernel_rfl)) ?_
  refine wpr_val 6 36 (.load 2 (.tmp 35)) 2 (Value.int .i64 (r.vs)) (Runs.plain (by kernel_rfl)) (by kernel_rfl) (q_load1 b3 3 1 (by kernel_rfl) (by kernel_rfl) (by kernel_rfl)) ?_
  refine wpr_eff 7 37 (.call { callee := .value (.func 43), args := #[(.tmp 32), (.tmp 34), (.tmp 36)], argTypes := #[2, 2, 2] }) 2 (Runs.plain (by kernel_rfl)) (by kernel_rfl) (e_call [Value.int .i64 (last.vs), Value.int .i64 (want.vs), Value.int .i64 (r.vs)] (by kernel_rfl) (by kernel_rfl) (fun g' lr eb ln => c43 g' (last.vs : Int) (want.vs : Int) (r.vs : Int))) ?_
  rintro _ g15 _ le16 ⟨rfl, rfl⟩
  have L0 := L0.trans le16
  refine wpr_val 8 38 (.fieldAddr 40 (.tmp 4) 6) 0 (Value.pointer (some ⟨b2, 6, none⟩)) (Runs.plain (by kernel_rfl)) (by kernel_rfl) (y_pure (by kernel_rfl) (fun _ => by kernel_rfl)) ?_
  refine wpr_do 9 (.store 2 (.tmp 38) (.tmp 37)) 0 (Runs.plain (by kernel_rfl)) (by kernel_rfl) (q_store b2 6 2 (Value.int .i64 ((towardS (last.vs : Int) (want.vs : Int) (r.vs : Int)))) [Value.int .i64 ((towardS (last.vs : Int) (want.vs : Int) (r.vs : Int)))] 40 [Value.int .u8 (want.lateral), Value.int .u8 (want.vertical), Value.int .u8 (want.phase), Value.int .i64 ((towardS (last.bank : Int) (want.bank : Int) (r.bank : Int))), Value.int .i64 ((towardS (last.speed : Int) (want.speed : Int) (r.speed : Int))), Value.int .i64 ((towardS (last.alt : Int) (want.alt : Int) (r.alt : Int))), Value.int .i64 (want.vs)] [Value.int .u8 (want.lateral), Value.int .u8 (want.vertical), Value.int .u8 (want.phase), Value.int .i64 ((towardS (last.bank : Int) (want.bank : Int) (r.bank : Int))), Value.int .i64 ((towardS (last.speed : Int) (want.speed : Int) (r.speed : Int))), Value.int .i64 ((towardS (last.alt : Int) (want.alt : Int) (r.alt : Int))), Value.int .i64 ((towardS (last.vs : Int) (want.vs : Int) (r.vs : Int)))] (by kernel_rfl) (by kernel_rfl) (by kernel_rfl) (by kernel_rfl) (by kernel_rfl) (by kernel_rfl) (by kernel_rfl)) ?_
  rintro _ _ _ - ⟨rfl, rfl⟩
  refine wpr_end (by kernel_rfl) ?_
  refine wpq_then ?_
  refine wpq_sub [(4, Value.pointer (some ⟨b2, 0, none⟩)), (6, Value.pointer (some ⟨b4, 0, none⟩))] (by kernel_rfl) ?_
  refine wpc_seq (x := F16_16) (y := F16_17) (by kernel_rfl) ?_
  refine wpc_region (ops := R16_16) (id := 5) (by kernel_rfl) ?_
  refine wpr_val 1 39 (.load 40 (.tmp 4)) 40 (Value.agg #[Value.int .u8 (want.lateral), Value.int .u8 (want.vertical), Value.int .u8 (want.phase), Value.int .i64 ((towardS (last.bank : Int) (want.bank : Int) (r.bank : Int))), Value.int .i64 ((towardS (last.speed : Int) (want.speed : Int) (r.speed : Int))), Value.int .i64 ((towardS (last.alt : Int) (want.alt : Int) (r.alt : Int))), Value.int .i64 ((towardS (last.vs : Int) (want.vs : Int) (r.vs : Int)))]) (Runs.plain (by kernel_rfl)) (by kernel_rfl) (q_loadA b2 0 2 [Value.int .u8 (want.lateral), Value.int .u8 (want.vertical), Value.int .u8 (want.phase), Value.int .i64 ((towardS (last.bank : Int) (want.bank : Int) (r.bank : Int))), Value.int .i64 ((towardS (last.speed : Int) (want.speed : Int) (r.speed : Int))), Value.int .i64 ((towardS (last.alt : Int) (want.alt : Int) (r.alt : Int))), Value.int .i64 ((towardS (last.vs : Int) (want.vs : Int) (r.vs : Int)))] (by kernel_rfl) (by kernel_rfl) (by kernel_rfl)) ?_
  refine wpr_do 2 (.store 40 (.tmp 6) (.tmp 39)) 0 (Runs.plain (by kernel_rfl)) (by kernel_rfl) (q_store b4 0 0 (Value.agg #[Value.int .u8 (want.lateral), Value.int .u8 (want.vertical), Value.int .u8 (want.phase), Value.int .i64 ((towardS (last.bank : Int) (want.bank : Int) (r.bank : Int))), Value.int .i64 ((towardS (last.speed : Int) (want.speed : Int) (r.speed : Int))), Value.int .i64 ((towardS (last.alt : Int) (want.alt : Int) (r.alt : Int))), Value.int .i64 ((towardS (last.vs : Int) (want.vs : Int) (r.vs : Int)))]) [Value.int .u8 (want.lateral), Value.int .u8 (want.vertical), Value.int .u8 (want.phase), Value.int .i64 ((towardS (last.bank : Int) (want.bank : Int) (r.bank : Int))), Value.int .i64 ((towardS (last.speed : Int) (want.speed : Int) (r.speed : Int))), Value.int .i64 ((towardS (last.alt : Int) (want.alt : Int) (r.alt : Int))), Value.int .i64 ((towardS (last.vs : Int) (want.vs : Int) (r.vs : Int)))] 40 [Value.int .u8 (0), Value.int .u8 (0), Value.int .u8 (0), Value.int .i64 (0), Value.int .i64 (0), Value.int .i64 (0), Value.int .i64 (0)] [Value.int .u8 (want.lateral), Value.int .u8 (want.vertical), Value.int .u8 (want.phase), Value.int .i64 ((towardS (last.bank : Int) (want.bank : Int) (r.bank : Int))), Value.int .i64 ((towardS (last.speed : Int) (want.speed : Int) (r.speed : Int))), Value.int .i64 ((towardS (last.alt : Int) (want.alt : Int) (r.alt : Int))), Value.int .i64 ((towardS (last.vs : Int) (want.vs : Int) (r.vs : Int)))] (by kernel_rfl) (by kernel_rfl) (by kernel_rfl) (by kernel_rfl) (by kernel_rfl) (by kernel_rfl) (by kernel_rfl)) ?_
  rintro _ _ _ - ⟨rfl, rfl⟩
  refine wpr_end (by kernel_rfl) ?_
  refine wpq_then ?_
  refine wpc_ret (rs := [.cell 6 40]) [Value.agg #[Value.int .u8 (want.lateral), Value.int .u8 (want.vertical), Value.int .u8 (want.phase), Value.int .i64 ((towardS (last.bank : Int) (want.bank : Int) (r.bank : Int))), Value.int .i64 ((towardS (last.speed : Int) (want.speed : Int) (r.speed : Int))), Value.int .i64 ((towardS (last.alt : Int) (want.alt : Int) (r.alt : Int))), Value.int .i64 ((towardS (last.vs : Int) (want.vs : Int) (r.vs : Int)))]] [] (by kernel_rfl) (fun _ _ h => h) (by kernel_rfl) (rq_cellA b4 0 0 [Value.int .u8 (want.lateral), Value.int .u8 (want.vertical), Value.int .u8 (want.phase), Value.int .i64 ((towardS (last.bank : Int) (want.bank : Int) (r.bank : Int))), Value.int .i64 ((towardS (last.speed : Int) (want.speed : Int) (r.speed : Int))), Value.int .i64 ((towardS (last.alt : Int) (want.alt : Int) (r.alt : Int))), Value.int .i64 ((towardS (last.vs : Int) (want.vs : Int) (r.vs : Int)))] (by kernel_rfl) (by kernel_rfl) (by kernel_rfl) res_nil) L0 keep0 ?_
  have eS : (limitS last want r) = (⟨(want.lateral : Int), (want.vertical : Int), (want.phase : Int), ((towardS (last.bank : Int) (want.bank : Int) (r.bank : Int)) : Int), ((towardS (last.speed : Int) (want.speed : Int) (r.speed : Int)) : Int), ((towardS (last.alt : Int) (want.alt : Int) (r.alt : Int)) : Int), ((towardS (last.vs : Int) (want.vs : Int) (r.vs : Int)) : Int)⟩ : Targets) := by
    unfold limitS
    rfl
  rw [eS]
  exact ⟨rfl, rfl⟩

noncomputable def F18_0 : Code := sub (Try.f18.body.getD .skip) []
noncomputable def F18_1 : Code := sub (Try.f18.body.getD .skip) [0]
noncomputable def F18_2 : Code := sub (Try.f18.body.getD .skip) [1]
noncomputable def R18_1 : Array Oper := regOf F18_1
noncomputable def F18_4 : Code := sub (Try.f18.body.getD .skip) [1, 0]
noncomputable def F18_5 : Code := sub (Try.f18.body.getD .skip) [1, 1]
noncomputable def F18_6 : Code := sub (Try.f18.body.getD .skip) [1, 0, 0]
noncomputable def F18_7 : Code := sub (Try.f18.body.getD .skip) [1, 0, 1]
noncomputable def R18_6 : Array Oper := regOf F18_6
noncomputable def F18_9 : Code := sub (Try.f18.body.getD .skip) [1, 0, 1, 0]
noncomputable def F18_10 : Code := sub (Try.f18.body.getD .skip) [1, 0, 1, 0, 0]
noncomputable def F18_11 : Code := sub (Try.f18.body.getD .skip) [1, 0, 1, 0, 0, 0]
noncomputable def F18_12 : Code := sub (Try.f18.body.getD .skip) [1, 0, 1, 0, 0, 1]
noncomputable def R18_11 : Array Oper := regOf F18_11
noncomputable def F18_14 : Code := sub (Try.f18.body.getD .skip) [1, 0, 1, 0, 0, 1, 0]
noncomputable def F18_15 : Code := sub (Try.f18.body.getD .skip) [1, 0, 1, 0, 0, 1, 1]
noncomputable def F18_16 : Code := sub (Try.f18.body.getD .skip) [1, 0, 1, 0, 0, 1, 0, 0]
noncomputable def F18_17 : Code := sub (Try.f18.body.getD .skip) [1, 0, 1, 0, 0, 1, 0, 1]
noncomputable def F18_18 : Code := sub (Try.f18.body.getD .skip) [1, 0, 1, 0, 0, 1, 1, 0]
noncomputable def F18_19 : Code := sub (Try.f18.body.getD .skip) [1, 0, 1, 0, 0, 1, 1, 1]
noncomputable def F18_20 : Code := sub (Try.f18.body.getD .skip) [1, 0, 1, 0, 0, 1, 1, 0, 0]
noncomputable def F18_21 : Code := sub (Try.f18.body.getD .skip) [1, 0, 1, 0, 0, 1, 1, 0, 0, 0]
noncomputable def F18_22 : Code := sub (Try.f18.body.getD .skip) [1, 0, 1, 0, 0, 1, 1, 0, 0, 1]
noncomputable def R18_21 : Array Oper := regOf F18_21
noncomputable def F18_24 : Code := sub (Try.f18.body.getD .skip) [1, 0, 1, 0, 0, 1, 1, 0, 0, 1, 0]
noncomputable def F18_25 : Code := sub (Try.f18.body.getD .skip) [1, 0, 1, 0, 0, 1, 1, 0, 0, 1, 1]
noncomputable def R18_24 : Array Oper := regOf F18_24
noncomputable def F18_27 : Code := sub (Try.f18.body.getD .skip) [1, 0, 1, 0, 0, 1, 1, 0, 0, 1, 1, 0]
noncomputable def F18_28 : Code := sub (Try.f18.body.getD .skip) [1, 0, 1, 0, 0, 1, 1, 0, 0, 1, 1, 1]
noncomputable def F18_29 : Code := sub (Try.f18.body.getD .skip) [1, 0, 1, 0, 0, 1, 1, 0, 0, 1, 1, 0, 0]
noncomputable def F18_30 : Code := sub (Try.f18.body.getD .skip) [1, 0, 1, 0, 0, 1, 1, 0, 0, 1, 1, 0, 1]
noncomputable def R18_29 : Array Oper := regOf F18_29
noncomputable def R18_19 : Array Oper := regOf F18_19
noncomputable def F18_33 : Code := sub (Try.f18.body.getD .skip) [1, 1, 0]
noncomputable def F18_34 : Code := sub (Try.f18.body.getD .skip) [1, 1, 1]
noncomputable def R18_33 : Array Oper := regOf F18_33
def selectS (one : Int) (two : Int) : Int :=
  (cond (((one == 4) || (one == 3))) (1 : Int) (cond (((two == 4) || (two == 3))) (2 : Int) (0 : Int)))
set_option maxRecDepth 100000 in
theorem c18 (g : Gh) (one : Int) (two : Int) :
    Ctr0 Try.prog 18 [Value.int .u8 (one), Value.int .u8 (two)] g (fun v ψ => v = Value.int .i64 ((selectS one two))) := by
  refine ctr_of Try.f18 F18_0 25 [Value.int .u8 (one), Value.int .u8 (two)] (by kernel_rfl) (by kernel_rfl) (by kernel_rfl) (by kernel_rfl) ?_
  have L0 := Gh.le.refl g
  refine wpc_seq (x := F18_1) (y := F18_2) (by kernel_rfl) ?_
  refine wpc_region (ops := R18_1) (id := 0) (by kernel_rfl) ?_
  refine wpr_val 1 4 (.assign (.const (Value.int .i64 (0)))) 3 (Value.int .i64 (0)) (Runs.plain (by kernel_rfl)) (by kernel_rfl) (y_assign (by kernel_rfl)) ?_
  refine wpr_end (by kernel_rfl) ?_
  refine wpq_then ?_
  refine wpc_seq (x := F18_4) (y := F18_5) (by kernel_rfl) ?_
  refine wpc_seq (x := F18_6) (y := F18_7) (by kernel_rfl) ?_
  refine wpc_region (ops := R18_6) (id := 1) (by kernel_rfl) ?_
  refine wpr_val 1 7 (.move (.tmp 0)) 5 (Value.int .u8 (one)) (Runs.plain (by kernel_rfl)) (by kernel_rfl) (y_move (by kernel_rfl)) ?_
  refine wpr_val 2 8 (.move (.tmp 1)) 5 (Value.int .u8 (two)) (Runs.plain (by kernel_rfl)) (by kernel_rfl) (y_move (by kernel_rfl)) ?_
  refine wpr_eff 3 9 (.buildSlice 22 2 #[(0, (.tmp 7)), (1, (.tmp 8))]) 22 (Runs.plain (by kernel_rfl)) (by kernel_rfl) (e_buildSlice (et := 5) [(0, Value.int .u8 (one)), (1, Value.int .u8 (two))] [Value.int .u8 (one), Value.int .u8 (two)] (by kernel_rfl) (by kernel_rfl)) ?_
  rintro _ _ _ - ⟨b1, rfl, rfl, rfl⟩
  refine wpr_val 4 10 (.call { callee := .builtin .len, args := #[(.tmp 9)], argTypes := #[22] }) 3 (Value.int .i64 (2)) (Runs.plain (by kernel_rfl)) (by kernel_rfl) (y_pure (by kernel_rfl) (fun _ => by kernel_rfl)) ?_
  refine wpr_val 5 11 (.move (.const (Value.int .i64 (0)))) 3 (Value.int .i64 (0)) (Runs.plain (by kernel_rfl)) (by kernel_rfl) (y_move (by kernel_rfl)) ?_
  refine wpr_end (by kernel_rfl) ?_
  refine wpq_then ?_
  refine wpq_sub [(9, Value.slice (some ⟨b1, 0, none⟩) 2 2), (10, Value.int .i64 (2)), (11, Value.int .i64 (0))] (by kernel_rfl) ?_
  refine wpc_block (x := F18_9) (id := 0) (by kernel_rfl) ?_
  refine wpq_sub [(9, Value.slice (some ⟨b1, 0, none⟩) 2 2), (10, Value.int .i64 (2)), (11, Value.int .i64 (0))] (by kernel_rfl) ?_
  refine wpc_loop (x := F18_10) (by kernel_rfl) (fun g own sl m => (m = 3 ∧ own = [some ⟨b1, 5, [Value.int .u8 (one), Value.int .u8 (two)]⟩] ∧ sl = [(9, Value.slice (some ⟨b1, 0, none⟩) 2 2), (10, Value.int .i64 (2)), (11, Value.int .i64 (0))]) ∨ (m = 2 ∧ own = [some ⟨b1, 5, [Value.int .u8 (one), Value.int .u8 (two)]⟩] ∧ sl = [(9, Value.slice (some ⟨b1, 0, none⟩) 2 2), (10, Value.int .i64 (2)), (11, Value.int .i64 (1))] ∧ (((one == 4) || (one == 3))) = false) ∨ (m = 1 ∧ own = [some ⟨b1, 5, [Value.int .u8 (one), Value.int .u8 (two)]⟩] ∧ sl = [(9, Value.slice (some ⟨b1, 0, none⟩) 2 2), (10, Value.int .i64 (2)), (11, Value.int .i64 (2))] ∧ (((one == 4) || (one == 3))) = false ∧ (((two == 4) || (two == 3))) = false)) 3 (.inl ⟨rfl, rfl, rfl⟩) ?_
  rintro g2 _ _ _ le3 (⟨rfl, rfl, rfl⟩ | ⟨rfl, rfl, rfl, u1_0⟩ | ⟨rfl, rfl, rfl, u2_0, u2_1⟩) QrU0 hQU0
  · have L0 := L0.trans le3
    have LHU0 := Gh.le.refl g2
    refine wpc_seq (x := F18_11) (y := F18_12) (by kernel_rfl) ?_
    refine wpc_region (ops := R18_11) (id := 2) (by kernel_rfl) ?_
    refine wpr_val 1 12 (.binOp .lss 3 (.tmp 11) (.tmp 10) 3) 0 (Value.bool (true)) (Runs.plain (by kernel_rfl)) (by kernel_rfl) (y_pure (by kernel_rfl) (fun _ => by kernel_rfl)) ?_
    refine wpr_end (by kernel_rfl) ?_
    refine wpq_then ?_
    refine wpc_seq (x := F18_14) (y := F18_15) (by kernel_rfl) ?_
    refine wpc_true (x := F18_16) (y := F18_17) (o := (.tmp 12)) (by kernel_rfl) (by kernel_rfl) ?_
    refine wpc_skip (by kernel_rfl) ?_
    refine wpq_then ?_
    refine wpc_seq (x := F18_18) (y := F18_19) (by kernel_rfl) ?_
    refine wpc_block (x := F18_20) (id := 1) (by kernel_rfl) ?_
    refine wpc_seq (x := F18_21) (y := F18_22) (by kernel_rfl) ?_
    refine wpc_region (ops := R18_21) (id := 3) (by kernel_rfl) ?_
    refine wpr_val 1 13 (.move (.tmp 11)) 3 (Value.int .i64 (0)) (Runs.plain (by kernel_rfl)) (by kernel_rfl) (y_move (by kernel_rfl)) ?_
    refine wpr_val 2 14 (.indexAddr 22 (.tmp 9) (.tmp 11)) 0 (Value.pointer (some ⟨b1, 0, none⟩)) (Runs.plain (by kernel_rfl)) (by kernel_rfl) (y_indexO (e := 5) (sz := 1) (len := 2) (c := 2) (k := .i64) 0 (by kernel_rfl) (by kernel_rfl) (by omega) (by kernel_rfl) (by kernel_rfl)) ?_
    refine wpr_val 3 15 (.load 5 (.tmp 14)) 5 (Value.int .u8 (one)) (Runs.plain (by kernel_rfl)) (by kernel_rfl) (q_load1 b1 0 0 (by kernel_rfl) (by kernel_rfl) (by kernel_rfl)) ?_
    refine wpr_val 4 5 (.assign (.tmp 13)) 3 (Value.int .i64 (0)) (Runs.plain (by kernel_rfl)) (by kernel_rfl) (y_assign (by kernel_rfl)) ?_
    refine wpr_val 5 6 (.assign (.tmp 15)) 5 (Value.int .u8 (one)) (Runs.plain (by kernel_rfl)) (by kernel_rfl) (y_assign (by kernel_rfl)) ?_
    refine wpr_end (by kernel_rfl) ?_
    refine wpq_then ?_
    refine wpc_seq (x := F18_24) (y := F18_25) (by kernel_rfl) ?_
    refine wpc_region (ops := R18_24) (id := 4) (by kernel_rfl) ?_
    refine wpr_val 1 16 (.move (.tmp 6)) 5 (Value.int .u8 (one)) (Runs.plain (by kernel_rfl)) (by kernel_rfl) (y_move (by kernel_rfl)) ?_
    refine wpr_val 2 17 (.binOp .eql 5 (.tmp 16) (.const (Value.int .u8 (4))) 5) 4 (Value.bool ((one == 4))) (Runs.plain (by kernel_rfl)) (by kernel_rfl) (y_pure (by kernel_rfl) (fun _ => by kernel_rfl)) ?_
    refine wpr_val 3 18 (.move (.tmp 17)) 4 (Value.bool ((one == 4))) (Runs.plain (by kernel_rfl)) (by kernel_rfl) (y_move (by kernel_rfl)) ?_
    refine wpr_grp 6 [(5, Value.int .i64 (0)), (9, Value.slice (some ⟨b1, 0, none⟩) 2 2), (10, Value.int .i64 (2)), (11, Value.int .i64 (0)), (21, Value.bool (((one == 4) || (one == 3))))] (fun hk2 => ?_) ?_
    · refine wpq_split 18 (b := (one == 4)) (by kernel_rfl) (fun q4 => ?_) (fun q4 => ?_)
      · have q4p : one = 4 := eq_of_beq q4
        refine wpr_skip 4 19 (Skips.mk' (j := 2) (t := 18) (b := false) (by kernel_rfl) (by kernel_rfl) (by kernel_rfl)) (by kernel_rfl) ?_
        refine wpr_skip 5 20 (Skips.mk' (j := 2) (t := 18) (b := false) (by kernel_rfl) (by kernel_rfl) (by kernel_rfl)) (by kernel_rfl) ?_
        refine wpr_val 6 21 (.pick (.tmp 18) (.const (Value.bool (true))) (.tmp 20)) 4 (Value.bool (true)) (Runs.plain (by kernel_rfl)) (by kernel_rfl) (y_pickT (by kernel_rfl) (by kernel_rfl)) ?_
        refine wpq_re 21 (v := Value.bool (true)) (Value.bool (((one == 4) || (one == 3)))) (by kernel_rfl) (re_or1 q4) ?_
        exact wpq_sub _ (by kernel_rfl) hk2
      · have q4p : ¬ (one = 4) := ne_of_beq_false_ q4
        refine wpr_val 4 19 (.move (.tmp 6)) 5 (Value.int .u8 (one)) (Runs.guarded (j := 2) (t := 18) (b := false) (by kernel_rfl) (by kernel_rfl) (by kernel_rfl)) (by kernel_rfl) (y_move (by kernel_rfl)) ?_
        refine wpr_val 5 20 (.binOp .eql 5 (.tmp 19) (.const (Value.int .u8 (3))) 5) 4 (Value.bool ((one == 3))) (Runs.guarded (j := 2) (t := 18) (b := false) (by kernel_rfl) (by kernel_rfl) (by kernel_rfl)) (by kernel_rfl) (y_pure (by kernel_rfl) (fun _ => by kernel_rfl)) ?_
        refine wpr_val 6 21 (.pick (.tmp 18) (.const (Value.bool (true))) (.tmp 20)) 4 (Value.bool ((one == 3))) (Runs.plain (by kernel_rfl)) (by kernel_rfl) (y_pickF (by kernel_rfl) (by kernel_rfl)) ?_
        refine wpq_re 21 (v := Value.bool ((one == 3))) (Value.bool (((one == 4) || (one == 3)))) (by kernel_rfl) (re_or0 q4) ?_
        exact wpq_sub _ (by kernel_rfl) hk2
    · refine wpr_end (by kernel_rfl) ?_
      refine wpq_then ?_
      -- condition 0
      refine wpc_cond (x := F18_27) (y := F18_28) (o := (.tmp 21)) (b := ((one == 4) || (one == 3))) (by kernel_rfl) (by kernel_rfl) (fun h0 => ?_) (fun h0 => ?_)
      · refine wpc_seq (x := F18_29) (y := F18_30) (by kernel_rfl) ?_
        refine wpc_region (ops := R18_29) (id := 5) (by kernel_rfl) ?_
        refine wpr_val 1 22 (.move (.tmp 5)) 3 (Value.int .i64 (0)) (Runs.plain (by kernel_rfl)) (by kernel_rfl) (y_move (by kernel_rfl)) ?_
        refine wpr_val 2 23 (.binOp .add 3 (.tmp 22) (.const (Value.int .i64 (1))) 3) 3 (Value.int .i64 (1)) (Runs.plain (by kernel_rfl)) (by kernel_rfl) (y_pure (by kernel_rfl) (fun _ => by kernel_rfl)) ?_
        refine wpr_val 3 4 (.assign (.tmp 23)) 3 (Value.int .i64 (1)) (Runs.plain (by kernel_rfl)) (by kernel_rfl) (y_assign (by kernel_rfl)) ?_
        refine wpr_end (by kernel_rfl) ?_
        refine wpq_then ?_
        refine wpq_sub [(4, Value.int .i64 (1))] (by kernel_rfl) ?_
        refine wpc_ret (rs := [.tmp 4]) [Value.int .i64 (1)] [] (by kernel_rfl) (fun _ _ h => h) (by kernel_rfl) (res_tmp (by kernel_rfl) res_nil) L0 keep0 ?_
        have eS : (selectS one two) = (1 : Int) := by
          unfold selectS
          rw [h0]
          rfl
        rw [eS]
        exact ⟨rfl, rfl⟩
      · have h0l := (or_false_ h0).1
        have h0r := (or_false_ h0).2
        have h0lp : ¬ (one = 4) := ne_of_beq_false_ h0l
        have h0rp : ¬ (one = 3) := ne_of_beq_false_ h0r
        refine wpc_skip (by kernel_rfl) ?_
        refine wpq_blockN ?_
        refine wpq_then ?_
        refine wpc_region (ops := R18_19) (id := 6) (by kernel_rfl) ?_
        refine wpr_val 1 24 (.binOp .add 3 (.tmp 11) (.const (Value.int .i64 (1))) 3) 3 (Value.int .i64 (1)) (Runs.plain (by kernel_rfl)) (by kernel_rfl) (y_pure (by kernel_rfl) (fun _ => by kernel_rfl)) ?_
        refine wpr_val 2 11 (.move (.tmp 24)) 3 (Value.int .i64 (1)) (Runs.plain (by kernel_rfl)) (by kernel_rfl) (y_move (by kernel_rfl)) ?_
        refine wpr_end (by kernel_rfl) ?_
        refine wpq_thenN ?_
        refine wpq_sub [(9, Value.slice (some ⟨b1, 0, none⟩) 2 2), (10, Value.int .i64 (2)), (11, Value.int .i64 (1))] (by kernel_rfl) ?_
        exact hQU0 _ _ _ 2 LHU0 (by omega) (.inr (.inl ⟨rfl, rfl, rfl, h0⟩))
  · have L0 := L0.trans le3
    have LHU0 := Gh.le.refl g2
    refine wpc_seq (x := F18_11) (y := F18_12) (by kernel_rfl) ?_
    refine wpc_region (ops := R18_11) (id := 2) (by kernel_rfl) ?_
    refine wpr_val 1 12 (.binOp .lss 3 (.tmp 11) (.tmp 10) 3) 0 (Value.bool (true)) (Runs.plain (by kernel_rfl)) (by kernel_rfl) (y_pure (by kernel_rfl) (fun _ => by kernel_rfl)) ?_
    refine wpr_end (by kernel_rfl) ?_
    refine wpq_then ?_
    refine wpc_seq (x := F18_14) (y := F18_15) (by kernel_rfl) ?_
    refine wpc_true (x := F18_16) (y := F18_17) (o := (.tmp 12)) (by kernel_rfl) (by kernel_rfl) ?_
    refine wpc_skip (by kernel_rfl) ?_
    refine wpq_then ?_
    refine wpc_seq (x := F18_18) (y := F18_19) (by kernel_rfl) ?_
    refine wpc_block (x := F18_20) (id := 1) (by kernel_rfl) ?_
    refine wpc_seq (x := F18_21) (y := F18_22) (by kernel_rfl) ?_
    refine wpc_region (ops := R18_21) (id := 3) (by kernel_rfl) ?_
    refine wpr_val 1 13 (.move (.tmp 11)) 3 (Value.int .i64 (1)) (Runs.plain (by kernel_rfl)) (by kernel_rfl) (y_move (by kernel_rfl)) ?_
    refine wpr_val 2 14 (.indexAddr 22 (.tmp 9) (.tmp 11)) 0 (Value.pointer (some ⟨b1, 1, none⟩)) (Runs.plain (by kernel_rfl)) (by kernel_rfl) (y_indexO (e := 5) (sz := 1) (len := 2) (c := 2) (k := .i64) 1 (by kernel_rfl) (by kernel_rfl) (by omega) (by kernel_rfl) (by kernel_rfl)) ?_
    refine wpr_val 3 15 (.load 5 (.tmp 14)) 5 (Value.int .u8 (two)) (Runs.plain (by kernel_rfl)) (by kernel_rfl) (q_load1 b1 1 0 (by kernel_rfl) (by kernel_rfl) (by kernel_rfl)) ?_
    refine wpr_val 4 5 (.assign (.tmp 13)) 3 (Value.int .i64 (1)) (Runs.plain (by kernel_rfl)) (by kernel_rfl) (y_assign (by kernel_rfl)) ?_
    refine wpr_val 5 6 (.assign (.tmp 15)) 5 (Value.int .u8 (two)) (Runs.plain (by kernel_rfl)) (by kernel_rfl) (y_assign (by kernel_rfl)) ?_
    refine wpr_end (by kernel_rfl) ?_
    refine wpq_then ?_
    refine wpc_seq (x := F18_24) (y := F18_25) (by kernel_rfl) ?_
    refine wpc_region (ops := R18_24) (id := 4) (by kernel_rfl) ?_
    refine wpr_val 1 16 (.move (.tmp 6)) 5 (Value.int .u8 (two)) (Runs.plain (by kernel_rfl)) (by kernel_rfl) (y_move (by kernel_rfl)) ?_
    refine wpr_val 2 17 (.binOp .eql 5 (.tmp 16) (.const (Value.int .u8 (4))) 5) 4 (Value.bool ((two == 4))) (Runs.plain (by kernel_rfl)) (by kernel_rfl) (y_pure (by kernel_rfl) (fun _ => by kernel_rfl)) ?_
    refine wpr_val 3 18 (.move (.tmp 17)) 4 (Value.bool ((two == 4))) (Runs.plain (by kernel_rfl)) (by kernel_rfl) (y_move (by kernel_rfl)) ?_
    refine wpr_grp 6 [(5, Value.int .i64 (1)), (9, Value.slice (some ⟨b1, 0, none⟩) 2 2), (10, Value.int .i64 (2)), (11, Value.int .i64 (1)), (21, Value.bool (((two == 4) || (two == 3))))] (fun hk2 => ?_) ?_
    · refine wpq_split 18 (b := (two == 4)) (by kernel_rfl) (fun q5 => ?_) (fun q5 => ?_)
      · have q5p : two = 4 := eq_of_beq q5
        refine wpr_skip 4 19 (Skips.mk' (j := 2) (t := 18) (b := false) (by kernel_rfl) (by kernel_rfl) (by kernel_rfl)) (by kernel_rfl) ?_
        refine wpr_skip 5 20 (Skips.mk' (j := 2) (t := 18) (b := false) (by kernel_rfl) (by kernel_rfl) (by kernel_rfl)) (by kernel_rfl) ?_
        refine wpr_val 6 21 (.pick (.tmp 18) (.const (Value.bool (true))) (.tmp 20)) 4 (Value.bool (true)) (Runs.plain (by kernel_rfl)) (by kernel_rfl) (y_pickT (by kernel_rfl) (by kernel_rfl)) ?_
        refine wpq_re 21 (v := Value.bool (true)) (Value.bool (((two == 4) || (two == 3)))) (by kernel_rfl) (re_or1 q5) ?_
        exact wpq_sub _ (by kernel_rfl) hk2
      · have q5p : ¬ (two = 4) := ne_of_beq_false_ q5
        refine wpr_val 4 19 (.move (.tmp 6)) 5 (Value.int .u8 (two)) (Runs.guarded (j := 2) (t := 18) (b := false) (by kernel_rfl) (by kernel_rfl) (by kernel_rfl)) (by kernel_rfl) (y_move (by kernel_rfl)) ?_
        refine wpr_val 5 20 (.binOp .eql 5 (.tmp 19) (.const (Value.int .u8 (3))) 5) 4 (Value.bool ((two == 3))) (Runs.guarded (j := 2) (t := 18) (b := false) (by kernel_rfl) (by kernel_rfl) (by kernel_rfl)) (by kernel_rfl) (y_pure (by kernel_rfl) (fun _ => by kernel_rfl)) ?_
        refine wpr_val 6 21 (.pick (.tmp 18) (.const (Value.bool (true))) (.tmp 20)) 4 (Value.bool ((two == 3))) (Runs.plain (by kernel_rfl)) (by kernel_rfl) (y_pickF (by kernel_rfl) (by kernel_rfl)) ?_
        refine wpq_re 21 (v := Value.bool ((two == 3))) (Value.bool (((two == 4) || (two == 3)))) (by kernel_rfl) (re_or0 q5) ?_
        exact wpq_sub _ (by kernel_rfl) hk2
    · refine wpr_end (by kernel_rfl) ?_
      refine wpq_then ?_
      -- condition 1
      refine wpc_cond (x := F18_27) (y := F18_28) (o := (.tmp 21)) (b := ((two == 4) || (two == 3))) (by kernel_rfl) (by kernel_rfl) (fun h1 => ?_) (fun h1 => ?_)
      · refine wpc_seq (x := F18_29) (y := F18_30) (by kernel_rfl) ?_
        refine wpc_region (ops := R18_29) (id := 5) (by kernel_rfl) ?_
        refine wpr_val 1 22 (.move (.tmp 5)) 3 (Value.int .i64 (1)) (Runs.plain (by kernel_rfl)) (by kernel_rfl) (y_move (by kernel_rfl)) ?_
        refine wpr_val 2 23 (.binOp .add 3 (.tmp 22) (.const (Value.int .i64 (1))) 3) 3 (Value.int .i64 (2)) (Runs.plain (by kernel_rfl)) (by kernel_rfl) (y_pure (by kernel_rfl) (fun _ => by kernel_rfl)) ?_
        refine wpr_val 3 4 (.assign (.tmp 23)) 3 (Value.int .i64 (2)) (Runs.plain (by kernel_rfl)) (by kernel_rfl) (y_assign (by kernel_rfl)) ?_
        refine wpr_end (by kernel_rfl) ?_
        refine wpq_then ?_
        refine wpq_sub [(4, Value.int .i64 (2))] (by kernel_rfl) ?_
        refine wpc_ret (rs := [.tmp 4]) [Value.int .i64 (2)] [] (by kernel_rfl) (fun _ _ h => h) (by kernel_rfl) (res_tmp (by kernel_rfl) res_nil) L0 keep0 ?_
        have eS : (selectS one two) = (2 : Int) := by
          unfold selectS
          rw [u1_0]
          rw [h1]
          rfl
        rw [eS]
        exact ⟨rfl, rfl⟩
      · have h1l := (or_false_ h1).1
        have h1r := (or_false_ h1).2
        have h1lp : ¬ (two = 4) := ne_of_beq_false_ h1l
        have h1rp : ¬ (two = 3) := ne_of_beq_false_ h1r
        refine wpc_skip (by kernel_rfl) ?_
        refine wpq_blockN ?_
        refine wpq_then ?_
        refine wpc_region (ops := R18_19) (id := 6) (by kernel_rfl) ?_
        refine wpr_val 1 24 (.binOp .add 3 (.tmp 11) (.const (Value.int .i64 (1))) 3) 3 (Value.int .i64 (2)) (Runs.plain (by kernel_rfl)) (by kernel_rfl) (y_pure (by kernel_rfl) (fun _ => by kernel_rfl)) ?_
        refine wpr_val 2 11 (.move (.tmp 24)) 3 (Value.int .i64 (2)) (Runs.plain (by kernel_rfl)) (by kernel_rfl) (y_move (by kernel_rfl)) ?_
        refine wpr_end (by kernel_rfl) ?_
        refine wpq_thenN ?_
        refine wpq_sub [(9, Value.slice (some ⟨b1, 0, none⟩) 2 2), (10, Value.int .i64 (2)), (11, Value.int .i64 (2))] (by kernel_rfl) ?_
        exact hQU0 _ _ _ 1 LHU0 (by omega) (.inr (.inr ⟨rfl, rfl, rfl, u1_0, h1⟩))
  · have L0 := L0.trans le3
    have LHU0 := Gh.le.refl g2
    refine wpc_seq (x := F18_11) (y := F18_12) (by kernel_rfl) ?_
    refine wpc_region (ops := R18_11) (id := 2) (by kernel_rfl) ?_
    refine wpr_val 1 12 (.binOp .lss 3 (.tmp 11) (.tmp 10) 3) 0 (Value.bool (false)) (Runs.plain (by kernel_rfl)) (by kernel_rfl) (y_pure (by kernel_rfl) (fun _ => by kernel_rfl)) ?_
    refine wpr_end (by kernel_rfl) ?_
    refine wpq_then ?_
    refine wpc_seq (x := F18_14) (y := F18_15) (by kernel_rfl) ?_
    refine wpc_false (x := F18_16) (y := F18_17) (o := (.tmp 12)) (by kernel_rfl) (by kernel_rfl) ?_
    refine wpc_exit (id := 0) (by kernel_rfl) ?_
    refine wpq_thenX ?_
    refine wpq_thenX ?_
    refine wpq_blockE ?_
    refine wpq_then ?_
    refine wpc_seq (x := F18_33) (y := F18_34) (by kernel_rfl) ?_
    refine wpc_region (ops := R18_33) (id := 7) (by kernel_rfl) ?_
    refine wpr_val 1 4 (.assign (.const (Value.int .i64 (0)))) 3 (Value.int .i64 (0)) (Runs.plain (by kernel_rfl)) (by kernel_rfl) (y_assign (by kernel_rfl)) ?_
    refine wpr_end (by kernel_rfl) ?_
    refine wpq_then ?_
    refine wpc_ret (rs := [.tmp 4]) [Value.int .i64 (0)] [] (by kernel_rfl) (fun _ _ h => h) (by kernel_rfl) (res_tmp (by kernel_rfl) res_nil) L0 keep0 ?_
    have eS : (selectS one two) = (0 : Int) := by
      unfold selectS
      rw [u2_0]
      rw [u2_1]
      rfl
    rw [eS]
    exact ⟨rfl, rfl⟩

end Go.Proofs.Ytolppdcaaoghgaa
