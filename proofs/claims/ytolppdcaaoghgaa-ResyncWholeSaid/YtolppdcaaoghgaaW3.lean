/-
Walks, printed by wip/eng/eng.py. Conditions: each theorem's own.
-/
import Derived.Test.YtolppdcaaoghgaaW2
namespace Go.Proofs.Ytolppdcaaoghgaa
set_option linter.unusedVariables false
set_option linter.unusedSimpArgs false
open Go.RowKit
noncomputable def F13_0 : Code := sub (Try.f13.body.getD .skip) []
noncomputable def F13_1 : Code := sub (Try.f13.body.getD .skip) [0]
noncomputable def F13_2 : Code := sub (Try.f13.body.getD .skip) [1]
noncomputable def R13_1 : Array Oper := regOf F13_1
noncomputable def F13_4 : Code := sub (Try.f13.body.getD .skip) [1, 0]
noncomputable def F13_5 : Code := sub (Try.f13.body.getD .skip) [1, 1]
noncomputable def F13_6 : Code := sub (Try.f13.body.getD .skip) [1, 0, 0]
noncomputable def F13_7 : Code := sub (Try.f13.body.getD .skip) [1, 0, 1]
noncomputable def R13_6 : Array Oper := regOf F13_6
noncomputable def F13_9 : Code := sub (Try.f13.body.getD .skip) [1, 0, 1, 0]
noncomputable def F13_10 : Code := sub (Try.f13.body.getD .skip) [1, 0, 1, 1]
noncomputable def F13_11 : Code := sub (Try.f13.body.getD .skip) [1, 0, 1, 0, 0]
noncomputable def F13_12 : Code := sub (Try.f13.body.getD .skip) [1, 0, 1, 0, 1]
noncomputable def R13_11 : Array Oper := regOf F13_11
noncomputable def F13_14 : Code := sub (Try.f13.body.getD .skip) [1, 1, 0]
noncomputable def F13_15 : Code := sub (Try.f13.body.getD .skip) [1, 1, 1]
noncomputable def F13_16 : Code := sub (Try.f13.body.getD .skip) [1, 1, 0, 0]
noncomputable def F13_17 : Code := sub (Try.f13.body.getD .skip) [1, 1, 0, 1]
noncomputable def R13_16 : Array Oper := regOf F13_16
noncomputable def F13_19 : Code := sub (Try.f13.body.getD .skip) [1, 1, 0, 1, 0]
noncomputable def F13_20 : Code := sub (Try.f13.body.getD .skip) [1, 1, 0, 1, 1]
noncomputable def F13_21 : Code := sub (Try.f13.body.getD .skip) [1, 1, 0, 1, 0, 0]
noncomputable def F13_22 : Code := sub (Try.f13.body.getD .skip) [1, 1, 0, 1, 0, 1]
noncomputable def R13_21 : Array Oper := regOf F13_21
noncomputable def F13_24 : Code := sub (Try.f13.body.getD .skip) [1, 1, 1, 0]
noncomputable def F13_25 : Code := sub (Try.f13.body.getD .skip) [1, 1, 1, 1]
noncomputable def R13_24 : Array Oper := regOf F13_24
noncomputable def F13_27 : Code := sub (Try.f13.body.getD .skip) [1, 1, 1, 1, 0]
noncomputable def F13_28 : Code := sub (Try.f13.body.getD .skip) [1, 1, 1, 1, 1]
noncomputable def F13_29 : Code := sub (Try.f13.body.getD .skip) [1, 1, 1, 1, 0, 0]
noncomputable def F13_30 : Code := sub (Try.f13.body.getD .skip) [1, 1, 1, 1, 0, 1]
noncomputable def R13_29 : Array Oper := regOf F13_29
noncomputable def F13_32 : Code := sub (Try.f13.body.getD .skip) [1, 1, 1, 1, 0, 1, 0]
noncomputable def F13_33 : Code := sub (Try.f13.body.getD .skip) [1, 1, 1, 1, 0, 1, 1]
noncomputable def F13_34 : Code := sub (Try.f13.body.getD .skip) [1, 1, 1, 1, 1, 0]
noncomputable def F13_35 : Code := sub (Try.f13.body.getD .skip) [1, 1, 1, 1, 1, 1]
noncomputable def R13_34 : Array Oper := regOf F13_34
noncomputable def F13_37 : Code := sub (Try.f13.body.getD .skip) [1, 1, 1, 1, 1, 1, 0]
noncomputable def F13_38 : Code := sub (Try.f13.body.getD .skip) [1, 1, 1, 1, 1, 1, 1]
noncomputable def F13_39 : Code := sub (Try.f13.body.getD .skip) [1, 1, 1, 1, 1, 1, 0, 0]
noncomputable def F13_40 : Code := sub (Try.f13.body.getD .skip) [1, 1, 1, 1, 1, 1, 0, 1]
noncomputable def R13_39 : Array Oper := regOf F13_39
noncomputable def F13_42 : Code := sub (Try.f13.body.getD .skip) [1, 1, 1, 1, 1, 1, 0, 1, 0]
noncomputable def F13_43 : Code := sub (Try.f13.body.getD .skip) [1, 1, 1, 1, 1, 1, 0, 1, 0, 0]
noncomputable def F13_44 : Code := sub (Try.f13.body.getD .skip) [1, 1, 1, 1, 1, 1, 0, 1, 0, 0, 0]
noncomputable def F13_45 : Code := sub (Try.f13.body.getD .skip) [1, 1, 1, 1, 1, 1, 0, 1, 0, 0, 1]
noncomputable def F13_46 : Code := sub (Try.f13.body.getD .skip) [1, 1, 1, 1, 1, 1, 0, 1, 0, 0, 0, 0]
noncomputable def F13_47 : Code := sub (Try.f13.body.getD .skip) [1, 1, 1, 1, 1, 1, 0, 1, 0, 0, 0, 1]
noncomputable def R13_46 : Array Oper := regOf F13_46
noncomputable def F13_49 : Code := sub (Try.f13.body.getD .skip) [1, 1, 1, 1, 1, 1, 0, 1, 0, 0, 0, 1, 0]
noncomputable def F13_50 : Code := sub (Try.f13.body.getD .skip) [1, 1, 1, 1, 1, 1, 0, 1, 0, 0, 0, 1, 1]
noncomputable def F13_51 : Code := sub (Try.f13.body.getD .skip) [1, 1, 1, 1, 1, 1, 0, 1, 0, 0, 1, 0]
noncomputable def F13_52 : Code := sub (Try.f13.body.getD .skip) [1, 1, 1, 1, 1, 1, 0, 1, 0, 0, 1, 1]
noncomputable def F13_53 : Code := sub (Try.f13.body.getD .skip) [1, 1, 1, 1, 1, 1, 0, 1, 0, 0, 1, 0, 0]
noncomputable def F13_54 : Code := sub (Try.f13.body.getD .skip) [1, 1, 1, 1, 1, 1, 0, 1, 0, 0, 1, 0, 0, 0]
noncomputable def F13_55 : Code := sub (Try.f13.body.getD .skip) [1, 1, 1, 1, 1, 1, 0, 1, 0, 0, 1, 0, 0, 1]
noncomputable def R13_54 : Array Oper := regOf F13_54
noncomputable def F13_57 : Code := sub (Try.f13.body.getD .skip) [1, 1, 1, 1, 1, 1, 0, 1, 0, 0, 1, 0, 0, 1, 0]
noncomputable def F13_58 : Code := sub (Try.f13.body.getD .skip) [1, 1, 1, 1, 1, 1, 0, 1, 0, 0, 1, 0, 0, 1, 1]
noncomputable def F13_59 : Code := sub (Try.f13.body.getD .skip) [1, 1, 1, 1, 1, 1, 0, 1, 0, 0, 1, 0, 0, 1, 0, 0]
noncomputable def F13_60 : Code := sub (Try.f13.body.getD .skip) [1, 1, 1, 1, 1, 1, 0, 1, 0, 0, 1, 0, 0, 1, 0, 1]
noncomputable def R13_59 : Array Oper := regOf F13_59
noncomputable def F13_62 : Code := sub (Try.f13.body.getD .skip) [1, 1, 1, 1, 1, 1, 0, 1, 0, 0, 1, 0, 0, 1, 0, 1, 0]
noncomputable def F13_63 : Code := sub (Try.f13.body.getD .skip) [1, 1, 1, 1, 1, 1, 0, 1, 0, 0, 1, 0, 0, 1, 0, 1, 1]
noncomputable def R13_58 : Array Oper := regOf F13_58
noncomputable def R13_52 : Array Oper := regOf F13_52
noncomputable def R13_62 : Array Oper := regOf F13_62
noncomputable def F13_67 : Code := sub (Try.f13.body.getD .skip) [1, 1, 1, 1, 1, 1, 1, 0]
noncomputable def F13_68 : Code := sub (Try.f13.body.getD .skip) [1, 1, 1, 1, 1, 1, 1, 1]
noncomputable def R13_67 : Array Oper := regOf F13_67
noncomputable def R13_32 : Array Oper := regOf F13_32
set_option maxRecDepth 100000 in
theorem c13 (g : Gh) (base : Int) (data : List UInt8) (Adata : Option Addr) (cdata : Nat) (fdata : Arr g.r tyU8 Adata cdata data) :
    Ctr0 Try.prog 13 [Value.int .i64 (base), Value.slice Adata (data).length cdata] g (fun v ψ => ∃ (Ar0 : Option Addr) (cr0 : Nat), v = Value.tuple #[Value.slice Ar0 ((splitS base data).1).length cr0, Value.int .i64 ((splitS base data).2)] ∧ Arr ψ tyPiece Ar0 cr0 (splitS base data).1) := by
  refine ctr_of Try.f13 F13_0 57 [Value.int .i64 (base), Value.slice Adata (data).length cdata] (by kernel_rfl) (by kernel_rfl) (by kernel_rfl) (by kernel_rfl) ?_
  have L0 := Gh.le.refl g
  have nfdata := fdata.len
  refine wpc_seq (x := F13_1) (y := F13_2) (by kernel_rfl) ?_
  refine wpc_region (ops := R13_1) (id := 0) (by kernel_rfl) ?_
  refine wpr_val 1 4 (.assign (.const (Value.slice none 0 0))) 30 (Value.slice none 0 0) (Runs.plain (by kernel_rfl)) (by kernel_rfl) (y_assign (by kernel_rfl)) ?_
  refine wpr_val 2 5 (.assign (.const (Value.int .i64 (0)))) 27 (Value.int .i64 (0)) (Runs.plain (by kernel_rfl)) (by kernel_rfl) (y_assign (by kernel_rfl)) ?_
  refine wpr_end (by kernel_rfl) ?_
  refine wpq_then ?_
  refine wpc_seq (x := F13_4) (y := F13_5) (by kernel_rfl) ?_
  refine wpc_seq (x := F13_6) (y := F13_7) (by kernel_rfl) ?_
  refine wpc_region (ops := R13_6) (id := 1) (by kernel_rfl) ?_
  refine wpr_val 1 11 (.move (.tmp 0)) 2 (Value.int .i64 (base)) (Runs.plain (by kernel_rfl)) (by kernel_rfl) (y_move (by kernel_rfl)) ?_
  refine wpr_val 2 12 (.binOp .lss 2 (.tmp 11) (.const (Value.int .i64 (1))) 2) 4 (Value.bool (decide (base < 1))) (Runs.plain (by kernel_rfl)) (by kernel_rfl) (y_pure (by kernel_rfl) (fun _ => by kernel_rfl)) ?_
  refine wpr_val 3 13 (.move (.tmp 12)) 4 (Value.bool (decide (base < 1))) (Runs.plain (by kernel_rfl)) (by kernel_rfl) (y_move (by kernel_rfl)) ?_
  refine wpr_grp 6 [(0, Value.int .i64 (base)), (1, Value.slice Adata (data).length cdata), (16, Value.bool ((decide (base < 1) || decide (base > 2305843009213693952))))] (fun hk2 => ?_) ?_
  · refine wpq_split 13 (b := decide (base < 1)) (by kernel_rfl) (fun q1 => ?_) (fun q1 => ?_)
    · have q1p := of_decide_eq_true q1
      refine wpr_skip 4 14 (Skips.mk' (j := 2) (t := 13) (b := false) (by kernel_rfl) (by kernel_rfl) (by kernel_rfl)) (by kernel_rfl) ?_
      refine wpr_skip 5 15 (Skips.mk' (j := 2) (t := 13) (b := false) (by kernel_rfl) (by kernel_rfl) (by kernel_rfl)) (by kernel_rfl) ?_
      refine wpr_val 6 16 (.pick (.tmp 13) (.const (Value.bool (true))) (.tmp 15)) 4 (Value.bool (true)) (Runs.plain (by kernel_rfl)) (by kernel_rfl) (y_pickT (by kernel_rfl) (by kernel_rfl)) ?_
      refine wpq_re 16 (v := Value.bool (true)) (Value.bool ((decide (base < 1) || decide (base > 2305843009213693952)))) (by kernel_rfl) (re_or1 q1) ?_
      exact wpq_sub _ (by kernel_rfl) hk2
    · have q1p := of_decide_eq_false q1
      refine wpr_val 4 14 (.move (.tmp 0)) 2 (Value.int .i64 (base)) (Runs.guarded (j := 2) (t := 13) (b := false) (by kernel_rfl) (by kernel_rfl) (by kernel_rfl)) (by kernel_rfl) (y_move (by kernel_rfl)) ?_
      refine wpr_val 5 15 (.binOp .gtr 2 (.tmp 14) (.const (Value.int .i64 (2305843009213693952))) 2) 4 (Value.bool (decide (base > 2305843009213693952))) (Runs.guarded (j := 2) (t := 13) (b := false) (by kernel_rfl) (by kernel_rfl) (by kernel_rfl)) (by kernel_rfl) (y_pure (by kernel_rfl) (fun _ => by kernel_rfl)) ?_
      refine wpr_val 6 16 (.pick (.tmp 13) (.const (Value.bool (true))) (.tmp 15)) 4 (Value.bool (decide (base > 2305843009213693952))) (Runs.plain (by kernel_rfl)) (by kernel_rfl) (y_pickF (by kernel_rfl) (by kernel_rfl)) ?_
      refine wpq_re 16 (v := Value.bool (decide (base > 2305843009213693952))) (Value.bool ((decide (base < 1) || decide (base > 2305843009213693952)))) (by kernel_rfl) (re_or0 q1) ?_
      exact wpq_sub _ (by kernel_rfl) hk2
  · refine wpr_end (by kernel_rfl) ?_
    refine wpq_then ?_
    -- condition 0
    refine wpc_cond (x := F13_9) (y := F13_10) (o := (.tmp 16)) (b := (decide (base < 1) || decide (base > 2305843009213693952))) (by kernel_rfl) (by kernel_rfl) (fun h0 => ?_) (fun h0 => ?_)
    · refine wpc_seq (x := F13_11) (y := F13_12) (by kernel_rfl) ?_
      refine wpc_region (ops := R13_11) (id := 2) (by kernel_rfl) ?_
      refine wpr_val 1 4 (.assign (.const (Value.slice none 0 0))) 30 (Value.slice none 0 0) (Runs.plain (by kernel_rfl)) (by kernel_rfl) (y_assign (by kernel_rfl)) ?_
      refine wpr_val 2 5 (.assign (.const (Value.int .i64 (1)))) 27 (Value.int .i64 (1)) (Runs.plain (by kernel_rfl)) (by kernel_rfl) (y_assign (by kernel_rfl)) ?_
      refine wpr_end (by kernel_rfl) ?_
      refine wpq_then ?_
      refine wpc_ret (rs := [.tmp 4, .tmp 5]) [Value.slice none 0 0, Value.int .i64 (1)] [] (by kernel_rfl) (fun _ _ h => h) (by kernel_rfl) (res_tmp (by kernel_rfl) (res_tmp (by kernel_rfl) res_nil)) L0 keep0 ?_
      have eS : (splitS base data) = (([] : List Piece), (1 : Int)) := by
        exact splitS_0 h0
      rw [eS]
      exact ⟨rfl, none, 0, rfl, Arr.nil⟩
    · have h0l := (or_false_ h0).1
      have h0r := (or_false_ h0).2
      have h0lp := of_decide_eq_false h0l
      have h0rp := of_decide_eq_false h0r
      refine wpc_skip (by kernel_rfl) ?_
      refine wpq_then ?_
      refine wpc_seq (x := F13_14) (y := F13_15) (by kernel_rfl) ?_
      refine wpc_seq (x := F13_16) (y := F13_17) (by kernel_rfl) ?_
      refine wpc_region (ops := R13_16) (id := 3) (by kernel_rfl) ?_
      refine wpr_val 1 17 (.move (.tmp 1)) 22 (Value.slice Adata (data).length cdata) (Runs.plain (by kernel_rfl)) (by kernel_rfl) (y_move (by kernel_rfl)) ?_
      refine wpr_val 2 18 (.call { callee := .builtin .len, args := #[(.tmp 17)], argTypes := #[22] }) 3 (Value.int .i64 ((((data).length : Nat) : Int))) (Runs.plain (by kernel_rfl)) (by kernel_rfl) (y_pure (by kernel_rfl) (fun _ => by kernel_rfl)) ?_
      refine wpr_val 3 19 (.binOp .gtr 3 (.tmp 18) (.const (Value.int .i64 (524288))) 3) 4 (Value.bool (decide ((((data).length : Nat) : Int) > 524288))) (Runs.plain (by kernel_rfl)) (by kernel_rfl) (y_pure (by kernel_rfl) (fun _ => by kernel_rfl)) ?_
      refine wpr_end (by kernel_rfl) ?_
      refine wpq_then ?_
      -- condition 1
      refine wpc_cond (x := F13_19) (y := F13_20) (o := (.tmp 19)) (b := decide ((((data).length : Nat) : Int) > 524288)) (by kernel_rfl) (by kernel_rfl) (fun h1 => ?_) (fun h1 => ?_)
      · have h1p := of_decide_eq_true h1
        refine wpc_seq (x := F13_21) (y := F13_22) (by kernel_rfl) ?_
        refine wpc_region (ops := R13_21) (id := 4) (by kernel_rfl) ?_
        refine wpr_val 1 4 (.assign (.const (Value.slice none 0 0))) 30 (Value.slice none 0 0) (Runs.plain (by kernel_rfl)) (by kernel_rfl) (y_assign (by kernel_rfl)) ?_
        refine wpr_val 2 5 (.assign (.const (Value.int .i64 (3)))) 27 (Value.int .i64 (3)) (Runs.plain (by kernel_rfl)) (by kernel_rfl) (y_assign (by kernel_rfl)) ?_
        refine wpr_end (by kernel_rfl) ?_
        refine wpq_then ?_
        refine wpq_sub [(4, Value.slice none 0 0), (5, Value.int .i64 (3))] (by kernel_rfl) ?_
        refine wpc_ret (rs := [.tmp 4, .tmp 5]) [Value.slice none 0 0, Value.int .i64 (3)] [] (by kernel_rfl) (fun _ _ h => h) (by kernel_rfl) (res_tmp (by kernel_rfl) (res_tmp (by kernel_rfl) res_nil)) L0 keep0 ?_
        have eS : (splitS base data) = (([] : List Piece), (3 : Int)) := by
          exact splitS_1 h0 h1
        rw [eS]
        exact ⟨rfl, none, 0, rfl, Arr.nil⟩
      · have h1p := of_decide_eq_false h1
        refine wpc_skip (by kernel_rfl) ?_
        refine wpq_then ?_
        refine wpc_seq (x := F13_24) (y := F13_25) (by kernel_rfl) ?_
        refine wpc_region (ops := R13_24) (id := 5) (by kernel_rfl) ?_
        refine wpr_val 1 20 (.move (.tmp 1)) 22 (Value.slice Adata (data).length cdata) (Runs.plain (by kernel_rfl)) (by kernel_rfl) (y_move (by kernel_rfl)) ?_
        refine wpr_val 2 21 (.call { callee := .builtin .len, args := #[(.tmp 20)], argTypes := #[22] }) 3 (Value.int .i64 ((((data).length : Nat) : Int))) (Runs.plain (by kernel_rfl)) (by kernel_rfl) (y_pure (by kernel_rfl) (fun _ => by kernel_rfl)) ?_
        refine wpr_val 3 22 (.binOp .add 3 (.tmp 21) (.const (Value.int .i64 (600))) 3) 3 (Value.int .i64 (((((data).length : Nat) : Int) + 600))) (Runs.plain (by kernel_rfl)) (by kernel_rfl) (y_add (by kernel_rfl) (by kernel_rfl) (wr64 (by omega))) ?_
        refine wpr_val 4 23 (.binOp .sub 3 (.tmp 22) (.const (Value.int .i64 (1))) 3) 3 (Value.int .i64 ((((((data).length : Nat) : Int) + 600) - 1))) (Runs.plain (by kernel_rfl)) (by kernel_rfl) (y_sub (by kernel_rfl) (by kernel_rfl) (wr64 (by omega))) ?_
        refine wpr_val 5 24 (.binOp .quo 3 (.tmp 23) (.const (Value.int .i64 (600))) 3) 3 (Value.int .i64 (((((((data).length : Nat) : Int) + 600) - 1) / 600))) (Runs.plain (by kernel_rfl)) (by kernel_rfl) (y_quo (a := (((((data).length : Nat) : Int) + 600) - 1)) (b := 600) (by kernel_rfl) (by kernel_rfl) (by omega) (IntWalk.i64_quo _ _ (by omega))) ?_
        refine wpr_val 6 6 (.assign (.tmp 24)) 3 (Value.int .i64 (((((((data).length : Nat) : Int) + 600) - 1) / 600))) (Runs.plain (by kernel_rfl)) (by kernel_rfl) (y_assign (by kernel_rfl)) ?_
        refine wpr_end (by kernel_rfl) ?_
        refine wpq_then ?_
        refine wpq_sub [(0, Value.int .i64 (base)), (1, Value.slice Adata (data).length cdata), (6, Value.int .i64 (((((((data).length : Nat) : Int) + 600) - 1) / 600)))] (by kernel_rfl) ?_
        refine wpc_seq (x := F13_27) (y := F13_28) (by kernel_rfl) ?_
        refine wpc_seq (x := F13_29) (y := F13_30) (by kernel_rfl) ?_
        refine wpc_region (ops := R13_29) (id := 6) (by kernel_rfl) ?_
        refine wpr_val 1 25 (.move (.tmp 6)) 3 (Value.int .i64 (((((((data).length : Nat) : Int) + 600) - 1) / 600))) (Runs.plain (by kernel_rfl)) (by kernel_rfl) (y_move (by kernel_rfl)) ?_
        refine wpr_val 2 26 (.binOp .eql 3 (.tmp 25) (.const (Value.int .i64 (0))) 3) 4 (Value.bool ((((((((data).length : Nat) : Int) + 600) - 1) / 600) == 0))) (Runs.plain (by kernel_rfl)) (by kernel_rfl) (y_pure (by kernel_rfl) (fun _ => by kernel_rfl)) ?_
        refine wpr_end (by kernel_rfl) ?_
        refine wpq_then ?_
        -- condition 2
        refine wpc_meet (fun g own sl => ∃ (x2_6 : Int), own = [] ∧ sl = [(0, Value.int .i64 (base)), (1, Value.slice Adata (data).length cdata), (6, Value.int .i64 (x2_6))] ∧ x2_6 = cond ((((((((data).length : Nat) : Int) + 600) - 1) / 600) == 0)) 1 ((((((data).length : Nat) : Int) + 600) - 1) / 600) ∧ (0 ≤ x2_6 ∧ x2_6 ≤ 874)) ?_ (fun hM2 => ?_)
        · rintro g3 _ _ le4 ⟨x2_6, rfl, rfl, ex2_6, ⟨rx2_6l, rx2_6r⟩⟩
          have fdata := fdata.mono le4.r
          have L0 := L0.trans le4
          have dx2_6 := cond_beq ex2_6
          refine wpq_then ?_
          refine wpc_seq (x := F13_34) (y := F13_35) (by kernel_rfl) ?_
          refine wpc_region (ops := R13_34) (id := 8) (by kernel_rfl) ?_
          refine wpr_val 1 7 (.assign (.const (Value.slice none 0 0))) 30 (Value.slice none 0 0) (Runs.plain (by kernel_rfl)) (by kernel_rfl) (y_assign (by kernel_rfl)) ?_
          refine wpr_end (by kernel_rfl) ?_
          refine wpq_then ?_
          refine wpc_seq (x := F13_37) (y := F13_38) (by kernel_rfl) ?_
          refine wpc_seq (x := F13_39) (y := F13_40) (by kernel_rfl) ?_
          refine wpc_region (ops := R13_39) (id := 9) (by kernel_rfl) ?_
          refine wpr_val 1 8 (.assign (.const (Value.int .i64 (0)))) 3 (Value.int .i64 (0)) (Runs.plain (by kernel_rfl)) (by kernel_rfl) (y_assign (by kernel_rfl)) ?_
          refine wpr_end (by kernel_rfl) ?_
          refine wpq_then ?_
          refine wpc_block (x := F13_42) (id := 0) (by kernel_rfl) ?_
          refine wpq_addnone ?_
          refine wpq_sub [(0, Value.int .i64 (base)), (1, Value.slice Adata (data).length cdata), (6, Value.int .i64 (x2_6)), (7, Value.slice none 0 0), (8, Value.int .i64 (0))] (by kernel_rfl) ?_
          -- loop 0
          refine wpc_loop (x := F13_43) (by kernel_rfl) (fun g own sl m => ∃ (k : Nat) (out : List Piece) (Aout : Option Addr) (cout : Nat) (kout : Option Bk), own = [kout] ∧ sl = [(0, Value.int .i64 (base)), (1, Value.slice Adata (data).length cdata), (6, Value.int .i64 (x2_6)), (7, Value.slice Aout (out).length cout), (8, Value.int .i64 ((k : Int)))] ∧ m = (x2_6).toNat - k ∧ Buf g.b tyPiece 35 (.slice Aout out.length cout) kout out ∧ ((k : Int) ≤ x2_6) ∧ (out.length = k) ∧ (out = piecesTo base (x2_6) data k)) _ ⟨0, [], none, 0, none, rfl, rfl, rfl, Buf.nil, by omega, rfl, rfl⟩ ?_
          rintro g5 _ _ _ le6 ⟨k, out, Aout, cout, kout, rfl, rfl, rfl, hout, hk, hl, ho⟩ QrL0 hQL0
          have fdata := fdata.mono le6.r
          have L0 := L0.trans le6
          have nhout := hout.len
          have LHL0 := Gh.le.refl g5
          refine wpc_seq (x := F13_44) (y := F13_45) (by kernel_rfl) ?_
          refine wpc_seq (x := F13_46) (y := F13_47) (by kernel_rfl) ?_
          refine wpc_region (ops := R13_46) (id := 10) (by kernel_rfl) ?_
          refine wpr_val 1 27 (.move (.tmp 8)) 3 (Value.int .i64 ((k : Int))) (Runs.plain (by kernel_rfl)) (by kernel_rfl) (y_move (by kernel_rfl)) ?_
          refine wpr_val 2 28 (.move (.tmp 6)) 3 (Value.int .i64 (x2_6)) (Runs.plain (by kernel_rfl)) (by kernel_rfl) (y_move (by kernel_rfl)) ?_
          refine wpr_val 3 29 (.binOp .lss 3 (.tmp 27) (.tmp 28) 3) 4 (Value.bool (decide ((k : Int) < x2_6))) (Runs.plain (by kernel_rfl)) (by kernel_rfl) (y_pure (by kernel_rfl) (fun _ => by kernel_rfl)) ?_
          refine wpr_end (by kernel_rfl) ?_
          refine wpq_then ?_
          -- condition 3
          refine wpc_cond (x := F13_49) (y := F13_50) (o := (.tmp 29)) (b := decide ((k : Int) < x2_6)) (by kernel_rfl) (by kernel_rfl) (fun h3 => ?_) (fun h3 => ?_)
          · have h3p := of_decide_eq_true h3
            refine wpc_skip (by kernel_rfl) ?_
            refine wpq_then ?_
            refine wpc_seq (x := F13_51) (y := F13_52) (by kernel_rfl) ?_
            refine wpc_block (x := F13_53) (id := 1) (by kernel_rfl) ?_
            refine wpc_seq (x := F13_54) (y := F13_55) (by kernel_rfl) ?_
            refine wpc_region (ops := R13_54) (id := 12) (by kernel_rfl) ?_
            refine wpr_val 1 32 (.move (.tmp 8)) 3 (Value.int .i64 ((k : Int))) (Runs.plain (by kernel_rfl)) (by kernel_rfl) (y_move (by kernel_rfl)) ?_
            refine wpr_val 2 33 (.binOp .mul 3 (.tmp 32) (.const (Value.int .i64 (600))) 3) 3 (Value.int .i64 (((k : Int) * 600))) (Runs.plain (by kernel_rfl)) (by kernel_rfl) (y_mul (by kernel_rfl) (by kernel_rfl) (wr64 (by omega))) ?_
            refine wpr_val 3 34 (.move (.tmp 8)) 3 (Value.int .i64 ((k : Int))) (Runs.plain (by kernel_rfl)) (by kernel_rfl) (y_move (by kernel_rfl)) ?_
            refine wpr_val 4 35 (.binOp .add 3 (.tmp 34) (.const (Value.int .i64 (1))) 3) 3 (Value.int .i64 (((k : Int) + 1))) (Runs.plain (by kernel_rfl)) (by kernel_rfl) (y_add (by kernel_rfl) (by kernel_rfl) (wr64 (by omega))) ?_
            refine wpr_val 5 36 (.binOp .mul 3 (.tmp 35) (.const (Value.int .i64 (600))) 3) 3 (Value.int .i64 ((((k : Int) + 1) * 600))) (Runs.plain (by kernel_rfl)) (by kernel_rfl) (y_mul (by kernel_rfl) (by kernel_rfl) (wr64 (by omega))) ?_
            refine wpr_val 6 9 (.assign (.tmp 33)) 3 (Value.int .i64 (((k : Int) * 600))) (Runs.plain (by kernel_rfl)) (by kernel_rfl) (y_assign (by kernel_rfl)) ?_
            refine wpr_val 7 10 (.assign (.tmp 36)) 3 (Value.int .i64 ((((k : Int) + 1) * 600))) (Runs.plain (by kernel_rfl)) (by kernel_rfl) (y_assign (by kernel_rfl)) ?_
            refine wpr_end (by kernel_rfl) ?_
            refine wpq_then ?_
            refine wpq_sub [(0, Value.int .i64 (base)), (1, Value.slice Adata (data).length cdata), (6, Value.int .i64 (x2_6)), (7, Value.slice Aout (out).length cout), (8, Value.int .i64 ((k : Int))), (9, Value.int .i64 (((k : Int) * 600))), (10, Value.int .i64 ((((k : Int) + 1) * 600)))] (by kernel_rfl) ?_
            refine wpc_seq (x := F13_57) (y := F13_58) (by kernel_rfl) ?_
            refine wpc_seq (x := F13_59) (y := F13_60) (by kernel_rfl) ?_
            refine wpc_region (ops := R13_59) (id := 13) (by kernel_rfl) ?_
            refine wpr_val 1 37 (.move (.tmp 10)) 3 (Value.int .i64 ((((k : Int) + 1) * 600))) (Runs.plain (by kernel_rfl)) (by kernel_rfl) (y_move (by kernel_rfl)) ?_
            refine wpr_val 2 38 (.move (.tmp 1)) 22 (Value.slice Adata (data).length cdata) (Runs.plain (by kernel_rfl)) (by kernel_rfl) (y_move (by kernel_rfl)) ?_
            refine wpr_val 3 39 (.call { callee := .builtin .len, args := #[(.tmp 38)], argTypes := #[22] }) 3 (Value.int .i64 ((((data).length : Nat) : Int))) (Runs.plain (by kernel_rfl)) (by kernel_rfl) (y_pure (by kernel_rfl) (fun _ => by kernel_rfl)) ?_
            refine wpr_val 4 40 (.binOp .gtr 3 (.tmp 37) (.tmp 39) 3) 4 (Value.bool (decide ((((k : Int) + 1) * 600) > (((data).length : Nat) : Int)))) (Runs.plain (by kernel_rfl)) (by kernel_rfl) (y_pure (by kernel_rfl) (fun _ => by kernel_rfl)) ?_
            refine wpr_end (by kernel_rfl) ?_
            refine wpq_then ?_
            -- condition 4
            refine wpc_meet (fun g own sl => ∃ (x7_10 : Int), own = [kout] ∧ sl = [(0, Value.int .i64 (base)), (1, Value.slice Adata (data).length cdata), (6, Value.int .i64 (x2_6)), (7, Value.slice Aout (out).length cout), (8, Value.int .i64 ((k : Int))), (9, Value.int .i64 (((k : Int) * 600))), (10, Value.int .i64 (x7_10))] ∧ x7_10 = cond (decide ((((k : Int) + 1) * 600) > (((data).length : Nat) : Int))) (((data).length : Nat) : Int) (((k : Int) + 1) * 600) ∧ (0 ≤ x7_10 ∧ x7_10 ≤ 140737488355328)) ?_ (fun hM7 => ?_)
            · rintro g8 _ _ le9 ⟨x7_10, rfl, rfl, ex7_10, ⟨rx7_10l, rx7_10r⟩⟩
              have fdata := fdata.mono le9.r
              have hout := hout.mono le9.b
              have L0 := L0.trans le9
              have LHL0 := LHL0.trans le9
              have dx7_10 := cond_dec ex7_10
              refine wpq_then ?_
              refine wpc_region (ops := R13_58) (id := 15) (by kernel_rfl) ?_
              refine wpr_val 1 43 (.move (.tmp 7)) 30 (Value.slice Aout (out).length cout) (Runs.plain (by kernel_rfl)) (by kernel_rfl) (y_move (by kernel_rfl)) ?_
              refine wpr_val 2 44 (.move (.tmp 0)) 2 (Value.int .i64 (base)) (Runs.plain (by kernel_rfl)) (by kernel_rfl) (y_move (by kernel_rfl)) ?_
              refine wpr_val 3 45 (.move (.tmp 8)) 3 (Value.int .i64 ((k : Int))) (Runs.plain (by kernel_rfl)) (by kernel_rfl) (y_move (by kernel_rfl)) ?_
              refine wpr_val 4 46 (.move (.tmp 6)) 3 (Value.int .i64 (x2_6)) (Runs.plain (by kernel_rfl)) (by kernel_rfl) (y_move (by kernel_rfl)) ?_
              refine wpr_eff 5 47 (.buildSlice 22 0 #[]) 22 (Runs.plain (by kernel_rfl)) (by kernel_rfl) (e_buildSlice (et := 5) [] [] (by kernel_rfl) (by kernel_rfl)) ?_
              rintro _ _ _ - ⟨b10, rfl, rfl, rfl⟩
              refine wpr_val 6 48 (.move (.tmp 1)) 22 (Value.slice Adata (data).length cdata) (Runs.plain (by kernel_rfl)) (by kernel_rfl) (y_move (by kernel_rfl)) ?_
              refine wpr_val 7 49 (.move (.tmp 9)) 3 (Value.int .i64 (((k : Int) * 600))) (Runs.plain (by kernel_rfl)) (by kernel_rfl) (y_move (by kernel_rfl)) ?_
              refine wpr_val 8 50 (.move (.tmp 10)) 3 (Value.int .i64 (x7_10)) (Runs.plain (by kernel_rfl)) (by kernel_rfl) (y_move (by kernel_rfl)) ?_
              have ncapf11 := fdata.cap
              have f11 : Arr g8.r tyU8 (offA Adata cdata (k * 600) 1) (cdata - (k * 600)) (List.take ((x7_10).toNat - (k * 600)) (List.drop (k * 600) data)) := fdata.cut (k * 600) (x7_10).toNat (by omega) (by omega)
              have nf11 := f11.len
              have hlf11 : (x7_10).toNat - (k * 600) = ((List.take ((x7_10).toNat - (k * 600)) (List.drop (k * 600) data))).length := by simp only [List.length_take, List.length_drop]; omega
              refine wpr_val 9 51 (.slice 22 (.tmp 48) (some (.tmp 49)) (some (.tmp 50)) none) 22 (Value.slice (offA Adata cdata (k * 600) 1) ((List.take ((x7_10).toNat - (k * 600)) (List.drop (k * 600) data))).length (cdata - (k * 600))) (Runs.plain (by kernel_rfl)) (by kernel_rfl) (y_slice (e := 5) (sz := 1) (k * 600) (x7_10).toNat ((List.take ((x7_10).toNat - (k * 600)) (List.drop (k * 600) data))).length (A := Adata) (len := (data).length) (c := cdata) (by kernel_rfl) (by kernel_rfl) (by kernel_rfl) (.inr ⟨.i64, _, rfl, (by kernel_rfl)⟩) (.inr ⟨.i64, _, rfl, (ev_toNat (by kernel_rfl) (by omega))⟩) (by omega) (by omega) hlf11) ?_
              obtain ⟨nw12, hp12, hs12⟩ := f11.srcR
              refine wpr_eff 10 52 (.call { callee := .builtin .append, args := #[(.tmp 47), (.tmp 51)], argTypes := #[22, 22] }) 22 (Runs.plain (by kernel_rfl)) (by kernel_rfl) (e_appendQ (T := tyU8) (p := g8.b) (et := 5) (bytes := 1) 0 (Value.slice (some ⟨b10, 0, none⟩) 0 0) (some ⟨b10, 5, []⟩) ([]) (offA Adata cdata (k * 600) 1) ((List.take ((x7_10).toNat - (k * 600)) (List.drop (k * 600) data))).length (cdata - (k * 600)) ((List.take ((x7_10).toNat - (k * 600)) (List.drop (k * 600) data))) (by kernel_rfl) (by kernel_rfl) (by kernel_rfl) (by kernel_rfl) (buf_lit reps_nil rfl (by omega)) rfl (fun w hs => hs12 w _ hs) (flatU8.reps hp12) (by first | omega | (simp only [List.length_nil, List.length_cons, List.length_append] <;> omega)) (by first | omega | (simp only [List.length_nil, List.length_cons, List.length_append] <;> omega))) ?_
              rintro _ _ _ - ⟨A12, c12, k12, rfl, rfl, rfl, hb12⟩
              have hb12 : Buf g8.b tyU8 5 (.slice A12 ((List.take ((x7_10).toNat - (k * 600)) (List.drop (k * 600) data)) : List UInt8).length c12) k12 (List.take ((x7_10).toNat - (k * 600)) (List.drop (k * 600) data)) := hb12
              have nhb12 := hb12.len
              refine wpr_val 11 53 (.build 35 #[(0, (.tmp 44)), (1, (.tmp 45)), (2, (.tmp 46)), (3, (.tmp 52))]) 35 (Value.agg #[Value.int .i64 (base), Value.int .i64 ((k : Int)), Value.int .i64 (x2_6), Value.slice A12 ((List.take ((x7_10).toNat - (k * 600)) (List.drop (k * 600) data)) : List UInt8).length c12]) (Runs.plain (by kernel_rfl)) (by kernel_rfl) (y_pure (by kernel_rfl) (fun _ => by kernel_rfl)) ?_
              refine wpr_eff 12 54 (.buildSlice 30 1 #[(0, (.tmp 53))]) 30 (Runs.plain (by kernel_rfl)) (by kernel_rfl) (e_buildSlice (et := 35) [(0, Value.agg #[Value.int .i64 (base), Value.int .i64 ((k : Int)), Value.int .i64 (x2_6), Value.slice A12 ((List.take ((x7_10).toNat - (k * 600)) (List.drop (k * 600) data)) : List UInt8).length c12])] [Value.int .i64 (base), Value.int .i64 ((k : Int)), Value.int .i64 (x2_6), Value.slice A12 ((List.take ((x7_10).toNat - (k * 600)) (List.drop (k * 600) data)) : List UInt8).length c12] (by kernel_rfl) (by kernel_rfl)) ?_
              rintro _ _ _ - ⟨b13, rfl, rfl, rfl⟩
              refine wpq_freeze 1 (by kernel_rfl) hb12 (fun g15 le16 f17 => ?_)
              have fdata := fdata.mono le16.r
              have hout := hout.mono le16.b
              have f11 := f11.mono le16.r
              have L0 := L0.trans le16
              have LHL0 := LHL0.trans le16
              have hz14 : (out ++ [(⟨(base : Int), ((k : Int) : Int), (x2_6 : Int), ((List.take ((x7_10).toNat - (k * 600)) (List.drop (k * 600) data)) : List UInt8)⟩ : Piece)] : List Piece).length = (out : List Piece).length + 1 := by rw [List.length_append]; rfl
              refine wpr_eff 13 55 (.call { callee := .builtin .append, args := #[(.tmp 43), (.tmp 54)], argTypes := #[30, 30] }) 30 (Runs.plain (by kernel_rfl)) (by kernel_rfl) (e_appendQ (T := tyPiece) (p := g15.b) (et := 35) (bytes := 48) 2 (Value.slice Aout (out).length cout) (kout) (out) (some ⟨b13, 0, none⟩) 1 1 ([(⟨(base : Int), ((k : Int) : Int), (x2_6 : Int), ((List.take ((x7_10).toNat - (k * 600)) (List.drop (k * 600) data)) : List UInt8)⟩ : Piece)]) (by kernel_rfl) (by kernel_rfl) (by kernel_rfl) (by kernel_rfl) hout rfl (src_lit (i := 0) (t := 35) (cs := [Value.int .i64 (base), Value.int .i64 ((k : Int)), Value.int .i64 (x2_6), Value.slice A12 ((List.take ((x7_10).toNat - (k * 600)) (List.drop (k * 600) data)) : List UInt8).length c12]) (by kernel_rfl)) (reps_cons (c := [Value.int .i64 (base), Value.int .i64 ((k : Int)), Value.int .i64 (x2_6), Value.slice A12 ((List.take ((x7_10).toNat - (k * 600)) (List.drop (k * 600) data)) : List UInt8).length c12]) ⟨A12, c12, rfl, f17⟩ reps_nil) (by first | omega | (simp only [List.length_nil, List.length_cons, List.length_append] <;> omega)) (by first | omega | (simp only [List.length_nil, List.length_cons, List.length_append] <;> omega))) ?_
              rintro _ _ _ - ⟨A14, c14, k14, rfl, rfl, rfl, hb14⟩
              have nhb14 := hb14.len
              refine wpr_val 14 7 (.assign (.tmp 55)) 30 (Value.slice A14 ((out ++ [(⟨(base : Int), ((k : Int) : Int), (x2_6 : Int), ((List.take ((x7_10).toNat - (k * 600)) (List.drop (k * 600) data)) : List UInt8)⟩ : Piece)]) : List Piece).length c14) (Runs.plain (by kernel_rfl)) (by kernel_rfl) (y_assign (by kernel_rfl)) ?_
              refine wpr_end (by kernel_rfl) ?_
              refine wpq_blockN ?_
              refine wpq_then ?_
              refine wpq_sub [(0, Value.int .i64 (base)), (1, Value.slice Adata (data).length cdata), (6, Value.int .i64 (x2_6)), (7, Value.slice A14 ((out ++ [(⟨(base : Int), ((k : Int) : Int), (x2_6 : Int), ((List.take ((x7_10).toNat - (k * 600)) (List.drop (k * 600) data)) : List UInt8)⟩ : Piece)]) : List Piece).length c14), (8, Value.int .i64 ((k : Int)))] (by kernel_rfl) ?_
              refine wpc_region (ops := R13_52) (id := 11) (by kernel_rfl) ?_
              refine wpr_val 1 30 (.move (.tmp 8)) 3 (Value.int .i64 ((k : Int))) (Runs.plain (by kernel_rfl)) (by kernel_rfl) (y_move (by kernel_rfl)) ?_
              refine wpr_val 2 31 (.binOp .add 3 (.tmp 30) (.const (Value.int .i64 (1))) 3) 3 (Value.int .i64 (((k : Int) + 1))) (Runs.plain (by kernel_rfl)) (by kernel_rfl) (y_add (by kernel_rfl) (by kernel_rfl) (wr64 (by omega))) ?_
              refine wpr_val 3 8 (.assign (.tmp 31)) 3 (Value.int .i64 (((k : Int) + 1))) (Runs.plain (by kernel_rfl)) (by kernel_rfl) (y_assign (by kernel_rfl)) ?_
              refine wpr_end (by kernel_rfl) ?_
              refine wpq_thenN ?_
              refine wpq_sel [some 2] [k14] (by kernel_rfl) (by kernel_rfl) ?_
              refine wpq_re 8 (v := Value.int .i64 (((k : Int) + 1))) (Value.int .i64 ((((k + 1) : Nat) : Int))) (by kernel_rfl) (congrArg (Value.int .i64) (by omega)) ?_
              refine wpq_sub [(0, Value.int .i64 (base)), (1, Value.slice Adata (data).length cdata), (6, Value.int .i64 (x2_6)), (7, Value.slice A14 ((out ++ [(⟨(base : Int), ((k : Int) : Int), (x2_6 : Int), ((List.take ((x7_10).toNat - (k * 600)) (List.drop (k * 600) data)) : List UInt8)⟩ : Piece)]) : List Piece).length c14), (8, Value.int .i64 ((((k + 1) : Nat) : Int)))] (by kernel_rfl) ?_
              exact hQL0 _ _ _ ((x2_6).toNat - ((k + 1))) LHL0 (by omega) ⟨(k + 1), (out ++ [(⟨(base : Int), ((k : Int) : Int), (x2_6 : Int), ((List.take ((x7_10).toNat - (k * 600)) (List.drop (k * 600) data)) : List UInt8)⟩ : Piece)]), A14, c14, k14, rfl, rfl, rfl, hb14, by omega, by omega, piecesTo_step2 ho ex7_10 dx7_10⟩
            · refine wpc_cond (x := F13_62) (y := F13_63) (o := (.tmp 40)) (b := decide ((((k : Int) + 1) * 600) > (((data).length : Nat) : Int))) (by kernel_rfl) (by kernel_rfl) (fun h4 => ?_) (fun h4 => ?_)
              · have h4p := of_decide_eq_true h4
                have LM7 := Gh.le.refl g5
                refine wpc_region (ops := R13_62) (id := 14) (by kernel_rfl) ?_
                refine wpr_val 1 41 (.move (.tmp 1)) 22 (Value.slice Adata (data).length cdata) (Runs.plain (by kernel_rfl)) (by kernel_rfl) (y_move (by kernel_rfl)) ?_
                refine wpr_val 2 42 (.call { callee := .builtin .len, args := #[(.tmp 41)], argTypes := #[22] }) 3 (Value.int .i64 ((((data).length : Nat) : Int))) (Runs.plain (by kernel_rfl)) (by kernel_rfl) (y_pure (by kernel_rfl) (fun _ => by kernel_rfl)) ?_
                refine wpr_val 3 10 (.assign (.tmp 42)) 3 (Value.int .i64 ((((data).length : Nat) : Int))) (Runs.plain (by kernel_rfl)) (by kernel_rfl) (y_assign (by kernel_rfl)) ?_
                refine wpr_end (by kernel_rfl) ?_
                refine wpq_sub [(0, Value.int .i64 (base)), (1, Value.slice Adata (data).length cdata), (6, Value.int .i64 (x2_6)), (7, Value.slice Aout (out).length cout), (8, Value.int .i64 ((k : Int))), (9, Value.int .i64 (((k : Int) * 600))), (10, Value.int .i64 ((((data).length : Nat) : Int)))] (by kernel_rfl) ?_
                exact hM7 _ _ _ LM7 ⟨(((data).length : Nat) : Int), rfl, rfl, cond_t h4, ⟨by omega, by omega⟩⟩
              · have h4p := of_decide_eq_false h4
                have LM7 := Gh.le.refl g5
                refine wpc_skip (by kernel_rfl) ?_
                refine wpq_sub [(0, Value.int .i64 (base)), (1, Value.slice Adata (data).length cdata), (6, Value.int .i64 (x2_6)), (7, Value.slice Aout (out).length cout), (8, Value.int .i64 ((k : Int))), (9, Value.int .i64 (((k : Int) * 600))), (10, Value.int .i64 ((((k : Int) + 1) * 600)))] (by kernel_rfl) ?_
                exact hM7 _ _ _ LM7 ⟨(((k : Int) + 1) * 600), rfl, rfl, cond_f h4, ⟨by omega, by omega⟩⟩
          · have h3p := of_decide_eq_false h3
            refine wpc_exit (id := 0) (by kernel_rfl) ?_
            refine wpq_thenX ?_
            refine wpq_thenX ?_
            refine wpq_blockE ?_
            refine wpq_then ?_
            refine wpq_sub [(7, Value.slice Aout (out).length cout)] (by kernel_rfl) ?_
            refine wpc_seq (x := F13_67) (y := F13_68) (by kernel_rfl) ?_
            refine wpc_region (ops := R13_67) (id := 16) (by kernel_rfl) ?_
            refine wpr_val 1 56 (.move (.tmp 7)) 30 (Value.slice Aout (out).length cout) (Runs.plain (by kernel_rfl)) (by kernel_rfl) (y_move (by kernel_rfl)) ?_
            refine wpr_val 2 4 (.assign (.tmp 56)) 30 (Value.slice Aout (out).length cout) (Runs.plain (by kernel_rfl)) (by kernel_rfl) (y_assign (by kernel_rfl)) ?_
            refine wpr_val 3 5 (.assign (.const (Value.int .i64 (0)))) 27 (Value.int .i64 (0)) (Runs.plain (by kernel_rfl)) (by kernel_rfl) (y_assign (by kernel_rfl)) ?_
            refine wpr_end (by kernel_rfl) ?_
            refine wpq_then ?_
            refine wpq_freeze 0 (by kernel_rfl) hout (fun g18 le19 f20 => ?_)
            have fdata := fdata.mono le19.r
            have L0 := L0.trans le19
            have LHL0 := LHL0.trans le19
            refine wpc_ret (rs := [.tmp 4, .tmp 5]) [Value.slice Aout (out).length cout, Value.int .i64 (0)] [] (by kernel_rfl) (fun _ _ h => h) (by kernel_rfl) (res_tmp (by kernel_rfl) (res_tmp (by kernel_rfl) res_nil)) L0 keep0 ?_
            have eS : (splitS base data) = ((out : List Piece), (0 : Int)) := by
              have e := splitN_2 dx2_6
              rw [e] at hk h3p ho
              exact splitS_2 h0 h1 hk h3p ho
            rw [eS]
            exact ⟨rfl, Aout, cout, rfl, f20⟩
        · refine wpc_cond (x := F13_32) (y := F13_33) (o := (.tmp 26)) (b := (((((((data).length : Nat) : Int) + 600) - 1) / 600) == 0)) (by kernel_rfl) (by kernel_rfl) (fun h2 => ?_) (fun h2 => ?_)
          · have h2p : ((((((data).length : Nat) : Int) + 600) - 1) / 600) = 0 := eq_of_beq h2
            have LM2 := Gh.le.refl g
            refine wpc_region (ops := R13_32) (id := 7) (by kernel_rfl) ?_
            refine wpr_val 1 6 (.assign (.const (Value.int .i64 (1)))) 3 (Value.int .i64 (1)) (Runs.plain (by kernel_rfl)) (by kernel_rfl) (y_assign (by kernel_rfl)) ?_
            refine wpr_end (by kernel_rfl) ?_
            refine wpq_sub [(0, Value.int .i64 (base)), (1, Value.slice Adata (data).length cdata), (6, Value.int .i64 (1))] (by kernel_rfl) ?_
            exact hM2 _ _ _ LM2 ⟨1, rfl, rfl, cond_t h2, ⟨by omega, by omega⟩⟩
          · have h2p : ¬ (((((((data).length : Nat) : Int) + 600) - 1) / 600) = 0) := ne_of_beq_false_ h2
            have LM2 := Gh.le.refl g
            refine wpc_skip (by kernel_rfl) ?_
            refine wpq_sub [(0, Value.int .i64 (base)), (1, Value.slice Adata (data).length cdata), (6, Value.int .i64 (((((((data).length : Nat) : Int) + 600) - 1) / 600)))] (by kernel_rfl) ?_
            exact hM2 _ _ _ LM2 ⟨((((((data).length : Nat) : Int) + 600) - 1) / 600), rfl, rfl, cond_f h2, ⟨by omega, by omega⟩⟩

end Go.Proofs.Ytolppdcaaoghgaa
