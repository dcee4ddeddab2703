/-
Walks, printed by wip/eng/eng.py. Conditions: each theorem's own.
-/
import Derived.Test.YtolppdcaaoghgaaW1
namespace Go.Proofs.Ytolppdcaaoghgaa
set_option linter.unusedVariables false
set_option linter.unusedSimpArgs false
open Go.RowKit
noncomputable def F12_0 : Code := sub (Try.f12.body.getD .skip) []
noncomputable def F12_1 : Code := sub (Try.f12.body.getD .skip) [0]
noncomputable def F12_2 : Code := sub (Try.f12.body.getD .skip) [1]
noncomputable def R12_1 : Array Oper := regOf F12_1
noncomputable def F12_4 : Code := sub (Try.f12.body.getD .skip) [1, 0]
noncomputable def F12_5 : Code := sub (Try.f12.body.getD .skip) [1, 1]
noncomputable def F12_6 : Code := sub (Try.f12.body.getD .skip) [1, 0, 0]
noncomputable def F12_7 : Code := sub (Try.f12.body.getD .skip) [1, 0, 1]
noncomputable def R12_6 : Array Oper := regOf F12_6
noncomputable def F12_9 : Code := sub (Try.f12.body.getD .skip) [1, 0, 1, 0]
noncomputable def F12_10 : Code := sub (Try.f12.body.getD .skip) [1, 0, 1, 1]
noncomputable def F12_11 : Code := sub (Try.f12.body.getD .skip) [1, 0, 1, 0, 0]
noncomputable def F12_12 : Code := sub (Try.f12.body.getD .skip) [1, 0, 1, 0, 1]
noncomputable def R12_11 : Array Oper := regOf F12_11
noncomputable def F12_14 : Code := sub (Try.f12.body.getD .skip) [1, 1, 0]
noncomputable def F12_15 : Code := sub (Try.f12.body.getD .skip) [1, 1, 1]
noncomputable def F12_16 : Code := sub (Try.f12.body.getD .skip) [1, 1, 0, 0]
noncomputable def F12_17 : Code := sub (Try.f12.body.getD .skip) [1, 1, 0, 1]
noncomputable def R12_16 : Array Oper := regOf F12_16
noncomputable def F12_19 : Code := sub (Try.f12.body.getD .skip) [1, 1, 0, 1, 0]
noncomputable def F12_20 : Code := sub (Try.f12.body.getD .skip) [1, 1, 0, 1, 1]
noncomputable def F12_21 : Code := sub (Try.f12.body.getD .skip) [1, 1, 0, 1, 0, 0]
noncomputable def F12_22 : Code := sub (Try.f12.body.getD .skip) [1, 1, 0, 1, 0, 1]
noncomputable def R12_21 : Array Oper := regOf F12_21
noncomputable def F12_24 : Code := sub (Try.f12.body.getD .skip) [1, 1, 1, 0]
noncomputable def F12_25 : Code := sub (Try.f12.body.getD .skip) [1, 1, 1, 1]
noncomputable def R12_24 : Array Oper := regOf F12_24
noncomputable def F12_27 : Code := sub (Try.f12.body.getD .skip) [1, 1, 1, 1, 0]
noncomputable def F12_28 : Code := sub (Try.f12.body.getD .skip) [1, 1, 1, 1, 1]
noncomputable def R12_27 : Array Oper := regOf F12_27
noncomputable def F12_30 : Code := sub (Try.f12.body.getD .skip) [1, 1, 1, 1, 1, 0]
noncomputable def F12_31 : Code := sub (Try.f12.body.getD .skip) [1, 1, 1, 1, 1, 1]
noncomputable def F12_32 : Code := sub (Try.f12.body.getD .skip) [1, 1, 1, 1, 1, 0, 0]
noncomputable def F12_33 : Code := sub (Try.f12.body.getD .skip) [1, 1, 1, 1, 1, 0, 1]
noncomputable def R12_32 : Array Oper := regOf F12_32
noncomputable def F12_35 : Code := sub (Try.f12.body.getD .skip) [1, 1, 1, 1, 1, 0, 1, 0]
noncomputable def F12_36 : Code := sub (Try.f12.body.getD .skip) [1, 1, 1, 1, 1, 0, 1, 0, 0]
noncomputable def F12_37 : Code := sub (Try.f12.body.getD .skip) [1, 1, 1, 1, 1, 0, 1, 0, 0, 0]
noncomputable def F12_38 : Code := sub (Try.f12.body.getD .skip) [1, 1, 1, 1, 1, 0, 1, 0, 0, 1]
noncomputable def R12_37 : Array Oper := regOf F12_37
noncomputable def F12_40 : Code := sub (Try.f12.body.getD .skip) [1, 1, 1, 1, 1, 0, 1, 0, 0, 1, 0]
noncomputable def F12_41 : Code := sub (Try.f12.body.getD .skip) [1, 1, 1, 1, 1, 0, 1, 0, 0, 1, 1]
noncomputable def F12_42 : Code := sub (Try.f12.body.getD .skip) [1, 1, 1, 1, 1, 0, 1, 0, 0, 1, 0, 0]
noncomputable def F12_43 : Code := sub (Try.f12.body.getD .skip) [1, 1, 1, 1, 1, 0, 1, 0, 0, 1, 0, 1]
noncomputable def F12_44 : Code := sub (Try.f12.body.getD .skip) [1, 1, 1, 1, 1, 0, 1, 0, 0, 1, 1, 0]
noncomputable def F12_45 : Code := sub (Try.f12.body.getD .skip) [1, 1, 1, 1, 1, 0, 1, 0, 0, 1, 1, 1]
noncomputable def F12_46 : Code := sub (Try.f12.body.getD .skip) [1, 1, 1, 1, 1, 0, 1, 0, 0, 1, 1, 0, 0]
noncomputable def F12_47 : Code := sub (Try.f12.body.getD .skip) [1, 1, 1, 1, 1, 0, 1, 0, 0, 1, 1, 0, 0, 0]
noncomputable def F12_48 : Code := sub (Try.f12.body.getD .skip) [1, 1, 1, 1, 1, 0, 1, 0, 0, 1, 1, 0, 0, 1]
noncomputable def R12_47 : Array Oper := regOf F12_47
noncomputable def F12_50 : Code := sub (Try.f12.body.getD .skip) [1, 1, 1, 1, 1, 0, 1, 0, 0, 1, 1, 0, 0, 1, 0]
noncomputable def F12_51 : Code := sub (Try.f12.body.getD .skip) [1, 1, 1, 1, 1, 0, 1, 0, 0, 1, 1, 0, 0, 1, 1]
noncomputable def R12_50 : Array Oper := regOf F12_50
noncomputable def R12_51 : Array Oper := regOf F12_51
noncomputable def R12_45 : Array Oper := regOf F12_45
noncomputable def F12_55 : Code := sub (Try.f12.body.getD .skip) [1, 1, 1, 1, 1, 1, 0]
noncomputable def F12_56 : Code := sub (Try.f12.body.getD .skip) [1, 1, 1, 1, 1, 1, 1]
noncomputable def R12_55 : Array Oper := regOf F12_55
set_option maxRecDepth 100000 in
theorem c12 (g : Gh) (base : Int) (data : List UInt8) (Adata : Option Addr) (cdata : Nat) (fdata : Arr g.r tyU8 Adata cdata data) :
    Ctr0 Try.prog 12 [Value.int .i64 (base), Value.slice Adata (data).length cdata] g (fun v ψ => ∃ (Ar0 : Option Addr) (cr0 : Nat), v = Value.tuple #[Value.slice Ar0 ((splitS base data).1).length cr0, Value.int .i64 ((splitS base data).2)] ∧ Arr ψ tyPiece Ar0 cr0 (splitS base data).1) := by
  refine ctr_of Try.f12 F12_0 50 [Value.int .i64 (base), Value.slice Adata (data).length cdata] (by kernel_rfl) (by kernel_rfl) (by kernel_rfl) (by kernel_rfl) ?_
  have L0 := Gh.le.refl g
  have nfdata := fdata.len
  refine wpc_seq (x := F12_1) (y := F12_2) (by kernel_rfl) ?_
  refine wpc_region (ops := R12_1) (id := 0) (by kernel_rfl) ?_
  refine wpr_val 1 4 (.assign (.const (Value.slice none 0 0))) 26 (Value.slice none 0 0) (Runs.plain (by kernel_rfl)) (by kernel_rfl) (y_assign (by kernel_rfl)) ?_
  refine wpr_val 2 5 (.assign (.const (Value.int .i64 (0)))) 27 (Value.int .i64 (0)) (Runs.plain (by kernel_rfl)) (by kernel_rfl) (y_assign (by kernel_rfl)) ?_
  refine wpr_end (by kernel_rfl) ?_
  refine wpq_then ?_
  refine wpc_seq (x := F12_4) (y := F12_5) (by kernel_rfl) ?_
  refine wpc_seq (x := F12_6) (y := F12_7) (by kernel_rfl) ?_
  refine wpc_region (ops := R12_6) (id := 1) (by kernel_rfl) ?_
  refine wpr_val 1 10 (.move (.tmp 0)) 2 (Value.int .i64 (base)) (Runs.plain (by kernel_rfl)) (by kernel_rfl) (y_move (by kernel_rfl)) ?_
  refine wpr_val 2 11 (.binOp .lss 2 (.tmp 10) (.const (Value.int .i64 (1))) 2) 4 (Value.bool (decide (base < 1))) (Runs.plain (by kernel_rfl)) (by kernel_rfl) (y_pure (by kernel_rfl) (fun _ => by kernel_rfl)) ?_
  refine wpr_val 3 12 (.move (.tmp 11)) 4 (Value.bool (decide (base < 1))) (Runs.plain (by kernel_rfl)) (by kernel_rfl) (y_move (by kernel_rfl)) ?_
  refine wpr_grp 6 [(0, Value.int .i64 (base)), (1, Value.slice Adata (data).length cdata), (15, Value.bool ((decide (base < 1) || decide (base > 2305843009213693952))))] (fun hk2 => ?_) ?_
  · refine wpq_split 12 (b := decide (base < 1)) (by kernel_rfl) (fun q1 => ?_) (fun q1 => ?_)
    · have q1p := of_decide_eq_true q1
      refine wpr_skip 4 13 (Skips.mk' (j := 2) (t := 12) (b := false) (by kernel_rfl) (by kernel_rfl) (by kernel_rfl)) (by kernel_rfl) ?_
      refine wpr_skip 5 14 (Skips.mk' (j := 2) (t := 12) (b := false) (by kernel_rfl) (by kernel_rfl) (by kernel_rfl)) (by kernel_rfl) ?_
      refine wpr_val 6 15 (.pick (.tmp 12) (.const (Value.bool (true))) (.tmp 14)) 4 (Value.bool (true)) (Runs.plain (by kernel_rfl)) (by kernel_rfl) (y_pickT (by kernel_rfl) (by kernel_rfl)) ?_
      refine wpq_re 15 (v := Value.bool (true)) (Value.bool ((decide (base < 1) || decide (base > 2305843009213693952)))) (by kernel_rfl) (re_or1 q1) ?_
      exact wpq_sub _ (by kernel_rfl) hk2
    · have q1p := of_decide_eq_false q1
      refine wpr_val 4 13 (.move (.tmp 0)) 2 (Value.int .i64 (base)) (Runs.guarded (j := 2) (t := 12) (b := false) (by kernel_rfl) (by kernel_rfl) (by kernel_rfl)) (by kernel_rfl) (y_move (by kernel_rfl)) ?_
      refine wpr_val 5 14 (.binOp .gtr 2 (.tmp 13) (.const (Value.int .i64 (2305843009213693952))) 2) 4 (Value.bool (decide (base > 2305843009213693952))) (Runs.guarded (j := 2) (t := 12) (b := false) (by kernel_rfl) (by kernel_rfl) (by kernel_rfl)) (by kernel_rfl) (y_pure (by kernel_rfl) (fun _ => by kernel_rfl)) ?_
      refine wpr_val 6 15 (.pick (.tmp 12) (.const (Value.bool (true))) (.tmp 14)) 4 (Value.bool (decide (base > 2305843009213693952))) (Runs.plain (by kernel_rfl)) (by kernel_rfl) (y_pickF (by kernel_rfl) (by kernel_rfl)) ?_
      refine wpq_re 15 (v := Value.bool (decide (base > 2305843009213693952))) (Value.bool ((decide (base < 1) || decide (base > 2305843009213693952)))) (by kernel_rfl) (re_or0 q1) ?_
      exact wpq_sub _ (by kernel_rfl) hk2
  · refine wpr_end (by kernel_rfl) ?_
    refine wpq_then ?_
    -- condition 0
    refine wpc_cond (x := F12_9) (y := F12_10) (o := (.tmp 15)) (b := (decide (base < 1) || decide (base > 2305843009213693952))) (by kernel_rfl) (by kernel_rfl) (fun h0 => ?_) (fun h0 => ?_)
    · refine wpc_seq (x := F12_11) (y := F12_12) (by kernel_rfl) ?_
      refine wpc_region (ops := R12_11) (id := 2) (by kernel_rfl) ?_
      refine wpr_val 1 4 (.assign (.const (Value.slice none 0 0))) 26 (Value.slice none 0 0) (Runs.plain (by kernel_rfl)) (by kernel_rfl) (y_assign (by kernel_rfl)) ?_
      refine wpr_val 2 5 (.assign (.const (Value.int .i64 (1)))) 27 (Value.int .i64 (1)) (Runs.plain (by kernel_rfl)) (by kernel_rfl) (y_assign (by kernel_rfl)) ?_
      refine wpr_end (by kernel_rfl) ?_
      refine wpq_then ?_
      refine wpc_ret (rs := [.tmp 4, .tmp 5]) [Value.slice none 0 0, Value.int .i64 (1)] [] (by kernel_rfl) (fun _ _ h => h) (by kernel_rfl) (res_tmp (by kernel_rfl) (res_tmp (by kernel_rfl) res_nil)) L0 keep0 ?_
      have eS : (splitS base data) = (([] : List Piece), (1 : Int)) := by
        exact splitS_0 h0
      rw [eS]
      exact ⟨rfl, none, 0, rfl, Arr.nil⟩
    · have h0l := (or_false_ h0).1
      have h0r := (or_false_ h0).2
      have h0lp := of_decide_eq_false h0l
      have h0rp := of_decide_eq_false h0r
      refine wpc_skip (by kernel_rfl) ?_
      refine wpq_then ?_
      refine wpc_seq (x := F12_14) (y := F12_15) (by kernel_rfl) ?_
      refine wpc_seq (x := F12_16) (y := F12_17) (by kernel_rfl) ?_
      refine wpc_region (ops := R12_16) (id := 3) (by kernel_rfl) ?_
      refine wpr_val 1 16 (.move (.tmp 1)) 22 (Value.slice Adata (data).length cdata) (Runs.plain (by kernel_rfl)) (by kernel_rfl) (y_move (by kernel_rfl)) ?_
      refine wpr_val 2 17 (.call { callee := .builtin .len, args := #[(.tmp 16)], argTypes := #[22] }) 3 (Value.int .i64 ((((data).length : Nat) : Int))) (Runs.plain (by kernel_rfl)) (by kernel_rfl) (y_pure (by kernel_rfl) (fun _ => by kernel_rfl)) ?_
      refine wpr_val 3 18 (.binOp .gtr 3 (.tmp 17) (.const (Value.int .i64 (524288))) 3) 4 (Value.bool (decide ((((data).length : Nat) : Int) > 524288))) (Runs.plain (by kernel_rfl)) (by kernel_rfl) (y_pure (by kernel_rfl) (fun _ => by kernel_rfl)) ?_
      refine wpr_end (by kernel_rfl) ?_
      refine wpq_then ?_
      -- condition 1
      refine wpc_cond (x := F12_19) (y := F12_20) (o := (.tmp 18)) (b := decide ((((data).length : Nat) : Int) > 524288)) (by kernel_rfl) (by kernel_rfl) (fun h1 => ?_) (fun h1 => ?_)
      · have h1p := of_decide_eq_true h1
        refine wpc_seq (x := F12_21) (y := F12_22) (by kernel_rfl) ?_
        refine wpc_region (ops := R12_21) (id := 4) (by kernel_rfl) ?_
        refine wpr_val 1 4 (.assign (.const (Value.slice none 0 0))) 26 (Value.slice none 0 0) (Runs.plain (by kernel_rfl)) (by kernel_rfl) (y_assign (by kernel_rfl)) ?_
        refine wpr_val 2 5 (.assign (.const (Value.int .i64 (3)))) 27 (Value.int .i64 (3)) (Runs.plain (by kernel_rfl)) (by kernel_rfl) (y_assign (by kernel_rfl)) ?_
        refine wpr_end (by kernel_rfl) ?_
        refine wpq_then ?_
        refine wpq_sub [(4, Value.slice none 0 0), (5, Value.int .i64 (3))] (by kernel_rfl) ?_
        refine wpc_ret (rs := [.tmp 4, .tmp 5]) [Value.slice none 0 0, Value.int .i64 (3)] [] (by kernel_rfl) (fun _ _ h => h) (by kernel_rfl) (res_tmp (by kernel_rfl) (res_tmp (by kernel_rfl) res_nil)) L0 keep0 ?_
        have eS : (splitS base data) = (([] : List Piece), (3 : Int)) := by
          exact splitS_1 h0 h1
        rw [eS]
        exact ⟨rfl, none, 0, rfl, Arr.nil⟩
      · have h1p := of_decide_eq_false h1
        refine wpc_skip (by kernel_rfl) ?_
        refine wpq_then ?_
        refine wpc_seq (x := F12_24) (y := F12_25) (by kernel_rfl) ?_
        refine wpc_region (ops := R12_24) (id := 5) (by kernel_rfl) ?_
        refine wpr_val 1 19 (.move (.tmp 1)) 22 (Value.slice Adata (data).length cdata) (Runs.plain (by kernel_rfl)) (by kernel_rfl) (y_move (by kernel_rfl)) ?_
        refine wpr_val 2 20 (.call { callee := .builtin .len, args := #[(.tmp 19)], argTypes := #[22] }) 3 (Value.int .i64 ((((data).length : Nat) : Int))) (Runs.plain (by kernel_rfl)) (by kernel_rfl) (y_pure (by kernel_rfl) (fun _ => by kernel_rfl)) ?_
        refine wpr_val 3 21 (.binOp .add 3 (.tmp 20) (.const (Value.int .i64 (600))) 3) 3 (Value.int .i64 (((((data).length : Nat) : Int) + 600))) (Runs.plain (by kernel_rfl)) (by kernel_rfl) (y_add (by kernel_rfl) (by kernel_rfl) (wr64 (by omega))) ?_
        refine wpr_val 4 22 (.binOp .sub 3 (.tmp 21) (.const (Value.int .i64 (1))) 3) 3 (Value.int .i64 ((((((data).length : Nat) : Int) + 600) - 1))) (Runs.plain (by kernel_rfl)) (by kernel_rfl) (y_sub (by kernel_rfl) (by kernel_rfl) (wr64 (by omega))) ?_
        refine wpr_val 5 23 (.binOp .quo 3 (.tmp 22) (.const (Value.int .i64 (600))) 3) 3 (Value.int .i64 (((((((data).length : Nat) : Int) + 600) - 1) / 600))) (Runs.plain (by kernel_rfl)) (by kernel_rfl) (y_quo (a := (((((data).length : Nat) : Int) + 600) - 1)) (b := 600) (by kernel_rfl) (by kernel_rfl) (by omega) (IntWalk.i64_quo _ _ (by omega))) ?_
        have z1 := maxI_spec ((((((data).length : Nat) : Int) + 600) - 1) / 600) 1
        refine wpr_val 6 24 (.call { callee := .builtin .max, args := #[(.tmp 23), (.const (Value.int .i64 (1)))], argTypes := #[3, 3] }) 3 (Value.int .i64 ((maxI ((((((data).length : Nat) : Int) + 600) - 1) / 600) 1))) (Runs.plain (by kernel_rfl)) (by kernel_rfl) (y_pure (by kernel_rfl) (fun _ => by kernel_rfl)) ?_
        refine wpr_val 7 6 (.assign (.tmp 24)) 3 (Value.int .i64 ((maxI ((((((data).length : Nat) : Int) + 600) - 1) / 600) 1))) (Runs.plain (by kernel_rfl)) (by kernel_rfl) (y_assign (by kernel_rfl)) ?_
        refine wpr_end (by kernel_rfl) ?_
        refine wpq_then ?_
        refine wpq_sub [(0, Value.int .i64 (base)), (1, Value.slice Adata (data).length cdata), (6, Value.int .i64 ((maxI ((((((data).length : Nat) : Int) + 600) - 1) / 600) 1)))] (by kernel_rfl) ?_
        refine wpc_seq (x := F12_27) (y := F12_28) (by kernel_rfl) ?_
        refine wpc_region (ops := R12_27) (id := 6) (by kernel_rfl) ?_
        refine wpr_val 1 7 (.assign (.const (Value.slice none 0 0))) 26 (Value.slice none 0 0) (Runs.plain (by kernel_rfl)) (by kernel_rfl) (y_assign (by kernel_rfl)) ?_
        refine wpr_end (by kernel_rfl) ?_
        refine wpq_then ?_
        refine wpc_seq (x := F12_30) (y := F12_31) (by kernel_rfl) ?_
        refine wpc_seq (x := F12_32) (y := F12_33) (by kernel_rfl) ?_
        refine wpc_region (ops := R12_32) (id := 7) (by kernel_rfl) ?_
        refine wpr_val 1 25 (.move (.tmp 6)) 3 (Value.int .i64 ((maxI ((((((data).length : Nat) : Int) + 600) - 1) / 600) 1))) (Runs.plain (by kernel_rfl)) (by kernel_rfl) (y_move (by kernel_rfl)) ?_
        refine wpr_val 2 26 (.move (.const (Value.int .i64 (0)))) 3 (Value.int .i64 (0)) (Runs.plain (by kernel_rfl)) (by kernel_rfl) (y_move (by kernel_rfl)) ?_
        refine wpr_end (by kernel_rfl) ?_
        refine wpq_then ?_
        refine wpc_block (x := F12_35) (id := 0) (by kernel_rfl) ?_
        refine wpq_addnone ?_
        refine wpq_sub [(0, Value.int .i64 (base)), (1, Value.slice Adata (data).length cdata), (6, Value.int .i64 ((maxI ((((((data).length : Nat) : Int) + 600) - 1) / 600) 1))), (7, Value.slice none 0 0), (25, Value.int .i64 ((maxI ((((((data).length : Nat) : Int) + 600) - 1) / 600) 1))), (26, Value.int .i64 (0))] (by kernel_rfl) ?_
        -- loop 0
        refine wpc_loop (x := F12_36) (by kernel_rfl) (fun g own sl m => ∃ (k : Nat) (out : List Piece) (Aout : Option Addr) (cout : Nat) (kout : Option Bk), own = [kout] ∧ sl = [(0, Value.int .i64 (base)), (1, Value.slice Adata (data).length cdata), (6, Value.int .i64 ((maxI ((((((data).length : Nat) : Int) + 600) - 1) / 600) 1))), (7, Value.slice Aout (out).length cout), (25, Value.int .i64 ((maxI ((((((data).length : Nat) : Int) + 600) - 1) / 600) 1))), (26, Value.int .i64 ((k : Int)))] ∧ m = ((maxI ((((((data).length : Nat) : Int) + 600) - 1) / 600) 1)).toNat - k ∧ Buf g.b tyPiece 37 (.slice Aout out.length cout) kout out ∧ ((k : Int) ≤ (maxI ((((((data).length : Nat) : Int) + 600) - 1) / 600) 1)) ∧ (out.length = k) ∧ (out = piecesTo base ((maxI ((((((data).length : Nat) : Int) + 600) - 1) / 600) 1)) data k)) _ ⟨0, [], none, 0, none, rfl, rfl, rfl, Buf.nil, by omega, rfl, rfl⟩ ?_
        rintro g2 _ _ _ le3 ⟨k, out, Aout, cout, kout, rfl, rfl, rfl, hout, hk, hl, ho⟩ QrL0 hQL0
        have fdata := fdata.mono le3.r
        have L0 := L0.trans le3
        have nhout := hout.len
        have LHL0 := Gh.le.refl g2
        refine wpc_seq (x := F12_37) (y := F12_38) (by kernel_rfl) ?_
        refine wpc_region (ops := R12_37) (id := 8) (by kernel_rfl) ?_
        refine wpr_val 1 27 (.binOp .lss 3 (.tmp 26) (.tmp 25) 3) 4 (Value.bool (decide ((k : Int) < (maxI ((((((data).length : Nat) : Int) + 600) - 1) / 600) 1)))) (Runs.plain (by kernel_rfl)) (by kernel_rfl) (y_pure (by kernel_rfl) (fun _ => by kernel_rfl)) ?_
        refine wpr_end (by kernel_rfl) ?_
        refine wpq_then ?_
        refine wpc_seq (x := F12_40) (y := F12_41) (by kernel_rfl) ?_
        -- condition 2
        refine wpc_cond (x := F12_42) (y := F12_43) (o := (.tmp 27)) (b := decide ((k : Int) < (maxI ((((((data).length : Nat) : Int) + 600) - 1) / 600) 1))) (by kernel_rfl) (by kernel_rfl) (fun h2 => ?_) (fun h2 => ?_)
        · have h2p := of_decide_eq_true h2
          refine wpc_skip (by kernel_rfl) ?_
          refine wpq_then ?_
          refine wpc_seq (x := F12_44) (y := F12_45) (by kernel_rfl) ?_
          refine wpc_block (x := F12_46) (id := 1) (by kernel_rfl) ?_
          refine wpc_seq (x := F12_47) (y := F12_48) (by kernel_rfl) ?_
          refine wpc_region (ops := R12_47) (id := 9) (by kernel_rfl) ?_
          refine wpr_val 1 28 (.move (.tmp 26)) 3 (Value.int .i64 ((k : Int))) (Runs.plain (by kernel_rfl)) (by kernel_rfl) (y_move (by kernel_rfl)) ?_
          refine wpr_val 2 8 (.assign (.tmp 28)) 3 (Value.int .i64 ((k : Int))) (Runs.plain (by kernel_rfl)) (by kernel_rfl) (y_assign (by kernel_rfl)) ?_
          refine wpr_end (by kernel_rfl) ?_
          refine wpq_then ?_
          refine wpc_seq (x := F12_50) (y := F12_51) (by kernel_rfl) ?_
          refine wpc_region (ops := R12_50) (id := 10) (by kernel_rfl) ?_
          refine wpr_val 1 29 (.move (.tmp 1)) 22 (Value.slice Adata (data).length cdata) (Runs.plain (by kernel_rfl)) (by kernel_rfl) (y_move (by kernel_rfl)) ?_
          refine wpr_val 2 30 (.move (.tmp 8)) 3 (Value.int .i64 ((k : Int))) (Runs.plain (by kernel_rfl)) (by kernel_rfl) (y_move (by kernel_rfl)) ?_
          refine wpr_val 3 31 (.binOp .mul 3 (.tmp 30) (.const (Value.int .i64 (600))) 3) 3 (Value.int .i64 (((k : Int) * 600))) (Runs.plain (by kernel_rfl)) (by kernel_rfl) (y_mul (by kernel_rfl) (by kernel_rfl) (wr64 (by omega))) ?_
          refine wpr_val 4 32 (.move (.tmp 8)) 3 (Value.int .i64 ((k : Int))) (Runs.plain (by kernel_rfl)) (by kernel_rfl) (y_move (by kernel_rfl)) ?_
          refine wpr_val 5 33 (.binOp .add 3 (.tmp 32) (.const (Value.int .i64 (1))) 3) 3 (Value.int .i64 (((k : Int) + 1))) (Runs.plain (by kernel_rfl)) (by kernel_rfl) (y_add (by kernel_rfl) (by kernel_rfl) (wr64 (by omega))) ?_
          refine wpr_val 6 34 (.binOp .mul 3 (.tmp 33) (.const (Value.int .i64 (600))) 3) 3 (Value.int .i64 ((((k : Int) + 1) * 600))) (Runs.plain (by kernel_rfl)) (by kernel_rfl) (y_mul (by kernel_rfl) (by kernel_rfl) (wr64 (by omega))) ?_
          refine wpr_val 7 35 (.move (.tmp 1)) 22 (Value.slice Adata (data).length cdata) (Runs.plain (by kernel_rfl)) (by kernel_rfl) (y_move (by kernel_rfl)) ?_
          refine wpr_val 8 36 (.call { callee := .builtin .len, args := #[(.tmp 35)], argTypes := #[22] }) 3 (Value.int .i64 ((((data).length : Nat) : Int))) (Runs.plain (by kernel_rfl)) (by kernel_rfl) (y_pure (by kernel_rfl) (fun _ => by kernel_rfl)) ?_
          have z2 := minI_spec (((k : Int) + 1) * 600) (((data).length : Nat) : Int)
          refine wpr_val 9 37 (.call { callee := .builtin .min, args := #[(.tmp 34), (.tmp 36)], argTypes := #[3, 3] }) 3 (Value.int .i64 ((minI (((k : Int) + 1) * 600) (((data).length : Nat) : Int)))) (Runs.plain (by kernel_rfl)) (by kernel_rfl) (y_pure (by kernel_rfl) (fun _ => by kernel_rfl)) ?_
          have ncapf4 := fdata.cap
          have f4 : Arr g2.r tyU8 (offA Adata cdata (k * 600) 1) (cdata - (k * 600)) (List.take (((minI (((k : Int) + 1) * 600) (((data).length : Nat) : Int))).toNat - (k * 600)) (List.drop (k * 600) data)) := fdata.cut (k * 600) ((minI (((k : Int) + 1) * 600) (((data).length : Nat) : Int))).toNat (by omega) (by omega)
          have nf4 := f4.len
          have hlf4 : ((minI (((k : Int) + 1) * 600) (((data).length : Nat) : Int))).toNat - (k * 600) = ((List.take (((minI (((k : Int) + 1) * 600) (((data).length : Nat) : Int))).toNat - (k * 600)) (List.drop (k * 600) data))).length := by simp only [List.length_take, List.length_drop]; omega
          refine wpr_val 10 38 (.slice 22 (.tmp 29) (some (.tmp 31)) (some (.tmp 37)) none) 22 (Value.slice (offA Adata cdata (k * 600) 1) ((List.take (((minI (((k : Int) + 1) * 600) (((data).length : Nat) : Int))).toNat - (k * 600)) (List.drop (k * 600) data))).length (cdata - (k * 600))) (Runs.plain (by kernel_rfl)) (by kernel_rfl) (y_slice (e := 5) (sz := 1) (k * 600) ((minI (((k : Int) + 1) * 600) (((data).length : Nat) : Int))).toNat ((List.take (((minI (((k : Int) + 1) * 600) (((data).length : Nat) : Int))).toNat - (k * 600)) (List.drop (k * 600) data))).length (A := Adata) (len := (data).length) (c := cdata) (by kernel_rfl) (by kernel_rfl) (by kernel_rfl) (.inr ⟨.i64, _, rfl, (by kernel_rfl)⟩) (.inr ⟨.i64, _, rfl, (ev_toNat (by kernel_rfl) (by omega))⟩) (by omega) (by omega) hlf4) ?_
          refine wpr_val 11 9 (.assign (.tmp 38)) 22 (Value.slice (offA Adata cdata (k * 600) 1) ((List.take (((minI (((k : Int) + 1) * 600) (((data).length : Nat) : Int))).toNat - (k * 600)) (List.drop (k * 600) data))).length (cdata - (k * 600))) (Runs.plain (by kernel_rfl)) (by kernel_rfl) (y_assign (by kernel_rfl)) ?_
          refine wpr_end (by kernel_rfl) ?_
          refine wpq_then ?_
          refine wpq_sub [(0, Value.int .i64 (base)), (1, Value.slice Adata (data).length cdata), (6, Value.int .i64 ((maxI ((((((data).length : Nat) : Int) + 600) - 1) / 600) 1))), (7, Value.slice Aout (out).length cout), (8, Value.int .i64 ((k : Int))), (9, Value.slice (offA Adata cdata (k * 600) 1) ((List.take (((minI (((k : Int) + 1) * 600) (((data).length : Nat) : Int))).toNat - (k * 600)) (List.drop (k * 600) data))).length (cdata - (k * 600))), (25, Value.int .i64 ((maxI ((((((data).length : Nat) : Int) + 600) - 1) / 600) 1))), (26, Value.int .i64 ((k : Int)))] (by kernel_rfl) ?_
          refine wpc_region (ops := R12_51) (id := 11) (by kernel_rfl) ?_
          refine wpr_val 1 39 (.move (.tmp 7)) 26 (Value.slice Aout (out).length cout) (Runs.plain (by kernel_rfl)) (by kernel_rfl) (y_move (by kernel_rfl)) ?_
          refine wpr_val 2 40 (.move (.tmp 0)) 2 (Value.int .i64 (base)) (Runs.plain (by kernel_rfl)) (by kernel_rfl) (y_move (by kernel_rfl)) ?_
          refine wpr_val 3 41 (.move (.tmp 8)) 3 (Value.int .i64 ((k : Int))) (Runs.plain (by kernel_rfl)) (by kernel_rfl) (y_move (by kernel_rfl)) ?_
          refine wpr_val 4 42 (.move (.tmp 6)) 3 (Value.int .i64 ((maxI ((((((data).length : Nat) : Int) + 600) - 1) / 600) 1))) (Runs.plain (by kernel_rfl)) (by kernel_rfl) (y_move (by kernel_rfl)) ?_
          refine wpr_val 5 43 (.move (.tmp 9)) 22 (Value.slice (offA Adata cdata (k * 600) 1) ((List.take (((minI (((k : Int) + 1) * 600) (((data).length : Nat) : Int))).toNat - (k * 600)) (List.drop (k * 600) data))).length (cdata - (k * 600))) (Runs.plain (by kernel_rfl)) (by kernel_rfl) (y_move (by kernel_rfl)) ?_
          refine wpr_eff 6 44 (.call { callee := .value (.func 42), args := #[(.tmp 43)], argTypes := #[22] }) 22 (Runs.plain (by kernel_rfl)) (by kernel_rfl) (e_call [Value.slice (offA Adata cdata (k * 600) 1) ((List.take (((minI (((k : Int) + 1) * 600) (((data).length : Nat) : Int))).toNat - (k * 600)) (List.drop (k * 600) data))).length (cdata - (k * 600))] (by kernel_rfl) (by kernel_rfl) (fun g' lr eb ln => c42 g' ((List.take (((minI (((k : Int) + 1) * 600) (((data).length : Nat) : Int))).toNat - (k * 600)) (List.drop (k * 600) data)) : List UInt8) (offA Adata cdata (k * 600) 1) (cdata - (k * 600)) (f4.mono lr))) ?_
          rintro _ g6 _ le7 ⟨rfl, A5_0, c5_0, rfl, f5_0⟩
          have fdata := fdata.mono le7.r
          have hout := hout.mono le7.b
          have f4 := f4.mono le7.r
          have L0 := L0.trans le7
          have LHL0 := LHL0.trans le7
          have nf5_0 := f5_0.len
          refine wpr_val 7 45 (.build 37 #[(0, (.tmp 40)), (1, (.tmp 41)), (2, (.tmp 42)), (3, (.tmp 44))]) 37 (Value.agg #[Value.int .i64 (base), Value.int .i64 ((k : Int)), Value.int .i64 ((maxI ((((((data).length : Nat) : Int) + 600) - 1) / 600) 1)), Value.slice A5_0 ((idL ((List.take (((minI (((k : Int) + 1) * 600) (((data).length : Nat) : Int))).toNat - (k * 600)) (List.drop (k * 600) data)) : List UInt8))).length c5_0]) (Runs.plain (by kernel_rfl)) (by kernel_rfl) (y_pure (by kernel_rfl) (fun _ => by kernel_rfl)) ?_
          refine wpr_eff 8 46 (.buildSlice 26 1 #[(0, (.tmp 45))]) 26 (Runs.plain (by kernel_rfl)) (by kernel_rfl) (e_buildSlice (et := 37) [(0, Value.agg #[Value.int .i64 (base), Value.int .i64 ((k : Int)), Value.int .i64 ((maxI ((((((data).length : Nat) : Int) + 600) - 1) / 600) 1)), Value.slice A5_0 ((idL ((List.take (((minI (((k : Int) + 1) * 600) (((data).length : Nat) : Int))).toNat - (k * 600)) (List.drop (k * 600) data)) : List UInt8))).length c5_0])] [Value.int .i64 (base), Value.int .i64 ((k : Int)), Value.int .i64 ((maxI ((((((data).length : Nat) : Int) + 600) - 1) / 600) 1)), Value.slice A5_0 ((idL ((List.take (((minI (((k : Int) + 1) * 600) (((data).length : Nat) : Int))).toNat - (k * 600)) (List.drop (k * 600) data)) : List UInt8))).length c5_0] (by kernel_rfl) (by kernel_rfl)) ?_
          rintro _ _ _ - ⟨b8, rfl, rfl, rfl⟩
          have hz9 : (out ++ [(⟨(base : Int), ((k : Int) : Int), ((maxI ((((((data).length : Nat) : Int) + 600) - 1) / 600) 1) : Int), ((idL ((List.take (((minI (((k : Int) + 1) * 600) (((data).length : Nat) : Int))).toNat - (k * 600)) (List.drop (k * 600) data)) : List UInt8)) : List UInt8)⟩ : Piece)] : List Piece).length = (out : List Piece).length + 1 := by rw [List.length_append]; rfl
          refine wpr_eff 9 47 (.call { callee := .builtin .append, args := #[(.tmp 39), (.tmp 46)], argTypes := #[26, 26] }) 26 (Runs.plain (by kernel_rfl)) (by kernel_rfl) (e_appendQ (T := tyPiece) (p := g6.b) (et := 37) (bytes := 48) 1 (Value.slice Aout (out).length cout) (kout) (out) (some ⟨b8, 0, none⟩) 1 1 ([(⟨(base : Int), ((k : Int) : Int), ((maxI ((((((data).length : Nat) : Int) + 600) - 1) / 600) 1) : Int), ((idL ((List.take (((minI (((k : Int) + 1) * 600) (((data).length : Nat) : Int))).toNat - (k * 600)) (List.drop (k * 600) data)) : List UInt8)) : List UInt8)⟩ : Piece)]) (by kernel_rfl) (by kernel_rfl) (by kernel_rfl) (by kernel_rfl) hout rfl (src_lit (i := 0) (t := 37) (cs := [Value.int .i64 (base), Value.int .i64 ((k : Int)), Value.int .i64 ((maxI ((((((data).length : Nat) : Int) + 600) - 1) / 600) 1)), Value.slice A5_0 ((idL ((List.take (((minI (((k : Int) + 1) * 600) (((data).length : Nat) : Int))).toNat - (k * 600)) (List.drop (k * 600) data)) : List UInt8))).length c5_0]) (by kernel_rfl)) (reps_cons (c := [Value.int .i64 (base), Value.int .i64 ((k : Int)), Value.int .i64 ((maxI ((((((data).length : Nat) : Int) + 600) - 1) / 600) 1)), Value.slice A5_0 ((idL ((List.take (((minI (((k : Int) + 1) * 600) (((data).length : Nat) : Int))).toNat - (k * 600)) (List.drop (k * 600) data)) : List UInt8))).length c5_0]) ⟨A5_0, c5_0, rfl, f5_0⟩ reps_nil) (by first | omega | (simp only [List.length_nil, List.length_cons, List.length_append] <;> omega)) (by first | omega | (simp only [List.length_nil, List.length_cons, List.length_append] <;> omega))) ?_
          rintro _ _ _ - ⟨A9, c9, k9, rfl, rfl, rfl, hb9⟩
          have nhb9 := hb9.len
          refine wpr_val 10 7 (.assign (.tmp 47)) 26 (Value.slice A9 ((out ++ [(⟨(base : Int), ((k : Int) : Int), ((maxI ((((((data).length : Nat) : Int) + 600) - 1) / 600) 1) : Int), ((idL ((List.take (((minI (((k : Int) + 1) * 600) (((data).length : Nat) : Int))).toNat - (k * 600)) (List.drop (k * 600) data)) : List UInt8)) : List UInt8)⟩ : Piece)]) : List Piece).length c9) (Runs.plain (by kernel_rfl)) (by kernel_rfl) (y_assign (by kernel_rfl)) ?_
          refine wpr_end (by kernel_rfl) ?_
          refine wpq_blockN ?_
          refine wpq_then ?_
          refine wpq_sub [(0, Value.int .i64 (base)), (1, Value.slice Adata (data).length cdata), (6, Value.int .i64 ((maxI ((((((data).length : Nat) : Int) + 600) - 1) / 600) 1))), (7, Value.slice A9 ((out ++ [(⟨(base : Int), ((k : Int) : Int), ((maxI ((((((data).length : Nat) : Int) + 600) - 1) / 600) 1) : Int), ((idL ((List.take (((minI (((k : Int) + 1) * 600) (((data).length : Nat) : Int))).toNat - (k * 600)) (List.drop (k * 600) data)) : List UInt8)) : List UInt8)⟩ : Piece)]) : List Piece).length c9), (25, Value.int .i64 ((maxI ((((((data).length : Nat) : Int) + 600) - 1) / 600) 1))), (26, Value.int .i64 ((k : Int)))] (by kernel_rfl) ?_
          refine wpc_region (ops := R12_45) (id := 12) (by kernel_rfl) ?_
          refine wpr_val 1 48 (.binOp .add 3 (.tmp 26) (.const (Value.int .i64 (1))) 3) 3 (Value.int .i64 (((k : Int) + 1))) (Runs.plain (by kernel_rfl)) (by kernel_rfl) (y_add (by kernel_rfl) (by kernel_rfl) (wr64 (by omega))) ?_
          refine wpr_val 2 26 (.move (.tmp 48)) 3 (Value.int .i64 (((k : Int) + 1))) (Runs.plain (by kernel_rfl)) (by kernel_rfl) (y_move (by kernel_rfl)) ?_
          refine wpr_end (by kernel_rfl) ?_
          refine wpq_thenN ?_
          refine wpq_sel [some 1] [k9] (by kernel_rfl) (by kernel_rfl) ?_
          refine wpq_re 26 (v := Value.int .i64 (((k : Int) + 1))) (Value.int .i64 ((((k + 1) : Nat) : Int))) (by kernel_rfl) (congrArg (Value.int .i64) (by omega)) ?_
          refine wpq_sub [(0, Value.int .i64 (base)), (1, Value.slice Adata (data).length cdata), (6, Value.int .i64 ((maxI ((((((data).length : Nat) : Int) + 600) - 1) / 600) 1))), (7, Value.slice A9 ((out ++ [(⟨(base : Int), ((k : Int) : Int), ((maxI ((((((data).length : Nat) : Int) + 600) - 1) / 600) 1) : Int), ((idL ((List.take (((minI (((k : Int) + 1) * 600) (((data).length : Nat) : Int))).toNat - (k * 600)) (List.drop (k * 600) data)) : List UInt8)) : List UInt8)⟩ : Piece)]) : List Piece).length c9), (25, Value.int .i64 ((maxI ((((((data).length : Nat) : Int) + 600) - 1) / 600) 1))), (26, Value.int .i64 ((((k + 1) : Nat) : Int)))] (by kernel_rfl) ?_
          exact hQL0 _ _ _ (((maxI ((((((data).length : Nat) : Int) + 600) - 1) / 600) 1)).toNat - ((k + 1))) LHL0 (by omega) ⟨(k + 1), (out ++ [(⟨(base : Int), ((k : Int) : Int), ((maxI ((((((data).length : Nat) : Int) + 600) - 1) / 600) 1) : Int), ((idL ((List.take (((minI (((k : Int) + 1) * 600) (((data).length : Nat) : Int))).toNat - (k * 600)) (List.drop (k * 600) data)) : List UInt8)) : List UInt8)⟩ : Piece)]), A9, c9, k9, rfl, rfl, rfl, hb9, by omega, by omega, piecesTo_step ho⟩
        · have h2p := of_decide_eq_false h2
          refine wpc_exit (id := 0) (by kernel_rfl) ?_
          refine wpq_thenX ?_
          refine wpq_thenX ?_
          refine wpq_blockE ?_
          refine wpq_then ?_
          refine wpq_sub [(7, Value.slice Aout (out).length cout)] (by kernel_rfl) ?_
          refine wpc_seq (x := F12_55) (y := F12_56) (by kernel_rfl) ?_
          refine wpc_region (ops := R12_55) (id := 13) (by kernel_rfl) ?_
          refine wpr_val 1 49 (.move (.tmp 7)) 26 (Value.slice Aout (out).length cout) (Runs.plain (by kernel_rfl)) (by kernel_rfl) (y_move (by kernel_rfl)) ?_
          refine wpr_val 2 4 (.assign (.tmp 49)) 26 (Value.slice Aout (out).length cout) (Runs.plain (by kernel_rfl)) (by kernel_rfl) (y_assign (by kernel_rfl)) ?_
          refine wpr_val 3 5 (.assign (.const (Value.int .i64 (0)))) 27 (Value.int .i64 (0)) (Runs.plain (by kernel_rfl)) (by kernel_rfl) (y_assign (by kernel_rfl)) ?_
          refine wpr_end (by kernel_rfl) ?_
          refine wpq_then ?_
          refine wpq_freeze 0 (by kernel_rfl) hout (fun g10 le11 f12 => ?_)
          have fdata := fdata.mono le11.r
          have L0 := L0.trans le11
          have LHL0 := LHL0.trans le11
          refine wpc_ret (rs := [.tmp 4, .tmp 5]) [Value.slice Aout (out).length cout, Value.int .i64 (0)] [] (by kernel_rfl) (fun _ _ h => h) (by kernel_rfl) (res_tmp (by kernel_rfl) (res_tmp (by kernel_rfl) res_nil)) L0 keep0 ?_
          have eS : (splitS base data) = ((out : List Piece), (0 : Int)) := by
            exact splitS_2 h0 h1 hk h2p ho
          rw [eS]
          exact ⟨rfl, Aout, cout, rfl, f12⟩

end Go.Proofs.Ytolppdcaaoghgaa
