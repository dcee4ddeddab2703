/-
Walks, printed by wip/eng/eng.py. Conditions: each theorem's own.
-/
import Derived.Test.YtolppdcaaoghgaaT54
import Derived.Test.YtolppdcaaoghgaaW7
namespace Go.Proofs.Ytolppdcaaoghgaa
set_option linter.unusedVariables false
set_option linter.unusedSimpArgs false
open Go.RowKit
noncomputable def F9_0 : Code := sub (Try.f9.body.getD .skip) []
noncomputable def F9_1 : Code := sub (Try.f9.body.getD .skip) [0]
noncomputable def F9_2 : Code := sub (Try.f9.body.getD .skip) [1]
noncomputable def R9_1 : Array Oper := regOf F9_1
noncomputable def F9_4 : Code := sub (Try.f9.body.getD .skip) [1, 0]
noncomputable def F9_5 : Code := sub (Try.f9.body.getD .skip) [1, 1]
noncomputable def F9_6 : Code := sub (Try.f9.body.getD .skip) [1, 0, 0]
noncomputable def F9_7 : Code := sub (Try.f9.body.getD .skip) [1, 0, 1]
noncomputable def R9_6 : Array Oper := regOf F9_6
noncomputable def F9_9 : Code := sub (Try.f9.body.getD .skip) [1, 0, 1, 0]
noncomputable def F9_10 : Code := sub (Try.f9.body.getD .skip) [1, 0, 1, 1]
noncomputable def F9_11 : Code := sub (Try.f9.body.getD .skip) [1, 1, 0]
noncomputable def F9_12 : Code := sub (Try.f9.body.getD .skip) [1, 1, 1]
noncomputable def R9_11 : Array Oper := regOf F9_11
noncomputable def F9_14 : Code := sub (Try.f9.body.getD .skip) [1, 1, 1, 0]
noncomputable def F9_15 : Code := sub (Try.f9.body.getD .skip) [1, 1, 1, 1]
noncomputable def R9_14 : Array Oper := regOf F9_14
noncomputable def F9_17 : Code := sub (Try.f9.body.getD .skip) [1, 1, 1, 1, 0]
noncomputable def F9_18 : Code := sub (Try.f9.body.getD .skip) [1, 1, 1, 1, 1]
noncomputable def R9_17 : Array Oper := regOf F9_17
noncomputable def F9_20 : Code := sub (Try.f9.body.getD .skip) [1, 1, 1, 1, 1, 0]
noncomputable def F9_21 : Code := sub (Try.f9.body.getD .skip) [1, 1, 1, 1, 1, 1]
noncomputable def R9_20 : Array Oper := regOf F9_20
noncomputable def F9_23 : Code := sub (Try.f9.body.getD .skip) [1, 1, 1, 1, 1, 1, 0]
noncomputable def F9_24 : Code := sub (Try.f9.body.getD .skip) [1, 1, 1, 1, 1, 1, 1]
noncomputable def F9_25 : Code := sub (Try.f9.body.getD .skip) [1, 1, 1, 1, 1, 1, 0, 0]
noncomputable def F9_26 : Code := sub (Try.f9.body.getD .skip) [1, 1, 1, 1, 1, 1, 0, 1]
noncomputable def R9_25 : Array Oper := regOf F9_25
noncomputable def F9_28 : Code := sub (Try.f9.body.getD .skip) [1, 1, 1, 1, 1, 1, 0, 1, 0]
noncomputable def F9_29 : Code := sub (Try.f9.body.getD .skip) [1, 1, 1, 1, 1, 1, 0, 1, 1]
noncomputable def F9_30 : Code := sub (Try.f9.body.getD .skip) [1, 1, 1, 1, 1, 1, 1, 0]
noncomputable def F9_31 : Code := sub (Try.f9.body.getD .skip) [1, 1, 1, 1, 1, 1, 1, 1]
noncomputable def R9_30 : Array Oper := regOf F9_30
noncomputable def F9_33 : Code := sub (Try.f9.body.getD .skip) [1, 1, 1, 1, 1, 1, 1, 1, 0]
noncomputable def F9_34 : Code := sub (Try.f9.body.getD .skip) [1, 1, 1, 1, 1, 1, 1, 1, 1]
noncomputable def F9_35 : Code := sub (Try.f9.body.getD .skip) [1, 1, 1, 1, 1, 1, 1, 1, 0, 0]
noncomputable def F9_36 : Code := sub (Try.f9.body.getD .skip) [1, 1, 1, 1, 1, 1, 1, 1, 0, 1]
noncomputable def R9_35 : Array Oper := regOf F9_35
noncomputable def F9_38 : Code := sub (Try.f9.body.getD .skip) [1, 1, 1, 1, 1, 1, 1, 1, 0, 1, 0]
noncomputable def F9_39 : Code := sub (Try.f9.body.getD .skip) [1, 1, 1, 1, 1, 1, 1, 1, 0, 1, 0, 0]
noncomputable def F9_40 : Code := sub (Try.f9.body.getD .skip) [1, 1, 1, 1, 1, 1, 1, 1, 0, 1, 0, 0, 0]
noncomputable def F9_41 : Code := sub (Try.f9.body.getD .skip) [1, 1, 1, 1, 1, 1, 1, 1, 0, 1, 0, 0, 1]
noncomputable def R9_40 : Array Oper := regOf F9_40
noncomputable def F9_43 : Code := sub (Try.f9.body.getD .skip) [1, 1, 1, 1, 1, 1, 1, 1, 0, 1, 0, 0, 1, 0]
noncomputable def F9_44 : Code := sub (Try.f9.body.getD .skip) [1, 1, 1, 1, 1, 1, 1, 1, 0, 1, 0, 0, 1, 1]
noncomputable def F9_45 : Code := sub (Try.f9.body.getD .skip) [1, 1, 1, 1, 1, 1, 1, 1, 0, 1, 0, 0, 1, 0, 0]
noncomputable def F9_46 : Code := sub (Try.f9.body.getD .skip) [1, 1, 1, 1, 1, 1, 1, 1, 0, 1, 0, 0, 1, 0, 1]
noncomputable def F9_47 : Code := sub (Try.f9.body.getD .skip) [1, 1, 1, 1, 1, 1, 1, 1, 0, 1, 0, 0, 1, 1, 0]
noncomputable def F9_48 : Code := sub (Try.f9.body.getD .skip) [1, 1, 1, 1, 1, 1, 1, 1, 0, 1, 0, 0, 1, 1, 1]
noncomputable def F9_49 : Code := sub (Try.f9.body.getD .skip) [1, 1, 1, 1, 1, 1, 1, 1, 0, 1, 0, 0, 1, 1, 0, 0]
noncomputable def F9_50 : Code := sub (Try.f9.body.getD .skip) [1, 1, 1, 1, 1, 1, 1, 1, 0, 1, 0, 0, 1, 1, 0, 0, 0]
noncomputable def F9_51 : Code := sub (Try.f9.body.getD .skip) [1, 1, 1, 1, 1, 1, 1, 1, 0, 1, 0, 0, 1, 1, 0, 0, 1]
noncomputable def R9_50 : Array Oper := regOf F9_50
noncomputable def F9_53 : Code := sub (Try.f9.body.getD .skip) [1, 1, 1, 1, 1, 1, 1, 1, 0, 1, 0, 0, 1, 1, 0, 0, 1, 0]
noncomputable def F9_54 : Code := sub (Try.f9.body.getD .skip) [1, 1, 1, 1, 1, 1, 1, 1, 0, 1, 0, 0, 1, 1, 0, 0, 1, 1]
noncomputable def F9_55 : Code := sub (Try.f9.body.getD .skip) [1, 1, 1, 1, 1, 1, 1, 1, 0, 1, 0, 0, 1, 1, 0, 0, 1, 0, 0]
noncomputable def F9_56 : Code := sub (Try.f9.body.getD .skip) [1, 1, 1, 1, 1, 1, 1, 1, 0, 1, 0, 0, 1, 1, 0, 0, 1, 0, 1]
noncomputable def R9_55 : Array Oper := regOf F9_55
noncomputable def F9_58 : Code := sub (Try.f9.body.getD .skip) [1, 1, 1, 1, 1, 1, 1, 1, 0, 1, 0, 0, 1, 1, 0, 0, 1, 0, 1, 0]
noncomputable def F9_59 : Code := sub (Try.f9.body.getD .skip) [1, 1, 1, 1, 1, 1, 1, 1, 0, 1, 0, 0, 1, 1, 0, 0, 1, 0, 1, 1]
noncomputable def F9_60 : Code := sub (Try.f9.body.getD .skip) [1, 1, 1, 1, 1, 1, 1, 1, 0, 1, 0, 0, 1, 1, 0, 0, 1, 1, 0]
noncomputable def F9_61 : Code := sub (Try.f9.body.getD .skip) [1, 1, 1, 1, 1, 1, 1, 1, 0, 1, 0, 0, 1, 1, 0, 0, 1, 1, 1]
noncomputable def F9_62 : Code := sub (Try.f9.body.getD .skip) [1, 1, 1, 1, 1, 1, 1, 1, 0, 1, 0, 0, 1, 1, 0, 0, 1, 1, 0, 0]
noncomputable def F9_63 : Code := sub (Try.f9.body.getD .skip) [1, 1, 1, 1, 1, 1, 1, 1, 0, 1, 0, 0, 1, 1, 0, 0, 1, 1, 0, 1]
noncomputable def R9_62 : Array Oper := regOf F9_62
noncomputable def F9_65 : Code := sub (Try.f9.body.getD .skip) [1, 1, 1, 1, 1, 1, 1, 1, 0, 1, 0, 0, 1, 1, 0, 0, 1, 1, 0, 1, 0]
noncomputable def F9_66 : Code := sub (Try.f9.body.getD .skip) [1, 1, 1, 1, 1, 1, 1, 1, 0, 1, 0, 0, 1, 1, 0, 0, 1, 1, 0, 1, 1]
noncomputable def R9_65 : Array Oper := regOf F9_65
noncomputable def F9_68 : Code := sub (Try.f9.body.getD .skip) [1, 1, 1, 1, 1, 1, 1, 1, 0, 1, 0, 0, 1, 1, 0, 0, 1, 1, 0, 1, 1, 0]
noncomputable def F9_69 : Code := sub (Try.f9.body.getD .skip) [1, 1, 1, 1, 1, 1, 1, 1, 0, 1, 0, 0, 1, 1, 0, 0, 1, 1, 0, 1, 1, 1]
noncomputable def F9_70 : Code := sub (Try.f9.body.getD .skip) [1, 1, 1, 1, 1, 1, 1, 1, 0, 1, 0, 0, 1, 1, 0, 0, 1, 1, 1, 0]
noncomputable def F9_71 : Code := sub (Try.f9.body.getD .skip) [1, 1, 1, 1, 1, 1, 1, 1, 0, 1, 0, 0, 1, 1, 0, 0, 1, 1, 1, 1]
noncomputable def R9_70 : Array Oper := regOf F9_70
noncomputable def F9_73 : Code := sub (Try.f9.body.getD .skip) [1, 1, 1, 1, 1, 1, 1, 1, 0, 1, 0, 0, 1, 1, 0, 0, 1, 1, 1, 1, 0]
noncomputable def F9_74 : Code := sub (Try.f9.body.getD .skip) [1, 1, 1, 1, 1, 1, 1, 1, 0, 1, 0, 0, 1, 1, 0, 0, 1, 1, 1, 1, 1]
noncomputable def F9_75 : Code := sub (Try.f9.body.getD .skip) [1, 1, 1, 1, 1, 1, 1, 1, 0, 1, 0, 0, 1, 1, 0, 0, 1, 1, 1, 1, 0, 0]
noncomputable def F9_76 : Code := sub (Try.f9.body.getD .skip) [1, 1, 1, 1, 1, 1, 1, 1, 0, 1, 0, 0, 1, 1, 0, 0, 1, 1, 1, 1, 0, 1]
noncomputable def R9_75 : Array Oper := regOf F9_75
noncomputable def F9_78 : Code := sub (Try.f9.body.getD .skip) [1, 1, 1, 1, 1, 1, 1, 1, 0, 1, 0, 0, 1, 1, 0, 0, 1, 1, 1, 1, 0, 1, 0]
noncomputable def F9_79 : Code := sub (Try.f9.body.getD .skip) [1, 1, 1, 1, 1, 1, 1, 1, 0, 1, 0, 0, 1, 1, 0, 0, 1, 1, 1, 1, 0, 1, 1]
noncomputable def R9_74 : Array Oper := regOf F9_74
noncomputable def R9_48 : Array Oper := regOf F9_48
noncomputable def R9_58 : Array Oper := regOf F9_58
noncomputable def F9_83 : Code := sub (Try.f9.body.getD .skip) [1, 1, 1, 1, 1, 1, 1, 1, 1, 0]
noncomputable def F9_84 : Code := sub (Try.f9.body.getD .skip) [1, 1, 1, 1, 1, 1, 1, 1, 1, 1]
noncomputable def R9_83 : Array Oper := regOf F9_83
noncomputable def F9_86 : Code := sub (Try.f9.body.getD .skip) [1, 1, 1, 1, 1, 1, 1, 1, 1, 1, 0]
noncomputable def F9_87 : Code := sub (Try.f9.body.getD .skip) [1, 1, 1, 1, 1, 1, 1, 1, 1, 1, 1]
noncomputable def R9_86 : Array Oper := regOf F9_86
set_option maxRecDepth 100000 in
theorem c9 (g : Gh) (base : Int) (p : List UInt8) (Ap : Option Addr) (cp : Nat) (in_ : List UInt8) (Ain_ : Option Addr) (cin_ : Nat) (fp : Arr g.r tyU8 Ap cp p) (fin_ : Arr g.r tyU8 Ain_ cin_ in_) :
    Ctr0 Try.prog 9 [Value.int .i64 (base), Value.slice Ap (p).length cp, Value.slice Ain_ (in_).length cin_] g (fun v ψ => v = Value.bool ((yes base p in_))) := by
  refine ctr_of Try.f9 F9_0 116 [Value.int .i64 (base), Value.slice Ap (p).length cp, Value.slice Ain_ (in_).length cin_] (by kernel_rfl) (by kernel_rfl) (by kernel_rfl) (by kernel_rfl) ?_
  have L0 := Gh.le.refl g
  have nfp := fp.len
  have nfin_ := fin_.len
  refine wpc_seq (x := F9_1) (y := F9_2) (by kernel_rfl) ?_
  refine wpc_region (ops := R9_1) (id := 0) (by kernel_rfl) ?_
  refine wpr_val 1 6 (.assign (.const (Value.bool (false)))) 4 (Value.bool (false)) (Runs.plain (by kernel_rfl)) (by kernel_rfl) (y_assign (by kernel_rfl)) ?_
  refine wpr_end (by kernel_rfl) ?_
  refine wpq_then ?_
  refine wpc_seq (x := F9_4) (y := F9_5) (by kernel_rfl) ?_
  refine wpc_seq (x := F9_6) (y := F9_7) (by kernel_rfl) ?_
  refine wpc_region (ops := R9_6) (id := 1) (by kernel_rfl) ?_
  refine wpr_eff 1 19 (.call { callee := .value (.func 10), args := #[], argTypes := #[] }) 4 (Runs.plain (by kernel_rfl)) (by kernel_rfl) (e_call [] (by kernel_rfl) (by kernel_rfl) (fun g' lr eb ln => c10 g' )) ?_
  rintro _ g1 _ le2 ⟨rfl, rfl⟩
  have fp := fp.mono le2.r
  have fin_ := fin_.mono le2.r
  have L0 := L0.trans le2
  refine wpr_val 2 20 (.unOp .not 4 (.tmp 19)) 4 (Value.bool (false)) (Runs.plain (by kernel_rfl)) (by kernel_rfl) (y_pure (by kernel_rfl) (fun _ => by kernel_rfl)) ?_
  refine wpr_end (by kernel_rfl) ?_
  refine wpq_then ?_
  refine wpc_false (x := F9_9) (y := F9_10) (o := (.tmp 20)) (by kernel_rfl) (by kernel_rfl) ?_
  refine wpc_skip (by kernel_rfl) ?_
  refine wpq_then ?_
  refine wpc_seq (x := F9_11) (y := F9_12) (by kernel_rfl) ?_
  refine wpc_region (ops := R9_11) (id := 3) (by kernel_rfl) ?_
  refine wpr_val 1 21 (.move (.tmp 0)) 2 (Value.int .i64 (base)) (Runs.plain (by kernel_rfl)) (by kernel_rfl) (y_move (by kernel_rfl)) ?_
  have z1 := land64 base 1099511627775 (by omega)
  refine wpr_val 2 22 (.binOp .and 2 (.tmp 21) (.const (Value.int .i64 (1099511627775))) 2) 2 (Value.int .i64 ((landK .i64 base 1099511627775))) (Runs.plain (by kernel_rfl)) (by kernel_rfl) (y_pure (by kernel_rfl) (fun _ => by kernel_rfl)) ?_
  refine wpr_val 3 23 (.binOp .add 2 (.tmp 22) (.const (Value.int .i64 (1))) 2) 2 (Value.int .i64 (((landK .i64 base 1099511627775) + 1))) (Runs.plain (by kernel_rfl)) (by kernel_rfl) (y_add (by kernel_rfl) (by kernel_rfl) (wr64 (by omega))) ?_
  refine wpr_val 4 0 (.assign (.tmp 23)) 2 (Value.int .i64 (((landK .i64 base 1099511627775) + 1))) (Runs.plain (by kernel_rfl)) (by kernel_rfl) (y_assign (by kernel_rfl)) ?_
  refine wpr_end (by kernel_rfl) ?_
  refine wpq_then ?_
  refine wpq_sub [(0, Value.int .i64 (((landK .i64 base 1099511627775) + 1))), (1, Value.slice Ap (p).length cp), (2, Value.slice Ain_ (in_).length cin_)] (by kernel_rfl) ?_
  refine wpc_seq (x := F9_14) (y := F9_15) (by kernel_rfl) ?_
  refine wpc_region (ops := R9_14) (id := 4) (by kernel_rfl) ?_
  refine wpr_val 1 24 (.move (.tmp 1)) 22 (Value.slice Ap (p).length cp) (Runs.plain (by kernel_rfl)) (by kernel_rfl) (y_move (by kernel_rfl)) ?_
  have f3 : Arr g1.r tyU8 (offA Ap cp 0 1) (cp - 0) (cutS p 3000) := cut_arr fp (by omega)
  have nf3 := f3.len
  have mf3 := cutS_len p 3000 (by omega)
  refine wpr_eff 2 25 (.call { callee := .value (.func 11), args := #[(.tmp 24), (.const (Value.int .i64 (3000)))], argTypes := #[22, 3] }) 22 (Runs.plain (by kernel_rfl)) (by kernel_rfl) (e_call [Value.slice Ap (p).length cp, Value.int .i64 (3000)] (by kernel_rfl) (by kernel_rfl) (fun g' lr eb ln => c11 g' (p : List UInt8) Ap cp (3000 : Int) (fp.mono lr) (by first | omega | exact w_flM hM (by omega) | exact w_flW hW (by omega)))) ?_
  rintro _ g4 _ le5 ⟨rfl, rfl⟩
  have fp := fp.mono le5.r
  have fin_ := fin_.mono le5.r
  have f3 := f3.mono le5.r
  have L0 := L0.trans le5
  refine wpr_val 3 26 (.move (.tmp 2)) 22 (Value.slice Ain_ (in_).length cin_) (Runs.plain (by kernel_rfl)) (by kernel_rfl) (y_move (by kernel_rfl)) ?_
  have f6 : Arr g4.r tyU8 (offA Ain_ cin_ 0 1) (cin_ - 0) (cutS in_ 40) := cut_arr fin_ (by omega)
  have nf6 := f6.len
  have mf6 := cutS_len in_ 40 (by omega)
  refine wpr_eff 4 27 (.call { callee := .value (.func 11), args := #[(.tmp 26), (.const (Value.int .i64 (40)))], argTypes := #[22, 3] }) 22 (Runs.plain (by kernel_rfl)) (by kernel_rfl) (e_call [Value.slice Ain_ (in_).length cin_, Value.int .i64 (40)] (by kernel_rfl) (by kernel_rfl) (fun g' lr eb ln => c11 g' (in_ : List UInt8) Ain_ cin_ (40 : Int) (fin_.mono lr) (by omega))) ?_
  rintro _ g7 _ le8 ⟨rfl, rfl⟩
  have fp := fp.mono le8.r
  have fin_ := fin_.mono le8.r
  have f3 := f3.mono le8.r
  have f6 := f6.mono le8.r
  have L0 := L0.trans le8
  refine wpr_val 5 1 (.assign (.tmp 25)) 22 (Value.slice (offA Ap cp 0 1) ((cutS p 3000)).length (cp - 0)) (Runs.plain (by kernel_rfl)) (by kernel_rfl) (y_assign (by kernel_rfl)) ?_
  refine wpr_val 6 2 (.assign (.tmp 27)) 22 (Value.slice (offA Ain_ cin_ 0 1) ((cutS in_ 40)).length (cin_ - 0)) (Runs.plain (by kernel_rfl)) (by kernel_rfl) (y_assign (by kernel_rfl)) ?_
  refine wpr_end (by kernel_rfl) ?_
  refine wpq_then ?_
  refine wpc_seq (x := F9_17) (y := F9_18) (by kernel_rfl) ?_
  refine wpc_region (ops := R9_17) (id := 5) (by kernel_rfl) ?_
  refine wpr_eff 1 28 (.call { callee := .value (.func 20), args := #[], argTypes := #[] }) 50 (Runs.plain (by kernel_rfl)) (by kernel_rfl) (e_callM (sel := []) [] [] (by kernel_rfl) (by kernel_rfl) (by kernel_rfl) (fun g' lr eb ln => c20 g' )) ?_
  rintro _ g10 _ le11 ⟨_, rfl, b9_0, A9_0_pieces, c9_0_pieces, rfl, rfl, f9_0_pieces⟩
  have fp := fp.mono le11.r
  have fin_ := fin_.mono le11.r
  have f3 := f3.mono le11.r
  have f6 := f6.mono le11.r
  have L0 := L0.trans le11
  refine wpq_own [some ⟨b9_0, 107, [Value.slice A9_0_pieces ((newSenderS).pieces).length c9_0_pieces]⟩] (by kernel_rfl) ?_
  have nf9_0_pieces := f9_0_pieces.len
  refine wpr_eff 2 29 (.call { callee := .value (.func 28), args := #[], argTypes := #[] }) 72 (Runs.plain (by kernel_rfl)) (by kernel_rfl) (e_callM (sel := []) [] [] (by kernel_rfl) (by kernel_rfl) (by kernel_rfl) (fun g' lr eb ln => c28 g' )) ?_
  rintro _ g13 _ le14 ⟨_, rfl, b12_0, A12_0_parts, c12_0_parts, k12_0_parts, A12_0_sets, c12_0_sets, k12_0_sets, rfl, rfl, h12_0_parts, h12_0_sets⟩
  have fp := fp.mono le14.r
  have fin_ := fin_.mono le14.r
  have f3 := f3.mono le14.r
  have f6 := f6.mono le14.r
  have f9_0_pieces := f9_0_pieces.mono le14.b
  have L0 := L0.trans le14
  refine wpq_own [some ⟨b12_0, 114, [Value.int .i64 ((newCollS).base), Value.int .i64 ((newCollS).count), Value.slice A12_0_parts ((newCollS).parts).length c12_0_parts, Value.slice A12_0_sets ((newCollS).sets).length c12_0_sets]⟩, k12_0_parts, k12_0_sets, some ⟨b9_0, 107, [Value.slice A9_0_pieces ((newSenderS).pieces).length c9_0_pieces]⟩] (by kernel_rfl) ?_
  have nh12_0_parts := h12_0_parts.len
  have nh12_0_sets := h12_0_sets.len
  refine wpr_val 3 7 (.assign (.tmp 28)) 50 (Value.pointer (some ⟨b9_0, 0, none⟩)) (Runs.plain (by kernel_rfl)) (by kernel_rfl) (y_assign (by kernel_rfl)) ?_
  refine wpr_val 4 8 (.assign (.tmp 29)) 72 (Value.pointer (some ⟨b12_0, 0, none⟩)) (Runs.plain (by kernel_rfl)) (by kernel_rfl) (y_assign (by kernel_rfl)) ?_
  refine wpr_end (by kernel_rfl) ?_
  refine wpq_then ?_
  refine wpq_sub [(0, Value.int .i64 (((landK .i64 base 1099511627775) + 1))), (1, Value.slice (offA Ap cp 0 1) ((cutS p 3000)).length (cp - 0)), (2, Value.slice (offA Ain_ cin_ 0 1) ((cutS in_ 40)).length (cin_ - 0)), (7, Value.pointer (some ⟨b9_0, 0, none⟩)), (8, Value.pointer (some ⟨b12_0, 0, none⟩))] (by kernel_rfl) ?_
  refine wpc_seq (x := F9_20) (y := F9_21) (by kernel_rfl) ?_
  refine wpc_region (ops := R9_20) (id := 6) (by kernel_rfl) ?_
  refine wpr_val 1 31 (.move (.tmp 2)) 22 (Value.slice (offA Ain_ cin_ 0 1) ((cutS in_ 40)).length (cin_ - 0)) (Runs.plain (by kernel_rfl)) (by kernel_rfl) (y_move (by kernel_rfl)) ?_
  refine wpr_eff 2 32 (.call { callee := .value (.func 41), args := #[(.tmp 31), (.const (Value.bool (true))), (.const (Value.slice none 0 0)), (.const (Value.bool (false)))], argTypes := #[22, 4, 22, 4] }) 64 (Runs.plain (by kernel_rfl)) (by kernel_rfl) (e_call [Value.slice (offA Ain_ cin_ 0 1) ((cutS in_ 40)).length (cin_ - 0), Value.bool (true), Value.slice none 0 0, Value.bool (false)] (by kernel_rfl) (by kernel_rfl) (fun g' lr eb ln => c41 g' ((cutS in_ 40) : List UInt8) (offA Ain_ cin_ 0 1) (cin_ - 0) (true) ([] : List UInt8) none 0 (false) (f6.mono lr) Arr.nil (by first | omega | exact w_flM hM (by omega) | exact w_flW hW (by omega)) (by first | exact (w_seM hM (by omega) (by omega)).1 | exact (w_seW hW (by omega) (by omega)).1 | simp))) ?_
  rintro _ g16 _ le17 ⟨rfl, A15_0, c15_0, rfl, f15_0⟩
  have fp := fp.mono le17.r
  have fin_ := fin_.mono le17.r
  have f3 := f3.mono le17.r
  have f6 := f6.mono le17.r
  have f9_0_pieces := f9_0_pieces.mono le17.b
  have h12_0_parts := h12_0_parts.mono le17.b
  have h12_0_sets := h12_0_sets.mono le17.b
  have L0 := L0.trans le17
  have nf15_0 := f15_0.len
  refine wpr_val 3 30 (.move (.tmp 32)) 64 (Value.tuple #[Value.slice A15_0 ((packS ((cutS in_ 40) : List UInt8) (true) ([] : List UInt8) (false)).1).length c15_0, Value.int .i64 ((packS ((cutS in_ 40) : List UInt8) (true) ([] : List UInt8) (false)).2)]) (Runs.plain (by kernel_rfl)) (by kernel_rfl) (y_move (by kernel_rfl)) ?_
  refine wpr_val 4 33 (.extract (.tmp 30) 0) 22 (Value.slice A15_0 ((packS ((cutS in_ 40) : List UInt8) (true) ([] : List UInt8) (false)).1).length c15_0) (Runs.plain (by kernel_rfl)) (by kernel_rfl) (y_pure (by kernel_rfl) (fun _ => by kernel_rfl)) ?_
  refine wpr_val 5 34 (.extract (.tmp 30) 1) 27 (Value.int .i64 ((packS ((cutS in_ 40) : List UInt8) (true) ([] : List UInt8) (false)).2)) (Runs.plain (by kernel_rfl)) (by kernel_rfl) (y_pure (by kernel_rfl) (fun _ => by kernel_rfl)) ?_
  refine wpr_val 6 9 (.assign (.tmp 33)) 22 (Value.slice A15_0 ((packS ((cutS in_ 40) : List UInt8) (true) ([] : List UInt8) (false)).1).length c15_0) (Runs.plain (by kernel_rfl)) (by kernel_rfl) (y_assign (by kernel_rfl)) ?_
  refine wpr_val 7 10 (.assign (.tmp 34)) 27 (Value.int .i64 ((packS ((cutS in_ 40) : List UInt8) (true) ([] : List UInt8) (false)).2)) (Runs.plain (by kernel_rfl)) (by kernel_rfl) (y_assign (by kernel_rfl)) ?_
  refine wpr_end (by kernel_rfl) ?_
  refine wpq_then ?_
  refine wpq_sub [(0, Value.int .i64 (((landK .i64 base 1099511627775) + 1))), (1, Value.slice (offA Ap cp 0 1) ((cutS p 3000)).length (cp - 0)), (7, Value.pointer (some ⟨b9_0, 0, none⟩)), (8, Value.pointer (some ⟨b12_0, 0, none⟩)), (9, Value.slice A15_0 ((packS ((cutS in_ 40) : List UInt8) (true) ([] : List UInt8) (false)).1).length c15_0), (10, Value.int .i64 ((packS ((cutS in_ 40) : List UInt8) (true) ([] : List UInt8) (false)).2))] (by kernel_rfl) ?_
  refine wpc_seq (x := F9_23) (y := F9_24) (by kernel_rfl) ?_
  refine wpc_seq (x := F9_25) (y := F9_26) (by kernel_rfl) ?_
  refine wpc_region (ops := R9_25) (id := 7) (by kernel_rfl) ?_
  refine wpr_val 1 35 (.move (.tmp 10)) 27 (Value.int .i64 ((packS ((cutS in_ 40) : List UInt8) (true) ([] : List UInt8) (false)).2)) (Runs.plain (by kernel_rfl)) (by kernel_rfl) (y_move (by kernel_rfl)) ?_
  refine wpr_val 2 36 (.binOp .neq 27 (.tmp 35) (.const (Value.int .i64 (0))) 27) 4 (Value.bool (((packS ((cutS in_ 40) : List UInt8) (true) ([] : List UInt8) (false)).2 != 0))) (Runs.plain (by kernel_rfl)) (by kernel_rfl) (y_pure (by kernel_rfl) (fun _ => by kernel_rfl)) ?_
  refine wpr_end (by kernel_rfl) ?_
  refine wpq_then ?_
  -- condition 0
  refine wpc_cond (x := F9_28) (y := F9_29) (o := (.tmp 36)) (b := ((packS ((cutS in_ 40) : List UInt8) (true) ([] : List UInt8) (false)).2 != 0)) (by kernel_rfl) (by kernel_rfl) (fun h0 => ?_) (fun h0 => ?_)
  · have h0p : ¬ ((packS ((cutS in_ 40) : List UInt8) (true) ([] : List UInt8) (false)).2 = 0) := ne_of_bne_ h0
    rw [pack_ok (by omega)] at h0; simp at h0
  · have h0p : (packS ((cutS in_ 40) : List UInt8) (true) ([] : List UInt8) (false)).2 = 0 := eq_of_bne_false_ h0
    have hN : (maxI 1 (((((((cutS p 3000)).length : Nat) : Int) + 600) - 1) / 600)) = splitN (cutS p 3000) := maxI_comm _ _
    refine wpc_skip (by kernel_rfl) ?_
    refine wpq_then ?_
    refine wpc_seq (x := F9_30) (y := F9_31) (by kernel_rfl) ?_
    refine wpc_region (ops := R9_30) (id := 9) (by kernel_rfl) ?_
    refine wpr_val 1 37 (.move (.tmp 1)) 22 (Value.slice (offA Ap cp 0 1) ((cutS p 3000)).length (cp - 0)) (Runs.plain (by kernel_rfl)) (by kernel_rfl) (y_move (by kernel_rfl)) ?_
    refine wpr_val 2 38 (.call { callee := .builtin .len, args := #[(.tmp 37)], argTypes := #[22] }) 3 (Value.int .i64 (((((cutS p 3000)).length : Nat) : Int))) (Runs.plain (by kernel_rfl)) (by kernel_rfl) (y_pure (by kernel_rfl) (fun _ => by kernel_rfl)) ?_
    refine wpr_val 3 39 (.binOp .add 3 (.tmp 38) (.const (Value.int .i64 (600))) 3) 3 (Value.int .i64 ((((((cutS p 3000)).length : Nat) : Int) + 600))) (Runs.plain (by kernel_rfl)) (by kernel_rfl) (y_add (by kernel_rfl) (by kernel_rfl) (wr64 (by omega))) ?_
    refine wpr_val 4 40 (.binOp .sub 3 (.tmp 39) (.const (Value.int .i64 (1))) 3) 3 (Value.int .i64 (((((((cutS p 3000)).length : Nat) : Int) + 600) - 1))) (Runs.plain (by kernel_rfl)) (by kernel_rfl) (y_sub (by kernel_rfl) (by kernel_rfl) (wr64 (by omega))) ?_
    refine wpr_val 5 41 (.binOp .quo 3 (.tmp 40) (.const (Value.int .i64 (600))) 3) 3 (Value.int .i64 ((((((((cutS p 3000)).length : Nat) : Int) + 600) - 1) / 600))) (Runs.plain (by kernel_rfl)) (by kernel_rfl) (y_quo (a := ((((((cutS p 3000)).length : Nat) : Int) + 600) - 1)) (b := 600) (by kernel_rfl) (by kernel_rfl) (by omega) (IntWalk.i64_quo _ _ (by omega))) ?_
    have z2 := maxI_spec 1 (((((((cutS p 3000)).length : Nat) : Int) + 600) - 1) / 600)
    refine wpr_val 6 42 (.call { callee := .builtin .max, args := #[(.const (Value.int .i64 (1))), (.tmp 41)], argTypes := #[3, 3] }) 3 (Value.int .i64 ((maxI 1 (((((((cutS p 3000)).length : Nat) : Int) + 600) - 1) / 600)))) (Runs.plain (by kernel_rfl)) (by kernel_rfl) (y_pure (by kernel_rfl) (fun _ => by kernel_rfl)) ?_
    refine wpr_val 7 11 (.assign (.tmp 42)) 3 (Value.int .i64 ((maxI 1 (((((((cutS p 3000)).length : Nat) : Int) + 600) - 1) / 600)))) (Runs.plain (by kernel_rfl)) (by kernel_rfl) (y_assign (by kernel_rfl)) ?_
    refine wpr_end (by kernel_rfl) ?_
    refine wpq_then ?_
    refine wpq_sub [(0, Value.int .i64 (((landK .i64 base 1099511627775) + 1))), (1, Value.slice (offA Ap cp 0 1) ((cutS p 3000)).length (cp - 0)), (7, Value.pointer (some ⟨b9_0, 0, none⟩)), (8, Value.pointer (some ⟨b12_0, 0, none⟩)), (9, Value.slice A15_0 ((packS ((cutS in_ 40) : List UInt8) (true) ([] : List UInt8) (false)).1).length c15_0), (11, Value.int .i64 ((maxI 1 (((((((cutS p 3000)).length : Nat) : Int) + 600) - 1) / 600))))] (by kernel_rfl) ?_
    refine wpc_seq (x := F9_33) (y := F9_34) (by kernel_rfl) ?_
    refine wpc_seq (x := F9_35) (y := F9_36) (by kernel_rfl) ?_
    refine wpc_region (ops := R9_35) (id := 10) (by kernel_rfl) ?_
    refine wpr_val 1 43 (.move (.tmp 11)) 3 (Value.int .i64 ((maxI 1 (((((((cutS p 3000)).length : Nat) : Int) + 600) - 1) / 600)))) (Runs.plain (by kernel_rfl)) (by kernel_rfl) (y_move (by kernel_rfl)) ?_
    refine wpr_val 2 44 (.move (.const (Value.int .i64 (0)))) 3 (Value.int .i64 (0)) (Runs.plain (by kernel_rfl)) (by kernel_rfl) (y_move (by kernel_rfl)) ?_
    refine wpr_end (by kernel_rfl) ?_
    refine wpq_then ?_
    refine wpc_block (x := F9_38) (id := 0) (by kernel_rfl) ?_
    refine wpq_sub [(0, Value.int .i64 (((landK .i64 base 1099511627775) + 1))), (1, Value.slice (offA Ap cp 0 1) ((cutS p 3000)).length (cp - 0)), (7, Value.pointer (some ⟨b9_0, 0, none⟩)), (8, Value.pointer (some ⟨b12_0, 0, none⟩)), (9, Value.slice A15_0 ((packS ((cutS in_ 40) : List UInt8) (true) ([] : List UInt8) (false)).1).length c15_0), (11, Value.int .i64 ((maxI 1 (((((((cutS p 3000)).length : Nat) : Int) + 600) - 1) / 600)))), (43, Value.int .i64 ((maxI 1 (((((((cutS p 3000)).length : Nat) : Int) + 600) - 1) / 600)))), (44, Value.int .i64 (0))] (by kernel_rfl) ?_
    -- loop 0
    refine wpc_loop (x := F9_39) (by kernel_rfl) (fun g own sl m => ∃ (i : Nat) (sx : Sender) (Asx_pieces : Option Addr) (csx_pieces : Nat) (cx : Coll) (Acx_parts : Option Addr) (ccx_parts : Nat) (kcx_parts : Option Bk) (Acx_sets : Option Addr) (ccx_sets : Nat) (kcx_sets : Option Bk), own = [some ⟨b12_0, 114, [Value.int .i64 (cx.base), Value.int .i64 (cx.count), Value.slice Acx_parts (cx.parts).length ccx_parts, Value.slice Acx_sets (cx.sets).length ccx_sets]⟩, kcx_parts, kcx_sets, some ⟨b9_0, 107, [Value.slice Asx_pieces (sx.pieces).length csx_pieces]⟩] ∧ sl = [(0, Value.int .i64 (((landK .i64 base 1099511627775) + 1))), (1, Value.slice (offA Ap cp 0 1) ((cutS p 3000)).length (cp - 0)), (7, Value.pointer (some ⟨b9_0, 0, none⟩)), (8, Value.pointer (some ⟨b12_0, 0, none⟩)), (9, Value.slice A15_0 ((packS ((cutS in_ 40) : List UInt8) (true) ([] : List UInt8) (false)).1).length c15_0), (11, Value.int .i64 ((maxI 1 (((((((cutS p 3000)).length : Nat) : Int) + 600) - 1) / 600)))), (43, Value.int .i64 ((maxI 1 (((((((cutS p 3000)).length : Nat) : Int) + 600) - 1) / 600)))), (44, Value.int .i64 ((i : Int)))] ∧ m = ((maxI 1 (((((((cutS p 3000)).length : Nat) : Int) + 600) - 1) / 600))).toNat - i ∧ Arr g.b tyPiece Asx_pieces csx_pieces sx.pieces ∧ Buf g.b (tyArr tyU8) 22 (.slice Acx_parts (cx.parts).length ccx_parts) kcx_parts cx.parts ∧ Buf g.b tySett 79 (.slice Acx_sets (cx.sets).length ccx_sets) kcx_sets cx.sets ∧ ((i : Int) ≤ (maxI 1 (((((((cutS p 3000)).length : Nat) : Int) + 600) - 1) / 600))) ∧ (wI ((landK .i64 base 1099511627775) + 1) (cutS p 3000) sx cx i)) _ ⟨0, (newSenderS), A9_0_pieces, c9_0_pieces, (newCollS), A12_0_parts, c12_0_parts, k12_0_parts, A12_0_sets, c12_0_sets, k12_0_sets, rfl, rfl, rfl, f9_0_pieces, h12_0_parts, h12_0_sets, by omega, w0⟩ ?_
    rintro g18 _ _ _ le19 ⟨i, sx, Asx_pieces, csx_pieces, cx, Acx_parts, ccx_parts, kcx_parts, Acx_sets, ccx_sets, kcx_sets, rfl, rfl, rfl, fsx_pieces, hcx_parts, hcx_sets, hi, hW⟩ QrL0 hQL0
    have fp := fp.mono le19.r
    have fin_ := fin_.mono le19.r
    have f3 := f3.mono le19.r
    have f6 := f6.mono le19.r
    have f9_0_pieces := f9_0_pieces.mono le19.b
    have h12_0_parts := h12_0_parts.mono le19.b
    have h12_0_sets := h12_0_sets.mono le19.b
    have f15_0 := f15_0.mono le19.b
    have L0 := L0.trans le19
    have nfsx_pieces := fsx_pieces.len
    have nhcx_parts := hcx_parts.len
    have nhcx_sets := hcx_sets.len
    have LHL0 := Gh.le.refl g18
    refine wpc_seq (x := F9_40) (y := F9_41) (by kernel_rfl) ?_
    refine wpc_region (ops := R9_40) (id := 11) (by kernel_rfl) ?_
    refine wpr_val 1 45 (.binOp .lss 3 (.tmp 44) (.tmp 43) 3) 4 (Value.bool (decide ((i : Int) < (maxI 1 (((((((cutS p 3000)).length : Nat) : Int) + 600) - 1) / 600))))) (Runs.plain (by kernel_rfl)) (by kernel_rfl) (y_pure (by kernel_rfl) (fun _ => by kernel_rfl)) ?_
    refine wpr_end (by kernel_rfl) ?_
    refine wpq_then ?_
    refine wpc_seq (x := F9_43) (y := F9_44) (by kernel_rfl) ?_
    -- condition 1
    refine wpc_cond (x := F9_45) (y := F9_46) (o := (.tmp 45)) (b := decide ((i : Int) < (maxI 1 (((((((cutS p 3000)).length : Nat) : Int) + 600) - 1) / 600)))) (by kernel_rfl) (by kernel_rfl) (fun h1 => ?_) (fun h1 => ?_)
    · have h1p := of_decide_eq_true h1
      refine wpc_skip (by kernel_rfl) ?_
      refine wpq_then ?_
      refine wpc_seq (x := F9_47) (y := F9_48) (by kernel_rfl) ?_
      refine wpc_block (x := F9_49) (id := 1) (by kernel_rfl) ?_
      refine wpc_seq (x := F9_50) (y := F9_51) (by kernel_rfl) ?_
      refine wpc_region (ops := R9_50) (id := 12) (by kernel_rfl) ?_
      refine wpr_val 1 46 (.move (.tmp 44)) 3 (Value.int .i64 ((i : Int))) (Runs.plain (by kernel_rfl)) (by kernel_rfl) (y_move (by kernel_rfl)) ?_
      refine wpr_val 2 12 (.assign (.tmp 46)) 3 (Value.int .i64 ((i : Int))) (Runs.plain (by kernel_rfl)) (by kernel_rfl) (y_assign (by kernel_rfl)) ?_
      refine wpr_end (by kernel_rfl) ?_
      refine wpq_then ?_
      refine wpc_seq (x := F9_53) (y := F9_54) (by kernel_rfl) ?_
      refine wpc_seq (x := F9_55) (y := F9_56) (by kernel_rfl) ?_
      refine wpc_region (ops := R9_55) (id := 13) (by kernel_rfl) ?_
      refine wpr_val 1 47 (.move (.tmp 12)) 3 (Value.int .i64 ((i : Int))) (Runs.plain (by kernel_rfl)) (by kernel_rfl) (y_move (by kernel_rfl)) ?_
      refine wpr_val 2 48 (.binOp .gtr 3 (.tmp 47) (.const (Value.int .i64 (0))) 3) 4 (Value.bool (decide ((i : Int) > 0))) (Runs.plain (by kernel_rfl)) (by kernel_rfl) (y_pure (by kernel_rfl) (fun _ => by kernel_rfl)) ?_
      refine wpr_end (by kernel_rfl) ?_
      refine wpq_then ?_
      -- condition 2
      refine wpc_meet (fun g own sl => ∃ (cy : Coll) (Acy_parts : Option Addr) (ccy_parts : Nat) (kcy_parts : Option Bk) (Acy_sets : Option Addr) (ccy_sets : Nat) (kcy_sets : Option Bk), own = [some ⟨b12_0, 114, [Value.int .i64 (cy.base), Value.int .i64 (cy.count), Value.slice Acy_parts (cy.parts).length ccy_parts, Value.slice Acy_sets (cy.sets).length ccy_sets]⟩, kcy_parts, kcy_sets, some ⟨b9_0, 107, [Value.slice Asx_pieces (sx.pieces).length csx_pieces]⟩] ∧ sl = [(0, Value.int .i64 (((landK .i64 base 1099511627775) + 1))), (1, Value.slice (offA Ap cp 0 1) ((cutS p 3000)).length (cp - 0)), (7, Value.pointer (some ⟨b9_0, 0, none⟩)), (8, Value.pointer (some ⟨b12_0, 0, none⟩)), (9, Value.slice A15_0 ((packS ((cutS in_ 40) : List UInt8) (true) ([] : List UInt8) (false)).1).length c15_0), (11, Value.int .i64 ((maxI 1 (((((((cutS p 3000)).length : Nat) : Int) + 600) - 1) / 600)))), (12, Value.int .i64 ((i : Int))), (43, Value.int .i64 ((maxI 1 (((((((cutS p 3000)).length : Nat) : Int) + 600) - 1) / 600)))), (44, Value.int .i64 ((i : Int)))] ∧ Buf g.b (tyArr tyU8) 22 (.slice Acy_parts (cy.parts).length ccy_parts) kcy_parts cy.parts ∧ Buf g.b tySett 79 (.slice Acy_sets (cy.sets).length ccy_sets) kcy_sets cy.sets ∧ (wM ((landK .i64 base 1099511627775) + 1) (cutS p 3000) cy i)) ?_ (fun hQC2 => ?_)
      · rintro g20 _ _ le21 ⟨cy, Acy_parts, ccy_parts, kcy_parts, Acy_sets, ccy_sets, kcy_sets, rfl, rfl, hcy_parts, hcy_sets, hM⟩
        have fp := fp.mono le21.r
        have fin_ := fin_.mono le21.r
        have f3 := f3.mono le21.r
        have f6 := f6.mono le21.r
        have f9_0_pieces := f9_0_pieces.mono le21.b
        have h12_0_parts := h12_0_parts.mono le21.b
        have h12_0_sets := h12_0_sets.mono le21.b
        have f15_0 := f15_0.mono le21.b
        have fsx_pieces := fsx_pieces.mono le21.b
        have hcx_parts := hcx_parts.mono le21.b
        have hcx_sets := hcx_sets.mono le21.b
        have L0 := L0.trans le21
        have LHL0 := LHL0.trans le21
        have nhcy_parts := hcy_parts.len
        have nhcy_sets := hcy_sets.len
        refine wpq_then ?_
        refine wpc_seq (x := F9_60) (y := F9_61) (by kernel_rfl) ?_
        refine wpc_seq (x := F9_62) (y := F9_63) (by kernel_rfl) ?_
        refine wpc_region (ops := R9_62) (id := 15) (by kernel_rfl) ?_
        refine wpr_val 1 59 (.move (.tmp 8)) 72 (Value.pointer (some ⟨b12_0, 0, none⟩)) (Runs.plain (by kernel_rfl)) (by kernel_rfl) (y_move (by kernel_rfl)) ?_
        refine wpr_eff 2 60 (.call { callee := .value (.func 35), args := #[(.tmp 59)], argTypes := #[72] }) 91 (Runs.plain (by kernel_rfl)) (by kernel_rfl) (e_call [Value.pointer (some ⟨b12_0, 0, none⟩)] (by kernel_rfl) (by kernel_rfl) (fun g' lr eb ln => c35 g' ⟨b12_0, 0, none⟩ cy Acy_parts ccy_parts Acy_sets ccy_sets (cells_lent (k := ⟨b12_0, 114, [Value.int .i64 (cy.base), Value.int .i64 (cy.count), Value.slice Acy_parts (cy.parts).length ccy_parts, Value.slice Acy_sets (cy.sets).length ccy_sets]⟩) 0 [Value.int .i64 (cy.base), Value.int .i64 (cy.count), Value.slice Acy_parts (cy.parts).length ccy_parts, Value.slice Acy_sets (cy.sets).length ccy_sets] (ln _ (lent (k := ⟨b12_0, 114, [Value.int .i64 (cy.base), Value.int .i64 (cy.count), Value.slice Acy_parts (cy.parts).length ccy_parts, Value.slice Acy_sets (cy.sets).length ccy_sets]⟩) 0 (by kernel_rfl))) (by kernel_rfl)) (arrm_of_buf hcy_parts eb (lentk 1 (by kernel_rfl) ln)) (arrm_of_buf hcy_sets eb (lentk 2 (by kernel_rfl) ln)) (by first | omega | exact w_flM hM (by omega) | exact w_flW hW (by omega)) (by first | exact (w_seM hM (by omega) (by omega)).1 | exact (w_seW hW (by omega) (by omega)).1 | simp))) ?_
        rintro _ g23 _ le24 ⟨rfl, A22_0_snapshot, c22_0_snapshot, A22_0_sets, c22_0_sets, rfl, f22_0_snapshot, f22_0_sets⟩
        have fp := fp.mono le24.r
        have fin_ := fin_.mono le24.r
        have f3 := f3.mono le24.r
        have f6 := f6.mono le24.r
        have f9_0_pieces := f9_0_pieces.mono le24.b
        have h12_0_parts := h12_0_parts.mono le24.b
        have h12_0_sets := h12_0_sets.mono le24.b
        have f15_0 := f15_0.mono le24.b
        have fsx_pieces := fsx_pieces.mono le24.b
        have hcx_parts := hcx_parts.mono le24.b
        have hcx_sets := hcx_sets.mono le24.b
        have hcy_parts := hcy_parts.mono le24.b
        have hcy_sets := hcy_sets.mono le24.b
        have L0 := L0.trans le24
        have LHL0 := LHL0.trans le24
        have nf22_0_snapshot := f22_0_snapshot.len
        have nf22_0_sets := f22_0_sets.len
        refine wpr_val 3 58 (.move (.tmp 60)) 91 (Value.tuple #[Value.agg #[Value.int .i64 ((jobS cy).1.base), Value.slice A22_0_snapshot ((jobS cy).1.snapshot).length c22_0_snapshot, Value.slice A22_0_sets ((jobS cy).1.sets).length c22_0_sets], Value.bool ((jobS cy).2)]) (Runs.plain (by kernel_rfl)) (by kernel_rfl) (y_move (by kernel_rfl)) ?_
        refine wpr_val 4 61 (.extract (.tmp 58) 0) 90 (Value.agg #[Value.int .i64 ((jobS cy).1.base), Value.slice A22_0_snapshot ((jobS cy).1.snapshot).length c22_0_snapshot, Value.slice A22_0_sets ((jobS cy).1.sets).length c22_0_sets]) (Runs.plain (by kernel_rfl)) (by kernel_rfl) (y_pure (by kernel_rfl) (fun _ => by kernel_rfl)) ?_
        refine wpr_val 5 62 (.extract (.tmp 58) 1) 4 (Value.bool ((jobS cy).2)) (Runs.plain (by kernel_rfl)) (by kernel_rfl) (y_pure (by kernel_rfl) (fun _ => by kernel_rfl)) ?_
        refine wpr_eff 6 13 (.alloc 90) 0 (Runs.plain (by kernel_rfl)) (by kernel_rfl) (e_alloc (cs := [Value.int .i64 (0), Value.slice none 0 0, Value.slice none 0 0]) (by kernel_rfl)) ?_
        rintro _ _ _ - ⟨b25, rfl, rfl, rfl⟩
        refine wpr_do 7 (.store 90 (.tmp 13) (.tmp 61)) 0 (Runs.plain (by kernel_rfl)) (by kernel_rfl) (q_store b25 0 0 (Value.agg #[Value.int .i64 ((jobS cy).1.base), Value.slice A22_0_snapshot ((jobS cy).1.snapshot).length c22_0_snapshot, Value.slice A22_0_sets ((jobS cy).1.sets).length c22_0_sets]) [Value.int .i64 ((jobS cy).1.base), Value.slice A22_0_snapshot ((jobS cy).1.snapshot).length c22_0_snapshot, Value.slice A22_0_sets ((jobS cy).1.sets).length c22_0_sets] 90 [Value.int .i64 (0), Value.slice none 0 0, Value.slice none 0 0] [Value.int .i64 ((jobS cy).1.base), Value.slice A22_0_snapshot ((jobS cy).1.snapshot).length c22_0_snapshot, Value.slice A22_0_sets ((jobS cy).1.sets).length c22_0_sets] (by kernel_rfl) (by kernel_rfl) (by kernel_rfl) (by kernel_rfl) (by kernel_rfl) (by kernel_rfl) (by kernel_rfl)) ?_
        rintro _ _ _ - ⟨rfl, rfl⟩
        refine wpr_val 8 14 (.assign (.tmp 62)) 4 (Value.bool ((jobS cy).2)) (Runs.plain (by kernel_rfl)) (by kernel_rfl) (y_assign (by kernel_rfl)) ?_
        refine wpr_end (by kernel_rfl) ?_
        refine wpq_then ?_
        refine wpq_sub [(0, Value.int .i64 (((landK .i64 base 1099511627775) + 1))), (1, Value.slice (offA Ap cp 0 1) ((cutS p 3000)).length (cp - 0)), (7, Value.pointer (some ⟨b9_0, 0, none⟩)), (8, Value.pointer (some ⟨b12_0, 0, none⟩)), (9, Value.slice A15_0 ((packS ((cutS in_ 40) : List UInt8) (true) ([] : List UInt8) (false)).1).length c15_0), (11, Value.int .i64 ((maxI 1 (((((((cutS p 3000)).length : Nat) : Int) + 600) - 1) / 600)))), (12, Value.int .i64 ((i : Int))), (14, Value.bool ((jobS cy).2)), (43, Value.int .i64 ((maxI 1 (((((((cutS p 3000)).length : Nat) : Int) + 600) - 1) / 600)))), (44, Value.int .i64 ((i : Int)))] (by kernel_rfl) ?_
        refine wpc_seq (x := F9_65) (y := F9_66) (by kernel_rfl) ?_
        refine wpc_region (ops := R9_65) (id := 16) (by kernel_rfl) ?_
        refine wpr_val 1 63 (.move (.tmp 14)) 4 (Value.bool ((jobS cy).2)) (Runs.plain (by kernel_rfl)) (by kernel_rfl) (y_move (by kernel_rfl)) ?_
        refine wpr_val 2 64 (.move (.tmp 63)) 4 (Value.bool ((jobS cy).2)) (Runs.plain (by kernel_rfl)) (by kernel_rfl) (y_move (by kernel_rfl)) ?_
        refine wpr_grpG 8 [(0, Value.int .i64 (((landK .i64 base 1099511627775) + 1))), (1, Value.slice (offA Ap cp 0 1) ((cutS p 3000)).length (cp - 0)), (7, Value.pointer (some ⟨b9_0, 0, none⟩)), (8, Value.pointer (some ⟨b12_0, 0, none⟩)), (9, Value.slice A15_0 ((packS ((cutS in_ 40) : List UInt8) (true) ([] : List UInt8) (false)).1).length c15_0), (11, Value.int .i64 ((maxI 1 (((((((cutS p 3000)).length : Nat) : Int) + 600) - 1) / 600)))), (12, Value.int .i64 ((i : Int))), (43, Value.int .i64 ((maxI 1 (((((((cutS p 3000)).length : Nat) : Int) + 600) - 1) / 600)))), (44, Value.int .i64 ((i : Int))), (70, Value.bool (((jobS cy).2 || ((wantS cy).have_ != (i : Int)))))] (fun hk1 => ?_) ?_
        · refine wpq_split 64 (b := (jobS cy).2) (by kernel_rfl) (fun q26 => ?_) (fun q26 => ?_)
          · have LG1 := Gh.le.refl g23
            refine wpr_skip 3 65 (Skips.mk' (j := 1) (t := 64) (b := false) (by kernel_rfl) (by kernel_rfl) (by kernel_rfl)) (by kernel_rfl) ?_
            refine wpr_skip 4 66 (Skips.mk' (j := 1) (t := 64) (b := false) (by kernel_rfl) (by kernel_rfl) (by kernel_rfl)) (by kernel_rfl) ?_
            refine wpr_skip 5 67 (Skips.mk' (j := 1) (t := 64) (b := false) (by kernel_rfl) (by kernel_rfl) (by kernel_rfl)) (by kernel_rfl) ?_
            refine wpr_skip 6 68 (Skips.mk' (j := 1) (t := 64) (b := false) (by kernel_rfl) (by kernel_rfl) (by kernel_rfl)) (by kernel_rfl) ?_
            refine wpr_skip 7 69 (Skips.mk' (j := 1) (t := 64) (b := false) (by kernel_rfl) (by kernel_rfl) (by kernel_rfl)) (by kernel_rfl) ?_
            refine wpr_val 8 70 (.pick (.tmp 64) (.const (Value.bool (true))) (.tmp 69)) 4 (Value.bool (true)) (Runs.plain (by kernel_rfl)) (by kernel_rfl) (y_pickT (by kernel_rfl) (by kernel_rfl)) ?_
            refine wpq_re 70 (v := Value.bool (true)) (Value.bool (((jobS cy).2 || ((wantS cy).have_ != (i : Int))))) (by kernel_rfl) (re_or1 q26) ?_
            exact wpq_sub _ (by kernel_rfl) (hk1 _ LG1)
          · have LG1 := Gh.le.refl g23
            refine wpr_val 3 65 (.move (.tmp 8)) 72 (Value.pointer (some ⟨b12_0, 0, none⟩)) (Runs.guarded (j := 1) (t := 64) (b := false) (by kernel_rfl) (by kernel_rfl) (by kernel_rfl)) (by kernel_rfl) (y_move (by kernel_rfl)) ?_
            refine wpr_eff 4 66 (.call { callee := .value (.func 38), args := #[(.tmp 65)], argTypes := #[72] }) 55 (Runs.guarded (j := 1) (t := 64) (b := false) (by kernel_rfl) (by kernel_rfl) (by kernel_rfl)) (by kernel_rfl) (e_call [Value.pointer (some ⟨b12_0, 0, none⟩)] (by kernel_rfl) (by kernel_rfl) (fun g' lr eb ln => c38 g' ⟨b12_0, 0, none⟩ cy Acy_parts ccy_parts Acy_sets ccy_sets (cells_lent (k := ⟨b12_0, 114, [Value.int .i64 (cy.base), Value.int .i64 (cy.count), Value.slice Acy_parts (cy.parts).length ccy_parts, Value.slice Acy_sets (cy.sets).length ccy_sets]⟩) 0 [Value.int .i64 (cy.base), Value.int .i64 (cy.count), Value.slice Acy_parts (cy.parts).length ccy_parts, Value.slice Acy_sets (cy.sets).length ccy_sets] (ln _ (lent (k := ⟨b12_0, 114, [Value.int .i64 (cy.base), Value.int .i64 (cy.count), Value.slice Acy_parts (cy.parts).length ccy_parts, Value.slice Acy_sets (cy.sets).length ccy_sets]⟩) 1 (by kernel_rfl))) (by kernel_rfl)) (arrm_of_buf hcy_parts eb (lentk 2 (by kernel_rfl) ln)) (arrm_of_buf hcy_sets eb (lentk 3 (by kernel_rfl) ln)))) ?_
            rintro _ g28 _ le29 ⟨rfl, rfl⟩
            have fp := fp.mono le29.r
            have fin_ := fin_.mono le29.r
            have f3 := f3.mono le29.r
            have f6 := f6.mono le29.r
            have f9_0_pieces := f9_0_pieces.mono le29.b
            have h12_0_parts := h12_0_parts.mono le29.b
            have h12_0_sets := h12_0_sets.mono le29.b
            have f15_0 := f15_0.mono le29.b
            have fsx_pieces := fsx_pieces.mono le29.b
            have hcx_parts := hcx_parts.mono le29.b
            have hcx_sets := hcx_sets.mono le29.b
            have hcy_parts := hcy_parts.mono le29.b
            have hcy_sets := hcy_sets.mono le29.b
            have f22_0_snapshot := f22_0_snapshot.mono le29.b
            have f22_0_sets := f22_0_sets.mono le29.b
            have L0 := L0.trans le29
            have LHL0 := LHL0.trans le29
            have LG1 := LG1.trans le29
            refine wpr_val 5 67 (.field 55 (.tmp 66) 1) 3 (Value.int .i64 ((wantS cy).have_)) (Runs.guarded (j := 1) (t := 64) (b := false) (by kernel_rfl) (by kernel_rfl) (by kernel_rfl)) (by kernel_rfl) (y_pure (by kernel_rfl) (fun _ => by kernel_rfl)) ?_
            refine wpr_val 6 68 (.move (.tmp 12)) 3 (Value.int .i64 ((i : Int))) (Runs.guarded (j := 1) (t := 64) (b := false) (by kernel_rfl) (by kernel_rfl) (by kernel_rfl)) (by kernel_rfl) (y_move (by kernel_rfl)) ?_
            refine wpr_val 7 69 (.binOp .neq 3 (.tmp 67) (.tmp 68) 3) 4 (Value.bool (((wantS cy).have_ != (i : Int)))) (Runs.guarded (j := 1) (t := 64) (b := false) (by kernel_rfl) (by kernel_rfl) (by kernel_rfl)) (by kernel_rfl) (y_pure (by kernel_rfl) (fun _ => by kernel_rfl)) ?_
            refine wpr_val 8 70 (.pick (.tmp 64) (.const (Value.bool (true))) (.tmp 69)) 4 (Value.bool (((wantS cy).have_ != (i : Int)))) (Runs.plain (by kernel_rfl)) (by kernel_rfl) (y_pickF (by kernel_rfl) (by kernel_rfl)) ?_
            refine wpq_re 70 (v := Value.bool (((wantS cy).have_ != (i : Int)))) (Value.bool (((jobS cy).2 || ((wantS cy).have_ != (i : Int))))) (by kernel_rfl) (re_or0 q26) ?_
            exact wpq_sub _ (by kernel_rfl) (hk1 _ LG1)
        · intro g30 le31
          have fp := fp.mono le31.r
          have fin_ := fin_.mono le31.r
          have f3 := f3.mono le31.r
          have f6 := f6.mono le31.r
          have f9_0_pieces := f9_0_pieces.mono le31.b
          have h12_0_parts := h12_0_parts.mono le31.b
          have h12_0_sets := h12_0_sets.mono le31.b
          have f15_0 := f15_0.mono le31.b
          have fsx_pieces := fsx_pieces.mono le31.b
          have hcx_parts := hcx_parts.mono le31.b
          have hcx_sets := hcx_sets.mono le31.b
          have hcy_parts := hcy_parts.mono le31.b
          have hcy_sets := hcy_sets.mono le31.b
          have f22_0_snapshot := f22_0_snapshot.mono le31.b
          have f22_0_sets := f22_0_sets.mono le31.b
          have L0 := L0.trans le31
          have LHL0 := LHL0.trans le31
          refine wpr_end (by kernel_rfl) ?_
          refine wpq_then ?_
          -- condition 3
          refine wpc_cond (x := F9_68) (y := F9_69) (o := (.tmp 70)) (b := ((jobS cy).2 || ((wantS cy).have_ != (i : Int)))) (by kernel_rfl) (by kernel_rfl) (fun h3 => ?_) (fun h3 => ?_)
          · rw [w_job hM (by omega), w_want hM] at h3; simp at h3
          · have h3l := (or_false_ h3).1
            have h3r := (or_false_ h3).2
            have h3rp : (wantS cy).have_ = (i : Int) := eq_of_bne_false_ h3r
            refine wpc_skip (by kernel_rfl) ?_
            refine wpq_then ?_
            refine wpc_seq (x := F9_70) (y := F9_71) (by kernel_rfl) ?_
            refine wpc_region (ops := R9_70) (id := 18) (by kernel_rfl) ?_
            refine wpr_val 1 72 (.move (.tmp 7)) 50 (Value.pointer (some ⟨b9_0, 0, none⟩)) (Runs.plain (by kernel_rfl)) (by kernel_rfl) (y_move (by kernel_rfl)) ?_
            refine wpr_val 2 73 (.move (.tmp 8)) 72 (Value.pointer (some ⟨b12_0, 0, none⟩)) (Runs.plain (by kernel_rfl)) (by kernel_rfl) (y_move (by kernel_rfl)) ?_
            refine wpr_eff 3 74 (.call { callee := .value (.func 38), args := #[(.tmp 73)], argTypes := #[72] }) 55 (Runs.plain (by kernel_rfl)) (by kernel_rfl) (e_call [Value.pointer (some ⟨b12_0, 0, none⟩)] (by kernel_rfl) (by kernel_rfl) (fun g' lr eb ln => c38 g' ⟨b12_0, 0, none⟩ cy Acy_parts ccy_parts Acy_sets ccy_sets (cells_lent (k := ⟨b12_0, 114, [Value.int .i64 (cy.base), Value.int .i64 (cy.count), Value.slice Acy_parts (cy.parts).length ccy_parts, Value.slice Acy_sets (cy.sets).length ccy_sets]⟩) 0 [Value.int .i64 (cy.base), Value.int .i64 (cy.count), Value.slice Acy_parts (cy.parts).length ccy_parts, Value.slice Acy_sets (cy.sets).length ccy_sets] (ln _ (lent (k := ⟨b12_0, 114, [Value.int .i64 (cy.base), Value.int .i64 (cy.count), Value.slice Acy_parts (cy.parts).length ccy_parts, Value.slice Acy_sets (cy.sets).length ccy_sets]⟩) 1 (by kernel_rfl))) (by kernel_rfl)) (arrm_of_buf hcy_parts eb (lentk 2 (by kernel_rfl) ln)) (arrm_of_buf hcy_sets eb (lentk 3 (by kernel_rfl) ln)))) ?_
            rintro _ g33 _ le34 ⟨rfl, rfl⟩
            have fp := fp.mono le34.r
            have fin_ := fin_.mono le34.r
            have f3 := f3.mono le34.r
            have f6 := f6.mono le34.r
            have f9_0_pieces := f9_0_pieces.mono le34.b
            have h12_0_parts := h12_0_parts.mono le34.b
            have h12_0_sets := h12_0_sets.mono le34.b
            have f15_0 := f15_0.mono le34.b
            have fsx_pieces := fsx_pieces.mono le34.b
            have hcx_parts := hcx_parts.mono le34.b
            have hcx_sets := hcx_sets.mono le34.b
            have hcy_parts := hcy_parts.mono le34.b
            have hcy_sets := hcy_sets.mono le34.b
            have f22_0_snapshot := f22_0_snapshot.mono le34.b
            have f22_0_sets := f22_0_sets.mono le34.b
            have L0 := L0.trans le34
            have LHL0 := LHL0.trans le34
            refine wpr_val 4 75 (.move (.tmp 0)) 2 (Value.int .i64 (((landK .i64 base 1099511627775) + 1))) (Runs.plain (by kernel_rfl)) (by kernel_rfl) (y_move (by kernel_rfl)) ?_
            refine wpr_val 5 76 (.move (.tmp 12)) 3 (Value.int .i64 ((i : Int))) (Runs.plain (by kernel_rfl)) (by kernel_rfl) (y_move (by kernel_rfl)) ?_
            refine wpr_val 6 77 (.binOp .add 2 (.tmp 75) (.tmp 76) 2) 2 (Value.int .i64 ((((landK .i64 base 1099511627775) + 1) + (i : Int)))) (Runs.plain (by kernel_rfl)) (by kernel_rfl) (y_add (by kernel_rfl) (by kernel_rfl) (wr64 (by omega))) ?_
            refine wpr_val 7 78 (.move (.tmp 1)) 22 (Value.slice (offA Ap cp 0 1) ((cutS p 3000)).length (cp - 0)) (Runs.plain (by kernel_rfl)) (by kernel_rfl) (y_move (by kernel_rfl)) ?_
            refine wpr_eff 8 79 (.call { callee := .value (.func 22), args := #[(.tmp 72), (.tmp 74), (.tmp 77), (.tmp 78)], argTypes := #[50, 55, 2, 22] }) 58 (Runs.plain (by kernel_rfl)) (by kernel_rfl) (e_callM (sel := [some ⟨b9_0, 107, [Value.slice Asx_pieces (sx.pieces).length csx_pieces]⟩]) [Value.pointer (some ⟨b9_0, 0, none⟩), Value.agg #[Value.int .i64 ((wantS cy).base), Value.int .i64 ((wantS cy).have_)], Value.int .i64 ((((landK .i64 base 1099511627775) + 1) + (i : Int))), Value.slice (offA Ap cp 0 1) ((cutS p 3000)).length (cp - 0)] [false, false, false, false, true] (by kernel_rfl) (by kernel_rfl) (by kernel_rfl) (fun g' lr eb ln => c22 g' b9_0 sx Asx_pieces csx_pieces (wantS cy) ((((landK .i64 base 1099511627775) + 1) + (i : Int)) : Int) ((cutS p 3000) : List UInt8) (offA Ap cp 0 1) (cp - 0) (by rw [eb]; exact fsx_pieces) (f3.mono lr))) ?_
            rintro _ g36 _ le37 ⟨_, rfl, A35_s_pieces, c35_s_pieces, A35_0_data, c35_0_data, rfl, rfl, f35_s_pieces, f35_0_data⟩
            have fp := fp.mono le37.r
            have fin_ := fin_.mono le37.r
            have f3 := f3.mono le37.r
            have f6 := f6.mono le37.r
            have f9_0_pieces := f9_0_pieces.mono le37.b
            have h12_0_parts := h12_0_parts.mono le37.b
            have h12_0_sets := h12_0_sets.mono le37.b
            have f15_0 := f15_0.mono le37.b
            have fsx_pieces := fsx_pieces.mono le37.b
            have hcx_parts := hcx_parts.mono le37.b
            have hcx_sets := hcx_sets.mono le37.b
            have hcy_parts := hcy_parts.mono le37.b
            have hcy_sets := hcy_sets.mono le37.b
            have f22_0_snapshot := f22_0_snapshot.mono le37.b
            have f22_0_sets := f22_0_sets.mono le37.b
            have L0 := L0.trans le37
            have LHL0 := LHL0.trans le37
            refine wpq_own [some ⟨b25, 90, [Value.int .i64 ((jobS cy).1.base), Value.slice A22_0_snapshot ((jobS cy).1.snapshot).length c22_0_snapshot, Value.slice A22_0_sets ((jobS cy).1.sets).length c22_0_sets]⟩, some ⟨b12_0, 114, [Value.int .i64 (cy.base), Value.int .i64 (cy.count), Value.slice Acy_parts (cy.parts).length ccy_parts, Value.slice Acy_sets (cy.sets).length ccy_sets]⟩, kcy_parts, kcy_sets, some ⟨b9_0, 107, [Value.slice A35_s_pieces ((serveS sx (wantS cy) ((((landK .i64 base 1099511627775) + 1) + (i : Int)) : Int) ((cutS p 3000) : List UInt8)).1.pieces).length c35_s_pieces]⟩] (by kernel_rfl) ?_
            have nf35_s_pieces := f35_s_pieces.len
            have nf35_0_data := f35_0_data.len
            refine wpr_val 9 71 (.move (.tmp 79)) 58 (Value.tuple #[Value.agg #[Value.int .i64 ((serveS sx (wantS cy) ((((landK .i64 base 1099511627775) + 1) + (i : Int)) : Int) ((cutS p 3000) : List UInt8)).2.1.base), Value.int .i64 ((serveS sx (wantS cy) ((((landK .i64 base 1099511627775) + 1) + (i : Int)) : Int) ((cutS p 3000) : List UInt8)).2.1.index), Value.int .i64 ((serveS sx (wantS cy) ((((landK .i64 base 1099511627775) + 1) + (i : Int)) : Int) ((cutS p 3000) : List UInt8)).2.1.count), Value.slice A35_0_data ((serveS sx (wantS cy) ((((landK .i64 base 1099511627775) + 1) + (i : Int)) : Int) ((cutS p 3000) : List UInt8)).2.1.data).length c35_0_data], Value.int .i64 ((serveS sx (wantS cy) ((((landK .i64 base 1099511627775) + 1) + (i : Int)) : Int) ((cutS p 3000) : List UInt8)).2.2)]) (Runs.plain (by kernel_rfl)) (by kernel_rfl) (y_move (by kernel_rfl)) ?_
            refine wpr_val 10 80 (.extract (.tmp 71) 0) 37 (Value.agg #[Value.int .i64 ((serveS sx (wantS cy) ((((landK .i64 base 1099511627775) + 1) + (i : Int)) : Int) ((cutS p 3000) : List UInt8)).2.1.base), Value.int .i64 ((serveS sx (wantS cy) ((((landK .i64 base 1099511627775) + 1) + (i : Int)) : Int) ((cutS p 3000) : List UInt8)).2.1.index), Value.int .i64 ((serveS sx (wantS cy) ((((landK .i64 base 1099511627775) + 1) + (i : Int)) : Int) ((cutS p 3000) : List UInt8)).2.1.count), Value.slice A35_0_data ((serveS sx (wantS cy) ((((landK .i64 base 1099511627775) + 1) + (i : Int)) : Int) ((cutS p 3000) : List UInt8)).2.1.data).length c35_0_data]) (Runs.plain (by kernel_rfl)) (by kernel_rfl) (y_pure (by kernel_rfl) (fun _ => by kernel_rfl)) ?_
            refine wpr_val 11 81 (.extract (.tmp 71) 1) 27 (Value.int .i64 ((serveS sx (wantS cy) ((((landK .i64 base 1099511627775) + 1) + (i : Int)) : Int) ((cutS p 3000) : List UInt8)).2.2)) (Runs.plain (by kernel_rfl)) (by kernel_rfl) (y_pure (by kernel_rfl) (fun _ => by kernel_rfl)) ?_
            refine wpr_eff 12 15 (.alloc 37) 0 (Runs.plain (by kernel_rfl)) (by kernel_rfl) (e_alloc (cs := [Value.int .i64 (0), Value.int .i64 (0), Value.int .i64 (0), Value.slice none 0 0]) (by kernel_rfl)) ?_
            rintro _ _ _ - ⟨b38, rfl, rfl, rfl⟩
            refine wpr_do 13 (.store 37 (.tmp 15) (.tmp 80)) 0 (Runs.plain (by kernel_rfl)) (by kernel_rfl) (q_store b38 0 0 (Value.agg #[Value.int .i64 ((serveS sx (wantS cy) ((((landK .i64 base 1099511627775) + 1) + (i : Int)) : Int) ((cutS p 3000) : List UInt8)).2.1.base), Value.int .i64 ((serveS sx (wantS cy) ((((landK .i64 base 1099511627775) + 1) + (i : Int)) : Int) ((cutS p 3000) : List UInt8)).2.1.index), Value.int .i64 ((serveS sx (wantS cy) ((((landK .i64 base 1099511627775) + 1) + (i : Int)) : Int) ((cutS p 3000) : List UInt8)).2.1.count), Value.slice A35_0_data ((serveS sx (wantS cy) ((((landK .i64 base 1099511627775) + 1) + (i : Int)) : Int) ((cutS p 3000) : List UInt8)).2.1.data).length c35_0_data]) [Value.int .i64 ((serveS sx (wantS cy) ((((landK .i64 base 1099511627775) + 1) + (i : Int)) : Int) ((cutS p 3000) : List UInt8)).2.1.base), Value.int .i64 ((serveS sx (wantS cy) ((((landK .i64 base 1099511627775) + 1) + (i : Int)) : Int) ((cutS p 3000) : List UInt8)).2.1.index), Value.int .i64 ((serveS sx (wantS cy) ((((landK .i64 base 1099511627775) + 1) + (i : Int)) : Int) ((cutS p 3000) : List UInt8)).2.1.count), Value.slice A35_0_data ((serveS sx (wantS cy) ((((landK .i64 base 1099511627775) + 1) + (i : Int)) : Int) ((cutS p 3000) : List UInt8)).2.1.data).length c35_0_data] 37 [Value.int .i64 (0), Value.int .i64 (0), Value.int .i64 (0), Value.slice none 0 0] [Value.int .i64 ((serveS sx (wantS cy) ((((landK .i64 base 1099511627775) + 1) + (i : Int)) : Int) ((cutS p 3000) : List UInt8)).2.1.base), Value.int .i64 ((serveS sx (wantS cy) ((((landK .i64 base 1099511627775) + 1) + (i : Int)) : Int) ((cutS p 3000) : List UInt8)).2.1.index), Value.int .i64 ((serveS sx (wantS cy) ((((landK .i64 base 1099511627775) + 1) + (i : Int)) : Int) ((cutS p 3000) : List UInt8)).2.1.count), Value.slice A35_0_data ((serveS sx (wantS cy) ((((landK .i64 base 1099511627775) + 1) + (i : Int)) : Int) ((cutS p 3000) : List UInt8)).2.1.data).length c35_0_data] (by kernel_rfl) (by kernel_rfl) (by kernel_rfl) (by kernel_rfl) (by kernel_rfl) (by kernel_rfl) (by kernel_rfl)) ?_
            rintro _ _ _ - ⟨rfl, rfl⟩
            refine wpr_val 14 16 (.assign (.tmp 81)) 27 (Value.int .i64 ((serveS sx (wantS cy) ((((landK .i64 base 1099511627775) + 1) + (i : Int)) : Int) ((cutS p 3000) : List UInt8)).2.2)) (Runs.plain (by kernel_rfl)) (by kernel_rfl) (y_assign (by kernel_rfl)) ?_
            refine wpr_end (by kernel_rfl) ?_
            refine wpq_then ?_
            refine wpq_sub [(0, Value.int .i64 (((landK .i64 base 1099511627775) + 1))), (1, Value.slice (offA Ap cp 0 1) ((cutS p 3000)).length (cp - 0)), (7, Value.pointer (some ⟨b9_0, 0, none⟩)), (8, Value.pointer (some ⟨b12_0, 0, none⟩)), (9, Value.slice A15_0 ((packS ((cutS in_ 40) : List UInt8) (true) ([] : List UInt8) (false)).1).length c15_0), (11, Value.int .i64 ((maxI 1 (((((((cutS p 3000)).length : Nat) : Int) + 600) - 1) / 600)))), (15, Value.pointer (some ⟨b38, 0, none⟩)), (16, Value.int .i64 ((serveS sx (wantS cy) ((((landK .i64 base 1099511627775) + 1) + (i : Int)) : Int) ((cutS p 3000) : List UInt8)).2.2)), (43, Value.int .i64 ((maxI 1 (((((((cutS p 3000)).length : Nat) : Int) + 600) - 1) / 600)))), (44, Value.int .i64 ((i : Int)))] (by kernel_rfl) ?_
            refine wpc_seq (x := F9_73) (y := F9_74) (by kernel_rfl) ?_
            refine wpc_seq (x := F9_75) (y := F9_76) (by kernel_rfl) ?_
            refine wpc_region (ops := R9_75) (id := 19) (by kernel_rfl) ?_
            refine wpr_val 1 82 (.move (.tmp 16)) 27 (Value.int .i64 ((serveS sx (wantS cy) ((((landK .i64 base 1099511627775) + 1) + (i : Int)) : Int) ((cutS p 3000) : List UInt8)).2.2)) (Runs.plain (by kernel_rfl)) (by kernel_rfl) (y_move (by kernel_rfl)) ?_
            refine wpr_val 2 83 (.binOp .neq 27 (.tmp 82) (.const (Value.int .i64 (0))) 27) 4 (Value.bool (((serveS sx (wantS cy) ((((landK .i64 base 1099511627775) + 1) + (i : Int)) : Int) ((cutS p 3000) : List UInt8)).2.2 != 0))) (Runs.plain (by kernel_rfl)) (by kernel_rfl) (y_pure (by kernel_rfl) (fun _ => by kernel_rfl)) ?_
            refine wpr_end (by kernel_rfl) ?_
            refine wpq_then ?_
            -- condition 4
            refine wpc_cond (x := F9_78) (y := F9_79) (o := (.tmp 83)) (b := ((serveS sx (wantS cy) ((((landK .i64 base 1099511627775) + 1) + (i : Int)) : Int) ((cutS p 3000) : List UInt8)).2.2 != 0)) (by kernel_rfl) (by kernel_rfl) (fun h4 => ?_) (fun h4 => ?_)
            · have h4p : ¬ ((serveS sx (wantS cy) ((((landK .i64 base 1099511627775) + 1) + (i : Int)) : Int) ((cutS p 3000) : List UInt8)).2.2 = 0) := ne_of_bne_ h4
              rw [w_serve (by omega) hW hM (by omega)] at h4; simp at h4
            · have h4p : (serveS sx (wantS cy) ((((landK .i64 base 1099511627775) + 1) + (i : Int)) : Int) ((cutS p 3000) : List UInt8)).2.2 = 0 := eq_of_bne_false_ h4
              refine wpc_skip (by kernel_rfl) ?_
              refine wpq_then ?_
              refine wpc_region (ops := R9_74) (id := 21) (by kernel_rfl) ?_
              refine wpr_val 1 84 (.move (.tmp 8)) 72 (Value.pointer (some ⟨b12_0, 0, none⟩)) (Runs.plain (by kernel_rfl)) (by kernel_rfl) (y_move (by kernel_rfl)) ?_
              refine wpr_val 2 85 (.load 37 (.tmp 15)) 37 (Value.agg #[Value.int .i64 ((serveS sx (wantS cy) ((((landK .i64 base 1099511627775) + 1) + (i : Int)) : Int) ((cutS p 3000) : List UInt8)).2.1.base), Value.int .i64 ((serveS sx (wantS cy) ((((landK .i64 base 1099511627775) + 1) + (i : Int)) : Int) ((cutS p 3000) : List UInt8)).2.1.index), Value.int .i64 ((serveS sx (wantS cy) ((((landK .i64 base 1099511627775) + 1) + (i : Int)) : Int) ((cutS p 3000) : List UInt8)).2.1.count), Value.slice A35_0_data ((serveS sx (wantS cy) ((((landK .i64 base 1099511627775) + 1) + (i : Int)) : Int) ((cutS p 3000) : List UInt8)).2.1.data).length c35_0_data]) (Runs.plain (by kernel_rfl)) (by kernel_rfl) (q_loadA b38 0 0 [Value.int .i64 ((serveS sx (wantS cy) ((((landK .i64 base 1099511627775) + 1) + (i : Int)) : Int) ((cutS p 3000) : List UInt8)).2.1.base), Value.int .i64 ((serveS sx (wantS cy) ((((landK .i64 base 1099511627775) + 1) + (i : Int)) : Int) ((cutS p 3000) : List UInt8)).2.1.index), Value.int .i64 ((serveS sx (wantS cy) ((((landK .i64 base 1099511627775) + 1) + (i : Int)) : Int) ((cutS p 3000) : List UInt8)).2.1.count), Value.slice A35_0_data ((serveS sx (wantS cy) ((((landK .i64 base 1099511627775) + 1) + (i : Int)) : Int) ((cutS p 3000) : List UInt8)).2.1.data).length c35_0_data] (by kernel_rfl) (by kernel_rfl) (by kernel_rfl)) ?_
              refine wpr_eff 3 86 (.call { callee := .value (.func 29), args := #[(.tmp 84), (.tmp 85)], argTypes := #[72, 37] }) 0 (Runs.plain (by kernel_rfl)) (by kernel_rfl) (e_callM (sel := [some ⟨b12_0, 114, [Value.int .i64 (cy.base), Value.int .i64 (cy.count), Value.slice Acy_parts (cy.parts).length ccy_parts, Value.slice Acy_sets (cy.sets).length ccy_sets]⟩, kcy_parts, kcy_sets]) [Value.pointer (some ⟨b12_0, 0, none⟩), Value.agg #[Value.int .i64 ((serveS sx (wantS cy) ((((landK .i64 base 1099511627775) + 1) + (i : Int)) : Int) ((cutS p 3000) : List UInt8)).2.1.base), Value.int .i64 ((serveS sx (wantS cy) ((((landK .i64 base 1099511627775) + 1) + (i : Int)) : Int) ((cutS p 3000) : List UInt8)).2.1.index), Value.int .i64 ((serveS sx (wantS cy) ((((landK .i64 base 1099511627775) + 1) + (i : Int)) : Int) ((cutS p 3000) : List UInt8)).2.1.count), Value.slice A35_0_data ((serveS sx (wantS cy) ((((landK .i64 base 1099511627775) + 1) + (i : Int)) : Int) ((cutS p 3000) : List UInt8)).2.1.data).length c35_0_data]] [false, false, true, true, true] (by kernel_rfl) (by kernel_rfl) (by kernel_rfl) (fun g' lr eb ln => c29 g' b12_0 cy Acy_parts ccy_parts kcy_parts Acy_sets ccy_sets kcy_sets (serveS sx (wantS cy) ((((landK .i64 base 1099511627775) + 1) + (i : Int)) : Int) ((cutS p 3000) : List UInt8)).2.1 A35_0_data c35_0_data (by rw [eb]; exact hcy_parts) (by rw [eb]; exact hcy_sets) ((f35_0_data.mono g36.br).mono lr) (w_seM hM (by omega) (by omega)).2)) ?_
              rintro _ g40 _ le41 ⟨_, rfl, A39_c_parts, c39_c_parts, k39_c_parts, A39_c_sets, c39_c_sets, k39_c_sets, rfl, rfl, h39_c_parts, h39_c_sets⟩
              have fp := fp.mono le41.r
              have fin_ := fin_.mono le41.r
              have f3 := f3.mono le41.r
              have f6 := f6.mono le41.r
              have f9_0_pieces := f9_0_pieces.mono le41.b
              have h12_0_parts := h12_0_parts.mono le41.b
              have h12_0_sets := h12_0_sets.mono le41.b
              have f15_0 := f15_0.mono le41.b
              have fsx_pieces := fsx_pieces.mono le41.b
              have hcx_parts := hcx_parts.mono le41.b
              have hcx_sets := hcx_sets.mono le41.b
              have hcy_parts := hcy_parts.mono le41.b
              have hcy_sets := hcy_sets.mono le41.b
              have f22_0_snapshot := f22_0_snapshot.mono le41.b
              have f22_0_sets := f22_0_sets.mono le41.b
              have f35_s_pieces := f35_s_pieces.mono le41.b
              have f35_0_data := f35_0_data.mono le41.b
              have L0 := L0.trans le41
              have LHL0 := LHL0.trans le41
              refine wpq_own [some ⟨b38, 37, [Value.int .i64 ((serveS sx (wantS cy) ((((landK .i64 base 1099511627775) + 1) + (i : Int)) : Int) ((cutS p 3000) : List UInt8)).2.1.base), Value.int .i64 ((serveS sx (wantS cy) ((((landK .i64 base 1099511627775) + 1) + (i : Int)) : Int) ((cutS p 3000) : List UInt8)).2.1.index), Value.int .i64 ((serveS sx (wantS cy) ((((landK .i64 base 1099511627775) + 1) + (i : Int)) : Int) ((cutS p 3000) : List UInt8)).2.1.count), Value.slice A35_0_data ((serveS sx (wantS cy) ((((landK .i64 base 1099511627775) + 1) + (i : Int)) : Int) ((cutS p 3000) : List UInt8)).2.1.data).length c35_0_data]⟩, some ⟨b25, 90, [Value.int .i64 ((jobS cy).1.base), Value.slice A22_0_snapshot ((jobS cy).1.snapshot).length c22_0_snapshot, Value.slice A22_0_sets ((jobS cy).1.sets).length c22_0_sets]⟩, some ⟨b12_0, 114, [Value.int .i64 ((takeS cy (serveS sx (wantS cy) ((((landK .i64 base 1099511627775) + 1) + (i : Int)) : Int) ((cutS p 3000) : List UInt8)).2.1).base), Value.int .i64 ((takeS cy (serveS sx (wantS cy) ((((landK .i64 base 1099511627775) + 1) + (i : Int)) : Int) ((cutS p 3000) : List UInt8)).2.1).count), Value.slice A39_c_parts ((takeS cy (serveS sx (wantS cy) ((((landK .i64 base 1099511627775) + 1) + (i : Int)) : Int) ((cutS p 3000) : List UInt8)).2.1).parts).length c39_c_parts, Value.slice A39_c_sets ((takeS cy (serveS sx (wantS cy) ((((landK .i64 base 1099511627775) + 1) + (i : Int)) : Int) ((cutS p 3000) : List UInt8)).2.1).sets).length c39_c_sets]⟩, k39_c_parts, k39_c_sets, some ⟨b9_0, 107, [Value.slice A35_s_pieces ((serveS sx (wantS cy) ((((landK .i64 base 1099511627775) + 1) + (i : Int)) : Int) ((cutS p 3000) : List UInt8)).1.pieces).length c35_s_pieces]⟩] (by kernel_rfl) ?_
              have nh39_c_parts := h39_c_parts.len
              have nh39_c_sets := h39_c_sets.len
              refine wpr_end (by kernel_rfl) ?_
              refine wpq_blockN ?_
              refine wpq_then ?_
              refine wpq_sub [(0, Value.int .i64 (((landK .i64 base 1099511627775) + 1))), (1, Value.slice (offA Ap cp 0 1) ((cutS p 3000)).length (cp - 0)), (7, Value.pointer (some ⟨b9_0, 0, none⟩)), (8, Value.pointer (some ⟨b12_0, 0, none⟩)), (9, Value.slice A15_0 ((packS ((cutS in_ 40) : List UInt8) (true) ([] : List UInt8) (false)).1).length c15_0), (11, Value.int .i64 ((maxI 1 (((((((cutS p 3000)).length : Nat) : Int) + 600) - 1) / 600)))), (43, Value.int .i64 ((maxI 1 (((((((cutS p 3000)).length : Nat) : Int) + 600) - 1) / 600)))), (44, Value.int .i64 ((i : Int)))] (by kernel_rfl) ?_
              refine wpc_region (ops := R9_48) (id := 22) (by kernel_rfl) ?_
              refine wpr_val 1 87 (.binOp .add 3 (.tmp 44) (.const (Value.int .i64 (1))) 3) 3 (Value.int .i64 (((i : Int) + 1))) (Runs.plain (by kernel_rfl)) (by kernel_rfl) (y_add (by kernel_rfl) (by kernel_rfl) (wr64 (by omega))) ?_
              refine wpr_val 2 44 (.move (.tmp 87)) 3 (Value.int .i64 (((i : Int) + 1))) (Runs.plain (by kernel_rfl)) (by kernel_rfl) (y_move (by kernel_rfl)) ?_
              refine wpr_end (by kernel_rfl) ?_
              refine wpq_thenN ?_
              refine wpq_sel [some 2, some 3, some 4, some 5] [some ⟨b12_0, 114, [Value.int .i64 ((takeS cy (serveS sx (wantS cy) ((((landK .i64 base 1099511627775) + 1) + (i : Int)) : Int) ((cutS p 3000) : List UInt8)).2.1).base), Value.int .i64 ((takeS cy (serveS sx (wantS cy) ((((landK .i64 base 1099511627775) + 1) + (i : Int)) : Int) ((cutS p 3000) : List UInt8)).2.1).count), Value.slice A39_c_parts ((takeS cy (serveS sx (wantS cy) ((((landK .i64 base 1099511627775) + 1) + (i : Int)) : Int) ((cutS p 3000) : List UInt8)).2.1).parts).length c39_c_parts, Value.slice A39_c_sets ((takeS cy (serveS sx (wantS cy) ((((landK .i64 base 1099511627775) + 1) + (i : Int)) : Int) ((cutS p 3000) : List UInt8)).2.1).sets).length c39_c_sets]⟩, k39_c_parts, k39_c_sets, some ⟨b9_0, 107, [Value.slice A35_s_pieces ((serveS sx (wantS cy) ((((landK .i64 base 1099511627775) + 1) + (i : Int)) : Int) ((cutS p 3000) : List UInt8)).1.pieces).length c35_s_pieces]⟩] (by kernel_rfl) (by kernel_rfl) ?_
              refine wpq_re 44 (v := Value.int .i64 (((i : Int) + 1))) (Value.int .i64 ((((i + 1) : Nat) : Int))) (by kernel_rfl) (congrArg (Value.int .i64) (by omega)) ?_
              refine wpq_sub [(0, Value.int .i64 (((landK .i64 base 1099511627775) + 1))), (1, Value.slice (offA Ap cp 0 1) ((cutS p 3000)).length (cp - 0)), (7, Value.pointer (some ⟨b9_0, 0, none⟩)), (8, Value.pointer (some ⟨b12_0, 0, none⟩)), (9, Value.slice A15_0 ((packS ((cutS in_ 40) : List UInt8) (true) ([] : List UInt8) (false)).1).length c15_0), (11, Value.int .i64 ((maxI 1 (((((((cutS p 3000)).length : Nat) : Int) + 600) - 1) / 600)))), (43, Value.int .i64 ((maxI 1 (((((((cutS p 3000)).length : Nat) : Int) + 600) - 1) / 600)))), (44, Value.int .i64 ((((i + 1) : Nat) : Int)))] (by kernel_rfl) ?_
              exact hQL0 _ _ _ (((maxI 1 (((((((cutS p 3000)).length : Nat) : Int) + 600) - 1) / 600))).toNat - ((i + 1))) LHL0 (by omega) ⟨(i + 1), (serveS sx (wantS cy) ((((landK .i64 base 1099511627775) + 1) + (i : Int)) : Int) ((cutS p 3000) : List UInt8)).1, A35_s_pieces, c35_s_pieces, (takeS cy (serveS sx (wantS cy) ((((landK .i64 base 1099511627775) + 1) + (i : Int)) : Int) ((cutS p 3000) : List UInt8)).2.1), A39_c_parts, c39_c_parts, k39_c_parts, A39_c_sets, c39_c_sets, k39_c_sets, rfl, rfl, rfl, f35_s_pieces, h39_c_parts, h39_c_sets, by omega, (w_take (by omega) hW hM (by omega))⟩
      · have LHC2 := Gh.le.refl g18
        refine wpc_cond (x := F9_58) (y := F9_59) (o := (.tmp 48)) (b := decide ((i : Int) > 0)) (by kernel_rfl) (by kernel_rfl) (fun h2 => ?_) (fun h2 => ?_)
        · have h2p := of_decide_eq_true h2
          refine wpc_region (ops := R9_58) (id := 14) (by kernel_rfl) ?_
          refine wpr_val 1 49 (.move (.tmp 8)) 72 (Value.pointer (some ⟨b12_0, 0, none⟩)) (Runs.plain (by kernel_rfl)) (by kernel_rfl) (y_move (by kernel_rfl)) ?_
          refine wpr_val 2 50 (.move (.tmp 0)) 2 (Value.int .i64 (((landK .i64 base 1099511627775) + 1))) (Runs.plain (by kernel_rfl)) (by kernel_rfl) (y_move (by kernel_rfl)) ?_
          refine wpr_val 3 51 (.move (.tmp 12)) 3 (Value.int .i64 ((i : Int))) (Runs.plain (by kernel_rfl)) (by kernel_rfl) (y_move (by kernel_rfl)) ?_
          refine wpr_val 4 52 (.binOp .add 2 (.tmp 50) (.tmp 51) 2) 2 (Value.int .i64 ((((landK .i64 base 1099511627775) + 1) + (i : Int)))) (Runs.plain (by kernel_rfl)) (by kernel_rfl) (y_add (by kernel_rfl) (by kernel_rfl) (wr64 (by omega))) ?_
          refine wpr_val 5 53 (.binOp .sub 2 (.tmp 52) (.const (Value.int .i64 (1))) 2) 2 (Value.int .i64 (((((landK .i64 base 1099511627775) + 1) + (i : Int)) - 1))) (Runs.plain (by kernel_rfl)) (by kernel_rfl) (y_sub (by kernel_rfl) (by kernel_rfl) (wr64 (by omega))) ?_
          refine wpr_val 6 54 (.move (.tmp 12)) 3 (Value.int .i64 ((i : Int))) (Runs.plain (by kernel_rfl)) (by kernel_rfl) (y_move (by kernel_rfl)) ?_
          refine wpr_val 7 55 (.move (.tmp 9)) 22 (Value.slice A15_0 ((packS ((cutS in_ 40) : List UInt8) (true) ([] : List UInt8) (false)).1).length c15_0) (Runs.plain (by kernel_rfl)) (by kernel_rfl) (y_move (by kernel_rfl)) ?_
          refine wpr_val 8 56 (.build 79 #[(0, (.tmp 53)), (1, (.tmp 54)), (3, (.tmp 55))]) 79 (Value.agg #[Value.int .i64 (((((landK .i64 base 1099511627775) + 1) + (i : Int)) - 1)), Value.int .i64 ((i : Int)), Value.bool (false), Value.slice A15_0 ((packS ((cutS in_ 40) : List UInt8) (true) ([] : List UInt8) (false)).1).length c15_0]) (Runs.plain (by kernel_rfl)) (by kernel_rfl) (y_pure (by kernel_rfl) (fun _ => by kernel_rfl)) ?_
          refine wpr_eff 9 57 (.call { callee := .value (.func 31), args := #[(.tmp 49), (.tmp 56), (.const (Value.bool (true)))], argTypes := #[72, 79, 4] }) 0 (Runs.plain (by kernel_rfl)) (by kernel_rfl) (e_callM (sel := [some ⟨b12_0, 114, [Value.int .i64 (cx.base), Value.int .i64 (cx.count), Value.slice Acx_parts (cx.parts).length ccx_parts, Value.slice Acx_sets (cx.sets).length ccx_sets]⟩, kcx_parts, kcx_sets]) [Value.pointer (some ⟨b12_0, 0, none⟩), Value.agg #[Value.int .i64 (((((landK .i64 base 1099511627775) + 1) + (i : Int)) - 1)), Value.int .i64 ((i : Int)), Value.bool (false), Value.slice A15_0 ((packS ((cutS in_ 40) : List UInt8) (true) ([] : List UInt8) (false)).1).length c15_0], Value.bool (true)] [true, true, true] (by kernel_rfl) (by kernel_rfl) (by kernel_rfl) (fun g' lr eb ln => c31 g' b12_0 cx Acx_parts ccx_parts kcx_parts Acx_sets ccx_sets kcx_sets (⟨(((((landK .i64 base 1099511627775) + 1) + (i : Int)) - 1) : Int), ((i : Int) : Int), (false), ((packS ((cutS in_ 40) : List UInt8) (true) ([] : List UInt8) (false)).1 : List UInt8)⟩ : Sett) A15_0 c15_0 (true) (by rw [eb]; exact hcx_parts) (by rw [eb]; exact hcx_sets) ((f15_0.mono g18.br).mono lr) (w_seW hW (by omega) (by omega)).1)) ?_
          rintro _ g43 _ le44 ⟨_, rfl, A42_c_parts, c42_c_parts, k42_c_parts, A42_c_sets, c42_c_sets, k42_c_sets, rfl, rfl, h42_c_parts, h42_c_sets⟩
          have fp := fp.mono le44.r
          have fin_ := fin_.mono le44.r
          have f3 := f3.mono le44.r
          have f6 := f6.mono le44.r
          have f9_0_pieces := f9_0_pieces.mono le44.b
          have h12_0_parts := h12_0_parts.mono le44.b
          have h12_0_sets := h12_0_sets.mono le44.b
          have f15_0 := f15_0.mono le44.b
          have fsx_pieces := fsx_pieces.mono le44.b
          have hcx_parts := hcx_parts.mono le44.b
          have hcx_sets := hcx_sets.mono le44.b
          have L0 := L0.trans le44
          have LHL0 := LHL0.trans le44
          have LHC2 := LHC2.trans le44
          refine wpq_own [some ⟨b12_0, 114, [Value.int .i64 ((noteS cx (⟨(((((landK .i64 base 1099511627775) + 1) + (i : Int)) - 1) : Int), ((i : Int) : Int), (false), ((packS ((cutS in_ 40) : List UInt8) (true) ([] : List UInt8) (false)).1 : List UInt8)⟩ : Sett) (true)).base), Value.int .i64 ((noteS cx (⟨(((((landK .i64 base 1099511627775) + 1) + (i : Int)) - 1) : Int), ((i : Int) : Int), (false), ((packS ((cutS in_ 40) : List UInt8) (true) ([] : List UInt8) (false)).1 : List UInt8)⟩ : Sett) (true)).count), Value.slice A42_c_parts ((noteS cx (⟨(((((landK .i64 base 1099511627775) + 1) + (i : Int)) - 1) : Int), ((i : Int) : Int), (false), ((packS ((cutS in_ 40) : List UInt8) (true) ([] : List UInt8) (false)).1 : List UInt8)⟩ : Sett) (true)).parts).length c42_c_parts, Value.slice A42_c_sets ((noteS cx (⟨(((((landK .i64 base 1099511627775) + 1) + (i : Int)) - 1) : Int), ((i : Int) : Int), (false), ((packS ((cutS in_ 40) : List UInt8) (true) ([] : List UInt8) (false)).1 : List UInt8)⟩ : Sett) (true)).sets).length c42_c_sets]⟩, k42_c_parts, k42_c_sets, some ⟨b9_0, 107, [Value.slice Asx_pieces (sx.pieces).length csx_pieces]⟩] (by kernel_rfl) ?_
          have nh42_c_parts := h42_c_parts.len
          have nh42_c_sets := h42_c_sets.len
          refine wpr_end (by kernel_rfl) ?_
          refine wpq_sub [(0, Value.int .i64 (((landK .i64 base 1099511627775) + 1))), (1, Value.slice (offA Ap cp 0 1) ((cutS p 3000)).length (cp - 0)), (7, Value.pointer (some ⟨b9_0, 0, none⟩)), (8, Value.pointer (some ⟨b12_0, 0, none⟩)), (9, Value.slice A15_0 ((packS ((cutS in_ 40) : List UInt8) (true) ([] : List UInt8) (false)).1).length c15_0), (11, Value.int .i64 ((maxI 1 (((((((cutS p 3000)).length : Nat) : Int) + 600) - 1) / 600)))), (12, Value.int .i64 ((i : Int))), (43, Value.int .i64 ((maxI 1 (((((((cutS p 3000)).length : Nat) : Int) + 600) - 1) / 600)))), (44, Value.int .i64 ((i : Int)))] (by kernel_rfl) ?_
          exact hQC2 _ _ _ LHC2 ⟨(noteS cx (⟨(((((landK .i64 base 1099511627775) + 1) + (i : Int)) - 1) : Int), ((i : Int) : Int), (false), ((packS ((cutS in_ 40) : List UInt8) (true) ([] : List UInt8) (false)).1 : List UInt8)⟩ : Sett) (true)), A42_c_parts, c42_c_parts, k42_c_parts, A42_c_sets, c42_c_sets, k42_c_sets, rfl, rfl, h42_c_parts, h42_c_sets, (by first | exact w_note (by omega) hW (by omega) | exact w_skip hW (by omega))⟩
        · have h2p := of_decide_eq_false h2
          refine wpc_skip (by kernel_rfl) ?_
          refine wpq_sub [(0, Value.int .i64 (((landK .i64 base 1099511627775) + 1))), (1, Value.slice (offA Ap cp 0 1) ((cutS p 3000)).length (cp - 0)), (7, Value.pointer (some ⟨b9_0, 0, none⟩)), (8, Value.pointer (some ⟨b12_0, 0, none⟩)), (9, Value.slice A15_0 ((packS ((cutS in_ 40) : List UInt8) (true) ([] : List UInt8) (false)).1).length c15_0), (11, Value.int .i64 ((maxI 1 (((((((cutS p 3000)).length : Nat) : Int) + 600) - 1) / 600)))), (12, Value.int .i64 ((i : Int))), (43, Value.int .i64 ((maxI 1 (((((((cutS p 3000)).length : Nat) : Int) + 600) - 1) / 600)))), (44, Value.int .i64 ((i : Int)))] (by kernel_rfl) ?_
          exact hQC2 _ _ _ LHC2 ⟨cx, Acx_parts, ccx_parts, kcx_parts, Acx_sets, ccx_sets, kcx_sets, rfl, rfl, hcx_parts, hcx_sets, (by first | exact w_note (by omega) hW (by omega) | exact w_skip hW (by omega))⟩
    · have h1p := of_decide_eq_false h1
      refine wpc_exit (id := 0) (by kernel_rfl) ?_
      refine wpq_thenX ?_
      refine wpq_thenX ?_
      refine wpq_blockE ?_
      refine wpq_then ?_
      refine wpq_sub [(0, Value.int .i64 (((landK .i64 base 1099511627775) + 1))), (1, Value.slice (offA Ap cp 0 1) ((cutS p 3000)).length (cp - 0)), (8, Value.pointer (some ⟨b12_0, 0, none⟩)), (11, Value.int .i64 ((maxI 1 (((((((cutS p 3000)).length : Nat) : Int) + 600) - 1) / 600))))] (by kernel_rfl) ?_
      refine wpc_seq (x := F9_83) (y := F9_84) (by kernel_rfl) ?_
      refine wpc_region (ops := R9_83) (id := 23) (by kernel_rfl) ?_
      refine wpr_val 1 89 (.move (.tmp 8)) 72 (Value.pointer (some ⟨b12_0, 0, none⟩)) (Runs.plain (by kernel_rfl)) (by kernel_rfl) (y_move (by kernel_rfl)) ?_
      refine wpr_eff 2 90 (.call { callee := .value (.func 35), args := #[(.tmp 89)], argTypes := #[72] }) 91 (Runs.plain (by kernel_rfl)) (by kernel_rfl) (e_call [Value.pointer (some ⟨b12_0, 0, none⟩)] (by kernel_rfl) (by kernel_rfl) (fun g' lr eb ln => c35 g' ⟨b12_0, 0, none⟩ cx Acx_parts ccx_parts Acx_sets ccx_sets (cells_lent (k := ⟨b12_0, 114, [Value.int .i64 (cx.base), Value.int .i64 (cx.count), Value.slice Acx_parts (cx.parts).length ccx_parts, Value.slice Acx_sets (cx.sets).length ccx_sets]⟩) 0 [Value.int .i64 (cx.base), Value.int .i64 (cx.count), Value.slice Acx_parts (cx.parts).length ccx_parts, Value.slice Acx_sets (cx.sets).length ccx_sets] (ln _ (lent (k := ⟨b12_0, 114, [Value.int .i64 (cx.base), Value.int .i64 (cx.count), Value.slice Acx_parts (cx.parts).length ccx_parts, Value.slice Acx_sets (cx.sets).length ccx_sets]⟩) 0 (by kernel_rfl))) (by kernel_rfl)) (arrm_of_buf hcx_parts eb (lentk 1 (by kernel_rfl) ln)) (arrm_of_buf hcx_sets eb (lentk 2 (by kernel_rfl) ln)) (by first | omega | exact w_flM hM (by omega) | exact w_flW hW (by omega)) (by first | exact (w_seM hM (by omega) (by omega)).1 | exact (w_seW hW (by omega) (by omega)).1 | simp))) ?_
      rintro _ g46 _ le47 ⟨rfl, A45_0_snapshot, c45_0_snapshot, A45_0_sets, c45_0_sets, rfl, f45_0_snapshot, f45_0_sets⟩
      have fp := fp.mono le47.r
      have fin_ := fin_.mono le47.r
      have f3 := f3.mono le47.r
      have f6 := f6.mono le47.r
      have f9_0_pieces := f9_0_pieces.mono le47.b
      have h12_0_parts := h12_0_parts.mono le47.b
      have h12_0_sets := h12_0_sets.mono le47.b
      have f15_0 := f15_0.mono le47.b
      have fsx_pieces := fsx_pieces.mono le47.b
      have hcx_parts := hcx_parts.mono le47.b
      have hcx_sets := hcx_sets.mono le47.b
      have L0 := L0.trans le47
      have LHL0 := LHL0.trans le47
      have nf45_0_snapshot := f45_0_snapshot.len
      have nf45_0_sets := f45_0_sets.len
      refine wpr_val 3 88 (.move (.tmp 90)) 91 (Value.tuple #[Value.agg #[Value.int .i64 ((jobS cx).1.base), Value.slice A45_0_snapshot ((jobS cx).1.snapshot).length c45_0_snapshot, Value.slice A45_0_sets ((jobS cx).1.sets).length c45_0_sets], Value.bool ((jobS cx).2)]) (Runs.plain (by kernel_rfl)) (by kernel_rfl) (y_move (by kernel_rfl)) ?_
      refine wpr_val 4 91 (.extract (.tmp 88) 0) 90 (Value.agg #[Value.int .i64 ((jobS cx).1.base), Value.slice A45_0_snapshot ((jobS cx).1.snapshot).length c45_0_snapshot, Value.slice A45_0_sets ((jobS cx).1.sets).length c45_0_sets]) (Runs.plain (by kernel_rfl)) (by kernel_rfl) (y_pure (by kernel_rfl) (fun _ => by kernel_rfl)) ?_
      refine wpr_val 5 92 (.extract (.tmp 88) 1) 4 (Value.bool ((jobS cx).2)) (Runs.plain (by kernel_rfl)) (by kernel_rfl) (y_pure (by kernel_rfl) (fun _ => by kernel_rfl)) ?_
      refine wpr_eff 6 17 (.alloc 90) 0 (Runs.plain (by kernel_rfl)) (by kernel_rfl) (e_alloc (cs := [Value.int .i64 (0), Value.slice none 0 0, Value.slice none 0 0]) (by kernel_rfl)) ?_
      rintro _ _ _ - ⟨b48, rfl, rfl, rfl⟩
      refine wpr_do 7 (.store 90 (.tmp 17) (.tmp 91)) 0 (Runs.plain (by kernel_rfl)) (by kernel_rfl) (q_store b48 0 0 (Value.agg #[Value.int .i64 ((jobS cx).1.base), Value.slice A45_0_snapshot ((jobS cx).1.snapshot).length c45_0_snapshot, Value.slice A45_0_sets ((jobS cx).1.sets).length c45_0_sets]) [Value.int .i64 ((jobS cx).1.base), Value.slice A45_0_snapshot ((jobS cx).1.snapshot).length c45_0_snapshot, Value.slice A45_0_sets ((jobS cx).1.sets).length c45_0_sets] 90 [Value.int .i64 (0), Value.slice none 0 0, Value.slice none 0 0] [Value.int .i64 ((jobS cx).1.base), Value.slice A45_0_snapshot ((jobS cx).1.snapshot).length c45_0_snapshot, Value.slice A45_0_sets ((jobS cx).1.sets).length c45_0_sets] (by kernel_rfl) (by kernel_rfl) (by kernel_rfl) (by kernel_rfl) (by kernel_rfl) (by kernel_rfl) (by kernel_rfl)) ?_
      rintro _ _ _ - ⟨rfl, rfl⟩
      refine wpr_val 8 18 (.assign (.tmp 92)) 4 (Value.bool ((jobS cx).2)) (Runs.plain (by kernel_rfl)) (by kernel_rfl) (y_assign (by kernel_rfl)) ?_
      refine wpr_end (by kernel_rfl) ?_
      refine wpq_then ?_
      refine wpq_sub [(0, Value.int .i64 (((landK .i64 base 1099511627775) + 1))), (1, Value.slice (offA Ap cp 0 1) ((cutS p 3000)).length (cp - 0)), (11, Value.int .i64 ((maxI 1 (((((((cutS p 3000)).length : Nat) : Int) + 600) - 1) / 600)))), (17, Value.pointer (some ⟨b48, 0, none⟩)), (18, Value.bool ((jobS cx).2))] (by kernel_rfl) ?_
      refine wpc_seq (x := F9_86) (y := F9_87) (by kernel_rfl) ?_
      refine wpc_region (ops := R9_86) (id := 24) (by kernel_rfl) ?_
      refine wpr_val 1 93 (.move (.tmp 18)) 4 (Value.bool ((jobS cx).2)) (Runs.plain (by kernel_rfl)) (by kernel_rfl) (y_move (by kernel_rfl)) ?_
      refine wpr_val 2 94 (.move (.tmp 93)) 4 (Value.bool ((jobS cx).2)) (Runs.plain (by kernel_rfl)) (by kernel_rfl) (y_move (by kernel_rfl)) ?_
      refine wpr_grp 7 [(1, Value.slice (offA Ap cp 0 1) ((cutS p 3000)).length (cp - 0)), (11, Value.int .i64 ((maxI 1 (((((((cutS p 3000)).length : Nat) : Int) + 600) - 1) / 600)))), (17, Value.pointer (some ⟨b48, 0, none⟩)), (99, Value.bool (((jobS cx).2 && ((jobS cx).1.base == ((landK .i64 base 1099511627775) + 1)))))] (fun hk1 => ?_) ?_
      · refine wpq_split 94 (b := (jobS cx).2) (by kernel_rfl) (fun q49 => ?_) (fun q49 => ?_)
        · refine wpr_val 3 95 (.fieldAddr 90 (.tmp 17) 0) 0 (Value.pointer (some ⟨b48, 0, none⟩)) (Runs.guarded (j := 1) (t := 94) (b := true) (by kernel_rfl) (by kernel_rfl) (by kernel_rfl)) (by kernel_rfl) (y_pure (by kernel_rfl) (fun _ => by kernel_rfl)) ?_
          refine wpr_val 4 96 (.load 2 (.tmp 95)) 2 (Value.int .i64 ((jobS cx).1.base)) (Runs.guarded (j := 1) (t := 94) (b := true) (by kernel_rfl) (by kernel_rfl) (by kernel_rfl)) (by kernel_rfl) (q_load1 b48 0 0 (by kernel_rfl) (by kernel_rfl) (by kernel_rfl)) ?_
          refine wpr_val 5 97 (.move (.tmp 0)) 2 (Value.int .i64 (((landK .i64 base 1099511627775) + 1))) (Runs.guarded (j := 1) (t := 94) (b := true) (by kernel_rfl) (by kernel_rfl) (by kernel_rfl)) (by kernel_rfl) (y_move (by kernel_rfl)) ?_
          refine wpr_val 6 98 (.binOp .eql 2 (.tmp 96) (.tmp 97) 2) 4 (Value.bool (((jobS cx).1.base == ((landK .i64 base 1099511627775) + 1)))) (Runs.guarded (j := 1) (t := 94) (b := true) (by kernel_rfl) (by kernel_rfl) (by kernel_rfl)) (by kernel_rfl) (y_pure (by kernel_rfl) (fun _ => by kernel_rfl)) ?_
          refine wpr_val 7 99 (.pick (.tmp 94) (.tmp 98) (.const (Value.bool (false)))) 4 (Value.bool (((jobS cx).1.base == ((landK .i64 base 1099511627775) + 1)))) (Runs.plain (by kernel_rfl)) (by kernel_rfl) (y_pickT (by kernel_rfl) (by kernel_rfl)) ?_
          refine wpq_re 99 (v := Value.bool (((jobS cx).1.base == ((landK .i64 base 1099511627775) + 1)))) (Value.bool (((jobS cx).2 && ((jobS cx).1.base == ((landK .i64 base 1099511627775) + 1))))) (by kernel_rfl) (re_and1 q49) ?_
          exact wpq_sub _ (by kernel_rfl) hk1
        · refine wpr_skip 3 95 (Skips.mk' (j := 1) (t := 94) (b := true) (by kernel_rfl) (by kernel_rfl) (by kernel_rfl)) (by kernel_rfl) ?_
          refine wpr_skip 4 96 (Skips.mk' (j := 1) (t := 94) (b := true) (by kernel_rfl) (by kernel_rfl) (by kernel_rfl)) (by kernel_rfl) ?_
          refine wpr_skip 5 97 (Skips.mk' (j := 1) (t := 94) (b := true) (by kernel_rfl) (by kernel_rfl) (by kernel_rfl)) (by kernel_rfl) ?_
          refine wpr_skip 6 98 (Skips.mk' (j := 1) (t := 94) (b := true) (by kernel_rfl) (by kernel_rfl) (by kernel_rfl)) (by kernel_rfl) ?_
          refine wpr_val 7 99 (.pick (.tmp 94) (.tmp 98) (.const (Value.bool (false)))) 4 (Value.bool (false)) (Runs.plain (by kernel_rfl)) (by kernel_rfl) (y_pickF (by kernel_rfl) (by kernel_rfl)) ?_
          refine wpq_re 99 (v := Value.bool (false)) (Value.bool (((jobS cx).2 && ((jobS cx).1.base == ((landK .i64 base 1099511627775) + 1))))) (by kernel_rfl) (re_and0 q49) ?_
          exact wpq_sub _ (by kernel_rfl) hk1
      · refine wpr_val 8 100 (.move (.tmp 99)) 4 (Value.bool (((jobS cx).2 && ((jobS cx).1.base == ((landK .i64 base 1099511627775) + 1))))) (Runs.plain (by kernel_rfl)) (by kernel_rfl) (y_move (by kernel_rfl)) ?_
        refine wpr_grp 15 [(11, Value.int .i64 ((maxI 1 (((((((cutS p 3000)).length : Nat) : Int) + 600) - 1) / 600)))), (17, Value.pointer (some ⟨b48, 0, none⟩)), (107, Value.bool ((((jobS cx).2 && ((jobS cx).1.base == ((landK .i64 base 1099511627775) + 1))) && ((jobS cx).1.snapshot == (cutS p 3000)))))] (fun hk7 => ?_) ?_
        · refine wpq_split 100 (b := ((jobS cx).2 && ((jobS cx).1.base == ((landK .i64 base 1099511627775) + 1)))) (by kernel_rfl) (fun q50 => ?_) (fun q50 => ?_)
          · have q50l := (and_true_ q50).1
            have q50r := (and_true_ q50).2
            have q50rp : (jobS cx).1.base = ((landK .i64 base 1099511627775) + 1) := eq_of_beq q50r
            refine wpr_val 9 101 (.fieldAddr 90 (.tmp 17) 1) 0 (Value.pointer (some ⟨b48, 1, none⟩)) (Runs.guarded (j := 7) (t := 100) (b := true) (by kernel_rfl) (by kernel_rfl) (by kernel_rfl)) (by kernel_rfl) (y_pure (by kernel_rfl) (fun _ => by kernel_rfl)) ?_
            refine wpr_val 10 102 (.load 22 (.tmp 101)) 22 (Value.slice A45_0_snapshot ((jobS cx).1.snapshot).length c45_0_snapshot) (Runs.guarded (j := 7) (t := 100) (b := true) (by kernel_rfl) (by kernel_rfl) (by kernel_rfl)) (by kernel_rfl) (q_load1 b48 1 0 (by kernel_rfl) (by kernel_rfl) (by kernel_rfl)) ?_
            refine wpr_val 11 103 (.convert 22 9 (.tmp 102)) 9 (Value.string (mkS ((jobS cx).1.snapshot))) (Runs.guarded (j := 7) (t := 100) (b := true) (by kernel_rfl) (by kernel_rfl) (by kernel_rfl)) (by kernel_rfl) (y_str (e := 5) (by kernel_rfl) (f45_0_snapshot.mono g46.br) (by kernel_rfl) (by kernel_rfl) (by kernel_rfl)) ?_
            refine wpr_val 12 104 (.move (.tmp 1)) 22 (Value.slice (offA Ap cp 0 1) ((cutS p 3000)).length (cp - 0)) (Runs.guarded (j := 7) (t := 100) (b := true) (by kernel_rfl) (by kernel_rfl) (by kernel_rfl)) (by kernel_rfl) (y_move (by kernel_rfl)) ?_
            refine wpr_val 13 105 (.convert 22 9 (.tmp 104)) 9 (Value.string (mkS ((cutS p 3000)))) (Runs.guarded (j := 7) (t := 100) (b := true) (by kernel_rfl) (by kernel_rfl) (by kernel_rfl)) (by kernel_rfl) (y_str (e := 5) (by kernel_rfl) f3 (by kernel_rfl) (by kernel_rfl) (by kernel_rfl)) ?_
            refine wpr_val 14 106 (.binOp .eql 9 (.tmp 103) (.tmp 105) 9) 4 (Value.bool (((jobS cx).1.snapshot == (cutS p 3000)))) (Runs.guarded (j := 7) (t := 100) (b := true) (by kernel_rfl) (by kernel_rfl) (by kernel_rfl)) (by kernel_rfl) (y_eqS (by kernel_rfl) (by kernel_rfl)) ?_
            refine wpr_val 15 107 (.pick (.tmp 100) (.tmp 106) (.const (Value.bool (false)))) 4 (Value.bool (((jobS cx).1.snapshot == (cutS p 3000)))) (Runs.plain (by kernel_rfl)) (by kernel_rfl) (y_pickT (by kernel_rfl) (by kernel_rfl)) ?_
            refine wpq_re 107 (v := Value.bool (((jobS cx).1.snapshot == (cutS p 3000)))) (Value.bool ((((jobS cx).2 && ((jobS cx).1.base == ((landK .i64 base 1099511627775) + 1))) && ((jobS cx).1.snapshot == (cutS p 3000))))) (by kernel_rfl) (re_and1 q50) ?_
            exact wpq_sub _ (by kernel_rfl) hk7
          · refine wpr_skip 9 101 (Skips.mk' (j := 7) (t := 100) (b := true) (by kernel_rfl) (by kernel_rfl) (by kernel_rfl)) (by kernel_rfl) ?_
            refine wpr_skip 10 102 (Skips.mk' (j := 7) (t := 100) (b := true) (by kernel_rfl) (by kernel_rfl) (by kernel_rfl)) (by kernel_rfl) ?_
            refine wpr_skip 11 103 (Skips.mk' (j := 7) (t := 100) (b := true) (by kernel_rfl) (by kernel_rfl) (by kernel_rfl)) (by kernel_rfl) ?_
            refine wpr_skip 12 104 (Skips.mk' (j := 7) (t := 100) (b := true) (by kernel_rfl) (by kernel_rfl) (by kernel_rfl)) (by kernel_rfl) ?_
            refine wpr_skip 13 105 (Skips.mk' (j := 7) (t := 100) (b := true) (by kernel_rfl) (by kernel_rfl) (by kernel_rfl)) (by kernel_rfl) ?_
            refine wpr_skip 14 106 (Skips.mk' (j := 7) (t := 100) (b := true) (by kernel_rfl) (by kernel_rfl) (by kernel_rfl)) (by kernel_rfl) ?_
            refine wpr_val 15 107 (.pick (.tmp 100) (.tmp 106) (.const (Value.bool (false)))) 4 (Value.bool (false)) (Runs.plain (by kernel_rfl)) (by kernel_rfl) (y_pickF (by kernel_rfl) (by kernel_rfl)) ?_
            refine wpq_re 107 (v := Value.bool (false)) (Value.bool ((((jobS cx).2 && ((jobS cx).1.base == ((landK .i64 base 1099511627775) + 1))) && ((jobS cx).1.snapshot == (cutS p 3000))))) (by kernel_rfl) (re_and0 q50) ?_
            exact wpq_sub _ (by kernel_rfl) hk7
        · refine wpr_val 16 108 (.move (.tmp 107)) 4 (Value.bool ((((jobS cx).2 && ((jobS cx).1.base == ((landK .i64 base 1099511627775) + 1))) && ((jobS cx).1.snapshot == (cutS p 3000))))) (Runs.plain (by kernel_rfl)) (by kernel_rfl) (y_move (by kernel_rfl)) ?_
          refine wpr_grp 23 [(115, Value.bool (((((jobS cx).2 && ((jobS cx).1.base == ((landK .i64 base 1099511627775) + 1))) && ((jobS cx).1.snapshot == (cutS p 3000))) && (((((jobS cx).1.sets).length : Nat) : Int) == ((maxI 1 (((((((cutS p 3000)).length : Nat) : Int) + 600) - 1) / 600)) - 1)))))] (fun hk15 => ?_) ?_
          · refine wpq_split 108 (b := (((jobS cx).2 && ((jobS cx).1.base == ((landK .i64 base 1099511627775) + 1))) && ((jobS cx).1.snapshot == (cutS p 3000)))) (by kernel_rfl) (fun q51 => ?_) (fun q51 => ?_)
            · have q51l := (and_true_ q51).1
              have q51r := (and_true_ q51).2
              have q51ll := (and_true_ q51l).1
              have q51lr := (and_true_ q51l).2
              have q51lrp : (jobS cx).1.base = ((landK .i64 base 1099511627775) + 1) := eq_of_beq q51lr
              have q51rp : (jobS cx).1.snapshot = (cutS p 3000) := eq_of_beq q51r
              refine wpr_val 17 109 (.fieldAddr 90 (.tmp 17) 2) 0 (Value.pointer (some ⟨b48, 2, none⟩)) (Runs.guarded (j := 15) (t := 108) (b := true) (by kernel_rfl) (by kernel_rfl) (by kernel_rfl)) (by kernel_rfl) (y_pure (by kernel_rfl) (fun _ => by kernel_rfl)) ?_
              refine wpr_val 18 110 (.load 88 (.tmp 109)) 88 (Value.slice A45_0_sets ((jobS cx).1.sets).length c45_0_sets) (Runs.guarded (j := 15) (t := 108) (b := true) (by kernel_rfl) (by kernel_rfl) (by kernel_rfl)) (by kernel_rfl) (q_load1 b48 2 0 (by kernel_rfl) (by kernel_rfl) (by kernel_rfl)) ?_
              refine wpr_val 19 111 (.call { callee := .builtin .len, args := #[(.tmp 110)], argTypes := #[88] }) 3 (Value.int .i64 (((((jobS cx).1.sets).length : Nat) : Int))) (Runs.guarded (j := 15) (t := 108) (b := true) (by kernel_rfl) (by kernel_rfl) (by kernel_rfl)) (by kernel_rfl) (y_pure (by kernel_rfl) (fun _ => by kernel_rfl)) ?_
              refine wpr_val 20 112 (.move (.tmp 11)) 3 (Value.int .i64 ((maxI 1 (((((((cutS p 3000)).length : Nat) : Int) + 600) - 1) / 600)))) (Runs.guarded (j := 15) (t := 108) (b := true) (by kernel_rfl) (by kernel_rfl) (by kernel_rfl)) (by kernel_rfl) (y_move (by kernel_rfl)) ?_
              refine wpr_val 21 113 (.binOp .sub 3 (.tmp 112) (.const (Value.int .i64 (1))) 3) 3 (Value.int .i64 (((maxI 1 (((((((cutS p 3000)).length : Nat) : Int) + 600) - 1) / 600)) - 1))) (Runs.guarded (j := 15) (t := 108) (b := true) (by kernel_rfl) (by kernel_rfl) (by kernel_rfl)) (by kernel_rfl) (y_sub (by kernel_rfl) (by kernel_rfl) (wr64 (by omega))) ?_
              refine wpr_val 22 114 (.binOp .eql 3 (.tmp 111) (.tmp 113) 3) 4 (Value.bool ((((((jobS cx).1.sets).length : Nat) : Int) == ((maxI 1 (((((((cutS p 3000)).length : Nat) : Int) + 600) - 1) / 600)) - 1)))) (Runs.guarded (j := 15) (t := 108) (b := true) (by kernel_rfl) (by kernel_rfl) (by kernel_rfl)) (by kernel_rfl) (y_pure (by kernel_rfl) (fun _ => by kernel_rfl)) ?_
              refine wpr_val 23 115 (.pick (.tmp 108) (.tmp 114) (.const (Value.bool (false)))) 4 (Value.bool ((((((jobS cx).1.sets).length : Nat) : Int) == ((maxI 1 (((((((cutS p 3000)).length : Nat) : Int) + 600) - 1) / 600)) - 1)))) (Runs.plain (by kernel_rfl)) (by kernel_rfl) (y_pickT (by kernel_rfl) (by kernel_rfl)) ?_
              refine wpq_re 115 (v := Value.bool ((((((jobS cx).1.sets).length : Nat) : Int) == ((maxI 1 (((((((cutS p 3000)).length : Nat) : Int) + 600) - 1) / 600)) - 1)))) (Value.bool (((((jobS cx).2 && ((jobS cx).1.base == ((landK .i64 base 1099511627775) + 1))) && ((jobS cx).1.snapshot == (cutS p 3000))) && (((((jobS cx).1.sets).length : Nat) : Int) == ((maxI 1 (((((((cutS p 3000)).length : Nat) : Int) + 600) - 1) / 600)) - 1))))) (by kernel_rfl) (re_and1 q51) ?_
              exact wpq_sub _ (by kernel_rfl) hk15
            · refine wpr_skip 17 109 (Skips.mk' (j := 15) (t := 108) (b := true) (by kernel_rfl) (by kernel_rfl) (by kernel_rfl)) (by kernel_rfl) ?_
              refine wpr_skip 18 110 (Skips.mk' (j := 15) (t := 108) (b := true) (by kernel_rfl) (by kernel_rfl) (by kernel_rfl)) (by kernel_rfl) ?_
              refine wpr_skip 19 111 (Skips.mk' (j := 15) (t := 108) (b := true) (by kernel_rfl) (by kernel_rfl) (by kernel_rfl)) (by kernel_rfl) ?_
              refine wpr_skip 20 112 (Skips.mk' (j := 15) (t := 108) (b := true) (by kernel_rfl) (by kernel_rfl) (by kernel_rfl)) (by kernel_rfl) ?_
              refine wpr_skip 21 113 (Skips.mk' (j := 15) (t := 108) (b := true) (by kernel_rfl) (by kernel_rfl) (by kernel_rfl)) (by kernel_rfl) ?_
              refine wpr_skip 22 114 (Skips.mk' (j := 15) (t := 108) (b := true) (by kernel_rfl) (by kernel_rfl) (by kernel_rfl)) (by kernel_rfl) ?_
              refine wpr_val 23 115 (.pick (.tmp 108) (.tmp 114) (.const (Value.bool (false)))) 4 (Value.bool (false)) (Runs.plain (by kernel_rfl)) (by kernel_rfl) (y_pickF (by kernel_rfl) (by kernel_rfl)) ?_
              refine wpq_re 115 (v := Value.bool (false)) (Value.bool (((((jobS cx).2 && ((jobS cx).1.base == ((landK .i64 base 1099511627775) + 1))) && ((jobS cx).1.snapshot == (cutS p 3000))) && (((((jobS cx).1.sets).length : Nat) : Int) == ((maxI 1 (((((((cutS p 3000)).length : Nat) : Int) + 600) - 1) / 600)) - 1))))) (by kernel_rfl) (re_and0 q51) ?_
              exact wpq_sub _ (by kernel_rfl) hk15
          · refine wpr_val 24 6 (.assign (.tmp 115)) 4 (Value.bool (((((jobS cx).2 && ((jobS cx).1.base == ((landK .i64 base 1099511627775) + 1))) && ((jobS cx).1.snapshot == (cutS p 3000))) && (((((jobS cx).1.sets).length : Nat) : Int) == ((maxI 1 (((((((cutS p 3000)).length : Nat) : Int) + 600) - 1) / 600)) - 1))))) (Runs.plain (by kernel_rfl)) (by kernel_rfl) (y_assign (by kernel_rfl)) ?_
            refine wpr_end (by kernel_rfl) ?_
            refine wpq_then ?_
            refine wpc_ret (rs := [.tmp 6]) [Value.bool (((((jobS cx).2 && ((jobS cx).1.base == ((landK .i64 base 1099511627775) + 1))) && ((jobS cx).1.snapshot == (cutS p 3000))) && (((((jobS cx).1.sets).length : Nat) : Int) == ((maxI 1 (((((((cutS p 3000)).length : Nat) : Int) + 600) - 1) / 600)) - 1))))] [] (by kernel_rfl) (fun _ _ h => h) (by kernel_rfl) (res_tmp (by kernel_rfl) res_nil) L0 keep0 ?_
            have eS : (yes base p in_) = (((((jobS cx).2 && ((jobS cx).1.base == ((landK .i64 base 1099511627775) + 1))) && ((jobS cx).1.snapshot == (cutS p 3000))) && (((((jobS cx).1.sets).length : Nat) : Int) == ((maxI 1 (((((((cutS p 3000)).length : Nat) : Int) + 600) - 1) / 600)) - 1)))) := by
              obtain ⟨q1, q2⟩ := w_end hW (by omega)
              unfold yes
              rw [q1]
              simp
              omega
            rw [eS]
            exact ⟨rfl, rfl⟩

end Go.Proofs.Ytolppdcaaoghgaa
