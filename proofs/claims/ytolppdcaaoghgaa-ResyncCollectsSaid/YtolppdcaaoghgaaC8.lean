/-
Walks, printed by wip/eng/eng.py. Conditions: each theorem's own.
-/
import Derived.Test.YtolppdcaaoghgaaS54
import Derived.Test.YtolppdcaaoghgaaW7
namespace Go.Proofs.Ytolppdcaaoghgaa
set_option linter.unusedVariables false
set_option linter.unusedSimpArgs false
open Go.RowKit
noncomputable def F8_0 : Code := sub (Try.f8.body.getD .skip) []
noncomputable def F8_1 : Code := sub (Try.f8.body.getD .skip) [0]
noncomputable def F8_2 : Code := sub (Try.f8.body.getD .skip) [1]
noncomputable def R8_1 : Array Oper := regOf F8_1
noncomputable def F8_4 : Code := sub (Try.f8.body.getD .skip) [1, 0]
noncomputable def F8_5 : Code := sub (Try.f8.body.getD .skip) [1, 1]
noncomputable def F8_6 : Code := sub (Try.f8.body.getD .skip) [1, 0, 0]
noncomputable def F8_7 : Code := sub (Try.f8.body.getD .skip) [1, 0, 1]
noncomputable def R8_6 : Array Oper := regOf F8_6
noncomputable def F8_9 : Code := sub (Try.f8.body.getD .skip) [1, 0, 1, 0]
noncomputable def F8_10 : Code := sub (Try.f8.body.getD .skip) [1, 0, 1, 1]
noncomputable def F8_11 : Code := sub (Try.f8.body.getD .skip) [1, 1, 0]
noncomputable def F8_12 : Code := sub (Try.f8.body.getD .skip) [1, 1, 1]
noncomputable def R8_11 : Array Oper := regOf F8_11
noncomputable def F8_14 : Code := sub (Try.f8.body.getD .skip) [1, 1, 1, 0]
noncomputable def F8_15 : Code := sub (Try.f8.body.getD .skip) [1, 1, 1, 1]
noncomputable def F8_16 : Code := sub (Try.f8.body.getD .skip) [1, 1, 1, 0, 0]
noncomputable def F8_17 : Code := sub (Try.f8.body.getD .skip) [1, 1, 1, 0, 1]
noncomputable def R8_16 : Array Oper := regOf F8_16
noncomputable def F8_19 : Code := sub (Try.f8.body.getD .skip) [1, 1, 1, 0, 1, 0]
noncomputable def F8_20 : Code := sub (Try.f8.body.getD .skip) [1, 1, 1, 0, 1, 0, 0]
noncomputable def F8_21 : Code := sub (Try.f8.body.getD .skip) [1, 1, 1, 0, 1, 0, 0, 0]
noncomputable def F8_22 : Code := sub (Try.f8.body.getD .skip) [1, 1, 1, 0, 1, 0, 0, 1]
noncomputable def F8_23 : Code := sub (Try.f8.body.getD .skip) [1, 1, 1, 0, 1, 0, 0, 0, 0]
noncomputable def F8_24 : Code := sub (Try.f8.body.getD .skip) [1, 1, 1, 0, 1, 0, 0, 0, 1]
noncomputable def R8_23 : Array Oper := regOf F8_23
noncomputable def F8_26 : Code := sub (Try.f8.body.getD .skip) [1, 1, 1, 0, 1, 0, 0, 0, 1, 0]
noncomputable def F8_27 : Code := sub (Try.f8.body.getD .skip) [1, 1, 1, 0, 1, 0, 0, 0, 1, 1]
noncomputable def F8_28 : Code := sub (Try.f8.body.getD .skip) [1, 1, 1, 0, 1, 0, 0, 1, 0]
noncomputable def F8_29 : Code := sub (Try.f8.body.getD .skip) [1, 1, 1, 0, 1, 0, 0, 1, 1]
noncomputable def F8_30 : Code := sub (Try.f8.body.getD .skip) [1, 1, 1, 0, 1, 0, 0, 1, 0, 0]
noncomputable def F8_31 : Code := sub (Try.f8.body.getD .skip) [1, 1, 1, 0, 1, 0, 0, 1, 0, 0, 0]
noncomputable def F8_32 : Code := sub (Try.f8.body.getD .skip) [1, 1, 1, 0, 1, 0, 0, 1, 0, 0, 1]
noncomputable def R8_31 : Array Oper := regOf F8_31
noncomputable def F8_34 : Code := sub (Try.f8.body.getD .skip) [1, 1, 1, 0, 1, 0, 0, 1, 0, 0, 1, 0]
noncomputable def F8_35 : Code := sub (Try.f8.body.getD .skip) [1, 1, 1, 0, 1, 0, 0, 1, 0, 0, 1, 1]
noncomputable def R8_34 : Array Oper := regOf F8_34
noncomputable def F8_37 : Code := sub (Try.f8.body.getD .skip) [1, 1, 1, 0, 1, 0, 0, 1, 0, 0, 1, 1, 0]
noncomputable def F8_38 : Code := sub (Try.f8.body.getD .skip) [1, 1, 1, 0, 1, 0, 0, 1, 0, 0, 1, 1, 1]
noncomputable def F8_39 : Code := sub (Try.f8.body.getD .skip) [1, 1, 1, 0, 1, 0, 0, 1, 0, 0, 1, 1, 0, 0]
noncomputable def F8_40 : Code := sub (Try.f8.body.getD .skip) [1, 1, 1, 0, 1, 0, 0, 1, 0, 0, 1, 1, 0, 1]
noncomputable def R8_39 : Array Oper := regOf F8_39
noncomputable def F8_42 : Code := sub (Try.f8.body.getD .skip) [1, 1, 1, 0, 1, 0, 0, 1, 0, 0, 1, 1, 0, 1, 0]
noncomputable def F8_43 : Code := sub (Try.f8.body.getD .skip) [1, 1, 1, 0, 1, 0, 0, 1, 0, 0, 1, 1, 0, 1, 0, 0]
noncomputable def F8_44 : Code := sub (Try.f8.body.getD .skip) [1, 1, 1, 0, 1, 0, 0, 1, 0, 0, 1, 1, 0, 1, 0, 1]
noncomputable def R8_43 : Array Oper := regOf F8_43
noncomputable def F8_46 : Code := sub (Try.f8.body.getD .skip) [1, 1, 1, 0, 1, 0, 0, 1, 0, 0, 1, 1, 0, 1, 0, 1, 0]
noncomputable def F8_47 : Code := sub (Try.f8.body.getD .skip) [1, 1, 1, 0, 1, 0, 0, 1, 0, 0, 1, 1, 0, 1, 0, 1, 1]
noncomputable def F8_48 : Code := sub (Try.f8.body.getD .skip) [1, 1, 1, 0, 1, 0, 0, 1, 0, 0, 1, 1, 1, 0]
noncomputable def F8_49 : Code := sub (Try.f8.body.getD .skip) [1, 1, 1, 0, 1, 0, 0, 1, 0, 0, 1, 1, 1, 1]
noncomputable def R8_48 : Array Oper := regOf F8_48
noncomputable def F8_51 : Code := sub (Try.f8.body.getD .skip) [1, 1, 1, 0, 1, 0, 0, 1, 0, 0, 1, 1, 1, 1, 0]
noncomputable def F8_52 : Code := sub (Try.f8.body.getD .skip) [1, 1, 1, 0, 1, 0, 0, 1, 0, 0, 1, 1, 1, 1, 1]
noncomputable def R8_51 : Array Oper := regOf F8_51
noncomputable def F8_54 : Code := sub (Try.f8.body.getD .skip) [1, 1, 1, 0, 1, 0, 0, 1, 0, 0, 1, 1, 1, 1, 1, 0]
noncomputable def F8_55 : Code := sub (Try.f8.body.getD .skip) [1, 1, 1, 0, 1, 0, 0, 1, 0, 0, 1, 1, 1, 1, 1, 1]
noncomputable def R8_54 : Array Oper := regOf F8_54
noncomputable def F8_57 : Code := sub (Try.f8.body.getD .skip) [1, 1, 1, 0, 1, 0, 0, 1, 0, 0, 1, 1, 1, 1, 1, 1, 0]
noncomputable def F8_58 : Code := sub (Try.f8.body.getD .skip) [1, 1, 1, 0, 1, 0, 0, 1, 0, 0, 1, 1, 1, 1, 1, 1, 1]
noncomputable def R8_57 : Array Oper := regOf F8_57
noncomputable def F8_60 : Code := sub (Try.f8.body.getD .skip) [1, 1, 1, 0, 1, 0, 0, 1, 0, 0, 1, 1, 1, 1, 1, 1, 1, 0]
noncomputable def F8_61 : Code := sub (Try.f8.body.getD .skip) [1, 1, 1, 0, 1, 0, 0, 1, 0, 0, 1, 1, 1, 1, 1, 1, 1, 1]
noncomputable def R8_29 : Array Oper := regOf F8_29
noncomputable def F8_63 : Code := sub (Try.f8.body.getD .skip) [1, 1, 1, 0, 1, 0, 0, 1, 0, 0, 1, 1, 0, 1, 0, 1, 0, 0]
noncomputable def F8_64 : Code := sub (Try.f8.body.getD .skip) [1, 1, 1, 0, 1, 0, 0, 1, 0, 0, 1, 1, 0, 1, 0, 1, 0, 1]
noncomputable def R8_63 : Array Oper := regOf F8_63
noncomputable def R8_64 : Array Oper := regOf F8_64
noncomputable def F8_67 : Code := sub (Try.f8.body.getD .skip) [1, 1, 1, 0, 1, 0, 0, 1, 0, 0, 1, 1, 0, 1, 0, 1, 1, 0]
noncomputable def F8_68 : Code := sub (Try.f8.body.getD .skip) [1, 1, 1, 0, 1, 0, 0, 1, 0, 0, 1, 1, 0, 1, 0, 1, 1, 1]
noncomputable def R8_67 : Array Oper := regOf F8_67
noncomputable def F8_70 : Code := sub (Try.f8.body.getD .skip) [1, 1, 1, 0, 1, 0, 0, 1, 0, 0, 1, 1, 0, 1, 0, 1, 1, 1, 0]
noncomputable def F8_71 : Code := sub (Try.f8.body.getD .skip) [1, 1, 1, 0, 1, 0, 0, 1, 0, 0, 1, 1, 0, 1, 0, 1, 1, 1, 1]
noncomputable def F8_72 : Code := sub (Try.f8.body.getD .skip) [1, 1, 1, 0, 1, 0, 0, 1, 0, 0, 1, 1, 0, 1, 0, 1, 1, 1, 0, 0]
noncomputable def F8_73 : Code := sub (Try.f8.body.getD .skip) [1, 1, 1, 0, 1, 0, 0, 1, 0, 0, 1, 1, 0, 1, 0, 1, 1, 1, 0, 1]
noncomputable def R8_72 : Array Oper := regOf F8_72
noncomputable def R8_73 : Array Oper := regOf F8_73
noncomputable def F8_76 : Code := sub (Try.f8.body.getD .skip) [1, 1, 1, 0, 1, 0, 0, 1, 0, 0, 1, 1, 0, 1, 0, 1, 1, 1, 1, 0]
noncomputable def F8_77 : Code := sub (Try.f8.body.getD .skip) [1, 1, 1, 0, 1, 0, 0, 1, 0, 0, 1, 1, 0, 1, 0, 1, 1, 1, 1, 1]
noncomputable def R8_76 : Array Oper := regOf F8_76
noncomputable def F8_79 : Code := sub (Try.f8.body.getD .skip) [1, 1, 1, 0, 1, 0, 0, 1, 0, 0, 1, 1, 0, 1, 0, 1, 1, 1, 1, 1, 0]
noncomputable def F8_80 : Code := sub (Try.f8.body.getD .skip) [1, 1, 1, 0, 1, 0, 0, 1, 0, 0, 1, 1, 0, 1, 0, 1, 1, 1, 1, 1, 1]
noncomputable def F8_81 : Code := sub (Try.f8.body.getD .skip) [1, 1, 1, 0, 1, 0, 0, 1, 0, 0, 1, 1, 0, 1, 0, 1, 1, 1, 1, 1, 0, 0]
noncomputable def F8_82 : Code := sub (Try.f8.body.getD .skip) [1, 1, 1, 0, 1, 0, 0, 1, 0, 0, 1, 1, 0, 1, 0, 1, 1, 1, 1, 1, 0, 1]
noncomputable def R8_81 : Array Oper := regOf F8_81
noncomputable def R8_82 : Array Oper := regOf F8_82
noncomputable def F8_85 : Code := sub (Try.f8.body.getD .skip) [1, 1, 1, 0, 1, 0, 0, 1, 0, 0, 1, 1, 0, 1, 0, 1, 1, 1, 1, 1, 1, 0]
noncomputable def F8_86 : Code := sub (Try.f8.body.getD .skip) [1, 1, 1, 0, 1, 0, 0, 1, 0, 0, 1, 1, 0, 1, 0, 1, 1, 1, 1, 1, 1, 1]
noncomputable def R8_85 : Array Oper := regOf F8_85
noncomputable def R8_86 : Array Oper := regOf F8_86
noncomputable def F8_89 : Code := sub (Try.f8.body.getD .skip) [1, 1, 1, 1, 0]
noncomputable def F8_90 : Code := sub (Try.f8.body.getD .skip) [1, 1, 1, 1, 1]
noncomputable def R8_89 : Array Oper := regOf F8_89
set_option maxRecDepth 100000 in
theorem c8 (g : Gh) (l : List Gift) (Al : Option Addr) (cl : Nat) (fl : Arr g.b tyGift Al cl l) :
    Ctr0 Try.prog 8 [Value.slice Al (l).length cl] g (fun v ψ => v = Value.bool (true)) := by
  refine ctr_of Try.f8 F8_0 111 [Value.slice Al (l).length cl] (by kernel_rfl) (by kernel_rfl) (by kernel_rfl) (by kernel_rfl) ?_
  have L0 := Gh.le.refl g
  have nfl := fl.len
  refine wpc_seq (x := F8_1) (y := F8_2) (by kernel_rfl) ?_
  refine wpc_region (ops := R8_1) (id := 0) (by kernel_rfl) ?_
  refine wpr_val 1 2 (.assign (.const (Value.bool (false)))) 4 (Value.bool (false)) (Runs.plain (by kernel_rfl)) (by kernel_rfl) (y_assign (by kernel_rfl)) ?_
  refine wpr_end (by kernel_rfl) ?_
  refine wpq_then ?_
  refine wpc_seq (x := F8_4) (y := F8_5) (by kernel_rfl) ?_
  refine wpc_seq (x := F8_6) (y := F8_7) (by kernel_rfl) ?_
  refine wpc_region (ops := R8_6) (id := 1) (by kernel_rfl) ?_
  refine wpr_eff 1 12 (.call { callee := .value (.func 10), args := #[], argTypes := #[] }) 4 (Runs.plain (by kernel_rfl)) (by kernel_rfl) (e_call [] (by kernel_rfl) (by kernel_rfl) (fun g' lr eb ln => c10 g' )) ?_
  rintro _ g1 _ le2 ⟨rfl, rfl⟩
  have fl := fl.mono le2.b
  have L0 := L0.trans le2
  refine wpr_val 2 13 (.unOp .not 4 (.tmp 12)) 4 (Value.bool (false)) (Runs.plain (by kernel_rfl)) (by kernel_rfl) (y_pure (by kernel_rfl) (fun _ => by kernel_rfl)) ?_
  refine wpr_end (by kernel_rfl) ?_
  refine wpq_then ?_
  refine wpc_false (x := F8_9) (y := F8_10) (o := (.tmp 13)) (by kernel_rfl) (by kernel_rfl) ?_
  refine wpc_skip (by kernel_rfl) ?_
  refine wpq_then ?_
  refine wpc_seq (x := F8_11) (y := F8_12) (by kernel_rfl) ?_
  refine wpc_region (ops := R8_11) (id := 3) (by kernel_rfl) ?_
  refine wpr_eff 1 14 (.call { callee := .value (.func 28), args := #[], argTypes := #[] }) 72 (Runs.plain (by kernel_rfl)) (by kernel_rfl) (e_callM (sel := []) [] [] (by kernel_rfl) (by kernel_rfl) (by kernel_rfl) (fun g' lr eb ln => c28 g' )) ?_
  rintro _ g4 _ le5 ⟨_, rfl, b3_0, A3_0_parts, c3_0_parts, k3_0_parts, A3_0_sets, c3_0_sets, k3_0_sets, rfl, rfl, h3_0_parts, h3_0_sets⟩
  have fl := fl.mono le5.b
  have L0 := L0.trans le5
  refine wpq_own [some ⟨b3_0, 114, [Value.int .i64 ((newCollS).base), Value.int .i64 ((newCollS).count), Value.slice A3_0_parts ((newCollS).parts).length c3_0_parts, Value.slice A3_0_sets ((newCollS).sets).length c3_0_sets]⟩, k3_0_parts, k3_0_sets] (by kernel_rfl) ?_
  have nh3_0_parts := h3_0_parts.len
  have nh3_0_sets := h3_0_sets.len
  refine wpr_val 2 15 (.build 77 #[]) 77 (Value.agg #[Value.int .i64 (0), Value.int .i64 (0), Value.slice none 0 0, Value.slice none 0 0]) (Runs.plain (by kernel_rfl)) (by kernel_rfl) (y_pure (by kernel_rfl) (fun _ => by kernel_rfl)) ?_
  refine wpr_eff 3 4 (.alloc 77) 0 (Runs.plain (by kernel_rfl)) (by kernel_rfl) (e_alloc (cs := [Value.int .i64 (0), Value.int .i64 (0), Value.slice none 0 0, Value.slice none 0 0]) (by kernel_rfl)) ?_
  rintro _ _ _ - ⟨b6, rfl, rfl, rfl⟩
  refine wpr_val 4 3 (.assign (.tmp 14)) 72 (Value.pointer (some ⟨b3_0, 0, none⟩)) (Runs.plain (by kernel_rfl)) (by kernel_rfl) (y_assign (by kernel_rfl)) ?_
  refine wpr_do 5 (.store 77 (.tmp 4) (.tmp 15)) 0 (Runs.plain (by kernel_rfl)) (by kernel_rfl) (q_store b6 0 0 (Value.agg #[Value.int .i64 (0), Value.int .i64 (0), Value.slice none 0 0, Value.slice none 0 0]) [Value.int .i64 (0), Value.int .i64 (0), Value.slice none 0 0, Value.slice none 0 0] 77 [Value.int .i64 (0), Value.int .i64 (0), Value.slice none 0 0, Value.slice none 0 0] [Value.int .i64 (0), Value.int .i64 (0), Value.slice none 0 0, Value.slice none 0 0] (by kernel_rfl) (by kernel_rfl) (by kernel_rfl) (by kernel_rfl) (by kernel_rfl) (by kernel_rfl) (by kernel_rfl)) ?_
  rintro _ _ _ - ⟨rfl, rfl⟩
  refine wpr_end (by kernel_rfl) ?_
  refine wpq_then ?_
  refine wpq_sub [(0, Value.slice Al (l).length cl), (3, Value.pointer (some ⟨b3_0, 0, none⟩)), (4, Value.pointer (some ⟨b6, 0, none⟩))] (by kernel_rfl) ?_
  refine wpc_seq (x := F8_14) (y := F8_15) (by kernel_rfl) ?_
  refine wpc_seq (x := F8_16) (y := F8_17) (by kernel_rfl) ?_
  refine wpc_region (ops := R8_16) (id := 4) (by kernel_rfl) ?_
  refine wpr_val 1 5 (.assign (.const (Value.int .i64 (0)))) 3 (Value.int .i64 (0)) (Runs.plain (by kernel_rfl)) (by kernel_rfl) (y_assign (by kernel_rfl)) ?_
  refine wpr_end (by kernel_rfl) ?_
  refine wpq_then ?_
  refine wpc_block (x := F8_19) (id := 0) (by kernel_rfl) ?_
  refine wpq_sub [(0, Value.slice Al (l).length cl), (3, Value.pointer (some ⟨b3_0, 0, none⟩)), (4, Value.pointer (some ⟨b6, 0, none⟩)), (5, Value.int .i64 (0))] (by kernel_rfl) ?_
  -- loop 0
  refine wpc_loop (x := F8_20) (by kernel_rfl) (fun g own sl m => ∃ (i : Nat) (x : Coll) (Ax_parts : Option Addr) (cx_parts : Nat) (kx_parts : Option Bk) (Ax_sets : Option Addr) (cx_sets : Nat) (kx_sets : Option Bk) (y : Coll) (Ay_parts : Option Addr) (cy_parts : Nat) (Ay_sets : Option Addr) (cy_sets : Nat), own = [some ⟨b6, 77, [Value.int .i64 (y.base), Value.int .i64 (y.count), Value.slice Ay_parts (y.parts).length cy_parts, Value.slice Ay_sets (y.sets).length cy_sets]⟩, some ⟨b3_0, 114, [Value.int .i64 (x.base), Value.int .i64 (x.count), Value.slice Ax_parts (x.parts).length cx_parts, Value.slice Ax_sets (x.sets).length cx_sets]⟩, kx_parts, kx_sets] ∧ sl = [(0, Value.slice Al (l).length cl), (3, Value.pointer (some ⟨b3_0, 0, none⟩)), (4, Value.pointer (some ⟨b6, 0, none⟩)), (5, Value.int .i64 ((i : Int)))] ∧ m = 24 - i ∧ Buf g.b (tyArr tyU8) 22 (.slice Ax_parts (x.parts).length cx_parts) kx_parts x.parts ∧ Buf g.b tySett 79 (.slice Ax_sets (x.sets).length cx_sets) kx_sets x.sets ∧ Arr g.b (tyArr tyU8) Ay_parts cy_parts y.parts ∧ Arr g.b tySett Ay_sets cy_sets y.sets ∧ (i ≤ 24) ∧ (y = x) ∧ (collOk x i)) _ ⟨0, (newCollS), A3_0_parts, c3_0_parts, k3_0_parts, A3_0_sets, c3_0_sets, k3_0_sets, (⟨(0 : Int), (0 : Int), ([] : List (List UInt8)), ([] : List Sett)⟩ : Coll), none, 0, none, 0, rfl, rfl, rfl, h3_0_parts, h3_0_sets, Arr.nil, Arr.nil, by omega, rfl, coll0⟩ ?_
  rintro g7 _ _ _ le8 ⟨i, x, Ax_parts, cx_parts, kx_parts, Ax_sets, cx_sets, kx_sets, y, Ay_parts, cy_parts, Ay_sets, cy_sets, rfl, rfl, rfl, hx_parts, hx_sets, fy_parts, fy_sets, hi, he, hG⟩ QrL0 hQL0
  have fl := fl.mono le8.b
  have h3_0_parts := h3_0_parts.mono le8.b
  have h3_0_sets := h3_0_sets.mono le8.b
  have L0 := L0.trans le8
  have nhx_parts := hx_parts.len
  have nhx_sets := hx_sets.len
  have nfy_parts := fy_parts.len
  have nfy_sets := fy_sets.len
  have LHL0 := Gh.le.refl g7
  refine wpc_seq (x := F8_21) (y := F8_22) (by kernel_rfl) ?_
  refine wpc_seq (x := F8_23) (y := F8_24) (by kernel_rfl) ?_
  refine wpc_region (ops := R8_23) (id := 5) (by kernel_rfl) ?_
  refine wpr_val 1 16 (.move (.tmp 5)) 3 (Value.int .i64 ((i : Int))) (Runs.plain (by kernel_rfl)) (by kernel_rfl) (y_move (by kernel_rfl)) ?_
  refine wpr_val 2 17 (.move (.tmp 0)) 71 (Value.slice Al (l).length cl) (Runs.plain (by kernel_rfl)) (by kernel_rfl) (y_move (by kernel_rfl)) ?_
  refine wpr_val 3 18 (.call { callee := .builtin .len, args := #[(.tmp 17)], argTypes := #[71] }) 3 (Value.int .i64 ((((l).length : Nat) : Int))) (Runs.plain (by kernel_rfl)) (by kernel_rfl) (y_pure (by kernel_rfl) (fun _ => by kernel_rfl)) ?_
  refine wpr_val 4 19 (.binOp .lss 3 (.tmp 16) (.tmp 18) 3) 4 (Value.bool (decide ((i : Int) < (((l).length : Nat) : Int)))) (Runs.plain (by kernel_rfl)) (by kernel_rfl) (y_pure (by kernel_rfl) (fun _ => by kernel_rfl)) ?_
  refine wpr_val 5 20 (.move (.tmp 19)) 4 (Value.bool (decide ((i : Int) < (((l).length : Nat) : Int)))) (Runs.plain (by kernel_rfl)) (by kernel_rfl) (y_move (by kernel_rfl)) ?_
  refine wpr_grp 8 [(0, Value.slice Al (l).length cl), (3, Value.pointer (some ⟨b3_0, 0, none⟩)), (4, Value.pointer (some ⟨b6, 0, none⟩)), (5, Value.int .i64 ((i : Int))), (23, Value.bool ((decide ((i : Int) < (((l).length : Nat) : Int)) && decide ((i : Int) < 24))))] (fun hk4 => ?_) ?_
  · refine wpq_split 20 (b := decide ((i : Int) < (((l).length : Nat) : Int))) (by kernel_rfl) (fun q9 => ?_) (fun q9 => ?_)
    · have q9p := of_decide_eq_true q9
      refine wpr_val 6 21 (.move (.tmp 5)) 3 (Value.int .i64 ((i : Int))) (Runs.guarded (j := 4) (t := 20) (b := true) (by kernel_rfl) (by kernel_rfl) (by kernel_rfl)) (by kernel_rfl) (y_move (by kernel_rfl)) ?_
      refine wpr_val 7 22 (.binOp .lss 3 (.tmp 21) (.const (Value.int .i64 (24))) 3) 4 (Value.bool (decide ((i : Int) < 24))) (Runs.guarded (j := 4) (t := 20) (b := true) (by kernel_rfl) (by kernel_rfl) (by kernel_rfl)) (by kernel_rfl) (y_pure (by kernel_rfl) (fun _ => by kernel_rfl)) ?_
      refine wpr_val 8 23 (.pick (.tmp 20) (.tmp 22) (.const (Value.bool (false)))) 4 (Value.bool (decide ((i : Int) < 24))) (Runs.plain (by kernel_rfl)) (by kernel_rfl) (y_pickT (by kernel_rfl) (by kernel_rfl)) ?_
      refine wpq_re 23 (v := Value.bool (decide ((i : Int) < 24))) (Value.bool ((decide ((i : Int) < (((l).length : Nat) : Int)) && decide ((i : Int) < 24)))) (by kernel_rfl) (re_and1 q9) ?_
      exact wpq_sub _ (by kernel_rfl) hk4
    · have q9p := of_decide_eq_false q9
      refine wpr_skip 6 21 (Skips.mk' (j := 4) (t := 20) (b := true) (by kernel_rfl) (by kernel_rfl) (by kernel_rfl)) (by kernel_rfl) ?_
      refine wpr_skip 7 22 (Skips.mk' (j := 4) (t := 20) (b := true) (by kernel_rfl) (by kernel_rfl) (by kernel_rfl)) (by kernel_rfl) ?_
      refine wpr_val 8 23 (.pick (.tmp 20) (.tmp 22) (.const (Value.bool (false)))) 4 (Value.bool (false)) (Runs.plain (by kernel_rfl)) (by kernel_rfl) (y_pickF (by kernel_rfl) (by kernel_rfl)) ?_
      refine wpq_re 23 (v := Value.bool (false)) (Value.bool ((decide ((i : Int) < (((l).length : Nat) : Int)) && decide ((i : Int) < 24)))) (by kernel_rfl) (re_and0 q9) ?_
      exact wpq_sub _ (by kernel_rfl) hk4
  · refine wpr_end (by kernel_rfl) ?_
    refine wpq_then ?_
    -- condition 0
    refine wpc_cond (x := F8_26) (y := F8_27) (o := (.tmp 23)) (b := (decide ((i : Int) < (((l).length : Nat) : Int)) && decide ((i : Int) < 24))) (by kernel_rfl) (by kernel_rfl) (fun h0 => ?_) (fun h0 => ?_)
    · have h0l := (and_true_ h0).1
      have h0r := (and_true_ h0).2
      have h0lp := of_decide_eq_true h0l
      have h0rp := of_decide_eq_true h0r
      refine wpc_skip (by kernel_rfl) ?_
      refine wpq_then ?_
      refine wpc_seq (x := F8_28) (y := F8_29) (by kernel_rfl) ?_
      refine wpc_block (x := F8_30) (id := 1) (by kernel_rfl) ?_
      refine wpc_seq (x := F8_31) (y := F8_32) (by kernel_rfl) ?_
      refine wpc_region (ops := R8_31) (id := 7) (by kernel_rfl) ?_
      refine wpr_val 1 26 (.move (.tmp 0)) 71 (Value.slice Al (l).length cl) (Runs.plain (by kernel_rfl)) (by kernel_rfl) (y_move (by kernel_rfl)) ?_
      refine wpr_val 2 27 (.move (.tmp 5)) 3 (Value.int .i64 ((i : Int))) (Runs.plain (by kernel_rfl)) (by kernel_rfl) (y_move (by kernel_rfl)) ?_
      have hi10 : i < (l).length := by omega
      obtain ⟨ad10, cs10, hA10, hr10, hc10⟩ := fl.at_ (get_getD (d := default) hi10)
      obtain ⟨A10_piece_data, c10_piece_data, A10_set__in_, c10_set__in_, rfl, f10_piece_data, f10_set__in_⟩ := hr10
      have nf10_piece_data := f10_piece_data.len
      have nf10_set__in_ := f10_set__in_.len
      refine wpr_val 3 28 (.indexAddr 71 (.tmp 26) (.tmp 27)) 0 (Value.pointer (some (Addr.add ad10 (i * 9)))) (Runs.plain (by kernel_rfl)) (by kernel_rfl) (q_index (e := 81) (sz := 9) (len := (l).length) (c := cl) i (A := ad10) (k := .i64) (z := (i : Int)) hA10 (by kernel_rfl) (by kernel_rfl) rfl hi10 (by kernel_rfl) (by kernel_rfl)) ?_
      refine wpr_val 4 29 (.load 81 (.tmp 28)) 81 (Value.agg #[Value.int .u8 ((List.getD l i default).kind), Value.int .i64 ((List.getD l i default).piece.base), Value.int .i64 ((List.getD l i default).piece.index), Value.int .i64 ((List.getD l i default).piece.count), Value.slice A10_piece_data ((List.getD l i default).piece.data).length c10_piece_data, Value.int .i64 ((List.getD l i default).set_.steps), Value.int .i64 ((List.getD l i default).set_.cycle), Value.bool ((List.getD l i default).set_.fresh), Value.slice A10_set__in_ ((List.getD l i default).set_.in_).length c10_set__in_]) (Runs.plain (by kernel_rfl)) (by kernel_rfl) (q_loadPA (Addr.add ad10 (i * 9)) 0 [Value.int .u8 ((List.getD l i default).kind), Value.int .i64 ((List.getD l i default).piece.base), Value.int .i64 ((List.getD l i default).piece.index), Value.int .i64 ((List.getD l i default).piece.count), Value.slice A10_piece_data ((List.getD l i default).piece.data).length c10_piece_data, Value.int .i64 ((List.getD l i default).set_.steps), Value.int .i64 ((List.getD l i default).set_.cycle), Value.bool ((List.getD l i default).set_.fresh), Value.slice A10_set__in_ ((List.getD l i default).set_.in_).length c10_set__in_] (by kernel_rfl) (hc10.mono g7.br) (by kernel_rfl) (by kernel_rfl)) ?_
      refine wpr_eff 5 6 (.alloc 81) 0 (Runs.plain (by kernel_rfl)) (by kernel_rfl) (e_alloc (cs := [Value.int .u8 (0), Value.int .i64 (0), Value.int .i64 (0), Value.int .i64 (0), Value.slice none 0 0, Value.int .i64 (0), Value.int .i64 (0), Value.bool (false), Value.slice none 0 0]) (by kernel_rfl)) ?_
      rintro _ _ _ - ⟨b11, rfl, rfl, rfl⟩
      refine wpr_do 6 (.store 81 (.tmp 6) (.tmp 29)) 0 (Runs.plain (by kernel_rfl)) (by kernel_rfl) (q_store b11 0 0 (Value.agg #[Value.int .u8 ((List.getD l i default).kind), Value.int .i64 ((List.getD l i default).piece.base), Value.int .i64 ((List.getD l i default).piece.index), Value.int .i64 ((List.getD l i default).piece.count), Value.slice A10_piece_data ((List.getD l i default).piece.data).length c10_piece_data, Value.int .i64 ((List.getD l i default).set_.steps), Value.int .i64 ((List.getD l i default).set_.cycle), Value.bool ((List.getD l i default).set_.fresh), Value.slice A10_set__in_ ((List.getD l i default).set_.in_).length c10_set__in_]) [Value.int .u8 ((List.getD l i default).kind), Value.int .i64 ((List.getD l i default).piece.base), Value.int .i64 ((List.getD l i default).piece.index), Value.int .i64 ((List.getD l i default).piece.count), Value.slice A10_piece_data ((List.getD l i default).piece.data).length c10_piece_data, Value.int .i64 ((List.getD l i default).set_.steps), Value.int .i64 ((List.getD l i default).set_.cycle), Value.bool ((List.getD l i default).set_.fresh), Value.slice A10_set__in_ ((List.getD l i default).set_.in_).length c10_set__in_] 81 [Value.int .u8 (0), Value.int .i64 (0), Value.int .i64 (0), Value.int .i64 (0), Value.slice none 0 0, Value.int .i64 (0), Value.int .i64 (0), Value.bool (false), Value.slice none 0 0] [Value.int .u8 ((List.getD l i default).kind), Value.int .i64 ((List.getD l i default).piece.base), Value.int .i64 ((List.getD l i default).piece.index), Value.int .i64 ((List.getD l i default).piece.count), Value.slice A10_piece_data ((List.getD l i default).piece.data).length c10_piece_data, Value.int .i64 ((List.getD l i default).set_.steps), Value.int .i64 ((List.getD l i default).set_.cycle), Value.bool ((List.getD l i default).set_.fresh), Value.slice A10_set__in_ ((List.getD l i default).set_.in_).length c10_set__in_] (by kernel_rfl) (by kernel_rfl) (by kernel_rfl) (by kernel_rfl) (by kernel_rfl) (by kernel_rfl) (by kernel_rfl)) ?_
      rintro _ _ _ - ⟨rfl, rfl⟩
      refine wpr_end (by kernel_rfl) ?_
      refine wpq_then ?_
      refine wpq_sub [(0, Value.slice Al (l).length cl), (3, Value.pointer (some ⟨b3_0, 0, none⟩)), (4, Value.pointer (some ⟨b6, 0, none⟩)), (5, Value.int .i64 ((i : Int))), (6, Value.pointer (some ⟨b11, 0, none⟩))] (by kernel_rfl) ?_
      refine wpc_seq (x := F8_34) (y := F8_35) (by kernel_rfl) ?_
      refine wpa_start (ops := R8_34) (id := 8) (by kernel_rfl) (by kernel_rfl) [2, 6] [10, 13, 8, 9, 11, 12] [some ⟨b11, 81, [Value.int .u8 ((List.getD l i default).kind), Value.int .i64 ((List.getD l i default).piece.base), Value.int .i64 ((List.getD l i default).piece.index), Value.int .i64 ((List.getD l i default).piece.count), Value.slice A10_piece_data ((List.getD l i default).piece.data).length c10_piece_data, Value.int .i64 ((List.getD l i default).set_.steps), Value.int .i64 ((List.getD l i default).set_.cycle), Value.bool ((List.getD l i default).set_.fresh), Value.slice A10_set__in_ ((List.getD l i default).set_.in_).length c10_set__in_]⟩, some ⟨b6, 77, [Value.int .i64 (y.base), Value.int .i64 (y.count), Value.slice Ay_parts (y.parts).length cy_parts, Value.slice Ay_sets (y.sets).length cy_sets]⟩, some ⟨b3_0, 114, [Value.int .i64 (x.base), Value.int .i64 (x.count), Value.slice Ax_parts (x.parts).length cx_parts, Value.slice Ax_sets (x.sets).length cx_sets]⟩] (by kernel_rfl) (by kernel_rfl) (fun _ _ _ _ _ h => h) 14 (by kernel_rfl) (fun RG => ?_)
      have lp := Psi.le.refl g7.r
      refine wpa_take0 0 [true, false, false, false, false, false, false, false, false, false, false, false, false, false] 30 (.fieldAddr 81 (.tmp 6) 1) 0 (Value.pointer (some ⟨b11, 1, none⟩)) RG (Runs.plain (by kernel_rfl)) (by kernel_rfl) (by kernel_rfl) (fun _ => (y_pure (by kernel_rfl) (fun _ => by kernel_rfl))) ?_
      refine wpa_take0 1 [true, true, false, false, false, false, false, false, false, false, false, false, false, false] 31 (.fieldAddr 37 (.tmp 30) 3) 0 (Value.pointer (some ⟨b11, 4, none⟩)) RG (Runs.plain (by kernel_rfl)) (by kernel_rfl) (by kernel_rfl) (fun _ => (y_pure (by kernel_rfl) (fun _ => by kernel_rfl))) ?_
      refine wpa_take 2 [true, true, true, false, false, false, false, false, false, false, false, false, false, false] 32 (.load 22 (.tmp 31)) 22 (Value.slice A10_piece_data ((List.getD l i default).piece.data).length c10_piece_data) RG (Runs.plain (by kernel_rfl)) (by kernel_rfl) (by kernel_rfl) lp (keepK_P [some 0, some 1, some 2] (by kernel_rfl)) (q_load1 b11 4 0 (by kernel_rfl) (by kernel_rfl) (by kernel_rfl)) ?_
      refine wpa_take0 4 [true, true, true, false, true, false, false, false, false, false, false, false, false, false] 34 (.fieldAddr 81 (.tmp 6) 2) 0 (Value.pointer (some ⟨b11, 5, none⟩)) RG (Runs.plain (by kernel_rfl)) (by kernel_rfl) (by kernel_rfl) (fun _ => (y_pure (by kernel_rfl) (fun _ => by kernel_rfl))) ?_
      refine wpa_take0 5 [true, true, true, false, true, true, false, false, false, false, false, false, false, false] 35 (.fieldAddr 79 (.tmp 34) 3) 0 (Value.pointer (some ⟨b11, 8, none⟩)) RG (Runs.plain (by kernel_rfl)) (by kernel_rfl) (by kernel_rfl) (fun _ => (y_pure (by kernel_rfl) (fun _ => by kernel_rfl))) ?_
      refine wpa_take 6 [true, true, true, false, true, true, true, false, false, false, false, false, false, false] 36 (.load 22 (.tmp 35)) 22 (Value.slice A10_set__in_ ((List.getD l i default).set_.in_).length c10_set__in_) RG (Runs.plain (by kernel_rfl)) (by kernel_rfl) (by kernel_rfl) lp (keepK_P [some 0, some 1, some 2] (by kernel_rfl)) (q_load1 b11 8 0 (by kernel_rfl) (by kernel_rfl) (by kernel_rfl)) ?_
      refine wpa_one 3 (by kernel_rfl) ?_
      have f12 : Arr g7.b tyU8 (offA A10_piece_data c10_piece_data 0 1) (c10_piece_data - 0) (cutS (List.getD l i default).piece.data 602) := cut_arr f10_piece_data (by omega)
      have nf12 := f12.len
      have mf12 := cutS_len (List.getD l i default).piece.data 602 (by omega)
      refine wpi_eff [true, true, true, true, true, true, true, false, false, false, false, false, false, false] 33 (.call { callee := .value (.func 11), args := #[(.tmp 32), (.const (Value.int .i64 (602)))], argTypes := #[22, 3] }) 22 (Runs.plain (by kernel_rfl)) (by kernel_rfl) lp (e_call [Value.slice A10_piece_data ((List.getD l i default).piece.data).length c10_piece_data, Value.int .i64 (602)] (by kernel_rfl) (by kernel_rfl) (fun g' lr eb ln => c11 g' ((List.getD l i default).piece.data : List UInt8) A10_piece_data c10_piece_data (602 : Int) ((f10_piece_data.mono g7.br).mono lr) (by have := hG.np; have := hG.ns; omega))) (by kernel_rfl) ?_
      rintro _ g13 _ le14 ⟨rfl, rfl⟩
      refine ⟨.inr (keepK_P [some 0, some 1, some 2] (by kernel_rfl)), ?_⟩
      have fl := fl.mono le14.b
      have h3_0_parts := h3_0_parts.mono le14.b
      have h3_0_sets := h3_0_sets.mono le14.b
      have hx_parts := hx_parts.mono le14.b
      have hx_sets := hx_sets.mono le14.b
      have fy_parts := fy_parts.mono le14.b
      have fy_sets := fy_sets.mono le14.b
      have hc10 := hc10.mono le14.b
      have f10_piece_data := f10_piece_data.mono le14.b
      have f10_set__in_ := f10_set__in_.mono le14.b
      have f12 := f12.mono le14.b
      have L0 := L0.trans le14
      have LHL0 := LHL0.trans le14
      have lp := lp.trans le14.r
      refine wpa_take0 8 [true, true, true, true, true, true, true, false, true, false, false, false, false, false] 38 (.fieldAddr 81 (.tmp 6) 1) 0 (Value.pointer (some ⟨b11, 1, none⟩)) RG (Runs.plain (by kernel_rfl)) (by kernel_rfl) (by kernel_rfl) (fun _ => (y_pure (by kernel_rfl) (fun _ => by kernel_rfl))) ?_
      refine wpa_take0 9 [true, true, true, true, true, true, true, false, true, true, false, false, false, false] 39 (.fieldAddr 37 (.tmp 38) 3) 0 (Value.pointer (some ⟨b11, 4, none⟩)) RG (Runs.plain (by kernel_rfl)) (by kernel_rfl) (by kernel_rfl) (fun _ => (y_pure (by kernel_rfl) (fun _ => by kernel_rfl))) ?_
      refine wpa_one 7 (by kernel_rfl) ?_
      have f15 : Arr g13.b tyU8 (offA A10_set__in_ c10_set__in_ 0 1) (c10_set__in_ - 0) (cutS (List.getD l i default).set_.in_ 50) := cut_arr f10_set__in_ (by omega)
      have nf15 := f15.len
      have mf15 := cutS_len (List.getD l i default).set_.in_ 50 (by omega)
      refine wpi_eff [true, true, true, true, true, true, true, true, true, true, false, false, false, false] 37 (.call { callee := .value (.func 11), args := #[(.tmp 36), (.const (Value.int .i64 (50)))], argTypes := #[22, 3] }) 22 (Runs.plain (by kernel_rfl)) (by kernel_rfl) lp (e_call [Value.slice A10_set__in_ ((List.getD l i default).set_.in_).length c10_set__in_, Value.int .i64 (50)] (by kernel_rfl) (by kernel_rfl) (fun g' lr eb ln => c11 g' ((List.getD l i default).set_.in_ : List UInt8) A10_set__in_ c10_set__in_ (50 : Int) ((f10_set__in_.mono g13.br).mono lr) (by omega))) (by kernel_rfl) ?_
      rintro _ g16 _ le17 ⟨rfl, rfl⟩
      refine ⟨.inr (keepK_P [some 0, some 1, some 2] (by kernel_rfl)), ?_⟩
      have fl := fl.mono le17.b
      have h3_0_parts := h3_0_parts.mono le17.b
      have h3_0_sets := h3_0_sets.mono le17.b
      have hx_parts := hx_parts.mono le17.b
      have hx_sets := hx_sets.mono le17.b
      have fy_parts := fy_parts.mono le17.b
      have fy_sets := fy_sets.mono le17.b
      have hc10 := hc10.mono le17.b
      have f10_piece_data := f10_piece_data.mono le17.b
      have f10_set__in_ := f10_set__in_.mono le17.b
      have f12 := f12.mono le17.b
      have f15 := f15.mono le17.b
      have L0 := L0.trans le17
      have LHL0 := LHL0.trans le17
      have lp := lp.trans le17.r
      refine wpa_one 10 (by kernel_rfl) ?_
      refine wpi_do [true, true, true, true, true, true, true, true, true, true, true, false, false, false] (.store 22 (.tmp 39) (.tmp 33)) 0 (Runs.plain (by kernel_rfl)) lp (q_store b11 4 0 (Value.slice (offA A10_piece_data c10_piece_data 0 1) ((cutS (List.getD l i default).piece.data 602)).length (c10_piece_data - 0)) [Value.slice (offA A10_piece_data c10_piece_data 0 1) ((cutS (List.getD l i default).piece.data 602)).length (c10_piece_data - 0)] 81 [Value.int .u8 ((List.getD l i default).kind), Value.int .i64 ((List.getD l i default).piece.base), Value.int .i64 ((List.getD l i default).piece.index), Value.int .i64 ((List.getD l i default).piece.count), Value.slice A10_piece_data ((List.getD l i default).piece.data).length c10_piece_data, Value.int .i64 ((List.getD l i default).set_.steps), Value.int .i64 ((List.getD l i default).set_.cycle), Value.bool ((List.getD l i default).set_.fresh), Value.slice A10_set__in_ ((List.getD l i default).set_.in_).length c10_set__in_] [Value.int .u8 ((List.getD l i default).kind), Value.int .i64 ((List.getD l i default).piece.base), Value.int .i64 ((List.getD l i default).piece.index), Value.int .i64 ((List.getD l i default).piece.count), Value.slice (offA A10_piece_data c10_piece_data 0 1) ((cutS (List.getD l i default).piece.data 602)).length (c10_piece_data - 0), Value.int .i64 ((List.getD l i default).set_.steps), Value.int .i64 ((List.getD l i default).set_.cycle), Value.bool ((List.getD l i default).set_.fresh), Value.slice A10_set__in_ ((List.getD l i default).set_.in_).length c10_set__in_] (by kernel_rfl) (by kernel_rfl) (by kernel_rfl) (by kernel_rfl) (by kernel_rfl) (by kernel_rfl) (by kernel_rfl)) (by kernel_rfl) ?_
      rintro _ _ _ - ⟨rfl, rfl⟩
      refine ⟨.inl (by kernel_rfl), ?_⟩
      refine wpa_take0 11 [true, true, true, true, true, true, true, true, true, true, true, true, false, false] 40 (.fieldAddr 81 (.tmp 6) 2) 0 (Value.pointer (some ⟨b11, 5, none⟩)) RG (Runs.plain (by kernel_rfl)) (by kernel_rfl) (by kernel_rfl) (fun _ => (y_pure (by kernel_rfl) (fun _ => by kernel_rfl))) ?_
      refine wpa_take0 12 [true, true, true, true, true, true, true, true, true, true, true, true, true, false] 41 (.fieldAddr 79 (.tmp 40) 3) 0 (Value.pointer (some ⟨b11, 8, none⟩)) RG (Runs.plain (by kernel_rfl)) (by kernel_rfl) (by kernel_rfl) (fun _ => (y_pure (by kernel_rfl) (fun _ => by kernel_rfl))) ?_
      refine wpa_one 13 (by kernel_rfl) ?_
      refine wpi_do [true, true, true, true, true, true, true, true, true, true, true, true, true, true] (.store 22 (.tmp 41) (.tmp 37)) 0 (Runs.plain (by kernel_rfl)) lp (q_store b11 8 0 (Value.slice (offA A10_set__in_ c10_set__in_ 0 1) ((cutS (List.getD l i default).set_.in_ 50)).length (c10_set__in_ - 0)) [Value.slice (offA A10_set__in_ c10_set__in_ 0 1) ((cutS (List.getD l i default).set_.in_ 50)).length (c10_set__in_ - 0)] 81 [Value.int .u8 ((List.getD l i default).kind), Value.int .i64 ((List.getD l i default).piece.base), Value.int .i64 ((List.getD l i default).piece.index), Value.int .i64 ((List.getD l i default).piece.count), Value.slice (offA A10_piece_data c10_piece_data 0 1) ((cutS (List.getD l i default).piece.data 602)).length (c10_piece_data - 0), Value.int .i64 ((List.getD l i default).set_.steps), Value.int .i64 ((List.getD l i default).set_.cycle), Value.bool ((List.getD l i default).set_.fresh), Value.slice A10_set__in_ ((List.getD l i default).set_.in_).length c10_set__in_] [Value.int .u8 ((List.getD l i default).kind), Value.int .i64 ((List.getD l i default).piece.base), Value.int .i64 ((List.getD l i default).piece.index), Value.int .i64 ((List.getD l i default).piece.count), Value.slice (offA A10_piece_data c10_piece_data 0 1) ((cutS (List.getD l i default).piece.data 602)).length (c10_piece_data - 0), Value.int .i64 ((List.getD l i default).set_.steps), Value.int .i64 ((List.getD l i default).set_.cycle), Value.bool ((List.getD l i default).set_.fresh), Value.slice (offA A10_set__in_ c10_set__in_ 0 1) ((cutS (List.getD l i default).set_.in_ 50)).length (c10_set__in_ - 0)] (by kernel_rfl) (by kernel_rfl) (by kernel_rfl) (by kernel_rfl) (by kernel_rfl) (by kernel_rfl) (by kernel_rfl)) (by kernel_rfl) ?_
      rintro _ _ _ - ⟨rfl, rfl⟩
      refine ⟨.inl (by kernel_rfl), ?_⟩
      refine wpa_done (by kernel_rfl) ?_
      refine wpq_then ?_
      refine wpq_sub [(0, Value.slice Al (l).length cl), (3, Value.pointer (some ⟨b3_0, 0, none⟩)), (4, Value.pointer (some ⟨b6, 0, none⟩)), (5, Value.int .i64 ((i : Int))), (6, Value.pointer (some ⟨b11, 0, none⟩))] (by kernel_rfl) ?_
      refine wpc_seq (x := F8_37) (y := F8_38) (by kernel_rfl) ?_
      refine wpc_seq (x := F8_39) (y := F8_40) (by kernel_rfl) ?_
      refine wpc_region (ops := R8_39) (id := 9) (by kernel_rfl) ?_
      refine wpr_val 1 42 (.fieldAddr 81 (.tmp 6) 0) 0 (Value.pointer (some ⟨b11, 0, none⟩)) (Runs.plain (by kernel_rfl)) (by kernel_rfl) (y_pure (by kernel_rfl) (fun _ => by kernel_rfl)) ?_
      refine wpr_val 2 43 (.load 5 (.tmp 42)) 5 (Value.int .u8 ((List.getD l i default).kind)) (Runs.plain (by kernel_rfl)) (by kernel_rfl) (q_load1 b11 0 0 (by kernel_rfl) (by kernel_rfl) (by kernel_rfl)) ?_
      refine wpr_val 3 44 (.binOp .rem 5 (.tmp 43) (.const (Value.int .u8 (4))) 5) 5 (Value.int .u8 ((Int.tmod (List.getD l i default).kind 4))) (Runs.plain (by kernel_rfl)) (by kernel_rfl) (y_rem (a := (List.getD l i default).kind) (b := 4) (by kernel_rfl) (by kernel_rfl) (by omega) rfl) ?_
      refine wpr_end (by kernel_rfl) ?_
      refine wpq_then ?_
      refine wpc_block (x := F8_42) (id := 2) (by kernel_rfl) ?_
      refine wpc_seq (x := F8_43) (y := F8_44) (by kernel_rfl) ?_
      refine wpc_region (ops := R8_43) (id := 12) (by kernel_rfl) ?_
      refine wpr_val 1 49 (.binOp .eql 5 (.tmp 44) (.const (Value.int .u8 (0))) 5) 4 (Value.bool (((Int.tmod (List.getD l i default).kind 4) == 0))) (Runs.plain (by kernel_rfl)) (by kernel_rfl) (y_pure (by kernel_rfl) (fun _ => by kernel_rfl)) ?_
      refine wpr_val 2 48 (.assign (.tmp 49)) 4 (Value.bool (((Int.tmod (List.getD l i default).kind 4) == 0))) (Runs.plain (by kernel_rfl)) (by kernel_rfl) (y_assign (by kernel_rfl)) ?_
      refine wpr_end (by kernel_rfl) ?_
      refine wpq_then ?_
      -- condition 1
      refine wpc_meet (fun g own sl => ∃ (x1 : Coll) (Ax1_parts : Option Addr) (cx1_parts : Nat) (kx1_parts : Option Bk) (Ax1_sets : Option Addr) (cx1_sets : Nat) (kx1_sets : Option Bk) (y1 : Coll) (Ay1_parts : Option Addr) (cy1_parts : Nat) (Ay1_sets : Option Addr) (cy1_sets : Nat), own = [some ⟨b11, 81, [Value.int .u8 ((List.getD l i default).kind), Value.int .i64 ((List.getD l i default).piece.base), Value.int .i64 ((List.getD l i default).piece.index), Value.int .i64 ((List.getD l i default).piece.count), Value.slice (offA A10_piece_data c10_piece_data 0 1) ((cutS (List.getD l i default).piece.data 602)).length (c10_piece_data - 0), Value.int .i64 ((List.getD l i default).set_.steps), Value.int .i64 ((List.getD l i default).set_.cycle), Value.bool ((List.getD l i default).set_.fresh), Value.slice (offA A10_set__in_ c10_set__in_ 0 1) ((cutS (List.getD l i default).set_.in_ 50)).length (c10_set__in_ - 0)]⟩, some ⟨b6, 77, [Value.int .i64 (y1.base), Value.int .i64 (y1.count), Value.slice Ay1_parts (y1.parts).length cy1_parts, Value.slice Ay1_sets (y1.sets).length cy1_sets]⟩, some ⟨b3_0, 114, [Value.int .i64 (x1.base), Value.int .i64 (x1.count), Value.slice Ax1_parts (x1.parts).length cx1_parts, Value.slice Ax1_sets (x1.sets).length cx1_sets]⟩, kx1_parts, kx1_sets] ∧ sl = [(0, Value.slice Al (l).length cl), (3, Value.pointer (some ⟨b3_0, 0, none⟩)), (4, Value.pointer (some ⟨b6, 0, none⟩)), (5, Value.int .i64 ((i : Int)))] ∧ Buf g.b (tyArr tyU8) 22 (.slice Ax1_parts (x1.parts).length cx1_parts) kx1_parts x1.parts ∧ Buf g.b tySett 79 (.slice Ax1_sets (x1.sets).length cx1_sets) kx1_sets x1.sets ∧ Arr g.b (tyArr tyU8) Ay1_parts cy1_parts y1.parts ∧ Arr g.b tySett Ay1_sets cy1_sets y1.sets ∧ (y1 = x1) ∧ (collOk x1 (i + 1))) ?_ (fun hQC1 => ?_)
      · rintro g18 _ _ le19 ⟨x1, Ax1_parts, cx1_parts, kx1_parts, Ax1_sets, cx1_sets, kx1_sets, y1, Ay1_parts, cy1_parts, Ay1_sets, cy1_sets, rfl, rfl, hx1_parts, hx1_sets, fy1_parts, fy1_sets, he1, hG1⟩
        have fl := fl.mono le19.b
        have h3_0_parts := h3_0_parts.mono le19.b
        have h3_0_sets := h3_0_sets.mono le19.b
        have hx_parts := hx_parts.mono le19.b
        have hx_sets := hx_sets.mono le19.b
        have fy_parts := fy_parts.mono le19.b
        have fy_sets := fy_sets.mono le19.b
        have hc10 := hc10.mono le19.b
        have f10_piece_data := f10_piece_data.mono le19.b
        have f10_set__in_ := f10_set__in_.mono le19.b
        have f12 := f12.mono le19.b
        have f15 := f15.mono le19.b
        have L0 := L0.trans le19
        have LHL0 := LHL0.trans le19
        have nhx1_parts := hx1_parts.len
        have nhx1_sets := hx1_sets.len
        have nfy1_parts := fy1_parts.len
        have nfy1_sets := fy1_sets.len
        refine wpq_blockN ?_
        refine wpq_then ?_
        refine wpc_seq (x := F8_48) (y := F8_49) (by kernel_rfl) ?_
        refine wpc_region (ops := R8_48) (id := 21) (by kernel_rfl) ?_
        refine wpr_val 1 80 (.move (.tmp 3)) 72 (Value.pointer (some ⟨b3_0, 0, none⟩)) (Runs.plain (by kernel_rfl)) (by kernel_rfl) (y_move (by kernel_rfl)) ?_
        refine wpr_eff 2 81 (.call { callee := .value (.func 35), args := #[(.tmp 80)], argTypes := #[72] }) 91 (Runs.plain (by kernel_rfl)) (by kernel_rfl) (e_call [Value.pointer (some ⟨b3_0, 0, none⟩)] (by kernel_rfl) (by kernel_rfl) (fun g' lr eb ln => c35 g' ⟨b3_0, 0, none⟩ x1 Ax1_parts cx1_parts Ax1_sets cx1_sets (cells_lent (k := ⟨b3_0, 114, [Value.int .i64 (x1.base), Value.int .i64 (x1.count), Value.slice Ax1_parts (x1.parts).length cx1_parts, Value.slice Ax1_sets (x1.sets).length cx1_sets]⟩) 0 [Value.int .i64 (x1.base), Value.int .i64 (x1.count), Value.slice Ax1_parts (x1.parts).length cx1_parts, Value.slice Ax1_sets (x1.sets).length cx1_sets] (ln _ (lent (k := ⟨b3_0, 114, [Value.int .i64 (x1.base), Value.int .i64 (x1.count), Value.slice Ax1_parts (x1.parts).length cx1_parts, Value.slice Ax1_sets (x1.sets).length cx1_sets]⟩) 2 (by kernel_rfl))) (by kernel_rfl)) (arrm_of_buf hx1_parts eb (lentk 3 (by kernel_rfl) ln)) (arrm_of_buf hx1_sets eb (lentk 4 (by kernel_rfl) ln)) (by first | exact coll_flat hG1 (by omega) | (rw [he1]; exact coll_flat hG1 (by omega))) (by have := hG1.ns; omega))) ?_
        rintro _ g21 _ le22 ⟨rfl, A20_0_snapshot, c20_0_snapshot, A20_0_sets, c20_0_sets, rfl, f20_0_snapshot, f20_0_sets⟩
        have fl := fl.mono le22.b
        have h3_0_parts := h3_0_parts.mono le22.b
        have h3_0_sets := h3_0_sets.mono le22.b
        have hx_parts := hx_parts.mono le22.b
        have hx_sets := hx_sets.mono le22.b
        have fy_parts := fy_parts.mono le22.b
        have fy_sets := fy_sets.mono le22.b
        have hc10 := hc10.mono le22.b
        have f10_piece_data := f10_piece_data.mono le22.b
        have f10_set__in_ := f10_set__in_.mono le22.b
        have f12 := f12.mono le22.b
        have f15 := f15.mono le22.b
        have hx1_parts := hx1_parts.mono le22.b
        have hx1_sets := hx1_sets.mono le22.b
        have fy1_parts := fy1_parts.mono le22.b
        have fy1_sets := fy1_sets.mono le22.b
        have L0 := L0.trans le22
        have LHL0 := LHL0.trans le22
        have nf20_0_snapshot := f20_0_snapshot.len
        have nf20_0_sets := f20_0_sets.len
        refine wpr_val 3 79 (.move (.tmp 81)) 91 (Value.tuple #[Value.agg #[Value.int .i64 ((jobS x1).1.base), Value.slice A20_0_snapshot ((jobS x1).1.snapshot).length c20_0_snapshot, Value.slice A20_0_sets ((jobS x1).1.sets).length c20_0_sets], Value.bool ((jobS x1).2)]) (Runs.plain (by kernel_rfl)) (by kernel_rfl) (y_move (by kernel_rfl)) ?_
        refine wpr_val 4 82 (.extract (.tmp 79) 0) 90 (Value.agg #[Value.int .i64 ((jobS x1).1.base), Value.slice A20_0_snapshot ((jobS x1).1.snapshot).length c20_0_snapshot, Value.slice A20_0_sets ((jobS x1).1.sets).length c20_0_sets]) (Runs.plain (by kernel_rfl)) (by kernel_rfl) (y_pure (by kernel_rfl) (fun _ => by kernel_rfl)) ?_
        refine wpr_val 5 83 (.extract (.tmp 79) 1) 4 (Value.bool ((jobS x1).2)) (Runs.plain (by kernel_rfl)) (by kernel_rfl) (y_pure (by kernel_rfl) (fun _ => by kernel_rfl)) ?_
        refine wpr_eff 6 7 (.alloc 90) 0 (Runs.plain (by kernel_rfl)) (by kernel_rfl) (e_alloc (cs := [Value.int .i64 (0), Value.slice none 0 0, Value.slice none 0 0]) (by kernel_rfl)) ?_
        rintro _ _ _ - ⟨b23, rfl, rfl, rfl⟩
        refine wpr_do 7 (.store 90 (.tmp 7) (.tmp 82)) 0 (Runs.plain (by kernel_rfl)) (by kernel_rfl) (q_store b23 0 0 (Value.agg #[Value.int .i64 ((jobS x1).1.base), Value.slice A20_0_snapshot ((jobS x1).1.snapshot).length c20_0_snapshot, Value.slice A20_0_sets ((jobS x1).1.sets).length c20_0_sets]) [Value.int .i64 ((jobS x1).1.base), Value.slice A20_0_snapshot ((jobS x1).1.snapshot).length c20_0_snapshot, Value.slice A20_0_sets ((jobS x1).1.sets).length c20_0_sets] 90 [Value.int .i64 (0), Value.slice none 0 0, Value.slice none 0 0] [Value.int .i64 ((jobS x1).1.base), Value.slice A20_0_snapshot ((jobS x1).1.snapshot).length c20_0_snapshot, Value.slice A20_0_sets ((jobS x1).1.sets).length c20_0_sets] (by kernel_rfl) (by kernel_rfl) (by kernel_rfl) (by kernel_rfl) (by kernel_rfl) (by kernel_rfl) (by kernel_rfl)) ?_
        rintro _ _ _ - ⟨rfl, rfl⟩
        refine wpr_val 8 8 (.assign (.tmp 83)) 4 (Value.bool ((jobS x1).2)) (Runs.plain (by kernel_rfl)) (by kernel_rfl) (y_assign (by kernel_rfl)) ?_
        refine wpr_end (by kernel_rfl) ?_
        refine wpq_then ?_
        refine wpq_sub [(0, Value.slice Al (l).length cl), (3, Value.pointer (some ⟨b3_0, 0, none⟩)), (4, Value.pointer (some ⟨b6, 0, none⟩)), (5, Value.int .i64 ((i : Int))), (7, Value.pointer (some ⟨b23, 0, none⟩)), (8, Value.bool ((jobS x1).2))] (by kernel_rfl) ?_
        refine wpc_seq (x := F8_51) (y := F8_52) (by kernel_rfl) ?_
        refine wpc_region (ops := R8_51) (id := 22) (by kernel_rfl) ?_
        refine wpr_val 1 85 (.load 77 (.tmp 4)) 77 (Value.agg #[Value.int .i64 (y1.base), Value.int .i64 (y1.count), Value.slice Ay1_parts (y1.parts).length cy1_parts, Value.slice Ay1_sets (y1.sets).length cy1_sets]) (Runs.plain (by kernel_rfl)) (by kernel_rfl) (q_loadA b6 0 2 [Value.int .i64 (y1.base), Value.int .i64 (y1.count), Value.slice Ay1_parts (y1.parts).length cy1_parts, Value.slice Ay1_sets (y1.sets).length cy1_sets] (by kernel_rfl) (by kernel_rfl) (by kernel_rfl)) ?_
        refine wpr_eff 2 86 (.call { callee := .value (.func 36), args := #[(.tmp 85)], argTypes := #[77] }) 95 (Runs.plain (by kernel_rfl)) (by kernel_rfl) (e_call [Value.agg #[Value.int .i64 (y1.base), Value.int .i64 (y1.count), Value.slice Ay1_parts (y1.parts).length cy1_parts, Value.slice Ay1_sets (y1.sets).length cy1_sets]] (by kernel_rfl) (by kernel_rfl) (fun g' lr eb ln => c36 g' y1 Ay1_parts cy1_parts Ay1_sets cy1_sets (by rw [eb]; exact fy1_parts) (by rw [eb]; exact fy1_sets) (by first | exact coll_flat hG1 (by omega) | (rw [he1]; exact coll_flat hG1 (by omega))))) ?_
        rintro _ g25 _ le26 ⟨rfl, A24_0_snapshot, c24_0_snapshot, A24_0_sets, c24_0_sets, rfl, f24_0_snapshot, f24_0_sets⟩
        have fl := fl.mono le26.b
        have h3_0_parts := h3_0_parts.mono le26.b
        have h3_0_sets := h3_0_sets.mono le26.b
        have hx_parts := hx_parts.mono le26.b
        have hx_sets := hx_sets.mono le26.b
        have fy_parts := fy_parts.mono le26.b
        have fy_sets := fy_sets.mono le26.b
        have hc10 := hc10.mono le26.b
        have f10_piece_data := f10_piece_data.mono le26.b
        have f10_set__in_ := f10_set__in_.mono le26.b
        have f12 := f12.mono le26.b
        have f15 := f15.mono le26.b
        have hx1_parts := hx1_parts.mono le26.b
        have hx1_sets := hx1_sets.mono le26.b
        have fy1_parts := fy1_parts.mono le26.b
        have fy1_sets := fy1_sets.mono le26.b
        have f20_0_snapshot := f20_0_snapshot.mono le26.b
        have f20_0_sets := f20_0_sets.mono le26.b
        have L0 := L0.trans le26
        have LHL0 := LHL0.trans le26
        have nf24_0_snapshot := f24_0_snapshot.len
        have nf24_0_sets := f24_0_sets.len
        refine wpr_val 3 84 (.move (.tmp 86)) 95 (Value.tuple #[Value.agg #[Value.int .i64 ((readyS y1).1.base), Value.slice A24_0_snapshot ((readyS y1).1.snapshot).length c24_0_snapshot, Value.slice A24_0_sets ((readyS y1).1.sets).length c24_0_sets], Value.bool ((readyS y1).2)]) (Runs.plain (by kernel_rfl)) (by kernel_rfl) (y_move (by kernel_rfl)) ?_
        refine wpr_val 4 87 (.extract (.tmp 84) 0) 94 (Value.agg #[Value.int .i64 ((readyS y1).1.base), Value.slice A24_0_snapshot ((readyS y1).1.snapshot).length c24_0_snapshot, Value.slice A24_0_sets ((readyS y1).1.sets).length c24_0_sets]) (Runs.plain (by kernel_rfl)) (by kernel_rfl) (y_pure (by kernel_rfl) (fun _ => by kernel_rfl)) ?_
        refine wpr_val 5 88 (.extract (.tmp 84) 1) 4 (Value.bool ((readyS y1).2)) (Runs.plain (by kernel_rfl)) (by kernel_rfl) (y_pure (by kernel_rfl) (fun _ => by kernel_rfl)) ?_
        refine wpr_eff 6 9 (.alloc 94) 0 (Runs.plain (by kernel_rfl)) (by kernel_rfl) (e_alloc (cs := [Value.int .i64 (0), Value.slice none 0 0, Value.slice none 0 0]) (by kernel_rfl)) ?_
        rintro _ _ _ - ⟨b27, rfl, rfl, rfl⟩
        refine wpr_do 7 (.store 94 (.tmp 9) (.tmp 87)) 0 (Runs.plain (by kernel_rfl)) (by kernel_rfl) (q_store b27 0 0 (Value.agg #[Value.int .i64 ((readyS y1).1.base), Value.slice A24_0_snapshot ((readyS y1).1.snapshot).length c24_0_snapshot, Value.slice A24_0_sets ((readyS y1).1.sets).length c24_0_sets]) [Value.int .i64 ((readyS y1).1.base), Value.slice A24_0_snapshot ((readyS y1).1.snapshot).length c24_0_snapshot, Value.slice A24_0_sets ((readyS y1).1.sets).length c24_0_sets] 94 [Value.int .i64 (0), Value.slice none 0 0, Value.slice none 0 0] [Value.int .i64 ((readyS y1).1.base), Value.slice A24_0_snapshot ((readyS y1).1.snapshot).length c24_0_snapshot, Value.slice A24_0_sets ((readyS y1).1.sets).length c24_0_sets] (by kernel_rfl) (by kernel_rfl) (by kernel_rfl) (by kernel_rfl) (by kernel_rfl) (by kernel_rfl) (by kernel_rfl)) ?_
        rintro _ _ _ - ⟨rfl, rfl⟩
        refine wpr_val 8 10 (.assign (.tmp 88)) 4 (Value.bool ((readyS y1).2)) (Runs.plain (by kernel_rfl)) (by kernel_rfl) (y_assign (by kernel_rfl)) ?_
        refine wpr_end (by kernel_rfl) ?_
        refine wpq_then ?_
        refine wpq_sub [(0, Value.slice Al (l).length cl), (3, Value.pointer (some ⟨b3_0, 0, none⟩)), (4, Value.pointer (some ⟨b6, 0, none⟩)), (5, Value.int .i64 ((i : Int))), (7, Value.pointer (some ⟨b23, 0, none⟩)), (8, Value.bool ((jobS x1).2)), (9, Value.pointer (some ⟨b27, 0, none⟩)), (10, Value.bool ((readyS y1).2))] (by kernel_rfl) ?_
        refine wpc_seq (x := F8_54) (y := F8_55) (by kernel_rfl) ?_
        refine wpc_region (ops := R8_54) (id := 23) (by kernel_rfl) ?_
        refine wpr_val 1 89 (.load 77 (.tmp 4)) 77 (Value.agg #[Value.int .i64 (y1.base), Value.int .i64 (y1.count), Value.slice Ay1_parts (y1.parts).length cy1_parts, Value.slice Ay1_sets (y1.sets).length cy1_sets]) (Runs.plain (by kernel_rfl)) (by kernel_rfl) (q_loadA b6 0 3 [Value.int .i64 (y1.base), Value.int .i64 (y1.count), Value.slice Ay1_parts (y1.parts).length cy1_parts, Value.slice Ay1_sets (y1.sets).length cy1_sets] (by kernel_rfl) (by kernel_rfl) (by kernel_rfl)) ?_
        refine wpr_eff 2 90 (.call { callee := .value (.func 37), args := #[(.tmp 89)], argTypes := #[77] }) 62 (Runs.plain (by kernel_rfl)) (by kernel_rfl) (e_call [Value.agg #[Value.int .i64 (y1.base), Value.int .i64 (y1.count), Value.slice Ay1_parts (y1.parts).length cy1_parts, Value.slice Ay1_sets (y1.sets).length cy1_sets]] (by kernel_rfl) (by kernel_rfl) (fun g' lr eb ln => c37 g' y1 Ay1_parts cy1_parts Ay1_sets cy1_sets ((fy1_parts.mono g25.br).mono lr) ((fy1_sets.mono g25.br).mono lr))) ?_
        rintro _ g29 _ le30 ⟨rfl, rfl⟩
        have fl := fl.mono le30.b
        have h3_0_parts := h3_0_parts.mono le30.b
        have h3_0_sets := h3_0_sets.mono le30.b
        have hx_parts := hx_parts.mono le30.b
        have hx_sets := hx_sets.mono le30.b
        have fy_parts := fy_parts.mono le30.b
        have fy_sets := fy_sets.mono le30.b
        have hc10 := hc10.mono le30.b
        have f10_piece_data := f10_piece_data.mono le30.b
        have f10_set__in_ := f10_set__in_.mono le30.b
        have f12 := f12.mono le30.b
        have f15 := f15.mono le30.b
        have hx1_parts := hx1_parts.mono le30.b
        have hx1_sets := hx1_sets.mono le30.b
        have fy1_parts := fy1_parts.mono le30.b
        have fy1_sets := fy1_sets.mono le30.b
        have f20_0_snapshot := f20_0_snapshot.mono le30.b
        have f20_0_sets := f20_0_sets.mono le30.b
        have f24_0_snapshot := f24_0_snapshot.mono le30.b
        have f24_0_sets := f24_0_sets.mono le30.b
        have L0 := L0.trans le30
        have LHL0 := LHL0.trans le30
        refine wpr_eff 3 11 (.alloc 62) 0 (Runs.plain (by kernel_rfl)) (by kernel_rfl) (e_alloc (cs := [Value.int .i64 (0), Value.int .i64 (0)]) (by kernel_rfl)) ?_
        rintro _ _ _ - ⟨b31, rfl, rfl, rfl⟩
        refine wpr_do 4 (.store 62 (.tmp 11) (.tmp 90)) 0 (Runs.plain (by kernel_rfl)) (by kernel_rfl) (q_store b31 0 0 (Value.agg #[Value.int .i64 ((rasksS y1).base), Value.int .i64 ((rasksS y1).have_)]) [Value.int .i64 ((rasksS y1).base), Value.int .i64 ((rasksS y1).have_)] 62 [Value.int .i64 (0), Value.int .i64 (0)] [Value.int .i64 ((rasksS y1).base), Value.int .i64 ((rasksS y1).have_)] (by kernel_rfl) (by kernel_rfl) (by kernel_rfl) (by kernel_rfl) (by kernel_rfl) (by kernel_rfl) (by kernel_rfl)) ?_
        rintro _ _ _ - ⟨rfl, rfl⟩
        refine wpr_end (by kernel_rfl) ?_
        refine wpq_then ?_
        refine wpc_seq (x := F8_57) (y := F8_58) (by kernel_rfl) ?_
        refine wpa_start (ops := R8_57) (id := 24) (by kernel_rfl) (by kernel_rfl) [3, 5, 14, 16] [] [some ⟨b31, 62, [Value.int .i64 ((rasksS y1).base), Value.int .i64 ((rasksS y1).have_)]⟩, some ⟨b27, 94, [Value.int .i64 ((readyS y1).1.base), Value.slice A24_0_snapshot ((readyS y1).1.snapshot).length c24_0_snapshot, Value.slice A24_0_sets ((readyS y1).1.sets).length c24_0_sets]⟩, some ⟨b23, 90, [Value.int .i64 ((jobS x1).1.base), Value.slice A20_0_snapshot ((jobS x1).1.snapshot).length c20_0_snapshot, Value.slice A20_0_sets ((jobS x1).1.sets).length c20_0_sets]⟩, some ⟨b11, 81, [Value.int .u8 ((List.getD l i default).kind), Value.int .i64 ((List.getD l i default).piece.base), Value.int .i64 ((List.getD l i default).piece.index), Value.int .i64 ((List.getD l i default).piece.count), Value.slice (offA A10_piece_data c10_piece_data 0 1) ((cutS (List.getD l i default).piece.data 602)).length (c10_piece_data - 0), Value.int .i64 ((List.getD l i default).set_.steps), Value.int .i64 ((List.getD l i default).set_.cycle), Value.bool ((List.getD l i default).set_.fresh), Value.slice (offA A10_set__in_ c10_set__in_ 0 1) ((cutS (List.getD l i default).set_.in_ 50)).length (c10_set__in_ - 0)]⟩, some ⟨b6, 77, [Value.int .i64 (y1.base), Value.int .i64 (y1.count), Value.slice Ay1_parts (y1.parts).length cy1_parts, Value.slice Ay1_sets (y1.sets).length cy1_sets]⟩] (by kernel_rfl) (by kernel_rfl) (fun _ _ _ _ _ h => h) 20 (by kernel_rfl) (fun RG => ?_)
        have lp := Psi.le.refl g29.r
        refine wpa_take0 0 [true, false, false, false, false, false, false, false, false, false, false, false, false, false, false, false, false, false, false, false] 91 (.move (.tmp 3)) 72 (Value.pointer (some ⟨b3_0, 0, none⟩)) RG (Runs.plain (by kernel_rfl)) (by kernel_rfl) (by kernel_rfl) (fun _ => (y_move (by kernel_rfl))) ?_
        refine wpa_take0 2 [true, false, true, false, false, false, false, false, false, false, false, false, false, false, false, false, false, false, false, false] 93 (.fieldAddr 62 (.tmp 11) 0) 0 (Value.pointer (some ⟨b31, 0, none⟩)) RG (Runs.plain (by kernel_rfl)) (by kernel_rfl) (by kernel_rfl) (fun _ => (y_pure (by kernel_rfl) (fun _ => by kernel_rfl))) ?_
        refine wpa_take 3 [true, false, true, true, false, false, false, false, false, false, false, false, false, false, false, false, false, false, false, false] 94 (.load 2 (.tmp 93)) 2 (Value.int .i64 ((rasksS y1).base)) RG (Runs.plain (by kernel_rfl)) (by kernel_rfl) (by kernel_rfl) lp (keepK_P [some 0, some 1, some 2, some 3, some 4] (by kernel_rfl)) (q_load1 b31 0 0 (by kernel_rfl) (by kernel_rfl) (by kernel_rfl)) ?_
        refine wpa_take0 4 [true, false, true, true, true, false, false, false, false, false, false, false, false, false, false, false, false, false, false, false] 95 (.fieldAddr 62 (.tmp 11) 1) 0 (Value.pointer (some ⟨b31, 1, none⟩)) RG (Runs.plain (by kernel_rfl)) (by kernel_rfl) (by kernel_rfl) (fun _ => (y_pure (by kernel_rfl) (fun _ => by kernel_rfl))) ?_
        refine wpa_take 5 [true, false, true, true, true, true, false, false, false, false, false, false, false, false, false, false, false, false, false, false] 96 (.load 3 (.tmp 95)) 3 (Value.int .i64 ((rasksS y1).have_)) RG (Runs.plain (by kernel_rfl)) (by kernel_rfl) (by kernel_rfl) lp (keepK_P [some 0, some 1, some 2, some 3, some 4] (by kernel_rfl)) (q_load1 b31 1 0 (by kernel_rfl) (by kernel_rfl) (by kernel_rfl)) ?_
        refine wpa_take0 6 [true, false, true, true, true, true, true, false, false, false, false, false, false, false, false, false, false, false, false, false] 97 (.build 55 #[(0, (.tmp 94)), (1, (.tmp 96))]) 55 (Value.agg #[Value.int .i64 ((rasksS y1).base), Value.int .i64 ((rasksS y1).have_)]) RG (Runs.plain (by kernel_rfl)) (by kernel_rfl) (by kernel_rfl) (fun _ => (y_pure (by kernel_rfl) (fun _ => by kernel_rfl))) ?_
        refine wpa_one 1 (by kernel_rfl) ?_
        refine wpi_eff [true, true, true, true, true, true, true, false, false, false, false, false, false, false, false, false, false, false, false, false] 92 (.call { callee := .value (.func 38), args := #[(.tmp 91)], argTypes := #[72] }) 55 (Runs.plain (by kernel_rfl)) (by kernel_rfl) lp (e_call [Value.pointer (some ⟨b3_0, 0, none⟩)] (by kernel_rfl) (by kernel_rfl) (fun g' lr eb ln => c38 g' ⟨b3_0, 0, none⟩ x1 Ax1_parts cx1_parts Ax1_sets cx1_sets (cells_lent (k := ⟨b3_0, 114, [Value.int .i64 (x1.base), Value.int .i64 (x1.count), Value.slice Ax1_parts (x1.parts).length cx1_parts, Value.slice Ax1_sets (x1.sets).length cx1_sets]⟩) 0 [Value.int .i64 (x1.base), Value.int .i64 (x1.count), Value.slice Ax1_parts (x1.parts).length cx1_parts, Value.slice Ax1_sets (x1.sets).length cx1_sets] (ln _ (lent (k := ⟨b3_0, 114, [Value.int .i64 (x1.base), Value.int .i64 (x1.count), Value.slice Ax1_parts (x1.parts).length cx1_parts, Value.slice Ax1_sets (x1.sets).length cx1_sets]⟩) 5 (by kernel_rfl))) (by kernel_rfl)) (arrm_of_buf hx1_parts eb (lentk 6 (by kernel_rfl) ln)) (arrm_of_buf hx1_sets eb (lentk 7 (by kernel_rfl) ln)))) (by kernel_rfl) ?_
        rintro _ g33 _ le34 ⟨rfl, rfl⟩
        refine ⟨.inr (keepK_P [some 0, some 1, some 2, some 3, some 4] (by kernel_rfl)), ?_⟩
        have fl := fl.mono le34.b
        have h3_0_parts := h3_0_parts.mono le34.b
        have h3_0_sets := h3_0_sets.mono le34.b
        have hx_parts := hx_parts.mono le34.b
        have hx_sets := hx_sets.mono le34.b
        have fy_parts := fy_parts.mono le34.b
        have fy_sets := fy_sets.mono le34.b
        have hc10 := hc10.mono le34.b
        have f10_piece_data := f10_piece_data.mono le34.b
        have f10_set__in_ := f10_set__in_.mono le34.b
        have f12 := f12.mono le34.b
        have f15 := f15.mono le34.b
        have hx1_parts := hx1_parts.mono le34.b
        have hx1_sets := hx1_sets.mono le34.b
        have fy1_parts := fy1_parts.mono le34.b
        have fy1_sets := fy1_sets.mono le34.b
        have f20_0_snapshot := f20_0_snapshot.mono le34.b
        have f20_0_sets := f20_0_sets.mono le34.b
        have f24_0_snapshot := f24_0_snapshot.mono le34.b
        have f24_0_sets := f24_0_sets.mono le34.b
        have L0 := L0.trans le34
        have LHL0 := LHL0.trans le34
        have lp := lp.trans le34.r
        refine wpa_take0 7 [true, true, true, true, true, true, true, true, false, false, false, false, false, false, false, false, false, false, false, false] 98 (.binOp .neq 55 (.tmp 92) (.tmp 97) 55) 4 (Value.bool ((!(((wantS x1).base == (rasksS y1).base) && ((wantS x1).have_ == (rasksS y1).have_))))) RG (Runs.plain (by kernel_rfl)) (by kernel_rfl) (by kernel_rfl) (fun _ => (y_neA (b := (((wantS x1).base == (rasksS y1).base) && ((wantS x1).have_ == (rasksS y1).have_))) (xs := #[Value.int .i64 ((wantS x1).base), Value.int .i64 ((wantS x1).have_)]) (ys := #[Value.int .i64 ((rasksS y1).base), Value.int .i64 ((rasksS y1).have_)]) (by kernel_rfl) (by kernel_rfl) (by kernel_rfl) (by kernel_rfl))) ?_
        refine wpa_take0 8 [true, true, true, true, true, true, true, true, true, false, false, false, false, false, false, false, false, false, false, false] 99 (.move (.tmp 98)) 4 (Value.bool ((!(((wantS x1).base == (rasksS y1).base) && ((wantS x1).have_ == (rasksS y1).have_))))) RG (Runs.plain (by kernel_rfl)) (by kernel_rfl) (by kernel_rfl) (fun _ => (y_move (by kernel_rfl))) ?_
        refine wpa_grp 7 [true, true, true, true, true, true, true, true, true, true, true, true, true, false, false, false, false, false, false, false] [(0, Value.slice Al (l).length cl), (3, Value.pointer (some ⟨b3_0, 0, none⟩)), (4, Value.pointer (some ⟨b6, 0, none⟩)), (5, Value.int .i64 ((i : Int))), (7, Value.pointer (some ⟨b23, 0, none⟩)), (9, Value.pointer (some ⟨b27, 0, none⟩)), (103, Value.bool (((!(((wantS x1).base == (rasksS y1).base) && ((wantS x1).have_ == (rasksS y1).have_))) || (!((jobS x1).2 == (readyS y1).2)))))] (fun hk8 => ?_) ?_
        · refine wpq_split 99 (b := (!(((wantS x1).base == (rasksS y1).base) && ((wantS x1).have_ == (rasksS y1).have_)))) (by kernel_rfl) (fun q35 => ?_) (fun q35 => ?_)
          · have q35n := not_eq_true_ q35
            refine wpa_takeSkip0 9 [true, true, true, true, true, true, true, true, true, true, false, false, false, false, false, false, false, false, false, false] 100 RG (Skips.mk' (j := 8) (t := 99) (b := false) (by kernel_rfl) (by kernel_rfl) (by kernel_rfl)) (by kernel_rfl) (by kernel_rfl) ?_
            refine wpa_takeSkip0 10 [true, true, true, true, true, true, true, true, true, true, true, false, false, false, false, false, false, false, false, false] 101 RG (Skips.mk' (j := 8) (t := 99) (b := false) (by kernel_rfl) (by kernel_rfl) (by kernel_rfl)) (by kernel_rfl) (by kernel_rfl) ?_
            refine wpa_takeSkip0 11 [true, true, true, true, true, true, true, true, true, true, true, true, false, false, false, false, false, false, false, false] 102 RG (Skips.mk' (j := 8) (t := 99) (b := false) (by kernel_rfl) (by kernel_rfl) (by kernel_rfl)) (by kernel_rfl) (by kernel_rfl) ?_
            refine wpa_take0 12 [true, true, true, true, true, true, true, true, true, true, true, true, true, false, false, false, false, false, false, false] 103 (.pick (.tmp 99) (.const (Value.bool (true))) (.tmp 102)) 4 (Value.bool (true)) RG (Runs.plain (by kernel_rfl)) (by kernel_rfl) (by kernel_rfl) (fun _ => (y_pickT (by kernel_rfl) (by kernel_rfl))) ?_
            refine wpq_re 103 (v := Value.bool (true)) (Value.bool (((!(((wantS x1).base == (rasksS y1).base) && ((wantS x1).have_ == (rasksS y1).have_))) || (!((jobS x1).2 == (readyS y1).2))))) (by kernel_rfl) (re_or1 q35) ?_
            exact wpq_sub _ (by kernel_rfl) hk8
          · have q35n := not_eq_false_ q35
            have q35nl := (and_true_ q35n).1
            have q35nr := (and_true_ q35n).2
            have q35nlp : (wantS x1).base = (rasksS y1).base := eq_of_beq q35nl
            have q35nrp : (wantS x1).have_ = (rasksS y1).have_ := eq_of_beq q35nr
            refine wpa_take0 9 [true, true, true, true, true, true, true, true, true, true, false, false, false, false, false, false, false, false, false, false] 100 (.move (.tmp 8)) 4 (Value.bool ((jobS x1).2)) RG (Runs.guarded (j := 8) (t := 99) (b := false) (by kernel_rfl) (by kernel_rfl) (by kernel_rfl)) (by kernel_rfl) (by kernel_rfl) (fun _ => (y_move (by kernel_rfl))) ?_
            refine wpa_take0 10 [true, true, true, true, true, true, true, true, true, true, true, false, false, false, false, false, false, false, false, false] 101 (.move (.tmp 10)) 4 (Value.bool ((readyS y1).2)) RG (Runs.guarded (j := 8) (t := 99) (b := false) (by kernel_rfl) (by kernel_rfl) (by kernel_rfl)) (by kernel_rfl) (by kernel_rfl) (fun _ => (y_move (by kernel_rfl))) ?_
            refine wpa_take0 11 [true, true, true, true, true, true, true, true, true, true, true, true, false, false, false, false, false, false, false, false] 102 (.binOp .neq 4 (.tmp 100) (.tmp 101) 4) 4 (Value.bool ((!((jobS x1).2 == (readyS y1).2)))) RG (Runs.guarded (j := 8) (t := 99) (b := false) (by kernel_rfl) (by kernel_rfl) (by kernel_rfl)) (by kernel_rfl) (by kernel_rfl) (fun _ => (y_pure (by kernel_rfl) (fun _ => by kernel_rfl))) ?_
            refine wpa_take0 12 [true, true, true, true, true, true, true, true, true, true, true, true, true, false, false, false, false, false, false, false] 103 (.pick (.tmp 99) (.const (Value.bool (true))) (.tmp 102)) 4 (Value.bool ((!((jobS x1).2 == (readyS y1).2)))) RG (Runs.plain (by kernel_rfl)) (by kernel_rfl) (by kernel_rfl) (fun _ => (y_pickF (by kernel_rfl) (by kernel_rfl))) ?_
            refine wpq_re 103 (v := Value.bool ((!((jobS x1).2 == (readyS y1).2)))) (Value.bool (((!(((wantS x1).base == (rasksS y1).base) && ((wantS x1).have_ == (rasksS y1).have_))) || (!((jobS x1).2 == (readyS y1).2))))) (by kernel_rfl) (re_or0 q35) ?_
            exact wpq_sub _ (by kernel_rfl) hk8
        · refine wpa_take0 13 [true, true, true, true, true, true, true, true, true, true, true, true, true, true, false, false, false, false, false, false] 104 (.move (.tmp 103)) 4 (Value.bool (((!(((wantS x1).base == (rasksS y1).base) && ((wantS x1).have_ == (rasksS y1).have_))) || (!((jobS x1).2 == (readyS y1).2))))) RG (Runs.plain (by kernel_rfl)) (by kernel_rfl) (by kernel_rfl) (fun _ => (y_move (by kernel_rfl))) ?_
          refine wpa_grpG 0 [true, true, true, true, true, true, true, true, true, true, true, true, true, true, true, true, true, true, true, true] [(0, Value.slice Al (l).length cl), (3, Value.pointer (some ⟨b3_0, 0, none⟩)), (4, Value.pointer (some ⟨b6, 0, none⟩)), (5, Value.int .i64 ((i : Int))), (110, Value.bool ((((!(((wantS x1).base == (rasksS y1).base) && ((wantS x1).have_ == (rasksS y1).have_))) || (!((jobS x1).2 == (readyS y1).2))) || false)))] (fun hk13 => ?_) ?_
          · refine wpq_split 104 (b := ((!(((wantS x1).base == (rasksS y1).base) && ((wantS x1).have_ == (rasksS y1).have_))) || (!((jobS x1).2 == (readyS y1).2)))) (by kernel_rfl) (fun q36 => ?_) (fun q36 => ?_)
            · have LG13 := Gh.le.refl g33
              refine wpa_takeSkip0 14 [true, true, true, true, true, true, true, true, true, true, true, true, true, true, true, false, false, false, false, false] 105 RG (Skips.mk' (j := 13) (t := 104) (b := false) (by kernel_rfl) (by kernel_rfl) (by kernel_rfl)) (by kernel_rfl) (by kernel_rfl) ?_
              refine wpa_takeSkip0 16 [true, true, true, true, true, true, true, true, true, true, true, true, true, true, true, false, true, false, false, false] 107 RG (Skips.mk' (j := 13) (t := 104) (b := false) (by kernel_rfl) (by kernel_rfl) (by kernel_rfl)) (by kernel_rfl) (by kernel_rfl) ?_
              refine wpa_one 15 (by kernel_rfl) ?_
              refine wpi_skip [true, true, true, true, true, true, true, true, true, true, true, true, true, true, true, true, true, false, false, false] 106 (Skips.mk' (j := 13) (t := 104) (b := false) (by kernel_rfl) (by kernel_rfl) (by kernel_rfl)) (by kernel_rfl) (by kernel_rfl) ?_
              refine wpa_one 17 (by kernel_rfl) ?_
              refine wpi_skip [true, true, true, true, true, true, true, true, true, true, true, true, true, true, true, true, true, true, false, false] 108 (Skips.mk' (j := 13) (t := 104) (b := false) (by kernel_rfl) (by kernel_rfl) (by kernel_rfl)) (by kernel_rfl) (by kernel_rfl) ?_
              refine wpa_takeSkip0 18 [true, true, true, true, true, true, true, true, true, true, true, true, true, true, true, true, true, true, true, false] 109 RG (Skips.mk' (j := 13) (t := 104) (b := false) (by kernel_rfl) (by kernel_rfl) (by kernel_rfl)) (by kernel_rfl) (by kernel_rfl) ?_
              refine wpa_take0 19 [true, true, true, true, true, true, true, true, true, true, true, true, true, true, true, true, true, true, true, true] 110 (.pick (.tmp 104) (.const (Value.bool (true))) (.tmp 109)) 4 (Value.bool (true)) RG (Runs.plain (by kernel_rfl)) (by kernel_rfl) (by kernel_rfl) (fun _ => (y_pickT (by kernel_rfl) (by kernel_rfl))) ?_
              refine wpq_re 110 (v := Value.bool (true)) (Value.bool ((((!(((wantS x1).base == (rasksS y1).base) && ((wantS x1).have_ == (rasksS y1).have_))) || (!((jobS x1).2 == (readyS y1).2))) || false))) (by kernel_rfl) (re_or1 q36) ?_
              exact wpq_sub _ (by kernel_rfl) (hk13 _ LG13)
            · have q36l := (or_false_ q36).1
              have q36r := (or_false_ q36).2
              have q36ln := not_eq_false_ q36l
              have q36lnl := (and_true_ q36ln).1
              have q36lnr := (and_true_ q36ln).2
              have q36lnlp : (wantS x1).base = (rasksS y1).base := eq_of_beq q36lnl
              have q36lnrp : (wantS x1).have_ = (rasksS y1).have_ := eq_of_beq q36lnr
              have q36rn := not_eq_false_ q36r
              have q36rnp : (jobS x1).2 = (readyS y1).2 := eq_of_beq q36rn
              have LG13 := Gh.le.refl g33
              refine wpa_take 14 [true, true, true, true, true, true, true, true, true, true, true, true, true, true, true, false, false, false, false, false] 105 (.load 90 (.tmp 7)) 90 (Value.agg #[Value.int .i64 ((jobS x1).1.base), Value.slice A20_0_snapshot ((jobS x1).1.snapshot).length c20_0_snapshot, Value.slice A20_0_sets ((jobS x1).1.sets).length c20_0_sets]) RG (Runs.guarded (j := 13) (t := 104) (b := false) (by kernel_rfl) (by kernel_rfl) (by kernel_rfl)) (by kernel_rfl) (by kernel_rfl) lp (keepK_P [some 0, some 1, some 2, some 3, some 4] (by kernel_rfl)) (q_loadA b23 0 2 [Value.int .i64 ((jobS x1).1.base), Value.slice A20_0_snapshot ((jobS x1).1.snapshot).length c20_0_snapshot, Value.slice A20_0_sets ((jobS x1).1.sets).length c20_0_sets] (by kernel_rfl) (by kernel_rfl) (by kernel_rfl)) ?_
              refine wpa_take 16 [true, true, true, true, true, true, true, true, true, true, true, true, true, true, true, false, true, false, false, false] 107 (.load 94 (.tmp 9)) 94 (Value.agg #[Value.int .i64 ((readyS y1).1.base), Value.slice A24_0_snapshot ((readyS y1).1.snapshot).length c24_0_snapshot, Value.slice A24_0_sets ((readyS y1).1.sets).length c24_0_sets]) RG (Runs.guarded (j := 13) (t := 104) (b := false) (by kernel_rfl) (by kernel_rfl) (by kernel_rfl)) (by kernel_rfl) (by kernel_rfl) lp (keepK_P [some 0, some 1, some 2, some 3, some 4] (by kernel_rfl)) (q_loadA b27 0 1 [Value.int .i64 ((readyS y1).1.base), Value.slice A24_0_snapshot ((readyS y1).1.snapshot).length c24_0_snapshot, Value.slice A24_0_sets ((readyS y1).1.sets).length c24_0_sets] (by kernel_rfl) (by kernel_rfl) (by kernel_rfl)) ?_
              refine wpa_one 15 (by kernel_rfl) ?_
              refine wpi_eff [true, true, true, true, true, true, true, true, true, true, true, true, true, true, true, true, true, false, false, false] 106 (.call { callee := .value (.func 40), args := #[(.tmp 105)], argTypes := #[90] }) 94 (Runs.guarded (j := 13) (t := 104) (b := false) (by kernel_rfl) (by kernel_rfl) (by kernel_rfl)) (by kernel_rfl) lp (e_call [Value.agg #[Value.int .i64 ((jobS x1).1.base), Value.slice A20_0_snapshot ((jobS x1).1.snapshot).length c20_0_snapshot, Value.slice A20_0_sets ((jobS x1).1.sets).length c20_0_sets]] (by kernel_rfl) (by kernel_rfl) (fun g' lr eb ln => c40 g' (jobS x1).1 A20_0_snapshot c20_0_snapshot A20_0_sets c20_0_sets (by rw [eb]; exact f20_0_snapshot) (by rw [eb]; exact f20_0_sets) (Nat.le_trans job_sets (by have := hG1.ns; omega)))) (by kernel_rfl) ?_
              rintro _ g38 _ le39 ⟨rfl, A37_0_snapshot, c37_0_snapshot, A37_0_sets, c37_0_sets, rfl, f37_0_snapshot, f37_0_sets⟩
              refine ⟨.inr (keepK_P [some 0, some 1, some 2, some 3, some 4] (by kernel_rfl)), ?_⟩
              have fl := fl.mono le39.b
              have h3_0_parts := h3_0_parts.mono le39.b
              have h3_0_sets := h3_0_sets.mono le39.b
              have hx_parts := hx_parts.mono le39.b
              have hx_sets := hx_sets.mono le39.b
              have fy_parts := fy_parts.mono le39.b
              have fy_sets := fy_sets.mono le39.b
              have hc10 := hc10.mono le39.b
              have f10_piece_data := f10_piece_data.mono le39.b
              have f10_set__in_ := f10_set__in_.mono le39.b
              have f12 := f12.mono le39.b
              have f15 := f15.mono le39.b
              have hx1_parts := hx1_parts.mono le39.b
              have hx1_sets := hx1_sets.mono le39.b
              have fy1_parts := fy1_parts.mono le39.b
              have fy1_sets := fy1_sets.mono le39.b
              have f20_0_snapshot := f20_0_snapshot.mono le39.b
              have f20_0_sets := f20_0_sets.mono le39.b
              have f24_0_snapshot := f24_0_snapshot.mono le39.b
              have f24_0_sets := f24_0_sets.mono le39.b
              have L0 := L0.trans le39
              have LHL0 := LHL0.trans le39
              have lp := lp.trans le39.r
              have LG13 := LG13.trans le39
              have nf37_0_snapshot := f37_0_snapshot.len
              have nf37_0_sets := f37_0_sets.len
              refine wpa_one 17 (by kernel_rfl) ?_
              refine wpi_eff [true, true, true, true, true, true, true, true, true, true, true, true, true, true, true, true, true, true, false, false] 108 (.call { callee := .value (.func 39), args := #[(.tmp 106), (.tmp 107)], argTypes := #[94, 94] }) 4 (Runs.guarded (j := 13) (t := 104) (b := false) (by kernel_rfl) (by kernel_rfl) (by kernel_rfl)) (by kernel_rfl) lp (e_call [Value.agg #[Value.int .i64 (( (jobS x1).1).base), Value.slice A37_0_snapshot (( (jobS x1).1).snapshot).length c37_0_snapshot, Value.slice A37_0_sets (( (jobS x1).1).sets).length c37_0_sets], Value.agg #[Value.int .i64 ((readyS y1).1.base), Value.slice A24_0_snapshot ((readyS y1).1.snapshot).length c24_0_snapshot, Value.slice A24_0_sets ((readyS y1).1.sets).length c24_0_sets]] (by kernel_rfl) (by kernel_rfl) (fun g' lr eb ln => c39 g' ( (jobS x1).1) A37_0_snapshot c37_0_snapshot A37_0_sets c37_0_sets (readyS y1).1 A24_0_snapshot c24_0_snapshot A24_0_sets c24_0_sets ((f37_0_snapshot.mono g38.br).mono lr) ((f37_0_sets.mono g38.br).mono lr) ((f24_0_snapshot.mono g38.br).mono lr) ((f24_0_sets.mono g38.br).mono lr) (congrArg Prod.fst (job_ready he1 hG1)))) (by kernel_rfl) ?_
              rintro _ g40 _ le41 ⟨rfl, rfl⟩
              refine ⟨.inr (keepK_P [some 0, some 1, some 2, some 3, some 4] (by kernel_rfl)), ?_⟩
              have fl := fl.mono le41.b
              have h3_0_parts := h3_0_parts.mono le41.b
              have h3_0_sets := h3_0_sets.mono le41.b
              have hx_parts := hx_parts.mono le41.b
              have hx_sets := hx_sets.mono le41.b
              have fy_parts := fy_parts.mono le41.b
              have fy_sets := fy_sets.mono le41.b
              have hc10 := hc10.mono le41.b
              have f10_piece_data := f10_piece_data.mono le41.b
              have f10_set__in_ := f10_set__in_.mono le41.b
              have f12 := f12.mono le41.b
              have f15 := f15.mono le41.b
              have hx1_parts := hx1_parts.mono le41.b
              have hx1_sets := hx1_sets.mono le41.b
              have fy1_parts := fy1_parts.mono le41.b
              have fy1_sets := fy1_sets.mono le41.b
              have f20_0_snapshot := f20_0_snapshot.mono le41.b
              have f20_0_sets := f20_0_sets.mono le41.b
              have f24_0_snapshot := f24_0_snapshot.mono le41.b
              have f24_0_sets := f24_0_sets.mono le41.b
              have f37_0_snapshot := f37_0_snapshot.mono le41.b
              have f37_0_sets := f37_0_sets.mono le41.b
              have L0 := L0.trans le41
              have LHL0 := LHL0.trans le41
              have lp := lp.trans le41.r
              have LG13 := LG13.trans le41
              refine wpa_take0 18 [true, true, true, true, true, true, true, true, true, true, true, true, true, true, true, true, true, true, true, false] 109 (.unOp .not 4 (.tmp 108)) 4 (Value.bool (false)) RG (Runs.guarded (j := 13) (t := 104) (b := false) (by kernel_rfl) (by kernel_rfl) (by kernel_rfl)) (by kernel_rfl) (by kernel_rfl) (fun _ => (y_pure (by kernel_rfl) (fun _ => by kernel_rfl))) ?_
              refine wpa_take0 19 [true, true, true, true, true, true, true, true, true, true, true, true, true, true, true, true, true, true, true, true] 110 (.pick (.tmp 104) (.const (Value.bool (true))) (.tmp 109)) 4 (Value.bool (false)) RG (Runs.plain (by kernel_rfl)) (by kernel_rfl) (by kernel_rfl) (fun _ => (y_pickF (by kernel_rfl) (by kernel_rfl))) ?_
              refine wpq_re 110 (v := Value.bool (false)) (Value.bool ((((!(((wantS x1).base == (rasksS y1).base) && ((wantS x1).have_ == (rasksS y1).have_))) || (!((jobS x1).2 == (readyS y1).2))) || false))) (by kernel_rfl) (re_or0 q36) ?_
              exact wpq_sub _ (by kernel_rfl) (hk13 _ LG13)
          · intro g42 le43
            have fl := fl.mono le43.b
            have h3_0_parts := h3_0_parts.mono le43.b
            have h3_0_sets := h3_0_sets.mono le43.b
            have hx_parts := hx_parts.mono le43.b
            have hx_sets := hx_sets.mono le43.b
            have fy_parts := fy_parts.mono le43.b
            have fy_sets := fy_sets.mono le43.b
            have hc10 := hc10.mono le43.b
            have f10_piece_data := f10_piece_data.mono le43.b
            have f10_set__in_ := f10_set__in_.mono le43.b
            have f12 := f12.mono le43.b
            have f15 := f15.mono le43.b
            have hx1_parts := hx1_parts.mono le43.b
            have hx1_sets := hx1_sets.mono le43.b
            have fy1_parts := fy1_parts.mono le43.b
            have fy1_sets := fy1_sets.mono le43.b
            have f20_0_snapshot := f20_0_snapshot.mono le43.b
            have f20_0_sets := f20_0_sets.mono le43.b
            have f24_0_snapshot := f24_0_snapshot.mono le43.b
            have f24_0_sets := f24_0_sets.mono le43.b
            have L0 := L0.trans le43
            have LHL0 := LHL0.trans le43
            have lp := lp.trans le43.r
            refine wpa_done (by kernel_rfl) ?_
            refine wpq_then ?_
            -- condition 2
            refine wpc_cond (x := F8_60) (y := F8_61) (o := (.tmp 110)) (b := (((!(((wantS x1).base == (rasksS y1).base) && ((wantS x1).have_ == (rasksS y1).have_))) || (!((jobS x1).2 == (readyS y1).2))) || false)) (by kernel_rfl) (by kernel_rfl) (fun h2 => ?_) (fun h2 => ?_)
            · rw [job_ready he1 hG1, want_asks he1] at h2; simp at h2
            · have h2l := (or_false_ h2).1
              have h2r := (or_false_ h2).2
              have h2ll := (or_false_ h2l).1
              have h2lr := (or_false_ h2l).2
              have h2lln := not_eq_false_ h2ll
              have h2llnl := (and_true_ h2lln).1
              have h2llnr := (and_true_ h2lln).2
              have h2llnlp : (wantS x1).base = (rasksS y1).base := eq_of_beq h2llnl
              have h2llnrp : (wantS x1).have_ = (rasksS y1).have_ := eq_of_beq h2llnr
              have h2lrn := not_eq_false_ h2lr
              have h2lrnp : (jobS x1).2 = (readyS y1).2 := eq_of_beq h2lrn
              refine wpc_skip (by kernel_rfl) ?_
              refine wpq_blockN ?_
              refine wpq_then ?_
              refine wpc_region (ops := R8_29) (id := 6) (by kernel_rfl) ?_
              refine wpr_val 1 24 (.move (.tmp 5)) 3 (Value.int .i64 ((i : Int))) (Runs.plain (by kernel_rfl)) (by kernel_rfl) (y_move (by kernel_rfl)) ?_
              refine wpr_val 2 25 (.binOp .add 3 (.tmp 24) (.const (Value.int .i64 (1))) 3) 3 (Value.int .i64 (((i : Int) + 1))) (Runs.plain (by kernel_rfl)) (by kernel_rfl) (y_add (by kernel_rfl) (by kernel_rfl) (wr64 (by omega))) ?_
              refine wpr_val 3 5 (.assign (.tmp 25)) 3 (Value.int .i64 (((i : Int) + 1))) (Runs.plain (by kernel_rfl)) (by kernel_rfl) (y_assign (by kernel_rfl)) ?_
              refine wpr_end (by kernel_rfl) ?_
              refine wpq_thenN ?_
              refine wpq_sel [some 4, some 5, some 6, some 7] [some ⟨b6, 77, [Value.int .i64 (y1.base), Value.int .i64 (y1.count), Value.slice Ay1_parts (y1.parts).length cy1_parts, Value.slice Ay1_sets (y1.sets).length cy1_sets]⟩, some ⟨b3_0, 114, [Value.int .i64 (x1.base), Value.int .i64 (x1.count), Value.slice Ax1_parts (x1.parts).length cx1_parts, Value.slice Ax1_sets (x1.sets).length cx1_sets]⟩, kx1_parts, kx1_sets] (by kernel_rfl) (by kernel_rfl) ?_
              refine wpq_re 5 (v := Value.int .i64 (((i : Int) + 1))) (Value.int .i64 ((((i + 1) : Nat) : Int))) (by kernel_rfl) (congrArg (Value.int .i64) (by omega)) ?_
              refine wpq_sub [(0, Value.slice Al (l).length cl), (3, Value.pointer (some ⟨b3_0, 0, none⟩)), (4, Value.pointer (some ⟨b6, 0, none⟩)), (5, Value.int .i64 ((((i + 1) : Nat) : Int)))] (by kernel_rfl) ?_
              exact hQL0 _ _ _ (24 - ((i + 1))) LHL0 (by omega) ⟨(i + 1), x1, Ax1_parts, cx1_parts, kx1_parts, Ax1_sets, cx1_sets, kx1_sets, y1, Ay1_parts, cy1_parts, Ay1_sets, cy1_sets, rfl, rfl, rfl, hx1_parts, hx1_sets, fy1_parts, fy1_sets, by omega, he1, hG1⟩
      · have LHC1 := Gh.le.refl g16
        refine wpc_cond (x := F8_46) (y := F8_47) (o := (.tmp 48)) (b := ((Int.tmod (List.getD l i default).kind 4) == 0)) (by kernel_rfl) (by kernel_rfl) (fun h1 => ?_) (fun h1 => ?_)
        · have h1p : (Int.tmod (List.getD l i default).kind 4) = 0 := eq_of_beq h1
          refine wpc_seq (x := F8_63) (y := F8_64) (by kernel_rfl) ?_
          refine wpc_region (ops := R8_63) (id := 13) (by kernel_rfl) ?_
          refine wpr_val 1 50 (.move (.tmp 3)) 72 (Value.pointer (some ⟨b3_0, 0, none⟩)) (Runs.plain (by kernel_rfl)) (by kernel_rfl) (y_move (by kernel_rfl)) ?_
          refine wpr_val 2 51 (.fieldAddr 81 (.tmp 6) 1) 0 (Value.pointer (some ⟨b11, 1, none⟩)) (Runs.plain (by kernel_rfl)) (by kernel_rfl) (y_pure (by kernel_rfl) (fun _ => by kernel_rfl)) ?_
          refine wpr_val 3 52 (.load 37 (.tmp 51)) 37 (Value.agg #[Value.int .i64 ((List.getD l i default).piece.base), Value.int .i64 ((List.getD l i default).piece.index), Value.int .i64 ((List.getD l i default).piece.count), Value.slice (offA A10_piece_data c10_piece_data 0 1) ((cutS (List.getD l i default).piece.data 602)).length (c10_piece_data - 0)]) (Runs.plain (by kernel_rfl)) (by kernel_rfl) (q_loadA b11 1 0 [Value.int .i64 ((List.getD l i default).piece.base), Value.int .i64 ((List.getD l i default).piece.index), Value.int .i64 ((List.getD l i default).piece.count), Value.slice (offA A10_piece_data c10_piece_data 0 1) ((cutS (List.getD l i default).piece.data 602)).length (c10_piece_data - 0)] (by kernel_rfl) (by kernel_rfl) (by kernel_rfl)) ?_
          refine wpr_eff 4 53 (.call { callee := .value (.func 29), args := #[(.tmp 50), (.tmp 52)], argTypes := #[72, 37] }) 0 (Runs.plain (by kernel_rfl)) (by kernel_rfl) (e_callM (sel := [some ⟨b3_0, 114, [Value.int .i64 (x.base), Value.int .i64 (x.count), Value.slice Ax_parts (x.parts).length cx_parts, Value.slice Ax_sets (x.sets).length cx_sets]⟩, kx_parts, kx_sets]) [Value.pointer (some ⟨b3_0, 0, none⟩), Value.agg #[Value.int .i64 ((List.getD l i default).piece.base), Value.int .i64 ((List.getD l i default).piece.index), Value.int .i64 ((List.getD l i default).piece.count), Value.slice (offA A10_piece_data c10_piece_data 0 1) ((cutS (List.getD l i default).piece.data 602)).length (c10_piece_data - 0)]] [false, false, true, true, true] (by kernel_rfl) (by kernel_rfl) (by kernel_rfl) (fun g' lr eb ln => c29 g' b3_0 x Ax_parts cx_parts kx_parts Ax_sets cx_sets kx_sets (⟨((List.getD l i default).piece.base : Int), ((List.getD l i default).piece.index : Int), ((List.getD l i default).piece.count : Int), ((cutS (List.getD l i default).piece.data 602) : List UInt8)⟩ : Piece) (offA A10_piece_data c10_piece_data 0 1) (c10_piece_data - 0) (by rw [eb]; exact hx_parts) (by rw [eb]; exact hx_sets) ((f12.mono g16.br).mono lr) (by have := hG.np; have := hG.ns; omega))) ?_
          rintro _ g45 _ le46 ⟨_, rfl, A44_c_parts, c44_c_parts, k44_c_parts, A44_c_sets, c44_c_sets, k44_c_sets, rfl, rfl, h44_c_parts, h44_c_sets⟩
          have fl := fl.mono le46.b
          have h3_0_parts := h3_0_parts.mono le46.b
          have h3_0_sets := h3_0_sets.mono le46.b
          have hx_parts := hx_parts.mono le46.b
          have hx_sets := hx_sets.mono le46.b
          have fy_parts := fy_parts.mono le46.b
          have fy_sets := fy_sets.mono le46.b
          have hc10 := hc10.mono le46.b
          have f10_piece_data := f10_piece_data.mono le46.b
          have f10_set__in_ := f10_set__in_.mono le46.b
          have f12 := f12.mono le46.b
          have f15 := f15.mono le46.b
          have L0 := L0.trans le46
          have LHL0 := LHL0.trans le46
          have LHC1 := LHC1.trans le46
          refine wpq_own [some ⟨b11, 81, [Value.int .u8 ((List.getD l i default).kind), Value.int .i64 ((List.getD l i default).piece.base), Value.int .i64 ((List.getD l i default).piece.index), Value.int .i64 ((List.getD l i default).piece.count), Value.slice (offA A10_piece_data c10_piece_data 0 1) ((cutS (List.getD l i default).piece.data 602)).length (c10_piece_data - 0), Value.int .i64 ((List.getD l i default).set_.steps), Value.int .i64 ((List.getD l i default).set_.cycle), Value.bool ((List.getD l i default).set_.fresh), Value.slice (offA A10_set__in_ c10_set__in_ 0 1) ((cutS (List.getD l i default).set_.in_ 50)).length (c10_set__in_ - 0)]⟩, some ⟨b6, 77, [Value.int .i64 (y.base), Value.int .i64 (y.count), Value.slice Ay_parts (y.parts).length cy_parts, Value.slice Ay_sets (y.sets).length cy_sets]⟩, some ⟨b3_0, 114, [Value.int .i64 ((takeS x (⟨((List.getD l i default).piece.base : Int), ((List.getD l i default).piece.index : Int), ((List.getD l i default).piece.count : Int), ((cutS (List.getD l i default).piece.data 602) : List UInt8)⟩ : Piece)).base), Value.int .i64 ((takeS x (⟨((List.getD l i default).piece.base : Int), ((List.getD l i default).piece.index : Int), ((List.getD l i default).piece.count : Int), ((cutS (List.getD l i default).piece.data 602) : List UInt8)⟩ : Piece)).count), Value.slice A44_c_parts ((takeS x (⟨((List.getD l i default).piece.base : Int), ((List.getD l i default).piece.index : Int), ((List.getD l i default).piece.count : Int), ((cutS (List.getD l i default).piece.data 602) : List UInt8)⟩ : Piece)).parts).length c44_c_parts, Value.slice A44_c_sets ((takeS x (⟨((List.getD l i default).piece.base : Int), ((List.getD l i default).piece.index : Int), ((List.getD l i default).piece.count : Int), ((cutS (List.getD l i default).piece.data 602) : List UInt8)⟩ : Piece)).sets).length c44_c_sets]⟩, k44_c_parts, k44_c_sets] (by kernel_rfl) ?_
          have nh44_c_parts := h44_c_parts.len
          have nh44_c_sets := h44_c_sets.len
          refine wpr_end (by kernel_rfl) ?_
          refine wpq_then ?_
          refine wpq_sub [(0, Value.slice Al (l).length cl), (3, Value.pointer (some ⟨b3_0, 0, none⟩)), (4, Value.pointer (some ⟨b6, 0, none⟩)), (5, Value.int .i64 ((i : Int))), (6, Value.pointer (some ⟨b11, 0, none⟩))] (by kernel_rfl) ?_
          refine wpa_start (ops := R8_64) (id := 14) (by kernel_rfl) (by kernel_rfl) [0, 2] [5] [some ⟨b11, 81, [Value.int .u8 ((List.getD l i default).kind), Value.int .i64 ((List.getD l i default).piece.base), Value.int .i64 ((List.getD l i default).piece.index), Value.int .i64 ((List.getD l i default).piece.count), Value.slice (offA A10_piece_data c10_piece_data 0 1) ((cutS (List.getD l i default).piece.data 602)).length (c10_piece_data - 0), Value.int .i64 ((List.getD l i default).set_.steps), Value.int .i64 ((List.getD l i default).set_.cycle), Value.bool ((List.getD l i default).set_.fresh), Value.slice (offA A10_set__in_ c10_set__in_ 0 1) ((cutS (List.getD l i default).set_.in_ 50)).length (c10_set__in_ - 0)]⟩, some ⟨b6, 77, [Value.int .i64 (y.base), Value.int .i64 (y.count), Value.slice Ay_parts (y.parts).length cy_parts, Value.slice Ay_sets (y.sets).length cy_sets]⟩, some ⟨b3_0, 114, [Value.int .i64 ((takeS x (⟨((List.getD l i default).piece.base : Int), ((List.getD l i default).piece.index : Int), ((List.getD l i default).piece.count : Int), ((cutS (List.getD l i default).piece.data 602) : List UInt8)⟩ : Piece)).base), Value.int .i64 ((takeS x (⟨((List.getD l i default).piece.base : Int), ((List.getD l i default).piece.index : Int), ((List.getD l i default).piece.count : Int), ((cutS (List.getD l i default).piece.data 602) : List UInt8)⟩ : Piece)).count), Value.slice A44_c_parts ((takeS x (⟨((List.getD l i default).piece.base : Int), ((List.getD l i default).piece.index : Int), ((List.getD l i default).piece.count : Int), ((cutS (List.getD l i default).piece.data 602) : List UInt8)⟩ : Piece)).parts).length c44_c_parts, Value.slice A44_c_sets ((takeS x (⟨((List.getD l i default).piece.base : Int), ((List.getD l i default).piece.index : Int), ((List.getD l i default).piece.count : Int), ((cutS (List.getD l i default).piece.data 602) : List UInt8)⟩ : Piece)).sets).length c44_c_sets]⟩] (by kernel_rfl) (by kernel_rfl) (fun _ _ _ _ _ h => h) 6 (by kernel_rfl) (fun RG => ?_)
          have lp := Psi.le.refl g45.r
          refine wpa_take 0 [true, false, false, false, false, false] 54 (.load 77 (.tmp 4)) 77 (Value.agg #[Value.int .i64 (y.base), Value.int .i64 (y.count), Value.slice Ay_parts (y.parts).length cy_parts, Value.slice Ay_sets (y.sets).length cy_sets]) RG (Runs.plain (by kernel_rfl)) (by kernel_rfl) (by kernel_rfl) lp (keepK_P [some 0, some 1, some 2] (by kernel_rfl)) (q_loadA b6 0 1 [Value.int .i64 (y.base), Value.int .i64 (y.count), Value.slice Ay_parts (y.parts).length cy_parts, Value.slice Ay_sets (y.sets).length cy_sets] (by kernel_rfl) (by kernel_rfl) (by kernel_rfl)) ?_
          refine wpa_take0 1 [true, true, false, false, false, false] 55 (.fieldAddr 81 (.tmp 6) 1) 0 (Value.pointer (some ⟨b11, 1, none⟩)) RG (Runs.plain (by kernel_rfl)) (by kernel_rfl) (by kernel_rfl) (fun _ => (y_pure (by kernel_rfl) (fun _ => by kernel_rfl))) ?_
          refine wpa_take 2 [true, true, true, false, false, false] 56 (.load 37 (.tmp 55)) 37 (Value.agg #[Value.int .i64 ((List.getD l i default).piece.base), Value.int .i64 ((List.getD l i default).piece.index), Value.int .i64 ((List.getD l i default).piece.count), Value.slice (offA A10_piece_data c10_piece_data 0 1) ((cutS (List.getD l i default).piece.data 602)).length (c10_piece_data - 0)]) RG (Runs.plain (by kernel_rfl)) (by kernel_rfl) (by kernel_rfl) lp (keepK_P [some 0, some 1, some 2] (by kernel_rfl)) (q_loadA b11 1 0 [Value.int .i64 ((List.getD l i default).piece.base), Value.int .i64 ((List.getD l i default).piece.index), Value.int .i64 ((List.getD l i default).piece.count), Value.slice (offA A10_piece_data c10_piece_data 0 1) ((cutS (List.getD l i default).piece.data 602)).length (c10_piece_data - 0)] (by kernel_rfl) (by kernel_rfl) (by kernel_rfl)) ?_
          refine wpa_one 3 (by kernel_rfl) ?_
          refine wpi_eff [true, true, true, true, false, false] 57 (.call { callee := .value (.func 15), args := #[(.tmp 56)], argTypes := #[37] }) 35 (Runs.plain (by kernel_rfl)) (by kernel_rfl) lp (e_call [Value.agg #[Value.int .i64 ((List.getD l i default).piece.base), Value.int .i64 ((List.getD l i default).piece.index), Value.int .i64 ((List.getD l i default).piece.count), Value.slice (offA A10_piece_data c10_piece_data 0 1) ((cutS (List.getD l i default).piece.data 602)).length (c10_piece_data - 0)]] (by kernel_rfl) (by kernel_rfl) (fun g' lr eb ln => c15 g' (⟨((List.getD l i default).piece.base : Int), ((List.getD l i default).piece.index : Int), ((List.getD l i default).piece.count : Int), ((cutS (List.getD l i default).piece.data 602) : List UInt8)⟩ : Piece) (offA A10_piece_data c10_piece_data 0 1) (c10_piece_data - 0) ((f12.mono g45.br).mono lr))) (by kernel_rfl) ?_
          rintro _ g47 _ le48 ⟨rfl, rfl⟩
          refine ⟨.inr (keepK_P [some 0, some 1, some 2] (by kernel_rfl)), ?_⟩
          have fl := fl.mono le48.b
          have h3_0_parts := h3_0_parts.mono le48.b
          have h3_0_sets := h3_0_sets.mono le48.b
          have hx_parts := hx_parts.mono le48.b
          have hx_sets := hx_sets.mono le48.b
          have fy_parts := fy_parts.mono le48.b
          have fy_sets := fy_sets.mono le48.b
          have hc10 := hc10.mono le48.b
          have f10_piece_data := f10_piece_data.mono le48.b
          have f10_set__in_ := f10_set__in_.mono le48.b
          have f12 := f12.mono le48.b
          have f15 := f15.mono le48.b
          have h44_c_parts := h44_c_parts.mono le48.b
          have h44_c_sets := h44_c_sets.mono le48.b
          have L0 := L0.trans le48
          have LHL0 := LHL0.trans le48
          have LHC1 := LHC1.trans le48
          have lp := lp.trans le48.r
          refine wpa_one 4 (by kernel_rfl) ?_
          refine wpi_eff [true, true, true, true, true, false] 58 (.call { callee := .value (.func 30), args := #[(.tmp 54), (.tmp 57)], argTypes := #[77, 35] }) 77 (Runs.plain (by kernel_rfl)) (by kernel_rfl) lp (e_call [Value.agg #[Value.int .i64 (y.base), Value.int .i64 (y.count), Value.slice Ay_parts (y.parts).length cy_parts, Value.slice Ay_sets (y.sets).length cy_sets], Value.agg #[Value.int .i64 ((List.getD l i default).piece.base), Value.int .i64 ((List.getD l i default).piece.index), Value.int .i64 ((List.getD l i default).piece.count), Value.slice (offA A10_piece_data c10_piece_data 0 1) ((cutS (List.getD l i default).piece.data 602)).length (c10_piece_data - 0)]] (by kernel_rfl) (by kernel_rfl) (fun g' lr eb ln => c30 g' y Ay_parts cy_parts Ay_sets cy_sets (⟨((List.getD l i default).piece.base : Int), ((List.getD l i default).piece.index : Int), ((List.getD l i default).piece.count : Int), ((cutS (List.getD l i default).piece.data 602) : List UInt8)⟩ : Piece) (offA A10_piece_data c10_piece_data 0 1) (c10_piece_data - 0) (by rw [eb]; exact fy_parts) (by rw [eb]; exact fy_sets) (by rw [eb]; exact f12) (by rw [he]; have := hG.np; have := hG.ns; omega))) (by kernel_rfl) ?_
          rintro _ g50 _ le51 ⟨rfl, A49_0_parts, c49_0_parts, A49_0_sets, c49_0_sets, rfl, f49_0_parts, f49_0_sets⟩
          refine ⟨.inr (keepK_P [some 0, some 1, some 2] (by kernel_rfl)), ?_⟩
          have fl := fl.mono le51.b
          have h3_0_parts := h3_0_parts.mono le51.b
          have h3_0_sets := h3_0_sets.mono le51.b
          have hx_parts := hx_parts.mono le51.b
          have hx_sets := hx_sets.mono le51.b
          have fy_parts := fy_parts.mono le51.b
          have fy_sets := fy_sets.mono le51.b
          have hc10 := hc10.mono le51.b
          have f10_piece_data := f10_piece_data.mono le51.b
          have f10_set__in_ := f10_set__in_.mono le51.b
          have f12 := f12.mono le51.b
          have f15 := f15.mono le51.b
          have h44_c_parts := h44_c_parts.mono le51.b
          have h44_c_sets := h44_c_sets.mono le51.b
          have L0 := L0.trans le51
          have LHL0 := LHL0.trans le51
          have LHC1 := LHC1.trans le51
          have lp := lp.trans le51.r
          have nf49_0_parts := f49_0_parts.len
          have nf49_0_sets := f49_0_sets.len
          refine wpa_one 5 (by kernel_rfl) ?_
          refine wpi_do [true, true, true, true, true, true] (.store 77 (.tmp 4) (.tmp 58)) 0 (Runs.plain (by kernel_rfl)) lp (q_store b6 0 1 (Value.agg #[Value.int .i64 ((rtakeS y (⟨((List.getD l i default).piece.base : Int), ((List.getD l i default).piece.index : Int), ((List.getD l i default).piece.count : Int), ((cutS (List.getD l i default).piece.data 602) : List UInt8)⟩ : Piece)).base), Value.int .i64 ((rtakeS y (⟨((List.getD l i default).piece.base : Int), ((List.getD l i default).piece.index : Int), ((List.getD l i default).piece.count : Int), ((cutS (List.getD l i default).piece.data 602) : List UInt8)⟩ : Piece)).count), Value.slice A49_0_parts ((rtakeS y (⟨((List.getD l i default).piece.base : Int), ((List.getD l i default).piece.index : Int), ((List.getD l i default).piece.count : Int), ((cutS (List.getD l i default).piece.data 602) : List UInt8)⟩ : Piece)).parts).length c49_0_parts, Value.slice A49_0_sets ((rtakeS y (⟨((List.getD l i default).piece.base : Int), ((List.getD l i default).piece.index : Int), ((List.getD l i default).piece.count : Int), ((cutS (List.getD l i default).piece.data 602) : List UInt8)⟩ : Piece)).sets).length c49_0_sets]) [Value.int .i64 ((rtakeS y (⟨((List.getD l i default).piece.base : Int), ((List.getD l i default).piece.index : Int), ((List.getD l i default).piece.count : Int), ((cutS (List.getD l i default).piece.data 602) : List UInt8)⟩ : Piece)).base), Value.int .i64 ((rtakeS y (⟨((List.getD l i default).piece.base : Int), ((List.getD l i default).piece.index : Int), ((List.getD l i default).piece.count : Int), ((cutS (List.getD l i default).piece.data 602) : List UInt8)⟩ : Piece)).count), Value.slice A49_0_parts ((rtakeS y (⟨((List.getD l i default).piece.base : Int), ((List.getD l i default).piece.index : Int), ((List.getD l i default).piece.count : Int), ((cutS (List.getD l i default).piece.data 602) : List UInt8)⟩ : Piece)).parts).length c49_0_parts, Value.slice A49_0_sets ((rtakeS y (⟨((List.getD l i default).piece.base : Int), ((List.getD l i default).piece.index : Int), ((List.getD l i default).piece.count : Int), ((cutS (List.getD l i default).piece.data 602) : List UInt8)⟩ : Piece)).sets).length c49_0_sets] 77 [Value.int .i64 (y.base), Value.int .i64 (y.count), Value.slice Ay_parts (y.parts).length cy_parts, Value.slice Ay_sets (y.sets).length cy_sets] [Value.int .i64 ((rtakeS y (⟨((List.getD l i default).piece.base : Int), ((List.getD l i default).piece.index : Int), ((List.getD l i default).piece.count : Int), ((cutS (List.getD l i default).piece.data 602) : List UInt8)⟩ : Piece)).base), Value.int .i64 ((rtakeS y (⟨((List.getD l i default).piece.base : Int), ((List.getD l i default).piece.index : Int), ((List.getD l i default).piece.count : Int), ((cutS (List.getD l i default).piece.data 602) : List UInt8)⟩ : Piece)).count), Value.slice A49_0_parts ((rtakeS y (⟨((List.getD l i default).piece.base : Int), ((List.getD l i default).piece.index : Int), ((List.getD l i default).piece.count : Int), ((cutS (List.getD l i default).piece.data 602) : List UInt8)⟩ : Piece)).parts).length c49_0_parts, Value.slice A49_0_sets ((rtakeS y (⟨((List.getD l i default).piece.base : Int), ((List.getD l i default).piece.index : Int), ((List.getD l i default).piece.count : Int), ((cutS (List.getD l i default).piece.data 602) : List UInt8)⟩ : Piece)).sets).length c49_0_sets] (by kernel_rfl) (by kernel_rfl) (by kernel_rfl) (by kernel_rfl) (by kernel_rfl) (by kernel_rfl) (by kernel_rfl)) (by kernel_rfl) ?_
          rintro _ _ _ - ⟨rfl, rfl⟩
          refine ⟨.inl (by kernel_rfl), ?_⟩
          refine wpa_done (by kernel_rfl) ?_
          refine wpq_sub [(0, Value.slice Al (l).length cl), (3, Value.pointer (some ⟨b3_0, 0, none⟩)), (4, Value.pointer (some ⟨b6, 0, none⟩)), (5, Value.int .i64 ((i : Int)))] (by kernel_rfl) ?_
          exact hQC1 _ _ _ LHC1 ⟨(takeS x (⟨((List.getD l i default).piece.base : Int), ((List.getD l i default).piece.index : Int), ((List.getD l i default).piece.count : Int), ((cutS (List.getD l i default).piece.data 602) : List UInt8)⟩ : Piece)), A44_c_parts, c44_c_parts, k44_c_parts, A44_c_sets, c44_c_sets, k44_c_sets, (rtakeS y (⟨((List.getD l i default).piece.base : Int), ((List.getD l i default).piece.index : Int), ((List.getD l i default).piece.count : Int), ((cutS (List.getD l i default).piece.data 602) : List UInt8)⟩ : Piece)), A49_0_parts, c49_0_parts, A49_0_sets, c49_0_sets, rfl, rfl, h44_c_parts, h44_c_sets, f49_0_parts, f49_0_sets, (by first | exact take_eq he | exact note_eq he | exact note_eqF he | rfl), (by first | exact take_ok hG | exact note_ok hG | exact reset_ok)⟩
        · have h1p : ¬ ((Int.tmod (List.getD l i default).kind 4) = 0) := ne_of_beq_false_ h1
          refine wpc_seq (x := F8_67) (y := F8_68) (by kernel_rfl) ?_
          refine wpc_region (ops := R8_67) (id := 15) (by kernel_rfl) ?_
          refine wpr_val 1 60 (.binOp .eql 5 (.tmp 44) (.const (Value.int .u8 (1))) 5) 4 (Value.bool (((Int.tmod (List.getD l i default).kind 4) == 1))) (Runs.plain (by kernel_rfl)) (by kernel_rfl) (y_pure (by kernel_rfl) (fun _ => by kernel_rfl)) ?_
          refine wpr_val 2 59 (.assign (.tmp 60)) 4 (Value.bool (((Int.tmod (List.getD l i default).kind 4) == 1))) (Runs.plain (by kernel_rfl)) (by kernel_rfl) (y_assign (by kernel_rfl)) ?_
          refine wpr_end (by kernel_rfl) ?_
          refine wpq_then ?_
          refine wpq_sub [(0, Value.slice Al (l).length cl), (3, Value.pointer (some ⟨b3_0, 0, none⟩)), (4, Value.pointer (some ⟨b6, 0, none⟩)), (5, Value.int .i64 ((i : Int))), (6, Value.pointer (some ⟨b11, 0, none⟩)), (44, Value.int .u8 ((Int.tmod (List.getD l i default).kind 4))), (59, Value.bool (((Int.tmod (List.getD l i default).kind 4) == 1)))] (by kernel_rfl) ?_
          -- condition 3
          refine wpc_cond (x := F8_70) (y := F8_71) (o := (.tmp 59)) (b := ((Int.tmod (List.getD l i default).kind 4) == 1)) (by kernel_rfl) (by kernel_rfl) (fun h3 => ?_) (fun h3 => ?_)
          · have h3p : (Int.tmod (List.getD l i default).kind 4) = 1 := eq_of_beq h3
            refine wpc_seq (x := F8_72) (y := F8_73) (by kernel_rfl) ?_
            refine wpc_region (ops := R8_72) (id := 16) (by kernel_rfl) ?_
            refine wpr_val 1 61 (.move (.tmp 3)) 72 (Value.pointer (some ⟨b3_0, 0, none⟩)) (Runs.plain (by kernel_rfl)) (by kernel_rfl) (y_move (by kernel_rfl)) ?_
            refine wpr_val 2 62 (.fieldAddr 81 (.tmp 6) 2) 0 (Value.pointer (some ⟨b11, 5, none⟩)) (Runs.plain (by kernel_rfl)) (by kernel_rfl) (y_pure (by kernel_rfl) (fun _ => by kernel_rfl)) ?_
            refine wpr_val 3 63 (.load 79 (.tmp 62)) 79 (Value.agg #[Value.int .i64 ((List.getD l i default).set_.steps), Value.int .i64 ((List.getD l i default).set_.cycle), Value.bool ((List.getD l i default).set_.fresh), Value.slice (offA A10_set__in_ c10_set__in_ 0 1) ((cutS (List.getD l i default).set_.in_ 50)).length (c10_set__in_ - 0)]) (Runs.plain (by kernel_rfl)) (by kernel_rfl) (q_loadA b11 5 0 [Value.int .i64 ((List.getD l i default).set_.steps), Value.int .i64 ((List.getD l i default).set_.cycle), Value.bool ((List.getD l i default).set_.fresh), Value.slice (offA A10_set__in_ c10_set__in_ 0 1) ((cutS (List.getD l i default).set_.in_ 50)).length (c10_set__in_ - 0)] (by kernel_rfl) (by kernel_rfl) (by kernel_rfl)) ?_
            refine wpr_eff 4 64 (.call { callee := .value (.func 31), args := #[(.tmp 61), (.tmp 63), (.const (Value.bool (true)))], argTypes := #[72, 79, 4] }) 0 (Runs.plain (by kernel_rfl)) (by kernel_rfl) (e_callM (sel := [some ⟨b3_0, 114, [Value.int .i64 (x.base), Value.int .i64 (x.count), Value.slice Ax_parts (x.parts).length cx_parts, Value.slice Ax_sets (x.sets).length cx_sets]⟩, kx_parts, kx_sets]) [Value.pointer (some ⟨b3_0, 0, none⟩), Value.agg #[Value.int .i64 ((List.getD l i default).set_.steps), Value.int .i64 ((List.getD l i default).set_.cycle), Value.bool ((List.getD l i default).set_.fresh), Value.slice (offA A10_set__in_ c10_set__in_ 0 1) ((cutS (List.getD l i default).set_.in_ 50)).length (c10_set__in_ - 0)], Value.bool (true)] [false, false, true, true, true] (by kernel_rfl) (by kernel_rfl) (by kernel_rfl) (fun g' lr eb ln => c31 g' b3_0 x Ax_parts cx_parts kx_parts Ax_sets cx_sets kx_sets (⟨((List.getD l i default).set_.steps : Int), ((List.getD l i default).set_.cycle : Int), ((List.getD l i default).set_.fresh), ((cutS (List.getD l i default).set_.in_ 50) : List UInt8)⟩ : Sett) (offA A10_set__in_ c10_set__in_ 0 1) (c10_set__in_ - 0) (true) (by rw [eb]; exact hx_parts) (by rw [eb]; exact hx_sets) ((f15.mono g16.br).mono lr) (by have := hG.np; have := hG.ns; omega))) ?_
            rintro _ g53 _ le54 ⟨_, rfl, A52_c_parts, c52_c_parts, k52_c_parts, A52_c_sets, c52_c_sets, k52_c_sets, rfl, rfl, h52_c_parts, h52_c_sets⟩
            have fl := fl.mono le54.b
            have h3_0_parts := h3_0_parts.mono le54.b
            have h3_0_sets := h3_0_sets.mono le54.b
            have hx_parts := hx_parts.mono le54.b
            have hx_sets := hx_sets.mono le54.b
            have fy_parts := fy_parts.mono le54.b
            have fy_sets := fy_sets.mono le54.b
            have hc10 := hc10.mono le54.b
            have f10_piece_data := f10_piece_data.mono le54.b
            have f10_set__in_ := f10_set__in_.mono le54.b
            have f12 := f12.mono le54.b
            have f15 := f15.mono le54.b
            have L0 := L0.trans le54
            have LHL0 := LHL0.trans le54
            have LHC1 := LHC1.trans le54
            refine wpq_own [some ⟨b11, 81, [Value.int .u8 ((List.getD l i default).kind), Value.int .i64 ((List.getD l i default).piece.base), Value.int .i64 ((List.getD l i default).piece.index), Value.int .i64 ((List.getD l i default).piece.count), Value.slice (offA A10_piece_data c10_piece_data 0 1) ((cutS (List.getD l i default).piece.data 602)).length (c10_piece_data - 0), Value.int .i64 ((List.getD l i default).set_.steps), Value.int .i64 ((List.getD l i default).set_.cycle), Value.bool ((List.getD l i default).set_.fresh), Value.slice (offA A10_set__in_ c10_set__in_ 0 1) ((cutS (List.getD l i default).set_.in_ 50)).length (c10_set__in_ - 0)]⟩, some ⟨b6, 77, [Value.int .i64 (y.base), Value.int .i64 (y.count), Value.slice Ay_parts (y.parts).length cy_parts, Value.slice Ay_sets (y.sets).length cy_sets]⟩, some ⟨b3_0, 114, [Value.int .i64 ((noteS x (⟨((List.getD l i default).set_.steps : Int), ((List.getD l i default).set_.cycle : Int), ((List.getD l i default).set_.fresh), ((cutS (List.getD l i default).set_.in_ 50) : List UInt8)⟩ : Sett) (true)).base), Value.int .i64 ((noteS x (⟨((List.getD l i default).set_.steps : Int), ((List.getD l i default).set_.cycle : Int), ((List.getD l i default).set_.fresh), ((cutS (List.getD l i default).set_.in_ 50) : List UInt8)⟩ : Sett) (true)).count), Value.slice A52_c_parts ((noteS x (⟨((List.getD l i default).set_.steps : Int), ((List.getD l i default).set_.cycle : Int), ((List.getD l i default).set_.fresh), ((cutS (List.getD l i default).set_.in_ 50) : List UInt8)⟩ : Sett) (true)).parts).length c52_c_parts, Value.slice A52_c_sets ((noteS x (⟨((List.getD l i default).set_.steps : Int), ((List.getD l i default).set_.cycle : Int), ((List.getD l i default).set_.fresh), ((cutS (List.getD l i default).set_.in_ 50) : List UInt8)⟩ : Sett) (true)).sets).length c52_c_sets]⟩, k52_c_parts, k52_c_sets] (by kernel_rfl) ?_
            have nh52_c_parts := h52_c_parts.len
            have nh52_c_sets := h52_c_sets.len
            refine wpr_end (by kernel_rfl) ?_
            refine wpq_then ?_
            refine wpq_sub [(0, Value.slice Al (l).length cl), (3, Value.pointer (some ⟨b3_0, 0, none⟩)), (4, Value.pointer (some ⟨b6, 0, none⟩)), (5, Value.int .i64 ((i : Int))), (6, Value.pointer (some ⟨b11, 0, none⟩))] (by kernel_rfl) ?_
            refine wpa_start (ops := R8_73) (id := 17) (by kernel_rfl) (by kernel_rfl) [0, 2] [5] [some ⟨b11, 81, [Value.int .u8 ((List.getD l i default).kind), Value.int .i64 ((List.getD l i default).piece.base), Value.int .i64 ((List.getD l i default).piece.index), Value.int .i64 ((List.getD l i default).piece.count), Value.slice (offA A10_piece_data c10_piece_data 0 1) ((cutS (List.getD l i default).piece.data 602)).length (c10_piece_data - 0), Value.int .i64 ((List.getD l i default).set_.steps), Value.int .i64 ((List.getD l i default).set_.cycle), Value.bool ((List.getD l i default).set_.fresh), Value.slice (offA A10_set__in_ c10_set__in_ 0 1) ((cutS (List.getD l i default).set_.in_ 50)).length (c10_set__in_ - 0)]⟩, some ⟨b6, 77, [Value.int .i64 (y.base), Value.int .i64 (y.count), Value.slice Ay_parts (y.parts).length cy_parts, Value.slice Ay_sets (y.sets).length cy_sets]⟩, some ⟨b3_0, 114, [Value.int .i64 ((noteS x (⟨((List.getD l i default).set_.steps : Int), ((List.getD l i default).set_.cycle : Int), ((List.getD l i default).set_.fresh), ((cutS (List.getD l i default).set_.in_ 50) : List UInt8)⟩ : Sett) (true)).base), Value.int .i64 ((noteS x (⟨((List.getD l i default).set_.steps : Int), ((List.getD l i default).set_.cycle : Int), ((List.getD l i default).set_.fresh), ((cutS (List.getD l i default).set_.in_ 50) : List UInt8)⟩ : Sett) (true)).count), Value.slice A52_c_parts ((noteS x (⟨((List.getD l i default).set_.steps : Int), ((List.getD l i default).set_.cycle : Int), ((List.getD l i default).set_.fresh), ((cutS (List.getD l i default).set_.in_ 50) : List UInt8)⟩ : Sett) (true)).parts).length c52_c_parts, Value.slice A52_c_sets ((noteS x (⟨((List.getD l i default).set_.steps : Int), ((List.getD l i default).set_.cycle : Int), ((List.getD l i default).set_.fresh), ((cutS (List.getD l i default).set_.in_ 50) : List UInt8)⟩ : Sett) (true)).sets).length c52_c_sets]⟩] (by kernel_rfl) (by kernel_rfl) (fun _ _ _ _ _ h => h) 6 (by kernel_rfl) (fun RG => ?_)
            have lp := Psi.le.refl g53.r
            refine wpa_take 0 [true, false, false, false, false, false] 65 (.load 77 (.tmp 4)) 77 (Value.agg #[Value.int .i64 (y.base), Value.int .i64 (y.count), Value.slice Ay_parts (y.parts).length cy_parts, Value.slice Ay_sets (y.sets).length cy_sets]) RG (Runs.plain (by kernel_rfl)) (by kernel_rfl) (by kernel_rfl) lp (keepK_P [some 0, some 1, some 2] (by kernel_rfl)) (q_loadA b6 0 1 [Value.int .i64 (y.base), Value.int .i64 (y.count), Value.slice Ay_parts (y.parts).length cy_parts, Value.slice Ay_sets (y.sets).length cy_sets] (by kernel_rfl) (by kernel_rfl) (by kernel_rfl)) ?_
            refine wpa_take0 1 [true, true, false, false, false, false] 66 (.fieldAddr 81 (.tmp 6) 2) 0 (Value.pointer (some ⟨b11, 5, none⟩)) RG (Runs.plain (by kernel_rfl)) (by kernel_rfl) (by kernel_rfl) (fun _ => (y_pure (by kernel_rfl) (fun _ => by kernel_rfl))) ?_
            refine wpa_take 2 [true, true, true, false, false, false] 67 (.load 79 (.tmp 66)) 79 (Value.agg #[Value.int .i64 ((List.getD l i default).set_.steps), Value.int .i64 ((List.getD l i default).set_.cycle), Value.bool ((List.getD l i default).set_.fresh), Value.slice (offA A10_set__in_ c10_set__in_ 0 1) ((cutS (List.getD l i default).set_.in_ 50)).length (c10_set__in_ - 0)]) RG (Runs.plain (by kernel_rfl)) (by kernel_rfl) (by kernel_rfl) lp (keepK_P [some 0, some 1, some 2] (by kernel_rfl)) (q_loadA b11 5 0 [Value.int .i64 ((List.getD l i default).set_.steps), Value.int .i64 ((List.getD l i default).set_.cycle), Value.bool ((List.getD l i default).set_.fresh), Value.slice (offA A10_set__in_ c10_set__in_ 0 1) ((cutS (List.getD l i default).set_.in_ 50)).length (c10_set__in_ - 0)] (by kernel_rfl) (by kernel_rfl) (by kernel_rfl)) ?_
            refine wpa_one 3 (by kernel_rfl) ?_
            refine wpi_eff [true, true, true, true, false, false] 68 (.call { callee := .value (.func 33), args := #[(.tmp 67)], argTypes := #[79] }) 86 (Runs.plain (by kernel_rfl)) (by kernel_rfl) lp (e_call [Value.agg #[Value.int .i64 ((List.getD l i default).set_.steps), Value.int .i64 ((List.getD l i default).set_.cycle), Value.bool ((List.getD l i default).set_.fresh), Value.slice (offA A10_set__in_ c10_set__in_ 0 1) ((cutS (List.getD l i default).set_.in_ 50)).length (c10_set__in_ - 0)]] (by kernel_rfl) (by kernel_rfl) (fun g' lr eb ln => c33 g' (⟨((List.getD l i default).set_.steps : Int), ((List.getD l i default).set_.cycle : Int), ((List.getD l i default).set_.fresh), ((cutS (List.getD l i default).set_.in_ 50) : List UInt8)⟩ : Sett) (offA A10_set__in_ c10_set__in_ 0 1) (c10_set__in_ - 0) (by rw [eb]; exact f15))) (by kernel_rfl) ?_
            rintro _ g56 _ le57 ⟨rfl, A55_0_in_, c55_0_in_, rfl, f55_0_in_⟩
            refine ⟨.inr (keepK_P [some 0, some 1, some 2] (by kernel_rfl)), ?_⟩
            have fl := fl.mono le57.b
            have h3_0_parts := h3_0_parts.mono le57.b
            have h3_0_sets := h3_0_sets.mono le57.b
            have hx_parts := hx_parts.mono le57.b
            have hx_sets := hx_sets.mono le57.b
            have fy_parts := fy_parts.mono le57.b
            have fy_sets := fy_sets.mono le57.b
            have hc10 := hc10.mono le57.b
            have f10_piece_data := f10_piece_data.mono le57.b
            have f10_set__in_ := f10_set__in_.mono le57.b
            have f12 := f12.mono le57.b
            have f15 := f15.mono le57.b
            have h52_c_parts := h52_c_parts.mono le57.b
            have h52_c_sets := h52_c_sets.mono le57.b
            have L0 := L0.trans le57
            have LHL0 := LHL0.trans le57
            have LHC1 := LHC1.trans le57
            have lp := lp.trans le57.r
            have nf55_0_in_ := f55_0_in_.len
            refine wpa_one 4 (by kernel_rfl) ?_
            refine wpi_eff [true, true, true, true, true, false] 69 (.call { callee := .value (.func 32), args := #[(.tmp 65), (.tmp 68), (.const (Value.bool (true)))], argTypes := #[77, 86, 4] }) 77 (Runs.plain (by kernel_rfl)) (by kernel_rfl) lp (e_call [Value.agg #[Value.int .i64 (y.base), Value.int .i64 (y.count), Value.slice Ay_parts (y.parts).length cy_parts, Value.slice Ay_sets (y.sets).length cy_sets], Value.agg #[Value.int .i64 ((ownSetS (⟨((List.getD l i default).set_.steps : Int), ((List.getD l i default).set_.cycle : Int), ((List.getD l i default).set_.fresh), ((cutS (List.getD l i default).set_.in_ 50) : List UInt8)⟩ : Sett)).steps), Value.int .i64 ((ownSetS (⟨((List.getD l i default).set_.steps : Int), ((List.getD l i default).set_.cycle : Int), ((List.getD l i default).set_.fresh), ((cutS (List.getD l i default).set_.in_ 50) : List UInt8)⟩ : Sett)).cycle), Value.bool ((ownSetS (⟨((List.getD l i default).set_.steps : Int), ((List.getD l i default).set_.cycle : Int), ((List.getD l i default).set_.fresh), ((cutS (List.getD l i default).set_.in_ 50) : List UInt8)⟩ : Sett)).fresh), Value.slice A55_0_in_ ((ownSetS (⟨((List.getD l i default).set_.steps : Int), ((List.getD l i default).set_.cycle : Int), ((List.getD l i default).set_.fresh), ((cutS (List.getD l i default).set_.in_ 50) : List UInt8)⟩ : Sett)).in_).length c55_0_in_], Value.bool (true)] (by kernel_rfl) (by kernel_rfl) (fun g' lr eb ln => c32 g' y Ay_parts cy_parts Ay_sets cy_sets (ownSetS (⟨((List.getD l i default).set_.steps : Int), ((List.getD l i default).set_.cycle : Int), ((List.getD l i default).set_.fresh), ((cutS (List.getD l i default).set_.in_ 50) : List UInt8)⟩ : Sett)) A55_0_in_ c55_0_in_ (true) (by rw [eb]; exact fy_parts) (by rw [eb]; exact fy_sets) (by rw [eb]; exact f55_0_in_) (by rw [he]; have := hG.np; have := hG.ns; omega))) (by kernel_rfl) ?_
            rintro _ g59 _ le60 ⟨rfl, A58_0_parts, c58_0_parts, A58_0_sets, c58_0_sets, rfl, f58_0_parts, f58_0_sets⟩
            refine ⟨.inr (keepK_P [some 0, some 1, some 2] (by kernel_rfl)), ?_⟩
            have fl := fl.mono le60.b
            have h3_0_parts := h3_0_parts.mono le60.b
            have h3_0_sets := h3_0_sets.mono le60.b
            have hx_parts := hx_parts.mono le60.b
            have hx_sets := hx_sets.mono le60.b
            have fy_parts := fy_parts.mono le60.b
            have fy_sets := fy_sets.mono le60.b
            have hc10 := hc10.mono le60.b
            have f10_piece_data := f10_piece_data.mono le60.b
            have f10_set__in_ := f10_set__in_.mono le60.b
            have f12 := f12.mono le60.b
            have f15 := f15.mono le60.b
            have h52_c_parts := h52_c_parts.mono le60.b
            have h52_c_sets := h52_c_sets.mono le60.b
            have f55_0_in_ := f55_0_in_.mono le60.b
            have L0 := L0.trans le60
            have LHL0 := LHL0.trans le60
            have LHC1 := LHC1.trans le60
            have lp := lp.trans le60.r
            have nf58_0_parts := f58_0_parts.len
            have nf58_0_sets := f58_0_sets.len
            refine wpa_one 5 (by kernel_rfl) ?_
            refine wpi_do [true, true, true, true, true, true] (.store 77 (.tmp 4) (.tmp 69)) 0 (Runs.plain (by kernel_rfl)) lp (q_store b6 0 1 (Value.agg #[Value.int .i64 ((rnoteS y (ownSetS (⟨((List.getD l i default).set_.steps : Int), ((List.getD l i default).set_.cycle : Int), ((List.getD l i default).set_.fresh), ((cutS (List.getD l i default).set_.in_ 50) : List UInt8)⟩ : Sett)) (true)).base), Value.int .i64 ((rnoteS y (ownSetS (⟨((List.getD l i default).set_.steps : Int), ((List.getD l i default).set_.cycle : Int), ((List.getD l i default).set_.fresh), ((cutS (List.getD l i default).set_.in_ 50) : List UInt8)⟩ : Sett)) (true)).count), Value.slice A58_0_parts ((rnoteS y (ownSetS (⟨((List.getD l i default).set_.steps : Int), ((List.getD l i default).set_.cycle : Int), ((List.getD l i default).set_.fresh), ((cutS (List.getD l i default).set_.in_ 50) : List UInt8)⟩ : Sett)) (true)).parts).length c58_0_parts, Value.slice A58_0_sets ((rnoteS y (ownSetS (⟨((List.getD l i default).set_.steps : Int), ((List.getD l i default).set_.cycle : Int), ((List.getD l i default).set_.fresh), ((cutS (List.getD l i default).set_.in_ 50) : List UInt8)⟩ : Sett)) (true)).sets).length c58_0_sets]) [Value.int .i64 ((rnoteS y (ownSetS (⟨((List.getD l i default).set_.steps : Int), ((List.getD l i default).set_.cycle : Int), ((List.getD l i default).set_.fresh), ((cutS (List.getD l i default).set_.in_ 50) : List UInt8)⟩ : Sett)) (true)).base), Value.int .i64 ((rnoteS y (ownSetS (⟨((List.getD l i default).set_.steps : Int), ((List.getD l i default).set_.cycle : Int), ((List.getD l i default).set_.fresh), ((cutS (List.getD l i default).set_.in_ 50) : List UInt8)⟩ : Sett)) (true)).count), Value.slice A58_0_parts ((rnoteS y (ownSetS (⟨((List.getD l i default).set_.steps : Int), ((List.getD l i default).set_.cycle : Int), ((List.getD l i default).set_.fresh), ((cutS (List.getD l i default).set_.in_ 50) : List UInt8)⟩ : Sett)) (true)).parts).length c58_0_parts, Value.slice A58_0_sets ((rnoteS y (ownSetS (⟨((List.getD l i default).set_.steps : Int), ((List.getD l i default).set_.cycle : Int), ((List.getD l i default).set_.fresh), ((cutS (List.getD l i default).set_.in_ 50) : List UInt8)⟩ : Sett)) (true)).sets).length c58_0_sets] 77 [Value.int .i64 (y.base), Value.int .i64 (y.count), Value.slice Ay_parts (y.parts).length cy_parts, Value.slice Ay_sets (y.sets).length cy_sets] [Value.int .i64 ((rnoteS y (ownSetS (⟨((List.getD l i default).set_.steps : Int), ((List.getD l i default).set_.cycle : Int), ((List.getD l i default).set_.fresh), ((cutS (List.getD l i default).set_.in_ 50) : List UInt8)⟩ : Sett)) (true)).base), Value.int .i64 ((rnoteS y (ownSetS (⟨((List.getD l i default).set_.steps : Int), ((List.getD l i default).set_.cycle : Int), ((List.getD l i default).set_.fresh), ((cutS (List.getD l i default).set_.in_ 50) : List UInt8)⟩ : Sett)) (true)).count), Value.slice A58_0_parts ((rnoteS y (ownSetS (⟨((List.getD l i default).set_.steps : Int), ((List.getD l i default).set_.cycle : Int), ((List.getD l i default).set_.fresh), ((cutS (List.getD l i default).set_.in_ 50) : List UInt8)⟩ : Sett)) (true)).parts).length c58_0_parts, Value.slice A58_0_sets ((rnoteS y (ownSetS (⟨((List.getD l i default).set_.steps : Int), ((List.getD l i default).set_.cycle : Int), ((List.getD l i default).set_.fresh), ((cutS (List.getD l i default).set_.in_ 50) : List UInt8)⟩ : Sett)) (true)).sets).length c58_0_sets] (by kernel_rfl) (by kernel_rfl) (by kernel_rfl) (by kernel_rfl) (by kernel_rfl) (by kernel_rfl) (by kernel_rfl)) (by kernel_rfl) ?_
            rintro _ _ _ - ⟨rfl, rfl⟩
            refine ⟨.inl (by kernel_rfl), ?_⟩
            refine wpa_done (by kernel_rfl) ?_
            refine wpq_sub [(0, Value.slice Al (l).length cl), (3, Value.pointer (some ⟨b3_0, 0, none⟩)), (4, Value.pointer (some ⟨b6, 0, none⟩)), (5, Value.int .i64 ((i : Int)))] (by kernel_rfl) ?_
            exact hQC1 _ _ _ LHC1 ⟨(noteS x (⟨((List.getD l i default).set_.steps : Int), ((List.getD l i default).set_.cycle : Int), ((List.getD l i default).set_.fresh), ((cutS (List.getD l i default).set_.in_ 50) : List UInt8)⟩ : Sett) (true)), A52_c_parts, c52_c_parts, k52_c_parts, A52_c_sets, c52_c_sets, k52_c_sets, (rnoteS y (ownSetS (⟨((List.getD l i default).set_.steps : Int), ((List.getD l i default).set_.cycle : Int), ((List.getD l i default).set_.fresh), ((cutS (List.getD l i default).set_.in_ 50) : List UInt8)⟩ : Sett)) (true)), A58_0_parts, c58_0_parts, A58_0_sets, c58_0_sets, rfl, rfl, h52_c_parts, h52_c_sets, f58_0_parts, f58_0_sets, (by first | exact take_eq he | exact note_eq he | exact note_eqF he | rfl), (by first | exact take_ok hG | exact note_ok hG | exact reset_ok)⟩
          · have h3p : ¬ ((Int.tmod (List.getD l i default).kind 4) = 1) := ne_of_beq_false_ h3
            refine wpc_seq (x := F8_76) (y := F8_77) (by kernel_rfl) ?_
            refine wpc_region (ops := R8_76) (id := 18) (by kernel_rfl) ?_
            refine wpr_val 1 71 (.binOp .eql 5 (.tmp 44) (.const (Value.int .u8 (2))) 5) 4 (Value.bool (((Int.tmod (List.getD l i default).kind 4) == 2))) (Runs.plain (by kernel_rfl)) (by kernel_rfl) (y_pure (by kernel_rfl) (fun _ => by kernel_rfl)) ?_
            refine wpr_val 2 70 (.assign (.tmp 71)) 4 (Value.bool (((Int.tmod (List.getD l i default).kind 4) == 2))) (Runs.plain (by kernel_rfl)) (by kernel_rfl) (y_assign (by kernel_rfl)) ?_
            refine wpr_end (by kernel_rfl) ?_
            refine wpq_then ?_
            -- condition 4
            refine wpc_cond (x := F8_79) (y := F8_80) (o := (.tmp 70)) (b := ((Int.tmod (List.getD l i default).kind 4) == 2)) (by kernel_rfl) (by kernel_rfl) (fun h4 => ?_) (fun h4 => ?_)
            · have h4p : (Int.tmod (List.getD l i default).kind 4) = 2 := eq_of_beq h4
              refine wpc_seq (x := F8_81) (y := F8_82) (by kernel_rfl) ?_
              refine wpc_region (ops := R8_81) (id := 19) (by kernel_rfl) ?_
              refine wpr_val 1 72 (.move (.tmp 3)) 72 (Value.pointer (some ⟨b3_0, 0, none⟩)) (Runs.plain (by kernel_rfl)) (by kernel_rfl) (y_move (by kernel_rfl)) ?_
              refine wpr_val 2 73 (.fieldAddr 81 (.tmp 6) 2) 0 (Value.pointer (some ⟨b11, 5, none⟩)) (Runs.plain (by kernel_rfl)) (by kernel_rfl) (y_pure (by kernel_rfl) (fun _ => by kernel_rfl)) ?_
              refine wpr_val 3 74 (.load 79 (.tmp 73)) 79 (Value.agg #[Value.int .i64 ((List.getD l i default).set_.steps), Value.int .i64 ((List.getD l i default).set_.cycle), Value.bool ((List.getD l i default).set_.fresh), Value.slice (offA A10_set__in_ c10_set__in_ 0 1) ((cutS (List.getD l i default).set_.in_ 50)).length (c10_set__in_ - 0)]) (Runs.plain (by kernel_rfl)) (by kernel_rfl) (q_loadA b11 5 0 [Value.int .i64 ((List.getD l i default).set_.steps), Value.int .i64 ((List.getD l i default).set_.cycle), Value.bool ((List.getD l i default).set_.fresh), Value.slice (offA A10_set__in_ c10_set__in_ 0 1) ((cutS (List.getD l i default).set_.in_ 50)).length (c10_set__in_ - 0)] (by kernel_rfl) (by kernel_rfl) (by kernel_rfl)) ?_
              refine wpr_eff 4 75 (.call { callee := .value (.func 31), args := #[(.tmp 72), (.tmp 74), (.const (Value.bool (false)))], argTypes := #[72, 79, 4] }) 0 (Runs.plain (by kernel_rfl)) (by kernel_rfl) (e_callM (sel := [some ⟨b3_0, 114, [Value.int .i64 (x.base), Value.int .i64 (x.count), Value.slice Ax_parts (x.parts).length cx_parts, Value.slice Ax_sets (x.sets).length cx_sets]⟩, kx_parts, kx_sets]) [Value.pointer (some ⟨b3_0, 0, none⟩), Value.agg #[Value.int .i64 ((List.getD l i default).set_.steps), Value.int .i64 ((List.getD l i default).set_.cycle), Value.bool ((List.getD l i default).set_.fresh), Value.slice (offA A10_set__in_ c10_set__in_ 0 1) ((cutS (List.getD l i default).set_.in_ 50)).length (c10_set__in_ - 0)], Value.bool (false)] [false, false, true, true, true] (by kernel_rfl) (by kernel_rfl) (by kernel_rfl) (fun g' lr eb ln => c31 g' b3_0 x Ax_parts cx_parts kx_parts Ax_sets cx_sets kx_sets (⟨((List.getD l i default).set_.steps : Int), ((List.getD l i default).set_.cycle : Int), ((List.getD l i default).set_.fresh), ((cutS (List.getD l i default).set_.in_ 50) : List UInt8)⟩ : Sett) (offA A10_set__in_ c10_set__in_ 0 1) (c10_set__in_ - 0) (false) (by rw [eb]; exact hx_parts) (by rw [eb]; exact hx_sets) ((f15.mono g16.br).mono lr) (by have := hG.np; have := hG.ns; omega))) ?_
              rintro _ g62 _ le63 ⟨_, rfl, A61_c_parts, c61_c_parts, k61_c_parts, A61_c_sets, c61_c_sets, k61_c_sets, rfl, rfl, h61_c_parts, h61_c_sets⟩
              have fl := fl.mono le63.b
              have h3_0_parts := h3_0_parts.mono le63.b
              have h3_0_sets := h3_0_sets.mono le63.b
              have hx_parts := hx_parts.mono le63.b
              have hx_sets := hx_sets.mono le63.b
              have fy_parts := fy_parts.mono le63.b
              have fy_sets := fy_sets.mono le63.b
              have hc10 := hc10.mono le63.b
              have f10_piece_data := f10_piece_data.mono le63.b
              have f10_set__in_ := f10_set__in_.mono le63.b
              have f12 := f12.mono le63.b
              have f15 := f15.mono le63.b
              have L0 := L0.trans le63
              have LHL0 := LHL0.trans le63
              have LHC1 := LHC1.trans le63
              refine wpq_own [some ⟨b11, 81, [Value.int .u8 ((List.getD l i default).kind), Value.int .i64 ((List.getD l i default).piece.base), Value.int .i64 ((List.getD l i default).piece.index), Value.int .i64 ((List.getD l i default).piece.count), Value.slice (offA A10_piece_data c10_piece_data 0 1) ((cutS (List.getD l i default).piece.data 602)).length (c10_piece_data - 0), Value.int .i64 ((List.getD l i default).set_.steps), Value.int .i64 ((List.getD l i default).set_.cycle), Value.bool ((List.getD l i default).set_.fresh), Value.slice (offA A10_set__in_ c10_set__in_ 0 1) ((cutS (List.getD l i default).set_.in_ 50)).length (c10_set__in_ - 0)]⟩, some ⟨b6, 77, [Value.int .i64 (y.base), Value.int .i64 (y.count), Value.slice Ay_parts (y.parts).length cy_parts, Value.slice Ay_sets (y.sets).length cy_sets]⟩, some ⟨b3_0, 114, [Value.int .i64 ((noteS x (⟨((List.getD l i default).set_.steps : Int), ((List.getD l i default).set_.cycle : Int), ((List.getD l i default).set_.fresh), ((cutS (List.getD l i default).set_.in_ 50) : List UInt8)⟩ : Sett) (false)).base), Value.int .i64 ((noteS x (⟨((List.getD l i default).set_.steps : Int), ((List.getD l i default).set_.cycle : Int), ((List.getD l i default).set_.fresh), ((cutS (List.getD l i default).set_.in_ 50) : List UInt8)⟩ : Sett) (false)).count), Value.slice A61_c_parts ((noteS x (⟨((List.getD l i default).set_.steps : Int), ((List.getD l i default).set_.cycle : Int), ((List.getD l i default).set_.fresh), ((cutS (List.getD l i default).set_.in_ 50) : List UInt8)⟩ : Sett) (false)).parts).length c61_c_parts, Value.slice A61_c_sets ((noteS x (⟨((List.getD l i default).set_.steps : Int), ((List.getD l i default).set_.cycle : Int), ((List.getD l i default).set_.fresh), ((cutS (List.getD l i default).set_.in_ 50) : List UInt8)⟩ : Sett) (false)).sets).length c61_c_sets]⟩, k61_c_parts, k61_c_sets] (by kernel_rfl) ?_
              have nh61_c_parts := h61_c_parts.len
              have nh61_c_sets := h61_c_sets.len
              refine wpr_end (by kernel_rfl) ?_
              refine wpq_then ?_
              refine wpq_sub [(0, Value.slice Al (l).length cl), (3, Value.pointer (some ⟨b3_0, 0, none⟩)), (4, Value.pointer (some ⟨b6, 0, none⟩)), (5, Value.int .i64 ((i : Int)))] (by kernel_rfl) ?_
              refine wpc_region (ops := R8_82) (id := 20) (by kernel_rfl) ?_
              refine wpr_val 1 76 (.load 77 (.tmp 4)) 77 (Value.agg #[Value.int .i64 (y.base), Value.int .i64 (y.count), Value.slice Ay_parts (y.parts).length cy_parts, Value.slice Ay_sets (y.sets).length cy_sets]) (Runs.plain (by kernel_rfl)) (by kernel_rfl) (q_loadA b6 0 1 [Value.int .i64 (y.base), Value.int .i64 (y.count), Value.slice Ay_parts (y.parts).length cy_parts, Value.slice Ay_sets (y.sets).length cy_sets] (by kernel_rfl) (by kernel_rfl) (by kernel_rfl)) ?_
              refine wpr_val 2 77 (.build 86 #[]) 86 (Value.agg #[Value.int .i64 (0), Value.int .i64 (0), Value.bool (false), Value.slice none 0 0]) (Runs.plain (by kernel_rfl)) (by kernel_rfl) (y_pure (by kernel_rfl) (fun _ => by kernel_rfl)) ?_
              refine wpr_eff 3 78 (.call { callee := .value (.func 32), args := #[(.tmp 76), (.tmp 77), (.const (Value.bool (false)))], argTypes := #[77, 86, 4] }) 77 (Runs.plain (by kernel_rfl)) (by kernel_rfl) (e_call [Value.agg #[Value.int .i64 (y.base), Value.int .i64 (y.count), Value.slice Ay_parts (y.parts).length cy_parts, Value.slice Ay_sets (y.sets).length cy_sets], Value.agg #[Value.int .i64 (0), Value.int .i64 (0), Value.bool (false), Value.slice none 0 0], Value.bool (false)] (by kernel_rfl) (by kernel_rfl) (fun g' lr eb ln => c32 g' y Ay_parts cy_parts Ay_sets cy_sets (⟨(0 : Int), (0 : Int), (false), ([] : List UInt8)⟩ : Sett) none 0 (false) (by rw [eb]; exact fy_parts) (by rw [eb]; exact fy_sets) Arr.nil (by rw [he]; have := hG.np; have := hG.ns; omega))) ?_
              rintro _ g65 _ le66 ⟨rfl, A64_0_parts, c64_0_parts, A64_0_sets, c64_0_sets, rfl, f64_0_parts, f64_0_sets⟩
              have fl := fl.mono le66.b
              have h3_0_parts := h3_0_parts.mono le66.b
              have h3_0_sets := h3_0_sets.mono le66.b
              have hx_parts := hx_parts.mono le66.b
              have hx_sets := hx_sets.mono le66.b
              have fy_parts := fy_parts.mono le66.b
              have fy_sets := fy_sets.mono le66.b
              have hc10 := hc10.mono le66.b
              have f10_piece_data := f10_piece_data.mono le66.b
              have f10_set__in_ := f10_set__in_.mono le66.b
              have f12 := f12.mono le66.b
              have f15 := f15.mono le66.b
              have h61_c_parts := h61_c_parts.mono le66.b
              have h61_c_sets := h61_c_sets.mono le66.b
              have L0 := L0.trans le66
              have LHL0 := LHL0.trans le66
              have LHC1 := LHC1.trans le66
              have nf64_0_parts := f64_0_parts.len
              have nf64_0_sets := f64_0_sets.len
              refine wpr_do 4 (.store 77 (.tmp 4) (.tmp 78)) 0 (Runs.plain (by kernel_rfl)) (by kernel_rfl) (q_store b6 0 1 (Value.agg #[Value.int .i64 ((rnoteS y (⟨(0 : Int), (0 : Int), (false), ([] : List UInt8)⟩ : Sett) (false)).base), Value.int .i64 ((rnoteS y (⟨(0 : Int), (0 : Int), (false), ([] : List UInt8)⟩ : Sett) (false)).count), Value.slice A64_0_parts ((rnoteS y (⟨(0 : Int), (0 : Int), (false), ([] : List UInt8)⟩ : Sett) (false)).parts).length c64_0_parts, Value.slice A64_0_sets ((rnoteS y (⟨(0 : Int), (0 : Int), (false), ([] : List UInt8)⟩ : Sett) (false)).sets).length c64_0_sets]) [Value.int .i64 ((rnoteS y (⟨(0 : Int), (0 : Int), (false), ([] : List UInt8)⟩ : Sett) (false)).base), Value.int .i64 ((rnoteS y (⟨(0 : Int), (0 : Int), (false), ([] : List UInt8)⟩ : Sett) (false)).count), Value.slice A64_0_parts ((rnoteS y (⟨(0 : Int), (0 : Int), (false), ([] : List UInt8)⟩ : Sett) (false)).parts).length c64_0_parts, Value.slice A64_0_sets ((rnoteS y (⟨(0 : Int), (0 : Int), (false), ([] : List UInt8)⟩ : Sett) (false)).sets).length c64_0_sets] 77 [Value.int .i64 (y.base), Value.int .i64 (y.count), Value.slice Ay_parts (y.parts).length cy_parts, Value.slice Ay_sets (y.sets).length cy_sets] [Value.int .i64 ((rnoteS y (⟨(0 : Int), (0 : Int), (false), ([] : List UInt8)⟩ : Sett) (false)).base), Value.int .i64 ((rnoteS y (⟨(0 : Int), (0 : Int), (false), ([] : List UInt8)⟩ : Sett) (false)).count), Value.slice A64_0_parts ((rnoteS y (⟨(0 : Int), (0 : Int), (false), ([] : List UInt8)⟩ : Sett) (false)).parts).length c64_0_parts, Value.slice A64_0_sets ((rnoteS y (⟨(0 : Int), (0 : Int), (false), ([] : List UInt8)⟩ : Sett) (false)).sets).length c64_0_sets] (by kernel_rfl) (by kernel_rfl) (by kernel_rfl) (by kernel_rfl) (by kernel_rfl) (by kernel_rfl) (by kernel_rfl)) ?_
              rintro _ _ _ - ⟨rfl, rfl⟩
              refine wpr_end (by kernel_rfl) ?_
              refine wpq_sub [(0, Value.slice Al (l).length cl), (3, Value.pointer (some ⟨b3_0, 0, none⟩)), (4, Value.pointer (some ⟨b6, 0, none⟩)), (5, Value.int .i64 ((i : Int)))] (by kernel_rfl) ?_
              exact hQC1 _ _ _ LHC1 ⟨(noteS x (⟨((List.getD l i default).set_.steps : Int), ((List.getD l i default).set_.cycle : Int), ((List.getD l i default).set_.fresh), ((cutS (List.getD l i default).set_.in_ 50) : List UInt8)⟩ : Sett) (false)), A61_c_parts, c61_c_parts, k61_c_parts, A61_c_sets, c61_c_sets, k61_c_sets, (rnoteS y (⟨(0 : Int), (0 : Int), (false), ([] : List UInt8)⟩ : Sett) (false)), A64_0_parts, c64_0_parts, A64_0_sets, c64_0_sets, rfl, rfl, h61_c_parts, h61_c_sets, f64_0_parts, f64_0_sets, (by first | exact take_eq he | exact note_eq he | exact note_eqF he | rfl), (by first | exact take_ok hG | exact note_ok hG | exact reset_ok)⟩
            · have h4p : ¬ ((Int.tmod (List.getD l i default).kind 4) = 2) := ne_of_beq_false_ h4
              refine wpc_seq (x := F8_85) (y := F8_86) (by kernel_rfl) ?_
              refine wpc_region (ops := R8_85) (id := 10) (by kernel_rfl) ?_
              refine wpr_val 1 45 (.move (.tmp 3)) 72 (Value.pointer (some ⟨b3_0, 0, none⟩)) (Runs.plain (by kernel_rfl)) (by kernel_rfl) (y_move (by kernel_rfl)) ?_
              refine wpr_eff 2 46 (.call { callee := .value (.func 34), args := #[(.tmp 45)], argTypes := #[72] }) 0 (Runs.plain (by kernel_rfl)) (by kernel_rfl) (e_callM (sel := [some ⟨b3_0, 114, [Value.int .i64 (x.base), Value.int .i64 (x.count), Value.slice Ax_parts (x.parts).length cx_parts, Value.slice Ax_sets (x.sets).length cx_sets]⟩, kx_parts, kx_sets]) [Value.pointer (some ⟨b3_0, 0, none⟩)] [false, false, true, true, true] (by kernel_rfl) (by kernel_rfl) (by kernel_rfl) (fun g' lr eb ln => c34 g' b3_0 x Ax_parts cx_parts kx_parts Ax_sets cx_sets kx_sets (by rw [eb]; exact hx_parts) (by rw [eb]; exact hx_sets))) ?_
              rintro _ g68 _ le69 ⟨_, rfl, A67_c_parts, c67_c_parts, k67_c_parts, A67_c_sets, c67_c_sets, k67_c_sets, rfl, rfl, h67_c_parts, h67_c_sets⟩
              have fl := fl.mono le69.b
              have h3_0_parts := h3_0_parts.mono le69.b
              have h3_0_sets := h3_0_sets.mono le69.b
              have hx_parts := hx_parts.mono le69.b
              have hx_sets := hx_sets.mono le69.b
              have fy_parts := fy_parts.mono le69.b
              have fy_sets := fy_sets.mono le69.b
              have hc10 := hc10.mono le69.b
              have f10_piece_data := f10_piece_data.mono le69.b
              have f10_set__in_ := f10_set__in_.mono le69.b
              have f12 := f12.mono le69.b
              have f15 := f15.mono le69.b
              have L0 := L0.trans le69
              have LHL0 := LHL0.trans le69
              have LHC1 := LHC1.trans le69
              refine wpq_own [some ⟨b11, 81, [Value.int .u8 ((List.getD l i default).kind), Value.int .i64 ((List.getD l i default).piece.base), Value.int .i64 ((List.getD l i default).piece.index), Value.int .i64 ((List.getD l i default).piece.count), Value.slice (offA A10_piece_data c10_piece_data 0 1) ((cutS (List.getD l i default).piece.data 602)).length (c10_piece_data - 0), Value.int .i64 ((List.getD l i default).set_.steps), Value.int .i64 ((List.getD l i default).set_.cycle), Value.bool ((List.getD l i default).set_.fresh), Value.slice (offA A10_set__in_ c10_set__in_ 0 1) ((cutS (List.getD l i default).set_.in_ 50)).length (c10_set__in_ - 0)]⟩, some ⟨b6, 77, [Value.int .i64 (y.base), Value.int .i64 (y.count), Value.slice Ay_parts (y.parts).length cy_parts, Value.slice Ay_sets (y.sets).length cy_sets]⟩, some ⟨b3_0, 114, [Value.int .i64 ((resetC x).base), Value.int .i64 ((resetC x).count), Value.slice A67_c_parts ((resetC x).parts).length c67_c_parts, Value.slice A67_c_sets ((resetC x).sets).length c67_c_sets]⟩, k67_c_parts, k67_c_sets] (by kernel_rfl) ?_
              have nh67_c_parts := h67_c_parts.len
              have nh67_c_sets := h67_c_sets.len
              refine wpr_end (by kernel_rfl) ?_
              refine wpq_then ?_
              refine wpq_sub [(0, Value.slice Al (l).length cl), (3, Value.pointer (some ⟨b3_0, 0, none⟩)), (4, Value.pointer (some ⟨b6, 0, none⟩)), (5, Value.int .i64 ((i : Int)))] (by kernel_rfl) ?_
              refine wpc_region (ops := R8_86) (id := 11) (by kernel_rfl) ?_
              refine wpr_val 1 47 (.build 77 #[]) 77 (Value.agg #[Value.int .i64 (0), Value.int .i64 (0), Value.slice none 0 0, Value.slice none 0 0]) (Runs.plain (by kernel_rfl)) (by kernel_rfl) (y_pure (by kernel_rfl) (fun _ => by kernel_rfl)) ?_
              refine wpr_do 2 (.store 77 (.tmp 4) (.tmp 47)) 0 (Runs.plain (by kernel_rfl)) (by kernel_rfl) (q_store b6 0 1 (Value.agg #[Value.int .i64 (0), Value.int .i64 (0), Value.slice none 0 0, Value.slice none 0 0]) [Value.int .i64 (0), Value.int .i64 (0), Value.slice none 0 0, Value.slice none 0 0] 77 [Value.int .i64 (y.base), Value.int .i64 (y.count), Value.slice Ay_parts (y.parts).length cy_parts, Value.slice Ay_sets (y.sets).length cy_sets] [Value.int .i64 (0), Value.int .i64 (0), Value.slice none 0 0, Value.slice none 0 0] (by kernel_rfl) (by kernel_rfl) (by kernel_rfl) (by kernel_rfl) (by kernel_rfl) (by kernel_rfl) (by kernel_rfl)) ?_
              rintro _ _ _ - ⟨rfl, rfl⟩
              refine wpr_end (by kernel_rfl) ?_
              refine wpq_sub [(0, Value.slice Al (l).length cl), (3, Value.pointer (some ⟨b3_0, 0, none⟩)), (4, Value.pointer (some ⟨b6, 0, none⟩)), (5, Value.int .i64 ((i : Int)))] (by kernel_rfl) ?_
              exact hQC1 _ _ _ LHC1 ⟨(resetC x), A67_c_parts, c67_c_parts, k67_c_parts, A67_c_sets, c67_c_sets, k67_c_sets, (⟨(0 : Int), (0 : Int), ([] : List (List UInt8)), ([] : List Sett)⟩ : Coll), none, 0, none, 0, rfl, rfl, h67_c_parts, h67_c_sets, Arr.nil, Arr.nil, (by first | exact take_eq he | exact note_eq he | exact note_eqF he | rfl), (by first | exact take_ok hG | exact note_ok hG | exact reset_ok)⟩
    · refine wpc_exit (id := 0) (by kernel_rfl) ?_
      refine wpq_thenX ?_
      refine wpq_thenX ?_
      refine wpq_blockE ?_
      refine wpq_then ?_
      refine wpq_sub [] (by kernel_rfl) ?_
      refine wpc_seq (x := F8_89) (y := F8_90) (by kernel_rfl) ?_
      refine wpc_region (ops := R8_89) (id := 26) (by kernel_rfl) ?_
      refine wpr_val 1 2 (.assign (.const (Value.bool (true)))) 4 (Value.bool (true)) (Runs.plain (by kernel_rfl)) (by kernel_rfl) (y_assign (by kernel_rfl)) ?_
      refine wpr_end (by kernel_rfl) ?_
      refine wpq_then ?_
      refine wpc_ret (rs := [.tmp 2]) [Value.bool (true)] [] (by kernel_rfl) (fun _ _ h => h) (by kernel_rfl) (res_tmp (by kernel_rfl) res_nil) L0 keep0 ?_
      exact ⟨rfl, rfl⟩

end Go.Proofs.Ytolppdcaaoghgaa
