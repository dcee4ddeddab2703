/-
Walks, printed by wip/eng/eng.py. Conditions: each theorem's own.
-/
import Derived.Test.YtolppdcaaoghgaaQ54
namespace Go.Proofs.Ytolppdcaaoghgaa
set_option linter.unusedVariables false
set_option linter.unusedSimpArgs false
open Go.RowKit
noncomputable def F6_0 : Code := sub (Try.f6.body.getD .skip) []
noncomputable def F6_1 : Code := sub (Try.f6.body.getD .skip) [0]
noncomputable def F6_2 : Code := sub (Try.f6.body.getD .skip) [1]
noncomputable def R6_1 : Array Oper := regOf F6_1
noncomputable def F6_4 : Code := sub (Try.f6.body.getD .skip) [1, 0]
noncomputable def F6_5 : Code := sub (Try.f6.body.getD .skip) [1, 1]
noncomputable def F6_6 : Code := sub (Try.f6.body.getD .skip) [1, 0, 0]
noncomputable def F6_7 : Code := sub (Try.f6.body.getD .skip) [1, 0, 1]
noncomputable def R6_6 : Array Oper := regOf F6_6
noncomputable def F6_9 : Code := sub (Try.f6.body.getD .skip) [1, 0, 1, 0]
noncomputable def F6_10 : Code := sub (Try.f6.body.getD .skip) [1, 0, 1, 1]
noncomputable def F6_11 : Code := sub (Try.f6.body.getD .skip) [1, 1, 0]
noncomputable def F6_12 : Code := sub (Try.f6.body.getD .skip) [1, 1, 1]
noncomputable def R6_11 : Array Oper := regOf F6_11
noncomputable def F6_14 : Code := sub (Try.f6.body.getD .skip) [1, 1, 1, 0]
noncomputable def F6_15 : Code := sub (Try.f6.body.getD .skip) [1, 1, 1, 1]
noncomputable def F6_16 : Code := sub (Try.f6.body.getD .skip) [1, 1, 1, 0, 0]
noncomputable def F6_17 : Code := sub (Try.f6.body.getD .skip) [1, 1, 1, 0, 1]
noncomputable def R6_16 : Array Oper := regOf F6_16
noncomputable def F6_19 : Code := sub (Try.f6.body.getD .skip) [1, 1, 1, 0, 1, 0]
noncomputable def F6_20 : Code := sub (Try.f6.body.getD .skip) [1, 1, 1, 0, 1, 0, 0]
noncomputable def F6_21 : Code := sub (Try.f6.body.getD .skip) [1, 1, 1, 0, 1, 0, 0, 0]
noncomputable def F6_22 : Code := sub (Try.f6.body.getD .skip) [1, 1, 1, 0, 1, 0, 0, 1]
noncomputable def F6_23 : Code := sub (Try.f6.body.getD .skip) [1, 1, 1, 0, 1, 0, 0, 0, 0]
noncomputable def F6_24 : Code := sub (Try.f6.body.getD .skip) [1, 1, 1, 0, 1, 0, 0, 0, 1]
noncomputable def R6_23 : Array Oper := regOf F6_23
noncomputable def F6_26 : Code := sub (Try.f6.body.getD .skip) [1, 1, 1, 0, 1, 0, 0, 0, 1, 0]
noncomputable def F6_27 : Code := sub (Try.f6.body.getD .skip) [1, 1, 1, 0, 1, 0, 0, 0, 1, 1]
noncomputable def F6_28 : Code := sub (Try.f6.body.getD .skip) [1, 1, 1, 0, 1, 0, 0, 1, 0]
noncomputable def F6_29 : Code := sub (Try.f6.body.getD .skip) [1, 1, 1, 0, 1, 0, 0, 1, 1]
noncomputable def F6_30 : Code := sub (Try.f6.body.getD .skip) [1, 1, 1, 0, 1, 0, 0, 1, 0, 0]
noncomputable def F6_31 : Code := sub (Try.f6.body.getD .skip) [1, 1, 1, 0, 1, 0, 0, 1, 0, 0, 0]
noncomputable def F6_32 : Code := sub (Try.f6.body.getD .skip) [1, 1, 1, 0, 1, 0, 0, 1, 0, 0, 1]
noncomputable def R6_31 : Array Oper := regOf F6_31
noncomputable def F6_34 : Code := sub (Try.f6.body.getD .skip) [1, 1, 1, 0, 1, 0, 0, 1, 0, 0, 1, 0]
noncomputable def F6_35 : Code := sub (Try.f6.body.getD .skip) [1, 1, 1, 0, 1, 0, 0, 1, 0, 0, 1, 1]
noncomputable def F6_36 : Code := sub (Try.f6.body.getD .skip) [1, 1, 1, 0, 1, 0, 0, 1, 0, 0, 1, 0, 0]
noncomputable def F6_37 : Code := sub (Try.f6.body.getD .skip) [1, 1, 1, 0, 1, 0, 0, 1, 0, 0, 1, 0, 1]
noncomputable def R6_36 : Array Oper := regOf F6_36
noncomputable def F6_39 : Code := sub (Try.f6.body.getD .skip) [1, 1, 1, 0, 1, 0, 0, 1, 0, 0, 1, 0, 1, 0]
noncomputable def F6_40 : Code := sub (Try.f6.body.getD .skip) [1, 1, 1, 0, 1, 0, 0, 1, 0, 0, 1, 0, 1, 1]
noncomputable def F6_41 : Code := sub (Try.f6.body.getD .skip) [1, 1, 1, 0, 1, 0, 0, 1, 0, 0, 1, 0, 1, 0, 0]
noncomputable def F6_42 : Code := sub (Try.f6.body.getD .skip) [1, 1, 1, 0, 1, 0, 0, 1, 0, 0, 1, 0, 1, 0, 1]
noncomputable def R6_41 : Array Oper := regOf F6_41
noncomputable def F6_44 : Code := sub (Try.f6.body.getD .skip) [1, 1, 1, 0, 1, 0, 0, 1, 0, 0, 1, 0, 1, 0, 1, 0]
noncomputable def F6_45 : Code := sub (Try.f6.body.getD .skip) [1, 1, 1, 0, 1, 0, 0, 1, 0, 0, 1, 0, 1, 0, 1, 1]
noncomputable def R6_44 : Array Oper := regOf F6_44
noncomputable def R6_29 : Array Oper := regOf F6_29
noncomputable def F6_48 : Code := sub (Try.f6.body.getD .skip) [1, 1, 1, 0, 1, 0, 0, 1, 0, 0, 1, 1, 0]
noncomputable def F6_49 : Code := sub (Try.f6.body.getD .skip) [1, 1, 1, 0, 1, 0, 0, 1, 0, 0, 1, 1, 1]
noncomputable def R6_48 : Array Oper := regOf F6_48
noncomputable def F6_51 : Code := sub (Try.f6.body.getD .skip) [1, 1, 1, 0, 1, 0, 0, 1, 0, 0, 1, 1, 1, 0]
noncomputable def F6_52 : Code := sub (Try.f6.body.getD .skip) [1, 1, 1, 0, 1, 0, 0, 1, 0, 0, 1, 1, 1, 1]
noncomputable def F6_53 : Code := sub (Try.f6.body.getD .skip) [1, 1, 1, 0, 1, 0, 0, 1, 0, 0, 1, 1, 1, 0, 0]
noncomputable def F6_54 : Code := sub (Try.f6.body.getD .skip) [1, 1, 1, 0, 1, 0, 0, 1, 0, 0, 1, 1, 1, 0, 1]
noncomputable def R6_53 : Array Oper := regOf F6_53
noncomputable def F6_56 : Code := sub (Try.f6.body.getD .skip) [1, 1, 1, 0, 1, 0, 0, 1, 0, 0, 1, 1, 1, 0, 1, 0]
noncomputable def F6_57 : Code := sub (Try.f6.body.getD .skip) [1, 1, 1, 0, 1, 0, 0, 1, 0, 0, 1, 1, 1, 0, 1, 0, 0]
noncomputable def F6_58 : Code := sub (Try.f6.body.getD .skip) [1, 1, 1, 0, 1, 0, 0, 1, 0, 0, 1, 1, 1, 0, 1, 0, 0, 0]
noncomputable def F6_59 : Code := sub (Try.f6.body.getD .skip) [1, 1, 1, 0, 1, 0, 0, 1, 0, 0, 1, 1, 1, 0, 1, 0, 0, 1]
noncomputable def R6_58 : Array Oper := regOf F6_58
noncomputable def F6_61 : Code := sub (Try.f6.body.getD .skip) [1, 1, 1, 0, 1, 0, 0, 1, 0, 0, 1, 1, 1, 0, 1, 0, 0, 1, 0]
noncomputable def F6_62 : Code := sub (Try.f6.body.getD .skip) [1, 1, 1, 0, 1, 0, 0, 1, 0, 0, 1, 1, 1, 0, 1, 0, 0, 1, 1]
noncomputable def F6_63 : Code := sub (Try.f6.body.getD .skip) [1, 1, 1, 0, 1, 0, 0, 1, 0, 0, 1, 1, 1, 0, 1, 0, 0, 1, 0, 0]
noncomputable def F6_64 : Code := sub (Try.f6.body.getD .skip) [1, 1, 1, 0, 1, 0, 0, 1, 0, 0, 1, 1, 1, 0, 1, 0, 0, 1, 0, 1]
noncomputable def F6_65 : Code := sub (Try.f6.body.getD .skip) [1, 1, 1, 0, 1, 0, 0, 1, 0, 0, 1, 1, 1, 0, 1, 0, 0, 1, 1, 0]
noncomputable def F6_66 : Code := sub (Try.f6.body.getD .skip) [1, 1, 1, 0, 1, 0, 0, 1, 0, 0, 1, 1, 1, 0, 1, 0, 0, 1, 1, 1]
noncomputable def F6_67 : Code := sub (Try.f6.body.getD .skip) [1, 1, 1, 0, 1, 0, 0, 1, 0, 0, 1, 1, 1, 0, 1, 0, 0, 1, 1, 0, 0]
noncomputable def F6_68 : Code := sub (Try.f6.body.getD .skip) [1, 1, 1, 0, 1, 0, 0, 1, 0, 0, 1, 1, 1, 0, 1, 0, 0, 1, 1, 0, 0, 0]
noncomputable def F6_69 : Code := sub (Try.f6.body.getD .skip) [1, 1, 1, 0, 1, 0, 0, 1, 0, 0, 1, 1, 1, 0, 1, 0, 0, 1, 1, 0, 0, 1]
noncomputable def R6_68 : Array Oper := regOf F6_68
noncomputable def R6_69 : Array Oper := regOf F6_69
noncomputable def R6_66 : Array Oper := regOf F6_66
noncomputable def F6_73 : Code := sub (Try.f6.body.getD .skip) [1, 1, 1, 0, 1, 0, 0, 1, 0, 0, 1, 1, 1, 1, 0]
noncomputable def F6_74 : Code := sub (Try.f6.body.getD .skip) [1, 1, 1, 0, 1, 0, 0, 1, 0, 0, 1, 1, 1, 1, 1]
noncomputable def R6_73 : Array Oper := regOf F6_73
noncomputable def F6_76 : Code := sub (Try.f6.body.getD .skip) [1, 1, 1, 0, 1, 0, 0, 1, 0, 0, 1, 1, 1, 1, 1, 0]
noncomputable def F6_77 : Code := sub (Try.f6.body.getD .skip) [1, 1, 1, 0, 1, 0, 0, 1, 0, 0, 1, 1, 1, 1, 1, 1]
noncomputable def R6_76 : Array Oper := regOf F6_76
noncomputable def F6_79 : Code := sub (Try.f6.body.getD .skip) [1, 1, 1, 0, 1, 0, 0, 1, 0, 0, 1, 1, 1, 1, 1, 1, 0]
noncomputable def F6_80 : Code := sub (Try.f6.body.getD .skip) [1, 1, 1, 0, 1, 0, 0, 1, 0, 0, 1, 1, 1, 1, 1, 1, 1]
noncomputable def F6_81 : Code := sub (Try.f6.body.getD .skip) [1, 1, 1, 0, 1, 0, 0, 1, 0, 0, 1, 1, 1, 1, 1, 1, 0, 0]
noncomputable def F6_82 : Code := sub (Try.f6.body.getD .skip) [1, 1, 1, 0, 1, 0, 0, 1, 0, 0, 1, 1, 1, 1, 1, 1, 0, 1]
noncomputable def R6_81 : Array Oper := regOf F6_81
noncomputable def F6_84 : Code := sub (Try.f6.body.getD .skip) [1, 1, 1, 0, 1, 0, 0, 1, 0, 0, 1, 1, 1, 1, 1, 1, 0, 1, 0]
noncomputable def F6_85 : Code := sub (Try.f6.body.getD .skip) [1, 1, 1, 0, 1, 0, 0, 1, 0, 0, 1, 1, 1, 1, 1, 1, 0, 1, 0, 0]
noncomputable def F6_86 : Code := sub (Try.f6.body.getD .skip) [1, 1, 1, 0, 1, 0, 0, 1, 0, 0, 1, 1, 1, 1, 1, 1, 0, 1, 0, 0, 0]
noncomputable def F6_87 : Code := sub (Try.f6.body.getD .skip) [1, 1, 1, 0, 1, 0, 0, 1, 0, 0, 1, 1, 1, 1, 1, 1, 0, 1, 0, 0, 1]
noncomputable def R6_86 : Array Oper := regOf F6_86
noncomputable def F6_89 : Code := sub (Try.f6.body.getD .skip) [1, 1, 1, 0, 1, 0, 0, 1, 0, 0, 1, 1, 1, 1, 1, 1, 0, 1, 0, 0, 1, 0]
noncomputable def F6_90 : Code := sub (Try.f6.body.getD .skip) [1, 1, 1, 0, 1, 0, 0, 1, 0, 0, 1, 1, 1, 1, 1, 1, 0, 1, 0, 0, 1, 1]
noncomputable def F6_91 : Code := sub (Try.f6.body.getD .skip) [1, 1, 1, 0, 1, 0, 0, 1, 0, 0, 1, 1, 1, 1, 1, 1, 0, 1, 0, 0, 1, 0, 0]
noncomputable def F6_92 : Code := sub (Try.f6.body.getD .skip) [1, 1, 1, 0, 1, 0, 0, 1, 0, 0, 1, 1, 1, 1, 1, 1, 0, 1, 0, 0, 1, 0, 1]
noncomputable def F6_93 : Code := sub (Try.f6.body.getD .skip) [1, 1, 1, 0, 1, 0, 0, 1, 0, 0, 1, 1, 1, 1, 1, 1, 0, 1, 0, 0, 1, 1, 0]
noncomputable def F6_94 : Code := sub (Try.f6.body.getD .skip) [1, 1, 1, 0, 1, 0, 0, 1, 0, 0, 1, 1, 1, 1, 1, 1, 0, 1, 0, 0, 1, 1, 1]
noncomputable def F6_95 : Code := sub (Try.f6.body.getD .skip) [1, 1, 1, 0, 1, 0, 0, 1, 0, 0, 1, 1, 1, 1, 1, 1, 0, 1, 0, 0, 1, 1, 0, 0]
noncomputable def F6_96 : Code := sub (Try.f6.body.getD .skip) [1, 1, 1, 0, 1, 0, 0, 1, 0, 0, 1, 1, 1, 1, 1, 1, 0, 1, 0, 0, 1, 1, 0, 0, 0]
noncomputable def F6_97 : Code := sub (Try.f6.body.getD .skip) [1, 1, 1, 0, 1, 0, 0, 1, 0, 0, 1, 1, 1, 1, 1, 1, 0, 1, 0, 0, 1, 1, 0, 0, 1]
noncomputable def R6_96 : Array Oper := regOf F6_96
noncomputable def R6_97 : Array Oper := regOf F6_97
noncomputable def R6_94 : Array Oper := regOf F6_94
noncomputable def F6_101 : Code := sub (Try.f6.body.getD .skip) [1, 1, 1, 0, 1, 0, 0, 1, 0, 0, 1, 1, 1, 1, 1, 1, 1, 0]
noncomputable def F6_102 : Code := sub (Try.f6.body.getD .skip) [1, 1, 1, 0, 1, 0, 0, 1, 0, 0, 1, 1, 1, 1, 1, 1, 1, 1]
noncomputable def F6_103 : Code := sub (Try.f6.body.getD .skip) [1, 1, 1, 0, 1, 0, 0, 1, 0, 0, 1, 1, 1, 1, 1, 1, 1, 0, 0]
noncomputable def F6_104 : Code := sub (Try.f6.body.getD .skip) [1, 1, 1, 0, 1, 0, 0, 1, 0, 0, 1, 1, 1, 1, 1, 1, 1, 0, 1]
noncomputable def R6_103 : Array Oper := regOf F6_103
noncomputable def F6_106 : Code := sub (Try.f6.body.getD .skip) [1, 1, 1, 0, 1, 0, 0, 1, 0, 0, 1, 1, 1, 1, 1, 1, 1, 0, 1, 0]
noncomputable def F6_107 : Code := sub (Try.f6.body.getD .skip) [1, 1, 1, 0, 1, 0, 0, 1, 0, 0, 1, 1, 1, 1, 1, 1, 1, 0, 1, 1]
noncomputable def R6_102 : Array Oper := regOf F6_102
noncomputable def F6_109 : Code := sub (Try.f6.body.getD .skip) [1, 1, 1, 1, 0]
noncomputable def F6_110 : Code := sub (Try.f6.body.getD .skip) [1, 1, 1, 1, 1]
noncomputable def R6_109 : Array Oper := regOf F6_109
set_option maxRecDepth 100000 in
theorem c6 (g : Gh) (l : List Ask) (Al : Option Addr) (cl : Nat) (fl : Arr g.r tyAsk Al cl l) (hl : ∀ x ∈ l, okAsk x) :
    Ctr0 Try.prog 6 [Value.slice Al (l).length cl] g (fun v ψ => v = Value.bool (true)) := by
  refine ctr_of Try.f6 F6_0 102 [Value.slice Al (l).length cl] (by kernel_rfl) (by kernel_rfl) (by kernel_rfl) (by kernel_rfl) ?_
  have L0 := Gh.le.refl g
  have nfl := fl.len
  refine wpc_seq (x := F6_1) (y := F6_2) (by kernel_rfl) ?_
  refine wpc_region (ops := R6_1) (id := 0) (by kernel_rfl) ?_
  refine wpr_val 1 2 (.assign (.const (Value.bool (false)))) 4 (Value.bool (false)) (Runs.plain (by kernel_rfl)) (by kernel_rfl) (y_assign (by kernel_rfl)) ?_
  refine wpr_end (by kernel_rfl) ?_
  refine wpq_then ?_
  refine wpc_seq (x := F6_4) (y := F6_5) (by kernel_rfl) ?_
  refine wpc_seq (x := F6_6) (y := F6_7) (by kernel_rfl) ?_
  refine wpc_region (ops := R6_6) (id := 1) (by kernel_rfl) ?_
  refine wpr_eff 1 15 (.call { callee := .value (.func 10), args := #[], argTypes := #[] }) 4 (Runs.plain (by kernel_rfl)) (by kernel_rfl) (e_call [] (by kernel_rfl) (by kernel_rfl) (fun g' lr eb ln => c10 g' )) ?_
  rintro _ g1 _ le2 ⟨rfl, rfl⟩
  have fl := fl.mono le2.r
  have L0 := L0.trans le2
  refine wpr_val 2 16 (.unOp .not 4 (.tmp 15)) 4 (Value.bool (false)) (Runs.plain (by kernel_rfl)) (by kernel_rfl) (y_pure (by kernel_rfl) (fun _ => by kernel_rfl)) ?_
  refine wpr_end (by kernel_rfl) ?_
  refine wpq_then ?_
  refine wpc_false (x := F6_9) (y := F6_10) (o := (.tmp 16)) (by kernel_rfl) (by kernel_rfl) ?_
  refine wpc_skip (by kernel_rfl) ?_
  refine wpq_then ?_
  refine wpc_seq (x := F6_11) (y := F6_12) (by kernel_rfl) ?_
  refine wpc_region (ops := R6_11) (id := 3) (by kernel_rfl) ?_
  refine wpr_eff 1 17 (.call { callee := .value (.func 20), args := #[], argTypes := #[] }) 50 (Runs.plain (by kernel_rfl)) (by kernel_rfl) (e_callM (sel := []) [] [] (by kernel_rfl) (by kernel_rfl) rfl (fun g' lr eb ln => c20 g' )) ?_
  rintro _ g4 _ le5 ⟨_, rfl, b3_0, A3_0_pieces, c3_0_pieces, rfl, rfl, f3_0_pieces⟩
  have fl := fl.mono le5.r
  have L0 := L0.trans le5
  refine wpq_own [some ⟨b3_0, 107, [Value.slice A3_0_pieces ((newSenderS).pieces).length c3_0_pieces]⟩] (by kernel_rfl) ?_
  have nf3_0_pieces := f3_0_pieces.len
  refine wpr_val 2 18 (.build 53 #[]) 53 (Value.agg #[Value.slice none 0 0]) (Runs.plain (by kernel_rfl)) (by kernel_rfl) (y_pure (by kernel_rfl) (fun _ => by kernel_rfl)) ?_
  refine wpr_eff 3 4 (.alloc 53) 0 (Runs.plain (by kernel_rfl)) (by kernel_rfl) (e_alloc (cs := [Value.slice none 0 0]) (by kernel_rfl)) ?_
  rintro _ _ _ - ⟨b6, rfl, rfl, rfl⟩
  refine wpr_val 4 3 (.assign (.tmp 17)) 50 (Value.pointer (some ⟨b3_0, 0, none⟩)) (Runs.plain (by kernel_rfl)) (by kernel_rfl) (y_assign (by kernel_rfl)) ?_
  refine wpr_do 5 (.store 53 (.tmp 4) (.tmp 18)) 0 (Runs.plain (by kernel_rfl)) (by kernel_rfl) (q_store b6 0 0 (Value.agg #[Value.slice none 0 0]) [Value.slice none 0 0] 53 [Value.slice none 0 0] [Value.slice none 0 0] (by kernel_rfl) (by kernel_rfl) (by kernel_rfl) (by kernel_rfl) (by kernel_rfl) (by kernel_rfl) (by kernel_rfl)) ?_
  rintro _ _ _ - ⟨rfl, rfl⟩
  refine wpr_end (by kernel_rfl) ?_
  refine wpq_then ?_
  refine wpq_sub [(0, Value.slice Al (l).length cl), (3, Value.pointer (some ⟨b3_0, 0, none⟩)), (4, Value.pointer (some ⟨b6, 0, none⟩))] (by kernel_rfl) ?_
  refine wpc_seq (x := F6_14) (y := F6_15) (by kernel_rfl) ?_
  refine wpc_seq (x := F6_16) (y := F6_17) (by kernel_rfl) ?_
  refine wpc_region (ops := R6_16) (id := 4) (by kernel_rfl) ?_
  refine wpr_val 1 5 (.assign (.const (Value.int .i64 (0)))) 3 (Value.int .i64 (0)) (Runs.plain (by kernel_rfl)) (by kernel_rfl) (y_assign (by kernel_rfl)) ?_
  refine wpr_end (by kernel_rfl) ?_
  refine wpq_then ?_
  refine wpc_block (x := F6_19) (id := 0) (by kernel_rfl) ?_
  refine wpq_sub [(0, Value.slice Al (l).length cl), (3, Value.pointer (some ⟨b3_0, 0, none⟩)), (4, Value.pointer (some ⟨b6, 0, none⟩)), (5, Value.int .i64 (0))] (by kernel_rfl) ?_
  -- loop 0
  refine wpc_loop (x := F6_20) (by kernel_rfl) (fun g own sl m => ∃ (i : Nat) (ps : List Piece) (Aps : Option Addr) (cps : Nat) (qs : List Piece) (Aqs : Option Addr) (cqs : Nat), own = [some ⟨b6, 53, [Value.slice Aqs (qs).length cqs]⟩, some ⟨b3_0, 107, [Value.slice Aps (ps).length cps]⟩] ∧ sl = [(0, Value.slice Al (l).length cl), (3, Value.pointer (some ⟨b3_0, 0, none⟩)), (4, Value.pointer (some ⟨b6, 0, none⟩)), (5, Value.int .i64 ((i : Int)))] ∧ m = 16 - i ∧ Arr g.b tyPiece Aps cps ps ∧ Arr g.b tyPiece Aqs cqs qs ∧ (i ≤ 16) ∧ (ps = qs)) _ ⟨0, (newSenderS).pieces, A3_0_pieces, c3_0_pieces, [], none, 0, rfl, rfl, rfl, f3_0_pieces, Arr.nil, by omega, rfl⟩ ?_
  rintro g7 _ _ _ le8 ⟨i, ps, Aps, cps, qs, Aqs, cqs, rfl, rfl, rfl, fps, fqs, hi, he⟩ QrL0 hQL0
  have fl := fl.mono le8.r
  have f3_0_pieces := f3_0_pieces.mono le8.b
  have L0 := L0.trans le8
  have nfps := fps.len
  have nfqs := fqs.len
  have LHL0 := Gh.le.refl g7
  refine wpc_seq (x := F6_21) (y := F6_22) (by kernel_rfl) ?_
  refine wpc_seq (x := F6_23) (y := F6_24) (by kernel_rfl) ?_
  refine wpc_region (ops := R6_23) (id := 5) (by kernel_rfl) ?_
  refine wpr_val 1 19 (.move (.tmp 5)) 3 (Value.int .i64 ((i : Int))) (Runs.plain (by kernel_rfl)) (by kernel_rfl) (y_move (by kernel_rfl)) ?_
  refine wpr_val 2 20 (.move (.tmp 0)) 49 (Value.slice Al (l).length cl) (Runs.plain (by kernel_rfl)) (by kernel_rfl) (y_move (by kernel_rfl)) ?_
  refine wpr_val 3 21 (.call { callee := .builtin .len, args := #[(.tmp 20)], argTypes := #[49] }) 3 (Value.int .i64 ((((l).length : Nat) : Int))) (Runs.plain (by kernel_rfl)) (by kernel_rfl) (y_pure (by kernel_rfl) (fun _ => by kernel_rfl)) ?_
  refine wpr_val 4 22 (.binOp .lss 3 (.tmp 19) (.tmp 21) 3) 4 (Value.bool (decide ((i : Int) < (((l).length : Nat) : Int)))) (Runs.plain (by kernel_rfl)) (by kernel_rfl) (y_pure (by kernel_rfl) (fun _ => by kernel_rfl)) ?_
  refine wpr_val 5 23 (.move (.tmp 22)) 4 (Value.bool (decide ((i : Int) < (((l).length : Nat) : Int)))) (Runs.plain (by kernel_rfl)) (by kernel_rfl) (y_move (by kernel_rfl)) ?_
  refine wpr_grp 8 [(0, Value.slice Al (l).length cl), (3, Value.pointer (some ⟨b3_0, 0, none⟩)), (4, Value.pointer (some ⟨b6, 0, none⟩)), (5, Value.int .i64 ((i : Int))), (26, Value.bool ((decide ((i : Int) < (((l).length : Nat) : Int)) && decide ((i : Int) < 16))))] (fun hk4 => ?_) ?_
  · refine wpq_split 23 (b := decide ((i : Int) < (((l).length : Nat) : Int))) (by kernel_rfl) (fun q9 => ?_) (fun q9 => ?_)
    · have q9p := of_decide_eq_true q9
      refine wpr_val 6 24 (.move (.tmp 5)) 3 (Value.int .i64 ((i : Int))) (Runs.guarded (j := 4) (t := 23) (b := true) (by kernel_rfl) (by kernel_rfl) (by kernel_rfl)) (by kernel_rfl) (y_move (by kernel_rfl)) ?_
      refine wpr_val 7 25 (.binOp .lss 3 (.tmp 24) (.const (Value.int .i64 (16))) 3) 4 (Value.bool (decide ((i : Int) < 16))) (Runs.guarded (j := 4) (t := 23) (b := true) (by kernel_rfl) (by kernel_rfl) (by kernel_rfl)) (by kernel_rfl) (y_pure (by kernel_rfl) (fun _ => by kernel_rfl)) ?_
      refine wpr_val 8 26 (.pick (.tmp 23) (.tmp 25) (.const (Value.bool (false)))) 4 (Value.bool (decide ((i : Int) < 16))) (Runs.plain (by kernel_rfl)) (by kernel_rfl) (y_pickT (by kernel_rfl) (by kernel_rfl)) ?_
      refine wpq_re 26 (v := Value.bool (decide ((i : Int) < 16))) (Value.bool ((decide ((i : Int) < (((l).length : Nat) : Int)) && decide ((i : Int) < 16)))) (by kernel_rfl) (re_and1 q9) ?_
      exact wpq_sub _ (by kernel_rfl) hk4
    · have q9p := of_decide_eq_false q9
      refine wpr_skip 6 24 (Skips.mk' (j := 4) (t := 23) (b := true) (by kernel_rfl) (by kernel_rfl) (by kernel_rfl)) (by kernel_rfl) ?_
      refine wpr_skip 7 25 (Skips.mk' (j := 4) (t := 23) (b := true) (by kernel_rfl) (by kernel_rfl) (by kernel_rfl)) (by kernel_rfl) ?_
      refine wpr_val 8 26 (.pick (.tmp 23) (.tmp 25) (.const (Value.bool (false)))) 4 (Value.bool (false)) (Runs.plain (by kernel_rfl)) (by kernel_rfl) (y_pickF (by kernel_rfl) (by kernel_rfl)) ?_
      refine wpq_re 26 (v := Value.bool (false)) (Value.bool ((decide ((i : Int) < (((l).length : Nat) : Int)) && decide ((i : Int) < 16)))) (by kernel_rfl) (re_and0 q9) ?_
      exact wpq_sub _ (by kernel_rfl) hk4
  · refine wpr_end (by kernel_rfl) ?_
    refine wpq_then ?_
    -- condition 0
    refine wpc_cond (x := F6_26) (y := F6_27) (o := (.tmp 26)) (b := (decide ((i : Int) < (((l).length : Nat) : Int)) && decide ((i : Int) < 16))) (by kernel_rfl) (by kernel_rfl) (fun h0 => ?_) (fun h0 => ?_)
    · have h0l := (and_true_ h0).1
      have h0r := (and_true_ h0).2
      have h0lp := of_decide_eq_true h0l
      have h0rp := of_decide_eq_true h0r
      refine wpc_skip (by kernel_rfl) ?_
      refine wpq_then ?_
      refine wpc_seq (x := F6_28) (y := F6_29) (by kernel_rfl) ?_
      refine wpc_block (x := F6_30) (id := 1) (by kernel_rfl) ?_
      refine wpc_seq (x := F6_31) (y := F6_32) (by kernel_rfl) ?_
      refine wpc_region (ops := R6_31) (id := 7) (by kernel_rfl) ?_
      refine wpr_val 1 29 (.move (.tmp 0)) 49 (Value.slice Al (l).length cl) (Runs.plain (by kernel_rfl)) (by kernel_rfl) (y_move (by kernel_rfl)) ?_
      refine wpr_val 2 30 (.move (.tmp 5)) 3 (Value.int .i64 ((i : Int))) (Runs.plain (by kernel_rfl)) (by kernel_rfl) (y_move (by kernel_rfl)) ?_
      have hi10 : i < (l).length := by omega
      obtain ⟨ad10, cs10, hA10, hr10, hc10⟩ := fl.at_ (get_getD (d := default) hi10)
      obtain ⟨rfl⟩ := hr10
      have oz10 := askSize (hl _ (getD_mem (d := default) hi10))
      refine wpr_val 3 31 (.indexAddr 49 (.tmp 29) (.tmp 30)) 0 (Value.pointer (some (Addr.add ad10 (i * 5)))) (Runs.plain (by kernel_rfl)) (by kernel_rfl) (q_index (e := 57) (sz := 5) (len := (l).length) (c := cl) i (A := ad10) (k := .i64) (z := (i : Int)) hA10 (by kernel_rfl) (by kernel_rfl) rfl hi10 (by kernel_rfl) (by kernel_rfl)) ?_
      refine wpr_val 4 32 (.load 57 (.tmp 31)) 57 (Value.agg #[Value.bool ((List.getD l i default).reset), Value.int .i64 ((List.getD l i default).want.base), Value.int .i64 ((List.getD l i default).want.have_), Value.int .i64 ((List.getD l i default).steps), Value.int .u16 ((List.getD l i default).size)]) (Runs.plain (by kernel_rfl)) (by kernel_rfl) (q_loadPA (Addr.add ad10 (i * 5)) 0 [Value.bool ((List.getD l i default).reset), Value.int .i64 ((List.getD l i default).want.base), Value.int .i64 ((List.getD l i default).want.have_), Value.int .i64 ((List.getD l i default).steps), Value.int .u16 ((List.getD l i default).size)] (by kernel_rfl) hc10 (by kernel_rfl) (by kernel_rfl)) ?_
      refine wpr_eff 5 6 (.alloc 57) 0 (Runs.plain (by kernel_rfl)) (by kernel_rfl) (e_alloc (cs := [Value.bool (false), Value.int .i64 (0), Value.int .i64 (0), Value.int .i64 (0), Value.int .u16 (0)]) (by kernel_rfl)) ?_
      rintro _ _ _ - ⟨b11, rfl, rfl, rfl⟩
      refine wpr_do 6 (.store 57 (.tmp 6) (.tmp 32)) 0 (Runs.plain (by kernel_rfl)) (by kernel_rfl) (q_store b11 0 0 (Value.agg #[Value.bool ((List.getD l i default).reset), Value.int .i64 ((List.getD l i default).want.base), Value.int .i64 ((List.getD l i default).want.have_), Value.int .i64 ((List.getD l i default).steps), Value.int .u16 ((List.getD l i default).size)]) [Value.bool ((List.getD l i default).reset), Value.int .i64 ((List.getD l i default).want.base), Value.int .i64 ((List.getD l i default).want.have_), Value.int .i64 ((List.getD l i default).steps), Value.int .u16 ((List.getD l i default).size)] 57 [Value.bool (false), Value.int .i64 (0), Value.int .i64 (0), Value.int .i64 (0), Value.int .u16 (0)] [Value.bool ((List.getD l i default).reset), Value.int .i64 ((List.getD l i default).want.base), Value.int .i64 ((List.getD l i default).want.have_), Value.int .i64 ((List.getD l i default).steps), Value.int .u16 ((List.getD l i default).size)] (by kernel_rfl) (by kernel_rfl) (by kernel_rfl) (by kernel_rfl) (by kernel_rfl) (by kernel_rfl) (by kernel_rfl)) ?_
      rintro _ _ _ - ⟨rfl, rfl⟩
      refine wpr_end (by kernel_rfl) ?_
      refine wpq_then ?_
      refine wpq_sub [(0, Value.slice Al (l).length cl), (3, Value.pointer (some ⟨b3_0, 0, none⟩)), (4, Value.pointer (some ⟨b6, 0, none⟩)), (5, Value.int .i64 ((i : Int))), (6, Value.pointer (some ⟨b11, 0, none⟩))] (by kernel_rfl) ?_
      refine wpc_seq (x := F6_34) (y := F6_35) (by kernel_rfl) ?_
      refine wpc_seq (x := F6_36) (y := F6_37) (by kernel_rfl) ?_
      refine wpc_region (ops := R6_36) (id := 8) (by kernel_rfl) ?_
      refine wpr_val 1 33 (.fieldAddr 57 (.tmp 6) 0) 0 (Value.pointer (some ⟨b11, 0, none⟩)) (Runs.plain (by kernel_rfl)) (by kernel_rfl) (y_pure (by kernel_rfl) (fun _ => by kernel_rfl)) ?_
      refine wpr_val 2 34 (.load 4 (.tmp 33)) 4 (Value.bool ((List.getD l i default).reset)) (Runs.plain (by kernel_rfl)) (by kernel_rfl) (q_load1 b11 0 0 (by kernel_rfl) (by kernel_rfl) (by kernel_rfl)) ?_
      refine wpr_end (by kernel_rfl) ?_
      refine wpq_then ?_
      -- condition 1
      refine wpc_cond (x := F6_39) (y := F6_40) (o := (.tmp 34)) (b := (List.getD l i default).reset) (by kernel_rfl) (by kernel_rfl) (fun h1 => ?_) (fun h1 => ?_)
      · refine wpc_seq (x := F6_41) (y := F6_42) (by kernel_rfl) ?_
        refine wpc_region (ops := R6_41) (id := 9) (by kernel_rfl) ?_
        refine wpr_val 1 35 (.move (.tmp 3)) 50 (Value.pointer (some ⟨b3_0, 0, none⟩)) (Runs.plain (by kernel_rfl)) (by kernel_rfl) (y_move (by kernel_rfl)) ?_
        refine wpr_eff 2 36 (.call { callee := .value (.func 21), args := #[(.tmp 35)], argTypes := #[50] }) 0 (Runs.plain (by kernel_rfl)) (by kernel_rfl) (e_callM (sel := [some ⟨b3_0, 107, [Value.slice Aps (ps).length cps]⟩]) [Value.pointer (some ⟨b3_0, 0, none⟩)] [false, false, true] (by kernel_rfl) (by kernel_rfl) (by kernel_rfl) (fun g' lr eb ln => c21 g' b3_0 (⟨(ps : List Piece)⟩ : Sender) Aps cps (by rw [eb]; exact fps))) ?_
        rintro _ g13 _ le14 ⟨_, rfl, A12_s_pieces, c12_s_pieces, rfl, rfl, f12_s_pieces⟩
        have fl := fl.mono le14.r
        have f3_0_pieces := f3_0_pieces.mono le14.b
        have fps := fps.mono le14.b
        have fqs := fqs.mono le14.b
        have hc10 := hc10.mono le14.r
        have L0 := L0.trans le14
        have LHL0 := LHL0.trans le14
        refine wpq_own [some ⟨b11, 57, [Value.bool ((List.getD l i default).reset), Value.int .i64 ((List.getD l i default).want.base), Value.int .i64 ((List.getD l i default).want.have_), Value.int .i64 ((List.getD l i default).steps), Value.int .u16 ((List.getD l i default).size)]⟩, some ⟨b6, 53, [Value.slice Aqs (qs).length cqs]⟩, some ⟨b3_0, 107, [Value.slice A12_s_pieces ((resetS (⟨(ps : List Piece)⟩ : Sender)).pieces).length c12_s_pieces]⟩] (by kernel_rfl) ?_
        have nf12_s_pieces := f12_s_pieces.len
        refine wpr_end (by kernel_rfl) ?_
        refine wpq_then ?_
        refine wpq_sub [(0, Value.slice Al (l).length cl), (3, Value.pointer (some ⟨b3_0, 0, none⟩)), (4, Value.pointer (some ⟨b6, 0, none⟩)), (5, Value.int .i64 ((i : Int)))] (by kernel_rfl) ?_
        refine wpc_seq (x := F6_44) (y := F6_45) (by kernel_rfl) ?_
        refine wpc_region (ops := R6_44) (id := 10) (by kernel_rfl) ?_
        refine wpr_val 1 37 (.build 53 #[]) 53 (Value.agg #[Value.slice none 0 0]) (Runs.plain (by kernel_rfl)) (by kernel_rfl) (y_pure (by kernel_rfl) (fun _ => by kernel_rfl)) ?_
        refine wpr_do 2 (.store 53 (.tmp 4) (.tmp 37)) 0 (Runs.plain (by kernel_rfl)) (by kernel_rfl) (q_store b6 0 1 (Value.agg #[Value.slice none 0 0]) [Value.slice none 0 0] 53 [Value.slice Aqs (qs).length cqs] [Value.slice none 0 0] (by kernel_rfl) (by kernel_rfl) (by kernel_rfl) (by kernel_rfl) (by kernel_rfl) (by kernel_rfl) (by kernel_rfl)) ?_
        rintro _ _ _ - ⟨rfl, rfl⟩
        refine wpr_end (by kernel_rfl) ?_
        refine wpq_then ?_
        refine wpc_exit (id := 1) (by kernel_rfl) ?_
        refine wpq_thenX ?_
        refine wpq_blockE ?_
        refine wpq_then ?_
        refine wpc_region (ops := R6_29) (id := 6) (by kernel_rfl) ?_
        refine wpr_val 1 27 (.move (.tmp 5)) 3 (Value.int .i64 ((i : Int))) (Runs.plain (by kernel_rfl)) (by kernel_rfl) (y_move (by kernel_rfl)) ?_
        refine wpr_val 2 28 (.binOp .add 3 (.tmp 27) (.const (Value.int .i64 (1))) 3) 3 (Value.int .i64 (((i : Int) + 1))) (Runs.plain (by kernel_rfl)) (by kernel_rfl) (y_add (by kernel_rfl) (by kernel_rfl) (wr64 (by omega))) ?_
        refine wpr_val 3 5 (.assign (.tmp 28)) 3 (Value.int .i64 (((i : Int) + 1))) (Runs.plain (by kernel_rfl)) (by kernel_rfl) (y_assign (by kernel_rfl)) ?_
        refine wpr_end (by kernel_rfl) ?_
        refine wpq_thenN ?_
        refine wpq_drop [false, true, true] [some ⟨b6, 53, [Value.slice none 0 0]⟩, some ⟨b3_0, 107, [Value.slice A12_s_pieces ((resetS (⟨(ps : List Piece)⟩ : Sender)).pieces).length c12_s_pieces]⟩] (by kernel_rfl) ?_
        refine wpq_re 5 (v := Value.int .i64 (((i : Int) + 1))) (Value.int .i64 ((((i + 1) : Nat) : Int))) (by kernel_rfl) (congrArg (Value.int .i64) (by omega)) ?_
        refine wpq_sub [(0, Value.slice Al (l).length cl), (3, Value.pointer (some ⟨b3_0, 0, none⟩)), (4, Value.pointer (some ⟨b6, 0, none⟩)), (5, Value.int .i64 ((((i + 1) : Nat) : Int)))] (by kernel_rfl) ?_
        exact hQL0 _ _ _ (16 - ((i + 1))) LHL0 (by omega) ⟨(i + 1), (resetS (⟨(ps : List Piece)⟩ : Sender)).pieces, A12_s_pieces, c12_s_pieces, [], none, 0, rfl, rfl, rfl, f12_s_pieces, Arr.nil, by omega, (by first | rfl | exact serve_he he)⟩
      · refine wpc_skip (by kernel_rfl) ?_
        refine wpq_then ?_
        refine wpc_seq (x := F6_48) (y := F6_49) (by kernel_rfl) ?_
        refine wpc_region (ops := R6_48) (id := 11) (by kernel_rfl) ?_
        refine wpr_val 1 38 (.fieldAddr 57 (.tmp 6) 3) 0 (Value.pointer (some ⟨b11, 4, none⟩)) (Runs.plain (by kernel_rfl)) (by kernel_rfl) (y_pure (by kernel_rfl) (fun _ => by kernel_rfl)) ?_
        refine wpr_val 2 39 (.load 23 (.tmp 38)) 23 (Value.int .u16 ((List.getD l i default).size)) (Runs.plain (by kernel_rfl)) (by kernel_rfl) (q_load1 b11 4 0 (by kernel_rfl) (by kernel_rfl) (by kernel_rfl)) ?_
        refine wpr_val 3 40 (.convert 23 3 (.tmp 39)) 3 (Value.int .i64 ((List.getD l i default).size)) (Runs.plain (by kernel_rfl)) (by kernel_rfl) (y_conv (k := .u16) (k2 := .i64) (by kernel_rfl) (by kernel_rfl) (by kernel_rfl) (wr64 (by omega))) ?_
        refine wpr_val 4 41 (.binOp .rem 3 (.tmp 40) (.const (Value.int .i64 (2500))) 3) 3 (Value.int .i64 (((List.getD l i default).size % 2500))) (Runs.plain (by kernel_rfl)) (by kernel_rfl) (y_rem (a := (List.getD l i default).size) (b := 2500) (by kernel_rfl) (by kernel_rfl) (by omega) (rem_pos_ (by omega))) ?_
        refine wpr_eff 5 42 (.makeSlice 22 (.tmp 41) (.tmp 41)) 22 (Runs.plain (by kernel_rfl)) (by kernel_rfl) (e_make (T := tyU8) (p := g7.b) (et := 5) (kx := .i64) (ky := .i64) (bytes := 1) ((((List.getD l i default).size % 2500)).toNat) (zs := [Value.int .u8 (0)]) (z := 0) (by kernel_rfl) (ev_toNat (by kernel_rfl) (by omega)) (ev_toNat (by kernel_rfl) (by omega)) (by kernel_rfl) (show tyU8.rep _ _ _ from rfl) (by omega) (by omega)) ?_
        rintro _ _ _ - ⟨b15, cs15, rfl, rfl, rfl, rp15, -⟩
        refine wpr_val 6 7 (.assign (.tmp 42)) 22 (Value.slice (some ⟨b15, 0, none⟩) (((List.getD l i default).size % 2500)).toNat (((List.getD l i default).size % 2500)).toNat) (Runs.plain (by kernel_rfl)) (by kernel_rfl) (y_assign (by kernel_rfl)) ?_
        refine wpr_end (by kernel_rfl) ?_
        refine wpq_then ?_
        refine wpq_sub [(0, Value.slice Al (l).length cl), (3, Value.pointer (some ⟨b3_0, 0, none⟩)), (4, Value.pointer (some ⟨b6, 0, none⟩)), (5, Value.int .i64 ((i : Int))), (6, Value.pointer (some ⟨b11, 0, none⟩)), (7, Value.slice (some ⟨b15, 0, none⟩) (((List.getD l i default).size % 2500)).toNat (((List.getD l i default).size % 2500)).toNat)] (by kernel_rfl) ?_
        refine wpc_seq (x := F6_51) (y := F6_52) (by kernel_rfl) ?_
        refine wpc_seq (x := F6_53) (y := F6_54) (by kernel_rfl) ?_
        refine wpc_region (ops := R6_53) (id := 12) (by kernel_rfl) ?_
        refine wpr_val 1 43 (.move (.tmp 7)) 22 (Value.slice (some ⟨b15, 0, none⟩) (((List.getD l i default).size % 2500)).toNat (((List.getD l i default).size % 2500)).toNat) (Runs.plain (by kernel_rfl)) (by kernel_rfl) (y_move (by kernel_rfl)) ?_
        refine wpr_val 2 44 (.call { callee := .builtin .len, args := #[(.tmp 43)], argTypes := #[22] }) 3 (Value.int .i64 ((((((List.getD l i default).size % 2500)).toNat : Nat) : Int))) (Runs.plain (by kernel_rfl)) (by kernel_rfl) (y_pure (by kernel_rfl) (fun _ => by kernel_rfl)) ?_
        refine wpr_val 3 45 (.move (.const (Value.int .i64 (0)))) 3 (Value.int .i64 (0)) (Runs.plain (by kernel_rfl)) (by kernel_rfl) (y_move (by kernel_rfl)) ?_
        refine wpr_end (by kernel_rfl) ?_
        refine wpq_then ?_
        refine wpc_block (x := F6_56) (id := 2) (by kernel_rfl) ?_
        refine wpq_sub [(0, Value.slice Al (l).length cl), (3, Value.pointer (some ⟨b3_0, 0, none⟩)), (4, Value.pointer (some ⟨b6, 0, none⟩)), (5, Value.int .i64 ((i : Int))), (6, Value.pointer (some ⟨b11, 0, none⟩)), (7, Value.slice (some ⟨b15, 0, none⟩) (((List.getD l i default).size % 2500)).toNat (((List.getD l i default).size % 2500)).toNat), (44, Value.int .i64 ((((((List.getD l i default).size % 2500)).toNat : Nat) : Int))), (45, Value.int .i64 (0))] (by kernel_rfl) ?_
        -- loop 1
        refine wpc_loop (x := F6_57) (by kernel_rfl) (fun g own sl m => ∃ (k : Nat) (sv : List UInt8) (cssv : List Value), own = [some ⟨b15, 5, cssv⟩, some ⟨b11, 57, [Value.bool ((List.getD l i default).reset), Value.int .i64 ((List.getD l i default).want.base), Value.int .i64 ((List.getD l i default).want.have_), Value.int .i64 ((List.getD l i default).steps), Value.int .u16 ((List.getD l i default).size)]⟩, some ⟨b6, 53, [Value.slice Aqs (qs).length cqs]⟩, some ⟨b3_0, 107, [Value.slice Aps (ps).length cps]⟩] ∧ sl = [(0, Value.slice Al (l).length cl), (3, Value.pointer (some ⟨b3_0, 0, none⟩)), (4, Value.pointer (some ⟨b6, 0, none⟩)), (5, Value.int .i64 ((i : Int))), (6, Value.pointer (some ⟨b11, 0, none⟩)), (7, Value.slice (some ⟨b15, 0, none⟩) (((List.getD l i default).size % 2500)).toNat (((List.getD l i default).size % 2500)).toNat), (44, Value.int .i64 ((((((List.getD l i default).size % 2500)).toNat : Nat) : Int))), (45, Value.int .i64 ((k : Int)))] ∧ m = ((((((List.getD l i default).size % 2500)).toNat : Nat) : Int)).toNat - k ∧ Reps tyU8 g.b cssv sv ∧ ((k : Int) ≤ (((((List.getD l i default).size % 2500)).toNat : Nat) : Int)) ∧ ((sv.length : Int) = (((((List.getD l i default).size % 2500)).toNat : Nat) : Int))) _ ⟨0, (List.replicate (((List.getD l i default).size % 2500)).toNat (0 : UInt8)), cs15, rfl, rfl, rfl, rp15, by omega, by rw [List.length_replicate]⟩ ?_
        rintro g16 _ _ _ le17 ⟨k, sv, cssv, rfl, rfl, rfl, rpsv, hk, hv⟩ QrL1 hQL1
        have fl := fl.mono le17.r
        have f3_0_pieces := f3_0_pieces.mono le17.b
        have fps := fps.mono le17.b
        have fqs := fqs.mono le17.b
        have hc10 := hc10.mono le17.r
        have rp15 := rp15.mono le17.b
        have L0 := L0.trans le17
        have LHL0 := LHL0.trans le17
        have nrpsv := rpsv.len
        have LHL1 := Gh.le.refl g16
        refine wpc_seq (x := F6_58) (y := F6_59) (by kernel_rfl) ?_
        refine wpc_region (ops := R6_58) (id := 13) (by kernel_rfl) ?_
        refine wpr_val 1 46 (.binOp .lss 3 (.tmp 45) (.tmp 44) 3) 0 (Value.bool (decide ((k : Int) < (((((List.getD l i default).size % 2500)).toNat : Nat) : Int)))) (Runs.plain (by kernel_rfl)) (by kernel_rfl) (y_pure (by kernel_rfl) (fun _ => by kernel_rfl)) ?_
        refine wpr_end (by kernel_rfl) ?_
        refine wpq_then ?_
        refine wpc_seq (x := F6_61) (y := F6_62) (by kernel_rfl) ?_
        -- condition 2
        refine wpc_cond (x := F6_63) (y := F6_64) (o := (.tmp 46)) (b := decide ((k : Int) < (((((List.getD l i default).size % 2500)).toNat : Nat) : Int))) (by kernel_rfl) (by kernel_rfl) (fun h2 => ?_) (fun h2 => ?_)
        · have h2p := of_decide_eq_true h2
          refine wpc_skip (by kernel_rfl) ?_
          refine wpq_then ?_
          refine wpc_seq (x := F6_65) (y := F6_66) (by kernel_rfl) ?_
          refine wpc_block (x := F6_67) (id := 3) (by kernel_rfl) ?_
          refine wpc_seq (x := F6_68) (y := F6_69) (by kernel_rfl) ?_
          refine wpc_region (ops := R6_68) (id := 14) (by kernel_rfl) ?_
          refine wpr_val 1 47 (.move (.tmp 45)) 3 (Value.int .i64 ((k : Int))) (Runs.plain (by kernel_rfl)) (by kernel_rfl) (y_move (by kernel_rfl)) ?_
          refine wpr_val 2 8 (.assign (.tmp 47)) 3 (Value.int .i64 ((k : Int))) (Runs.plain (by kernel_rfl)) (by kernel_rfl) (y_assign (by kernel_rfl)) ?_
          refine wpr_end (by kernel_rfl) ?_
          refine wpq_then ?_
          refine wpc_region (ops := R6_69) (id := 15) (by kernel_rfl) ?_
          refine wpr_val 1 48 (.move (.tmp 7)) 22 (Value.slice (some ⟨b15, 0, none⟩) (((List.getD l i default).size % 2500)).toNat (((List.getD l i default).size % 2500)).toNat) (Runs.plain (by kernel_rfl)) (by kernel_rfl) (y_move (by kernel_rfl)) ?_
          refine wpr_val 2 49 (.move (.tmp 8)) 3 (Value.int .i64 ((k : Int))) (Runs.plain (by kernel_rfl)) (by kernel_rfl) (y_move (by kernel_rfl)) ?_
          refine wpr_val 3 50 (.move (.tmp 8)) 3 (Value.int .i64 ((k : Int))) (Runs.plain (by kernel_rfl)) (by kernel_rfl) (y_move (by kernel_rfl)) ?_
          refine wpr_val 4 51 (.move (.tmp 5)) 3 (Value.int .i64 ((i : Int))) (Runs.plain (by kernel_rfl)) (by kernel_rfl) (y_move (by kernel_rfl)) ?_
          refine wpr_val 5 52 (.binOp .add 3 (.tmp 50) (.tmp 51) 3) 3 (Value.int .i64 (((k : Int) + (i : Int)))) (Runs.plain (by kernel_rfl)) (by kernel_rfl) (y_add (by kernel_rfl) (by kernel_rfl) (wr64 (by omega))) ?_
          refine wpr_val 6 53 (.convert 3 5 (.tmp 52)) 5 (Value.int .u8 ((IntKind.u8.wrap ((k : Int) + (i : Int))))) (Runs.plain (by kernel_rfl)) (by kernel_rfl) (y_pure (by kernel_rfl) (fun _ => by kernel_rfl)) ?_
          have hi18 : k < (((List.getD l i default).size % 2500)).toNat := by omega
          refine wpr_val 7 54 (.indexAddr 22 (.tmp 48) (.tmp 49)) 0 (Value.pointer (some ⟨b15, k * 1, none⟩)) (Runs.plain (by kernel_rfl)) (by kernel_rfl) (y_indexO (e := 5) (sz := 1) (len := (((List.getD l i default).size % 2500)).toNat) (c := (((List.getD l i default).size % 2500)).toNat) (k := .i64) k (by kernel_rfl) (by kernel_rfl) hi18 (by kernel_rfl) (by kernel_rfl)) ?_
          have hl19 : k < (sv).length := by first | omega | (simp only [List.length_replicate, List.length_set] <;> omega)
          refine wpr_do 8 (.store 5 (.tmp 54) (.tmp 53)) 0 (Runs.plain (by kernel_rfl)) (by kernel_rfl) (q_storeR (T := tyU8) (p := g16.b) b15 k 0 (Value.int .u8 ((IntKind.u8.wrap ((k : Int) + (i : Int))))) [Value.int .u8 ((IntKind.u8.wrap ((k : Int) + (i : Int))))] 5 cssv sv (u8 (IntKind.u8.wrap ((k : Int) + (i : Int)))) (by kernel_rfl) (by kernel_rfl) (by kernel_rfl) (by kernel_rfl) (by kernel_rfl) (by kernel_rfl) rpsv (u8_rep (wrapU8_rng _)) hl19) ?_
          rintro _ _ _ - ⟨cs19, rfl, rfl, rp19⟩
          refine wpr_end (by kernel_rfl) ?_
          refine wpq_blockN ?_
          refine wpq_then ?_
          refine wpq_sub [(0, Value.slice Al (l).length cl), (3, Value.pointer (some ⟨b3_0, 0, none⟩)), (4, Value.pointer (some ⟨b6, 0, none⟩)), (5, Value.int .i64 ((i : Int))), (6, Value.pointer (some ⟨b11, 0, none⟩)), (7, Value.slice (some ⟨b15, 0, none⟩) (((List.getD l i default).size % 2500)).toNat (((List.getD l i default).size % 2500)).toNat), (44, Value.int .i64 ((((((List.getD l i default).size % 2500)).toNat : Nat) : Int))), (45, Value.int .i64 ((k : Int)))] (by kernel_rfl) ?_
          refine wpc_region (ops := R6_66) (id := 16) (by kernel_rfl) ?_
          refine wpr_val 1 55 (.binOp .add 3 (.tmp 45) (.const (Value.int .i64 (1))) 3) 3 (Value.int .i64 (((k : Int) + 1))) (Runs.plain (by kernel_rfl)) (by kernel_rfl) (y_add (by kernel_rfl) (by kernel_rfl) (wr64 (by omega))) ?_
          refine wpr_val 2 45 (.move (.tmp 55)) 3 (Value.int .i64 (((k : Int) + 1))) (Runs.plain (by kernel_rfl)) (by kernel_rfl) (y_move (by kernel_rfl)) ?_
          refine wpr_end (by kernel_rfl) ?_
          refine wpq_thenN ?_
          refine wpq_re 45 (v := Value.int .i64 (((k : Int) + 1))) (Value.int .i64 ((((k + 1) : Nat) : Int))) (by kernel_rfl) (congrArg (Value.int .i64) (by omega)) ?_
          refine wpq_sub [(0, Value.slice Al (l).length cl), (3, Value.pointer (some ⟨b3_0, 0, none⟩)), (4, Value.pointer (some ⟨b6, 0, none⟩)), (5, Value.int .i64 ((i : Int))), (6, Value.pointer (some ⟨b11, 0, none⟩)), (7, Value.slice (some ⟨b15, 0, none⟩) (((List.getD l i default).size % 2500)).toNat (((List.getD l i default).size % 2500)).toNat), (44, Value.int .i64 ((((((List.getD l i default).size % 2500)).toNat : Nat) : Int))), (45, Value.int .i64 ((((k + 1) : Nat) : Int)))] (by kernel_rfl) ?_
          exact hQL1 _ _ _ (((((((List.getD l i default).size % 2500)).toNat : Nat) : Int)).toNat - ((k + 1))) LHL1 (by omega) ⟨(k + 1), (List.set sv k (u8 (IntKind.u8.wrap ((k : Int) + (i : Int))))), cs19, rfl, rfl, rfl, rp19, by omega, by rw [List.length_set]; exact hv⟩
        · have h2p := of_decide_eq_false h2
          refine wpc_exit (id := 2) (by kernel_rfl) ?_
          refine wpq_thenX ?_
          refine wpq_thenX ?_
          refine wpq_blockE ?_
          refine wpq_then ?_
          refine wpc_seq (x := F6_73) (y := F6_74) (by kernel_rfl) ?_
          refine wpc_region (ops := R6_73) (id := 17) (by kernel_rfl) ?_
          refine wpr_val 1 57 (.move (.tmp 3)) 50 (Value.pointer (some ⟨b3_0, 0, none⟩)) (Runs.plain (by kernel_rfl)) (by kernel_rfl) (y_move (by kernel_rfl)) ?_
          refine wpr_val 2 58 (.fieldAddr 57 (.tmp 6) 1) 0 (Value.pointer (some ⟨b11, 1, none⟩)) (Runs.plain (by kernel_rfl)) (by kernel_rfl) (y_pure (by kernel_rfl) (fun _ => by kernel_rfl)) ?_
          refine wpr_val 3 59 (.load 55 (.tmp 58)) 55 (Value.agg #[Value.int .i64 ((List.getD l i default).want.base), Value.int .i64 ((List.getD l i default).want.have_)]) (Runs.plain (by kernel_rfl)) (by kernel_rfl) (q_loadA b11 1 1 [Value.int .i64 ((List.getD l i default).want.base), Value.int .i64 ((List.getD l i default).want.have_)] (by kernel_rfl) (by kernel_rfl) (by kernel_rfl)) ?_
          refine wpr_val 4 60 (.fieldAddr 57 (.tmp 6) 2) 0 (Value.pointer (some ⟨b11, 3, none⟩)) (Runs.plain (by kernel_rfl)) (by kernel_rfl) (y_pure (by kernel_rfl) (fun _ => by kernel_rfl)) ?_
          refine wpr_val 5 61 (.load 2 (.tmp 60)) 2 (Value.int .i64 ((List.getD l i default).steps)) (Runs.plain (by kernel_rfl)) (by kernel_rfl) (q_load1 b11 3 1 (by kernel_rfl) (by kernel_rfl) (by kernel_rfl)) ?_
          refine wpr_val 6 62 (.move (.tmp 7)) 22 (Value.slice (some ⟨b15, 0, none⟩) (((List.getD l i default).size % 2500)).toNat (((List.getD l i default).size % 2500)).toNat) (Runs.plain (by kernel_rfl)) (by kernel_rfl) (y_move (by kernel_rfl)) ?_
          refine wpq_re 62 (v := Value.slice (some ⟨b15, 0, none⟩) (((List.getD l i default).size % 2500)).toNat (((List.getD l i default).size % 2500)).toNat) (Value.slice (some ⟨b15, 0, none⟩) (sv).length (((List.getD l i default).size % 2500)).toNat) (by kernel_rfl) (congrArg (fun z => Value.slice (some ⟨b15, 0, none⟩) z (((List.getD l i default).size % 2500)).toNat) (by first | omega | (simp only [List.length_replicate, List.length_set] <;> omega))) ?_
          refine wpr_eff 7 63 (.call { callee := .value (.func 22), args := #[(.tmp 57), (.tmp 59), (.tmp 61), (.tmp 62)], argTypes := #[50, 55, 2, 22] }) 58 (Runs.plain (by kernel_rfl)) (by kernel_rfl) (e_callM (sel := [some ⟨b3_0, 107, [Value.slice Aps (ps).length cps]⟩]) [Value.pointer (some ⟨b3_0, 0, none⟩), Value.agg #[Value.int .i64 ((List.getD l i default).want.base), Value.int .i64 ((List.getD l i default).want.have_)], Value.int .i64 ((List.getD l i default).steps), Value.slice (some ⟨b15, 0, none⟩) (sv).length (((List.getD l i default).size % 2500)).toNat] [false, false, false, true] (by kernel_rfl) (by kernel_rfl) (by kernel_rfl) (fun g' lr eb ln => c22 g' b3_0 (⟨(ps : List Piece)⟩ : Sender) Aps cps (List.getD l i default).want ((List.getD l i default).steps : Int) (sv : List UInt8) (some ⟨b15, 0, none⟩) (((List.getD l i default).size % 2500)).toNat (by rw [eb]; exact fps) (arr_of_block (ln _ (lent (k := ⟨b15, 5, cssv⟩) 0 (by kernel_rfl))) (rpsv.toR eb) (by first | omega | (simp only [List.length_replicate, List.length_set] <;> omega)) (by first | omega | (simp only [List.length_replicate, List.length_set] <;> omega))))) ?_
          rintro _ g21 _ le22 ⟨_, rfl, A20_s_pieces, c20_s_pieces, A20_0_data, c20_0_data, rfl, rfl, f20_s_pieces, f20_0_data⟩
          have fl := fl.mono le22.r
          have f3_0_pieces := f3_0_pieces.mono le22.b
          have fps := fps.mono le22.b
          have fqs := fqs.mono le22.b
          have hc10 := hc10.mono le22.r
          have rp15 := rp15.mono le22.b
          have rpsv := rpsv.mono le22.b
          have L0 := L0.trans le22
          have LHL0 := LHL0.trans le22
          have LHL1 := LHL1.trans le22
          refine wpq_own [some ⟨b15, 5, cssv⟩, some ⟨b11, 57, [Value.bool ((List.getD l i default).reset), Value.int .i64 ((List.getD l i default).want.base), Value.int .i64 ((List.getD l i default).want.have_), Value.int .i64 ((List.getD l i default).steps), Value.int .u16 ((List.getD l i default).size)]⟩, some ⟨b6, 53, [Value.slice Aqs (qs).length cqs]⟩, some ⟨b3_0, 107, [Value.slice A20_s_pieces ((serveS (⟨(ps : List Piece)⟩ : Sender) (List.getD l i default).want ((List.getD l i default).steps : Int) (sv : List UInt8)).1.pieces).length c20_s_pieces]⟩] (by kernel_rfl) ?_
          have nf20_s_pieces := f20_s_pieces.len
          have nf20_0_data := f20_0_data.len
          refine wpr_val 8 56 (.move (.tmp 63)) 58 (Value.tuple #[Value.agg #[Value.int .i64 ((serveS (⟨(ps : List Piece)⟩ : Sender) (List.getD l i default).want ((List.getD l i default).steps : Int) (sv : List UInt8)).2.1.base), Value.int .i64 ((serveS (⟨(ps : List Piece)⟩ : Sender) (List.getD l i default).want ((List.getD l i default).steps : Int) (sv : List UInt8)).2.1.index), Value.int .i64 ((serveS (⟨(ps : List Piece)⟩ : Sender) (List.getD l i default).want ((List.getD l i default).steps : Int) (sv : List UInt8)).2.1.count), Value.slice A20_0_data ((serveS (⟨(ps : List Piece)⟩ : Sender) (List.getD l i default).want ((List.getD l i default).steps : Int) (sv : List UInt8)).2.1.data).length c20_0_data], Value.int .i64 ((serveS (⟨(ps : List Piece)⟩ : Sender) (List.getD l i default).want ((List.getD l i default).steps : Int) (sv : List UInt8)).2.2)]) (Runs.plain (by kernel_rfl)) (by kernel_rfl) (y_move (by kernel_rfl)) ?_
          refine wpr_val 9 64 (.extract (.tmp 56) 0) 37 (Value.agg #[Value.int .i64 ((serveS (⟨(ps : List Piece)⟩ : Sender) (List.getD l i default).want ((List.getD l i default).steps : Int) (sv : List UInt8)).2.1.base), Value.int .i64 ((serveS (⟨(ps : List Piece)⟩ : Sender) (List.getD l i default).want ((List.getD l i default).steps : Int) (sv : List UInt8)).2.1.index), Value.int .i64 ((serveS (⟨(ps : List Piece)⟩ : Sender) (List.getD l i default).want ((List.getD l i default).steps : Int) (sv : List UInt8)).2.1.count), Value.slice A20_0_data ((serveS (⟨(ps : List Piece)⟩ : Sender) (List.getD l i default).want ((List.getD l i default).steps : Int) (sv : List UInt8)).2.1.data).length c20_0_data]) (Runs.plain (by kernel_rfl)) (by kernel_rfl) (y_pure (by kernel_rfl) (fun _ => by kernel_rfl)) ?_
          refine wpr_val 10 65 (.extract (.tmp 56) 1) 27 (Value.int .i64 ((serveS (⟨(ps : List Piece)⟩ : Sender) (List.getD l i default).want ((List.getD l i default).steps : Int) (sv : List UInt8)).2.2)) (Runs.plain (by kernel_rfl)) (by kernel_rfl) (y_pure (by kernel_rfl) (fun _ => by kernel_rfl)) ?_
          refine wpr_eff 11 9 (.alloc 37) 0 (Runs.plain (by kernel_rfl)) (by kernel_rfl) (e_alloc (cs := [Value.int .i64 (0), Value.int .i64 (0), Value.int .i64 (0), Value.slice none 0 0]) (by kernel_rfl)) ?_
          rintro _ _ _ - ⟨b23, rfl, rfl, rfl⟩
          refine wpr_do 12 (.store 37 (.tmp 9) (.tmp 64)) 0 (Runs.plain (by kernel_rfl)) (by kernel_rfl) (q_store b23 0 0 (Value.agg #[Value.int .i64 ((serveS (⟨(ps : List Piece)⟩ : Sender) (List.getD l i default).want ((List.getD l i default).steps : Int) (sv : List UInt8)).2.1.base), Value.int .i64 ((serveS (⟨(ps : List Piece)⟩ : Sender) (List.getD l i default).want ((List.getD l i default).steps : Int) (sv : List UInt8)).2.1.index), Value.int .i64 ((serveS (⟨(ps : List Piece)⟩ : Sender) (List.getD l i default).want ((List.getD l i default).steps : Int) (sv : List UInt8)).2.1.count), Value.slice A20_0_data ((serveS (⟨(ps : List Piece)⟩ : Sender) (List.getD l i default).want ((List.getD l i default).steps : Int) (sv : List UInt8)).2.1.data).length c20_0_data]) [Value.int .i64 ((serveS (⟨(ps : List Piece)⟩ : Sender) (List.getD l i default).want ((List.getD l i default).steps : Int) (sv : List UInt8)).2.1.base), Value.int .i64 ((serveS (⟨(ps : List Piece)⟩ : Sender) (List.getD l i default).want ((List.getD l i default).steps : Int) (sv : List UInt8)).2.1.index), Value.int .i64 ((serveS (⟨(ps : List Piece)⟩ : Sender) (List.getD l i default).want ((List.getD l i default).steps : Int) (sv : List UInt8)).2.1.count), Value.slice A20_0_data ((serveS (⟨(ps : List Piece)⟩ : Sender) (List.getD l i default).want ((List.getD l i default).steps : Int) (sv : List UInt8)).2.1.data).length c20_0_data] 37 [Value.int .i64 (0), Value.int .i64 (0), Value.int .i64 (0), Value.slice none 0 0] [Value.int .i64 ((serveS (⟨(ps : List Piece)⟩ : Sender) (List.getD l i default).want ((List.getD l i default).steps : Int) (sv : List UInt8)).2.1.base), Value.int .i64 ((serveS (⟨(ps : List Piece)⟩ : Sender) (List.getD l i default).want ((List.getD l i default).steps : Int) (sv : List UInt8)).2.1.index), Value.int .i64 ((serveS (⟨(ps : List Piece)⟩ : Sender) (List.getD l i default).want ((List.getD l i default).steps : Int) (sv : List UInt8)).2.1.count), Value.slice A20_0_data ((serveS (⟨(ps : List Piece)⟩ : Sender) (List.getD l i default).want ((List.getD l i default).steps : Int) (sv : List UInt8)).2.1.data).length c20_0_data] (by kernel_rfl) (by kernel_rfl) (by kernel_rfl) (by kernel_rfl) (by kernel_rfl) (by kernel_rfl) (by kernel_rfl)) ?_
          rintro _ _ _ - ⟨rfl, rfl⟩
          refine wpr_val 13 10 (.assign (.tmp 65)) 27 (Value.int .i64 ((serveS (⟨(ps : List Piece)⟩ : Sender) (List.getD l i default).want ((List.getD l i default).steps : Int) (sv : List UInt8)).2.2)) (Runs.plain (by kernel_rfl)) (by kernel_rfl) (y_assign (by kernel_rfl)) ?_
          refine wpr_end (by kernel_rfl) ?_
          refine wpq_then ?_
          refine wpq_sub [(0, Value.slice Al (l).length cl), (3, Value.pointer (some ⟨b3_0, 0, none⟩)), (4, Value.pointer (some ⟨b6, 0, none⟩)), (5, Value.int .i64 ((i : Int))), (6, Value.pointer (some ⟨b11, 0, none⟩)), (7, Value.slice (some ⟨b15, 0, none⟩) (((List.getD l i default).size % 2500)).toNat (((List.getD l i default).size % 2500)).toNat), (9, Value.pointer (some ⟨b23, 0, none⟩)), (10, Value.int .i64 ((serveS (⟨(ps : List Piece)⟩ : Sender) (List.getD l i default).want ((List.getD l i default).steps : Int) (sv : List UInt8)).2.2))] (by kernel_rfl) ?_
          refine wpc_seq (x := F6_76) (y := F6_77) (by kernel_rfl) ?_
          refine wpc_region (ops := R6_76) (id := 18) (by kernel_rfl) ?_
          refine wpr_val 1 67 (.load 53 (.tmp 4)) 53 (Value.agg #[Value.slice Aqs (qs).length cqs]) (Runs.plain (by kernel_rfl)) (by kernel_rfl) (q_loadA b6 0 3 [Value.slice Aqs (qs).length cqs] (by kernel_rfl) (by kernel_rfl) (by kernel_rfl)) ?_
          refine wpr_val 2 68 (.fieldAddr 57 (.tmp 6) 1) 0 (Value.pointer (some ⟨b11, 1, none⟩)) (Runs.plain (by kernel_rfl)) (by kernel_rfl) (y_pure (by kernel_rfl) (fun _ => by kernel_rfl)) ?_
          refine wpr_val 3 69 (.fieldAddr 55 (.tmp 68) 0) 0 (Value.pointer (some ⟨b11, 1, none⟩)) (Runs.plain (by kernel_rfl)) (by kernel_rfl) (y_pure (by kernel_rfl) (fun _ => by kernel_rfl)) ?_
          refine wpr_val 4 70 (.load 2 (.tmp 69)) 2 (Value.int .i64 ((List.getD l i default).want.base)) (Runs.plain (by kernel_rfl)) (by kernel_rfl) (q_load1 b11 1 2 (by kernel_rfl) (by kernel_rfl) (by kernel_rfl)) ?_
          refine wpr_val 5 71 (.fieldAddr 57 (.tmp 6) 1) 0 (Value.pointer (some ⟨b11, 1, none⟩)) (Runs.plain (by kernel_rfl)) (by kernel_rfl) (y_pure (by kernel_rfl) (fun _ => by kernel_rfl)) ?_
          refine wpr_val 6 72 (.fieldAddr 55 (.tmp 71) 1) 0 (Value.pointer (some ⟨b11, 2, none⟩)) (Runs.plain (by kernel_rfl)) (by kernel_rfl) (y_pure (by kernel_rfl) (fun _ => by kernel_rfl)) ?_
          refine wpr_val 7 73 (.load 3 (.tmp 72)) 3 (Value.int .i64 ((List.getD l i default).want.have_)) (Runs.plain (by kernel_rfl)) (by kernel_rfl) (q_load1 b11 2 2 (by kernel_rfl) (by kernel_rfl) (by kernel_rfl)) ?_
          refine wpr_val 8 74 (.build 62 #[(0, (.tmp 70)), (1, (.tmp 73))]) 62 (Value.agg #[Value.int .i64 ((List.getD l i default).want.base), Value.int .i64 ((List.getD l i default).want.have_)]) (Runs.plain (by kernel_rfl)) (by kernel_rfl) (y_pure (by kernel_rfl) (fun _ => by kernel_rfl)) ?_
          refine wpr_val 9 75 (.fieldAddr 57 (.tmp 6) 2) 0 (Value.pointer (some ⟨b11, 3, none⟩)) (Runs.plain (by kernel_rfl)) (by kernel_rfl) (y_pure (by kernel_rfl) (fun _ => by kernel_rfl)) ?_
          refine wpr_val 10 76 (.load 2 (.tmp 75)) 2 (Value.int .i64 ((List.getD l i default).steps)) (Runs.plain (by kernel_rfl)) (by kernel_rfl) (q_load1 b11 3 2 (by kernel_rfl) (by kernel_rfl) (by kernel_rfl)) ?_
          refine wpr_val 11 77 (.move (.tmp 7)) 22 (Value.slice (some ⟨b15, 0, none⟩) (((List.getD l i default).size % 2500)).toNat (((List.getD l i default).size % 2500)).toNat) (Runs.plain (by kernel_rfl)) (by kernel_rfl) (y_move (by kernel_rfl)) ?_
          refine wpq_re 77 (v := Value.slice (some ⟨b15, 0, none⟩) (((List.getD l i default).size % 2500)).toNat (((List.getD l i default).size % 2500)).toNat) (Value.slice (some ⟨b15, 0, none⟩) (sv).length (((List.getD l i default).size % 2500)).toNat) (by kernel_rfl) (congrArg (fun z => Value.slice (some ⟨b15, 0, none⟩) z (((List.getD l i default).size % 2500)).toNat) (by first | omega | (simp only [List.length_replicate, List.length_set] <;> omega))) ?_
          refine wpr_eff 12 78 (.call { callee := .value (.func 23), args := #[(.tmp 67), (.tmp 74), (.tmp 76), (.tmp 77)], argTypes := #[53, 62, 2, 22] }) 60 (Runs.plain (by kernel_rfl)) (by kernel_rfl) (e_call [Value.agg #[Value.slice Aqs (qs).length cqs], Value.agg #[Value.int .i64 ((List.getD l i default).want.base), Value.int .i64 ((List.getD l i default).want.have_)], Value.int .i64 ((List.getD l i default).steps), Value.slice (some ⟨b15, 0, none⟩) (sv).length (((List.getD l i default).size % 2500)).toNat] (by kernel_rfl) (by kernel_rfl) (fun g' lr eb ln => c23 g' (⟨(qs : List Piece)⟩ : Sender) Aqs cqs (List.getD l i default).want ((List.getD l i default).steps : Int) (sv : List UInt8) (some ⟨b15, 0, none⟩) (((List.getD l i default).size % 2500)).toNat (by rw [eb]; exact fqs) (arr_of_block (ln _ (lent (k := ⟨b15, 5, cssv⟩) 1 (by kernel_rfl))) (rpsv.toR eb) (by first | omega | (simp only [List.length_replicate, List.length_set] <;> omega)) (by first | omega | (simp only [List.length_replicate, List.length_set] <;> omega))))) ?_
          rintro _ g25 _ le26 ⟨rfl, A24_0_pieces, c24_0_pieces, A24_1_data, c24_1_data, rfl, f24_0_pieces, f24_1_data⟩
          have fl := fl.mono le26.r
          have f3_0_pieces := f3_0_pieces.mono le26.b
          have fps := fps.mono le26.b
          have fqs := fqs.mono le26.b
          have hc10 := hc10.mono le26.r
          have rp15 := rp15.mono le26.b
          have rpsv := rpsv.mono le26.b
          have f20_s_pieces := f20_s_pieces.mono le26.b
          have f20_0_data := f20_0_data.mono le26.b
          have L0 := L0.trans le26
          have LHL0 := LHL0.trans le26
          have LHL1 := LHL1.trans le26
          have nf24_0_pieces := f24_0_pieces.len
          have nf24_1_data := f24_1_data.len
          refine wpr_val 13 66 (.move (.tmp 78)) 60 (Value.tuple #[Value.agg #[Value.slice A24_0_pieces ((rserveS (⟨(qs : List Piece)⟩ : Sender) (List.getD l i default).want ((List.getD l i default).steps : Int) (sv : List UInt8)).1.pieces).length c24_0_pieces], Value.agg #[Value.int .i64 ((rserveS (⟨(qs : List Piece)⟩ : Sender) (List.getD l i default).want ((List.getD l i default).steps : Int) (sv : List UInt8)).2.1.base), Value.int .i64 ((rserveS (⟨(qs : List Piece)⟩ : Sender) (List.getD l i default).want ((List.getD l i default).steps : Int) (sv : List UInt8)).2.1.index), Value.int .i64 ((rserveS (⟨(qs : List Piece)⟩ : Sender) (List.getD l i default).want ((List.getD l i default).steps : Int) (sv : List UInt8)).2.1.count), Value.slice A24_1_data ((rserveS (⟨(qs : List Piece)⟩ : Sender) (List.getD l i default).want ((List.getD l i default).steps : Int) (sv : List UInt8)).2.1.data).length c24_1_data], Value.int .i64 ((rserveS (⟨(qs : List Piece)⟩ : Sender) (List.getD l i default).want ((List.getD l i default).steps : Int) (sv : List UInt8)).2.2)]) (Runs.plain (by kernel_rfl)) (by kernel_rfl) (y_move (by kernel_rfl)) ?_
          refine wpr_val 14 79 (.extract (.tmp 66) 0) 53 (Value.agg #[Value.slice A24_0_pieces ((rserveS (⟨(qs : List Piece)⟩ : Sender) (List.getD l i default).want ((List.getD l i default).steps : Int) (sv : List UInt8)).1.pieces).length c24_0_pieces]) (Runs.plain (by kernel_rfl)) (by kernel_rfl) (y_pure (by kernel_rfl) (fun _ => by kernel_rfl)) ?_
          refine wpr_val 15 80 (.extract (.tmp 66) 1) 35 (Value.agg #[Value.int .i64 ((rserveS (⟨(qs : List Piece)⟩ : Sender) (List.getD l i default).want ((List.getD l i default).steps : Int) (sv : List UInt8)).2.1.base), Value.int .i64 ((rserveS (⟨(qs : List Piece)⟩ : Sender) (List.getD l i default).want ((List.getD l i default).steps : Int) (sv : List UInt8)).2.1.index), Value.int .i64 ((rserveS (⟨(qs : List Piece)⟩ : Sender) (List.getD l i default).want ((List.getD l i default).steps : Int) (sv : List UInt8)).2.1.count), Value.slice A24_1_data ((rserveS (⟨(qs : List Piece)⟩ : Sender) (List.getD l i default).want ((List.getD l i default).steps : Int) (sv : List UInt8)).2.1.data).length c24_1_data]) (Runs.plain (by kernel_rfl)) (by kernel_rfl) (y_pure (by kernel_rfl) (fun _ => by kernel_rfl)) ?_
          refine wpr_val 16 81 (.extract (.tmp 66) 2) 27 (Value.int .i64 ((rserveS (⟨(qs : List Piece)⟩ : Sender) (List.getD l i default).want ((List.getD l i default).steps : Int) (sv : List UInt8)).2.2)) (Runs.plain (by kernel_rfl)) (by kernel_rfl) (y_pure (by kernel_rfl) (fun _ => by kernel_rfl)) ?_
          refine wpr_eff 17 11 (.alloc 53) 0 (Runs.plain (by kernel_rfl)) (by kernel_rfl) (e_alloc (cs := [Value.slice none 0 0]) (by kernel_rfl)) ?_
          rintro _ _ _ - ⟨b27, rfl, rfl, rfl⟩
          refine wpr_eff 18 12 (.alloc 35) 0 (Runs.plain (by kernel_rfl)) (by kernel_rfl) (e_alloc (cs := [Value.int .i64 (0), Value.int .i64 (0), Value.int .i64 (0), Value.slice none 0 0]) (by kernel_rfl)) ?_
          rintro _ _ _ - ⟨b28, rfl, rfl, rfl⟩
          refine wpr_do 19 (.store 53 (.tmp 11) (.tmp 79)) 0 (Runs.plain (by kernel_rfl)) (by kernel_rfl) (q_store b27 0 1 (Value.agg #[Value.slice A24_0_pieces ((rserveS (⟨(qs : List Piece)⟩ : Sender) (List.getD l i default).want ((List.getD l i default).steps : Int) (sv : List UInt8)).1.pieces).length c24_0_pieces]) [Value.slice A24_0_pieces ((rserveS (⟨(qs : List Piece)⟩ : Sender) (List.getD l i default).want ((List.getD l i default).steps : Int) (sv : List UInt8)).1.pieces).length c24_0_pieces] 53 [Value.slice none 0 0] [Value.slice A24_0_pieces ((rserveS (⟨(qs : List Piece)⟩ : Sender) (List.getD l i default).want ((List.getD l i default).steps : Int) (sv : List UInt8)).1.pieces).length c24_0_pieces] (by kernel_rfl) (by kernel_rfl) (by kernel_rfl) (by kernel_rfl) (by kernel_rfl) (by kernel_rfl) (by kernel_rfl)) ?_
          rintro _ _ _ - ⟨rfl, rfl⟩
          refine wpr_do 20 (.store 35 (.tmp 12) (.tmp 80)) 0 (Runs.plain (by kernel_rfl)) (by kernel_rfl) (q_store b28 0 0 (Value.agg #[Value.int .i64 ((rserveS (⟨(qs : List Piece)⟩ : Sender) (List.getD l i default).want ((List.getD l i default).steps : Int) (sv : List UInt8)).2.1.base), Value.int .i64 ((rserveS (⟨(qs : List Piece)⟩ : Sender) (List.getD l i default).want ((List.getD l i default).steps : Int) (sv : List UInt8)).2.1.index), Value.int .i64 ((rserveS (⟨(qs : List Piece)⟩ : Sender) (List.getD l i default).want ((List.getD l i default).steps : Int) (sv : List UInt8)).2.1.count), Value.slice A24_1_data ((rserveS (⟨(qs : List Piece)⟩ : Sender) (List.getD l i default).want ((List.getD l i default).steps : Int) (sv : List UInt8)).2.1.data).length c24_1_data]) [Value.int .i64 ((rserveS (⟨(qs : List Piece)⟩ : Sender) (List.getD l i default).want ((List.getD l i default).steps : Int) (sv : List UInt8)).2.1.base), Value.int .i64 ((rserveS (⟨(qs : List Piece)⟩ : Sender) (List.getD l i default).want ((List.getD l i default).steps : Int) (sv : List UInt8)).2.1.index), Value.int .i64 ((rserveS (⟨(qs : List Piece)⟩ : Sender) (List.getD l i default).want ((List.getD l i default).steps : Int) (sv : List UInt8)).2.1.count), Value.slice A24_1_data ((rserveS (⟨(qs : List Piece)⟩ : Sender) (List.getD l i default).want ((List.getD l i default).steps : Int) (sv : List UInt8)).2.1.data).length c24_1_data] 35 [Value.int .i64 (0), Value.int .i64 (0), Value.int .i64 (0), Value.slice none 0 0] [Value.int .i64 ((rserveS (⟨(qs : List Piece)⟩ : Sender) (List.getD l i default).want ((List.getD l i default).steps : Int) (sv : List UInt8)).2.1.base), Value.int .i64 ((rserveS (⟨(qs : List Piece)⟩ : Sender) (List.getD l i default).want ((List.getD l i default).steps : Int) (sv : List UInt8)).2.1.index), Value.int .i64 ((rserveS (⟨(qs : List Piece)⟩ : Sender) (List.getD l i default).want ((List.getD l i default).steps : Int) (sv : List UInt8)).2.1.count), Value.slice A24_1_data ((rserveS (⟨(qs : List Piece)⟩ : Sender) (List.getD l i default).want ((List.getD l i default).steps : Int) (sv : List UInt8)).2.1.data).length c24_1_data] (by kernel_rfl) (by kernel_rfl) (by kernel_rfl) (by kernel_rfl) (by kernel_rfl) (by kernel_rfl) (by kernel_rfl)) ?_
          rintro _ _ _ - ⟨rfl, rfl⟩
          refine wpr_val 21 13 (.assign (.tmp 81)) 27 (Value.int .i64 ((rserveS (⟨(qs : List Piece)⟩ : Sender) (List.getD l i default).want ((List.getD l i default).steps : Int) (sv : List UInt8)).2.2)) (Runs.plain (by kernel_rfl)) (by kernel_rfl) (y_assign (by kernel_rfl)) ?_
          refine wpr_end (by kernel_rfl) ?_
          refine wpq_then ?_
          refine wpq_sub [(0, Value.slice Al (l).length cl), (3, Value.pointer (some ⟨b3_0, 0, none⟩)), (4, Value.pointer (some ⟨b6, 0, none⟩)), (5, Value.int .i64 ((i : Int))), (7, Value.slice (some ⟨b15, 0, none⟩) (((List.getD l i default).size % 2500)).toNat (((List.getD l i default).size % 2500)).toNat), (9, Value.pointer (some ⟨b23, 0, none⟩)), (10, Value.int .i64 ((serveS (⟨(ps : List Piece)⟩ : Sender) (List.getD l i default).want ((List.getD l i default).steps : Int) (sv : List UInt8)).2.2)), (11, Value.pointer (some ⟨b27, 0, none⟩)), (12, Value.pointer (some ⟨b28, 0, none⟩)), (13, Value.int .i64 ((rserveS (⟨(qs : List Piece)⟩ : Sender) (List.getD l i default).want ((List.getD l i default).steps : Int) (sv : List UInt8)).2.2))] (by kernel_rfl) ?_
          refine wpc_seq (x := F6_79) (y := F6_80) (by kernel_rfl) ?_
          refine wpc_seq (x := F6_81) (y := F6_82) (by kernel_rfl) ?_
          refine wpc_region (ops := R6_81) (id := 19) (by kernel_rfl) ?_
          refine wpr_val 1 82 (.move (.tmp 7)) 22 (Value.slice (some ⟨b15, 0, none⟩) (((List.getD l i default).size % 2500)).toNat (((List.getD l i default).size % 2500)).toNat) (Runs.plain (by kernel_rfl)) (by kernel_rfl) (y_move (by kernel_rfl)) ?_
          refine wpr_val 2 83 (.call { callee := .builtin .len, args := #[(.tmp 82)], argTypes := #[22] }) 3 (Value.int .i64 ((((((List.getD l i default).size % 2500)).toNat : Nat) : Int))) (Runs.plain (by kernel_rfl)) (by kernel_rfl) (y_pure (by kernel_rfl) (fun _ => by kernel_rfl)) ?_
          refine wpr_val 3 84 (.move (.const (Value.int .i64 (0)))) 3 (Value.int .i64 (0)) (Runs.plain (by kernel_rfl)) (by kernel_rfl) (y_move (by kernel_rfl)) ?_
          refine wpr_end (by kernel_rfl) ?_
          refine wpq_then ?_
          refine wpc_block (x := F6_84) (id := 4) (by kernel_rfl) ?_
          refine wpq_sub [(0, Value.slice Al (l).length cl), (3, Value.pointer (some ⟨b3_0, 0, none⟩)), (4, Value.pointer (some ⟨b6, 0, none⟩)), (5, Value.int .i64 ((i : Int))), (7, Value.slice (some ⟨b15, 0, none⟩) (((List.getD l i default).size % 2500)).toNat (((List.getD l i default).size % 2500)).toNat), (9, Value.pointer (some ⟨b23, 0, none⟩)), (10, Value.int .i64 ((serveS (⟨(ps : List Piece)⟩ : Sender) (List.getD l i default).want ((List.getD l i default).steps : Int) (sv : List UInt8)).2.2)), (11, Value.pointer (some ⟨b27, 0, none⟩)), (12, Value.pointer (some ⟨b28, 0, none⟩)), (13, Value.int .i64 ((rserveS (⟨(qs : List Piece)⟩ : Sender) (List.getD l i default).want ((List.getD l i default).steps : Int) (sv : List UInt8)).2.2)), (83, Value.int .i64 ((((((List.getD l i default).size % 2500)).toNat : Nat) : Int))), (84, Value.int .i64 (0))] (by kernel_rfl) ?_
          -- loop 2
          refine wpc_loop (x := F6_85) (by kernel_rfl) (fun g own sl m => ∃ (j : Nat) (sw : List UInt8) (cssw : List Value), own = [some ⟨b28, 35, [Value.int .i64 ((rserveS (⟨(qs : List Piece)⟩ : Sender) (List.getD l i default).want ((List.getD l i default).steps : Int) (sv : List UInt8)).2.1.base), Value.int .i64 ((rserveS (⟨(qs : List Piece)⟩ : Sender) (List.getD l i default).want ((List.getD l i default).steps : Int) (sv : List UInt8)).2.1.index), Value.int .i64 ((rserveS (⟨(qs : List Piece)⟩ : Sender) (List.getD l i default).want ((List.getD l i default).steps : Int) (sv : List UInt8)).2.1.count), Value.slice A24_1_data ((rserveS (⟨(qs : List Piece)⟩ : Sender) (List.getD l i default).want ((List.getD l i default).steps : Int) (sv : List UInt8)).2.1.data).length c24_1_data]⟩, some ⟨b27, 53, [Value.slice A24_0_pieces ((rserveS (⟨(qs : List Piece)⟩ : Sender) (List.getD l i default).want ((List.getD l i default).steps : Int) (sv : List UInt8)).1.pieces).length c24_0_pieces]⟩, some ⟨b23, 37, [Value.int .i64 ((serveS (⟨(ps : List Piece)⟩ : Sender) (List.getD l i default).want ((List.getD l i default).steps : Int) (sv : List UInt8)).2.1.base), Value.int .i64 ((serveS (⟨(ps : List Piece)⟩ : Sender) (List.getD l i default).want ((List.getD l i default).steps : Int) (sv : List UInt8)).2.1.index), Value.int .i64 ((serveS (⟨(ps : List Piece)⟩ : Sender) (List.getD l i default).want ((List.getD l i default).steps : Int) (sv : List UInt8)).2.1.count), Value.slice A20_0_data ((serveS (⟨(ps : List Piece)⟩ : Sender) (List.getD l i default).want ((List.getD l i default).steps : Int) (sv : List UInt8)).2.1.data).length c20_0_data]⟩, some ⟨b15, 5, cssw⟩, some ⟨b11, 57, [Value.bool ((List.getD l i default).reset), Value.int .i64 ((List.getD l i default).want.base), Value.int .i64 ((List.getD l i default).want.have_), Value.int .i64 ((List.getD l i default).steps), Value.int .u16 ((List.getD l i default).size)]⟩, some ⟨b6, 53, [Value.slice Aqs (qs).length cqs]⟩, some ⟨b3_0, 107, [Value.slice A20_s_pieces ((serveS (⟨(ps : List Piece)⟩ : Sender) (List.getD l i default).want ((List.getD l i default).steps : Int) (sv : List UInt8)).1.pieces).length c20_s_pieces]⟩] ∧ sl = [(0, Value.slice Al (l).length cl), (3, Value.pointer (some ⟨b3_0, 0, none⟩)), (4, Value.pointer (some ⟨b6, 0, none⟩)), (5, Value.int .i64 ((i : Int))), (7, Value.slice (some ⟨b15, 0, none⟩) (((List.getD l i default).size % 2500)).toNat (((List.getD l i default).size % 2500)).toNat), (9, Value.pointer (some ⟨b23, 0, none⟩)), (10, Value.int .i64 ((serveS (⟨(ps : List Piece)⟩ : Sender) (List.getD l i default).want ((List.getD l i default).steps : Int) (sv : List UInt8)).2.2)), (11, Value.pointer (some ⟨b27, 0, none⟩)), (12, Value.pointer (some ⟨b28, 0, none⟩)), (13, Value.int .i64 ((rserveS (⟨(qs : List Piece)⟩ : Sender) (List.getD l i default).want ((List.getD l i default).steps : Int) (sv : List UInt8)).2.2)), (83, Value.int .i64 ((((((List.getD l i default).size % 2500)).toNat : Nat) : Int))), (84, Value.int .i64 ((j : Int)))] ∧ m = ((((((List.getD l i default).size % 2500)).toNat : Nat) : Int)).toNat - j ∧ Reps tyU8 g.b cssw sw ∧ ((j : Int) ≤ (((((List.getD l i default).size % 2500)).toNat : Nat) : Int)) ∧ ((sw.length : Int) = (((((List.getD l i default).size % 2500)).toNat : Nat) : Int))) _ ⟨0, sv, cssv, rfl, rfl, rfl, rpsv, by omega, hv⟩ ?_
          rintro g29 _ _ _ le30 ⟨j, sw, cssw, rfl, rfl, rfl, rpsw, hj, hw⟩ QrL2 hQL2
          have fl := fl.mono le30.r
          have f3_0_pieces := f3_0_pieces.mono le30.b
          have fps := fps.mono le30.b
          have fqs := fqs.mono le30.b
          have hc10 := hc10.mono le30.r
          have rp15 := rp15.mono le30.b
          have rpsv := rpsv.mono le30.b
          have f20_s_pieces := f20_s_pieces.mono le30.b
          have f20_0_data := f20_0_data.mono le30.b
          have f24_0_pieces := f24_0_pieces.mono le30.b
          have f24_1_data := f24_1_data.mono le30.b
          have L0 := L0.trans le30
          have LHL0 := LHL0.trans le30
          have LHL1 := LHL1.trans le30
          have nrpsw := rpsw.len
          have LHL2 := Gh.le.refl g29
          refine wpc_seq (x := F6_86) (y := F6_87) (by kernel_rfl) ?_
          refine wpc_region (ops := R6_86) (id := 20) (by kernel_rfl) ?_
          refine wpr_val 1 85 (.binOp .lss 3 (.tmp 84) (.tmp 83) 3) 0 (Value.bool (decide ((j : Int) < (((((List.getD l i default).size % 2500)).toNat : Nat) : Int)))) (Runs.plain (by kernel_rfl)) (by kernel_rfl) (y_pure (by kernel_rfl) (fun _ => by kernel_rfl)) ?_
          refine wpr_end (by kernel_rfl) ?_
          refine wpq_then ?_
          refine wpc_seq (x := F6_89) (y := F6_90) (by kernel_rfl) ?_
          -- condition 3
          refine wpc_cond (x := F6_91) (y := F6_92) (o := (.tmp 85)) (b := decide ((j : Int) < (((((List.getD l i default).size % 2500)).toNat : Nat) : Int))) (by kernel_rfl) (by kernel_rfl) (fun h3 => ?_) (fun h3 => ?_)
          · have h3p := of_decide_eq_true h3
            refine wpc_skip (by kernel_rfl) ?_
            refine wpq_then ?_
            refine wpc_seq (x := F6_93) (y := F6_94) (by kernel_rfl) ?_
            refine wpc_block (x := F6_95) (id := 5) (by kernel_rfl) ?_
            refine wpc_seq (x := F6_96) (y := F6_97) (by kernel_rfl) ?_
            refine wpc_region (ops := R6_96) (id := 21) (by kernel_rfl) ?_
            refine wpr_val 1 86 (.move (.tmp 84)) 3 (Value.int .i64 ((j : Int))) (Runs.plain (by kernel_rfl)) (by kernel_rfl) (y_move (by kernel_rfl)) ?_
            refine wpr_val 2 14 (.assign (.tmp 86)) 3 (Value.int .i64 ((j : Int))) (Runs.plain (by kernel_rfl)) (by kernel_rfl) (y_assign (by kernel_rfl)) ?_
            refine wpr_end (by kernel_rfl) ?_
            refine wpq_then ?_
            refine wpc_region (ops := R6_97) (id := 22) (by kernel_rfl) ?_
            refine wpr_val 1 87 (.move (.tmp 7)) 22 (Value.slice (some ⟨b15, 0, none⟩) (((List.getD l i default).size % 2500)).toNat (((List.getD l i default).size % 2500)).toNat) (Runs.plain (by kernel_rfl)) (by kernel_rfl) (y_move (by kernel_rfl)) ?_
            refine wpr_val 2 88 (.move (.tmp 14)) 3 (Value.int .i64 ((j : Int))) (Runs.plain (by kernel_rfl)) (by kernel_rfl) (y_move (by kernel_rfl)) ?_
            have hi31 : j < (((List.getD l i default).size % 2500)).toNat := by omega
            refine wpr_val 3 89 (.indexAddr 22 (.tmp 87) (.tmp 88)) 0 (Value.pointer (some ⟨b15, j * 1, none⟩)) (Runs.plain (by kernel_rfl)) (by kernel_rfl) (y_indexO (e := 5) (sz := 1) (len := (((List.getD l i default).size % 2500)).toNat) (c := (((List.getD l i default).size % 2500)).toNat) (k := .i64) j (by kernel_rfl) (by kernel_rfl) hi31 (by kernel_rfl) (by kernel_rfl)) ?_
            have hl32 : j < (sw).length := by first | omega | (simp only [List.length_replicate, List.length_set] <;> omega)
            refine wpr_do 4 (.store 5 (.tmp 89) (.const (Value.int .u8 (0)))) 0 (Runs.plain (by kernel_rfl)) (by kernel_rfl) (q_storeR (T := tyU8) (p := g29.b) b15 j 3 (Value.int .u8 (0)) [Value.int .u8 (0)] 5 cssw sw (u8 0) (by kernel_rfl) (by kernel_rfl) (by kernel_rfl) (by kernel_rfl) (by kernel_rfl) (by kernel_rfl) rpsw (u8_rep (by omega)) hl32) ?_
            rintro _ _ _ - ⟨cs32, rfl, rfl, rp32⟩
            refine wpr_end (by kernel_rfl) ?_
            refine wpq_blockN ?_
            refine wpq_then ?_
            refine wpq_sub [(0, Value.slice Al (l).length cl), (3, Value.pointer (some ⟨b3_0, 0, none⟩)), (4, Value.pointer (some ⟨b6, 0, none⟩)), (5, Value.int .i64 ((i : Int))), (7, Value.slice (some ⟨b15, 0, none⟩) (((List.getD l i default).size % 2500)).toNat (((List.getD l i default).size % 2500)).toNat), (9, Value.pointer (some ⟨b23, 0, none⟩)), (10, Value.int .i64 ((serveS (⟨(ps : List Piece)⟩ : Sender) (List.getD l i default).want ((List.getD l i default).steps : Int) (sv : List UInt8)).2.2)), (11, Value.pointer (some ⟨b27, 0, none⟩)), (12, Value.pointer (some ⟨b28, 0, none⟩)), (13, Value.int .i64 ((rserveS (⟨(qs : List Piece)⟩ : Sender) (List.getD l i default).want ((List.getD l i default).steps : Int) (sv : List UInt8)).2.2)), (83, Value.int .i64 ((((((List.getD l i default).size % 2500)).toNat : Nat) : Int))), (84, Value.int .i64 ((j : Int)))] (by kernel_rfl) ?_
            refine wpc_region (ops := R6_94) (id := 23) (by kernel_rfl) ?_
            refine wpr_val 1 90 (.binOp .add 3 (.tmp 84) (.const (Value.int .i64 (1))) 3) 3 (Value.int .i64 (((j : Int) + 1))) (Runs.plain (by kernel_rfl)) (by kernel_rfl) (y_add (by kernel_rfl) (by kernel_rfl) (wr64 (by omega))) ?_
            refine wpr_val 2 84 (.move (.tmp 90)) 3 (Value.int .i64 (((j : Int) + 1))) (Runs.plain (by kernel_rfl)) (by kernel_rfl) (y_move (by kernel_rfl)) ?_
            refine wpr_end (by kernel_rfl) ?_
            refine wpq_thenN ?_
            refine wpq_re 84 (v := Value.int .i64 (((j : Int) + 1))) (Value.int .i64 ((((j + 1) : Nat) : Int))) (by kernel_rfl) (congrArg (Value.int .i64) (by omega)) ?_
            refine wpq_sub [(0, Value.slice Al (l).length cl), (3, Value.pointer (some ⟨b3_0, 0, none⟩)), (4, Value.pointer (some ⟨b6, 0, none⟩)), (5, Value.int .i64 ((i : Int))), (7, Value.slice (some ⟨b15, 0, none⟩) (((List.getD l i default).size % 2500)).toNat (((List.getD l i default).size % 2500)).toNat), (9, Value.pointer (some ⟨b23, 0, none⟩)), (10, Value.int .i64 ((serveS (⟨(ps : List Piece)⟩ : Sender) (List.getD l i default).want ((List.getD l i default).steps : Int) (sv : List UInt8)).2.2)), (11, Value.pointer (some ⟨b27, 0, none⟩)), (12, Value.pointer (some ⟨b28, 0, none⟩)), (13, Value.int .i64 ((rserveS (⟨(qs : List Piece)⟩ : Sender) (List.getD l i default).want ((List.getD l i default).steps : Int) (sv : List UInt8)).2.2)), (83, Value.int .i64 ((((((List.getD l i default).size % 2500)).toNat : Nat) : Int))), (84, Value.int .i64 ((((j + 1) : Nat) : Int)))] (by kernel_rfl) ?_
            exact hQL2 _ _ _ (((((((List.getD l i default).size % 2500)).toNat : Nat) : Int)).toNat - ((j + 1))) LHL2 (by omega) ⟨(j + 1), (List.set sw j (u8 0)), cs32, rfl, rfl, rfl, rp32, by omega, by rw [List.length_set]; exact hw⟩
          · have h3p := of_decide_eq_false h3
            refine wpc_exit (id := 4) (by kernel_rfl) ?_
            refine wpq_thenX ?_
            refine wpq_thenX ?_
            refine wpq_blockE ?_
            refine wpq_then ?_
            refine wpc_seq (x := F6_101) (y := F6_102) (by kernel_rfl) ?_
            refine wpc_seq (x := F6_103) (y := F6_104) (by kernel_rfl) ?_
            refine wpa_start (ops := R6_103) (id := 24) (by kernel_rfl) (by kernel_rfl) [0, 2, 4, 5, 6, 7, 8, 9] [] [some ⟨b28, 35, [Value.int .i64 ((rserveS (⟨(qs : List Piece)⟩ : Sender) (List.getD l i default).want ((List.getD l i default).steps : Int) (sv : List UInt8)).2.1.base), Value.int .i64 ((rserveS (⟨(qs : List Piece)⟩ : Sender) (List.getD l i default).want ((List.getD l i default).steps : Int) (sv : List UInt8)).2.1.index), Value.int .i64 ((rserveS (⟨(qs : List Piece)⟩ : Sender) (List.getD l i default).want ((List.getD l i default).steps : Int) (sv : List UInt8)).2.1.count), Value.slice A24_1_data ((rserveS (⟨(qs : List Piece)⟩ : Sender) (List.getD l i default).want ((List.getD l i default).steps : Int) (sv : List UInt8)).2.1.data).length c24_1_data]⟩, some ⟨b27, 53, [Value.slice A24_0_pieces ((rserveS (⟨(qs : List Piece)⟩ : Sender) (List.getD l i default).want ((List.getD l i default).steps : Int) (sv : List UInt8)).1.pieces).length c24_0_pieces]⟩, some ⟨b23, 37, [Value.int .i64 ((serveS (⟨(ps : List Piece)⟩ : Sender) (List.getD l i default).want ((List.getD l i default).steps : Int) (sv : List UInt8)).2.1.base), Value.int .i64 ((serveS (⟨(ps : List Piece)⟩ : Sender) (List.getD l i default).want ((List.getD l i default).steps : Int) (sv : List UInt8)).2.1.index), Value.int .i64 ((serveS (⟨(ps : List Piece)⟩ : Sender) (List.getD l i default).want ((List.getD l i default).steps : Int) (sv : List UInt8)).2.1.count), Value.slice A20_0_data ((serveS (⟨(ps : List Piece)⟩ : Sender) (List.getD l i default).want ((List.getD l i default).steps : Int) (sv : List UInt8)).2.1.data).length c20_0_data]⟩, some ⟨b15, 5, cssw⟩, some ⟨b11, 57, [Value.bool ((List.getD l i default).reset), Value.int .i64 ((List.getD l i default).want.base), Value.int .i64 ((List.getD l i default).want.have_), Value.int .i64 ((List.getD l i default).steps), Value.int .u16 ((List.getD l i default).size)]⟩, some ⟨b6, 53, [Value.slice Aqs (qs).length cqs]⟩, some ⟨b3_0, 107, [Value.slice A20_s_pieces ((serveS (⟨(ps : List Piece)⟩ : Sender) (List.getD l i default).want ((List.getD l i default).steps : Int) (sv : List UInt8)).1.pieces).length c20_s_pieces]⟩] (by kernel_rfl) (by kernel_rfl) (fun _ _ _ _ _ h => h) 10 (by kernel_rfl) (fun RG => ?_)
            have lp := Psi.le.refl g29.r
            refine wpa_take 0 [true, false, false, false, false, false, false, false, false, false] 91 (.load 37 (.tmp 9)) 37 (Value.agg #[Value.int .i64 ((serveS (⟨(ps : List Piece)⟩ : Sender) (List.getD l i default).want ((List.getD l i default).steps : Int) (sv : List UInt8)).2.1.base), Value.int .i64 ((serveS (⟨(ps : List Piece)⟩ : Sender) (List.getD l i default).want ((List.getD l i default).steps : Int) (sv : List UInt8)).2.1.index), Value.int .i64 ((serveS (⟨(ps : List Piece)⟩ : Sender) (List.getD l i default).want ((List.getD l i default).steps : Int) (sv : List UInt8)).2.1.count), Value.slice A20_0_data ((serveS (⟨(ps : List Piece)⟩ : Sender) (List.getD l i default).want ((List.getD l i default).steps : Int) (sv : List UInt8)).2.1.data).length c20_0_data]) RG (Runs.plain (by kernel_rfl)) (by kernel_rfl) (by kernel_rfl) lp (keepK_M [true, true, true, true, true, true, true] (by kernel_rfl)) (q_loadA b23 0 2 [Value.int .i64 ((serveS (⟨(ps : List Piece)⟩ : Sender) (List.getD l i default).want ((List.getD l i default).steps : Int) (sv : List UInt8)).2.1.base), Value.int .i64 ((serveS (⟨(ps : List Piece)⟩ : Sender) (List.getD l i default).want ((List.getD l i default).steps : Int) (sv : List UInt8)).2.1.index), Value.int .i64 ((serveS (⟨(ps : List Piece)⟩ : Sender) (List.getD l i default).want ((List.getD l i default).steps : Int) (sv : List UInt8)).2.1.count), Value.slice A20_0_data ((serveS (⟨(ps : List Piece)⟩ : Sender) (List.getD l i default).want ((List.getD l i default).steps : Int) (sv : List UInt8)).2.1.data).length c20_0_data] (by kernel_rfl) (by kernel_rfl) (by kernel_rfl)) ?_
            refine wpa_take 2 [true, false, true, false, false, false, false, false, false, false] 93 (.load 35 (.tmp 12)) 35 (Value.agg #[Value.int .i64 ((rserveS (⟨(qs : List Piece)⟩ : Sender) (List.getD l i default).want ((List.getD l i default).steps : Int) (sv : List UInt8)).2.1.base), Value.int .i64 ((rserveS (⟨(qs : List Piece)⟩ : Sender) (List.getD l i default).want ((List.getD l i default).steps : Int) (sv : List UInt8)).2.1.index), Value.int .i64 ((rserveS (⟨(qs : List Piece)⟩ : Sender) (List.getD l i default).want ((List.getD l i default).steps : Int) (sv : List UInt8)).2.1.count), Value.slice A24_1_data ((rserveS (⟨(qs : List Piece)⟩ : Sender) (List.getD l i default).want ((List.getD l i default).steps : Int) (sv : List UInt8)).2.1.data).length c24_1_data]) RG (Runs.plain (by kernel_rfl)) (by kernel_rfl) (by kernel_rfl) lp (keepK_M [true, true, true, true, true, true, true] (by kernel_rfl)) (q_loadA b28 0 0 [Value.int .i64 ((rserveS (⟨(qs : List Piece)⟩ : Sender) (List.getD l i default).want ((List.getD l i default).steps : Int) (sv : List UInt8)).2.1.base), Value.int .i64 ((rserveS (⟨(qs : List Piece)⟩ : Sender) (List.getD l i default).want ((List.getD l i default).steps : Int) (sv : List UInt8)).2.1.index), Value.int .i64 ((rserveS (⟨(qs : List Piece)⟩ : Sender) (List.getD l i default).want ((List.getD l i default).steps : Int) (sv : List UInt8)).2.1.count), Value.slice A24_1_data ((rserveS (⟨(qs : List Piece)⟩ : Sender) (List.getD l i default).want ((List.getD l i default).steps : Int) (sv : List UInt8)).2.1.data).length c24_1_data] (by kernel_rfl) (by kernel_rfl) (by kernel_rfl)) ?_
            refine wpa_one 1 (by kernel_rfl) ?_
            refine wpi_eff [true, true, true, false, false, false, false, false, false, false] 92 (.call { callee := .value (.func 15), args := #[(.tmp 91)], argTypes := #[37] }) 35 (Runs.plain (by kernel_rfl)) (by kernel_rfl) lp (e_call [Value.agg #[Value.int .i64 ((serveS (⟨(ps : List Piece)⟩ : Sender) (List.getD l i default).want ((List.getD l i default).steps : Int) (sv : List UInt8)).2.1.base), Value.int .i64 ((serveS (⟨(ps : List Piece)⟩ : Sender) (List.getD l i default).want ((List.getD l i default).steps : Int) (sv : List UInt8)).2.1.index), Value.int .i64 ((serveS (⟨(ps : List Piece)⟩ : Sender) (List.getD l i default).want ((List.getD l i default).steps : Int) (sv : List UInt8)).2.1.count), Value.slice A20_0_data ((serveS (⟨(ps : List Piece)⟩ : Sender) (List.getD l i default).want ((List.getD l i default).steps : Int) (sv : List UInt8)).2.1.data).length c20_0_data]] (by kernel_rfl) (by kernel_rfl) (fun g' lr eb ln => c15 g' (serveS (⟨(ps : List Piece)⟩ : Sender) (List.getD l i default).want ((List.getD l i default).steps : Int) (sv : List UInt8)).2.1 A20_0_data c20_0_data ((f20_0_data.mono g29.br).mono lr))) (by kernel_rfl) ?_
            rintro _ g33 _ le34 ⟨rfl, rfl⟩
            refine ⟨.inr (keepK_M [true, true, true, true, true, true, true] (by kernel_rfl)), ?_⟩
            have fl := fl.mono le34.r
            have f3_0_pieces := f3_0_pieces.mono le34.b
            have fps := fps.mono le34.b
            have fqs := fqs.mono le34.b
            have hc10 := hc10.mono le34.r
            have rp15 := rp15.mono le34.b
            have rpsv := rpsv.mono le34.b
            have f20_s_pieces := f20_s_pieces.mono le34.b
            have f20_0_data := f20_0_data.mono le34.b
            have f24_0_pieces := f24_0_pieces.mono le34.b
            have f24_1_data := f24_1_data.mono le34.b
            have rpsw := rpsw.mono le34.b
            have L0 := L0.trans le34
            have LHL0 := LHL0.trans le34
            have LHL1 := LHL1.trans le34
            have LHL2 := LHL2.trans le34
            have lp := lp.trans le34.r
            refine wpa_one 3 (by kernel_rfl) ?_
            refine wpi_eff [true, true, true, true, false, false, false, false, false, false] 94 (.call { callee := .value (.func 14), args := #[(.tmp 92), (.tmp 93)], argTypes := #[35, 35] }) 4 (Runs.plain (by kernel_rfl)) (by kernel_rfl) lp (e_call [Value.agg #[Value.int .i64 ((serveS (⟨(ps : List Piece)⟩ : Sender) (List.getD l i default).want ((List.getD l i default).steps : Int) (sv : List UInt8)).2.1.base), Value.int .i64 ((serveS (⟨(ps : List Piece)⟩ : Sender) (List.getD l i default).want ((List.getD l i default).steps : Int) (sv : List UInt8)).2.1.index), Value.int .i64 ((serveS (⟨(ps : List Piece)⟩ : Sender) (List.getD l i default).want ((List.getD l i default).steps : Int) (sv : List UInt8)).2.1.count), Value.slice A20_0_data ((serveS (⟨(ps : List Piece)⟩ : Sender) (List.getD l i default).want ((List.getD l i default).steps : Int) (sv : List UInt8)).2.1.data).length c20_0_data], Value.agg #[Value.int .i64 ((rserveS (⟨(qs : List Piece)⟩ : Sender) (List.getD l i default).want ((List.getD l i default).steps : Int) (sv : List UInt8)).2.1.base), Value.int .i64 ((rserveS (⟨(qs : List Piece)⟩ : Sender) (List.getD l i default).want ((List.getD l i default).steps : Int) (sv : List UInt8)).2.1.index), Value.int .i64 ((rserveS (⟨(qs : List Piece)⟩ : Sender) (List.getD l i default).want ((List.getD l i default).steps : Int) (sv : List UInt8)).2.1.count), Value.slice A24_1_data ((rserveS (⟨(qs : List Piece)⟩ : Sender) (List.getD l i default).want ((List.getD l i default).steps : Int) (sv : List UInt8)).2.1.data).length c24_1_data]] (by kernel_rfl) (by kernel_rfl) (fun g' lr eb ln => c14 g' (serveS (⟨(ps : List Piece)⟩ : Sender) (List.getD l i default).want ((List.getD l i default).steps : Int) (sv : List UInt8)).2.1 A20_0_data c20_0_data (rserveS (⟨(qs : List Piece)⟩ : Sender) (List.getD l i default).want ((List.getD l i default).steps : Int) (sv : List UInt8)).2.1 A24_1_data c24_1_data ((f20_0_data.mono g33.br).mono lr) ((f24_1_data.mono g33.br).mono lr))) (by kernel_rfl) ?_
            rintro _ g36 _ le37 ⟨rfl, rfl⟩
            refine ⟨.inr (keepK_M [true, true, true, true, true, true, true] (by kernel_rfl)), ?_⟩
            have fl := fl.mono le37.r
            have f3_0_pieces := f3_0_pieces.mono le37.b
            have fps := fps.mono le37.b
            have fqs := fqs.mono le37.b
            have hc10 := hc10.mono le37.r
            have rp15 := rp15.mono le37.b
            have rpsv := rpsv.mono le37.b
            have f20_s_pieces := f20_s_pieces.mono le37.b
            have f20_0_data := f20_0_data.mono le37.b
            have f24_0_pieces := f24_0_pieces.mono le37.b
            have f24_1_data := f24_1_data.mono le37.b
            have rpsw := rpsw.mono le37.b
            have L0 := L0.trans le37
            have LHL0 := LHL0.trans le37
            have LHL1 := LHL1.trans le37
            have LHL2 := LHL2.trans le37
            have lp := lp.trans le37.r
            refine wpa_take 4 [true, true, true, true, true, false, false, false, false, false] 95 (.unOp .not 4 (.tmp 94)) 4 (Value.bool ((!(samePieceS (serveS (⟨(ps : List Piece)⟩ : Sender) (List.getD l i default).want ((List.getD l i default).steps : Int) (sv : List UInt8)).2.1 (rserveS (⟨(qs : List Piece)⟩ : Sender) (List.getD l i default).want ((List.getD l i default).steps : Int) (sv : List UInt8)).2.1)))) RG (Runs.plain (by kernel_rfl)) (by kernel_rfl) (by kernel_rfl) lp (keepK_M [true, true, true, true, true, true, true] (by kernel_rfl)) (y_pure (by kernel_rfl) (fun _ => by kernel_rfl)) ?_
            refine wpa_take 5 [true, true, true, true, true, true, false, false, false, false] 96 (.move (.tmp 95)) 4 (Value.bool ((!(samePieceS (serveS (⟨(ps : List Piece)⟩ : Sender) (List.getD l i default).want ((List.getD l i default).steps : Int) (sv : List UInt8)).2.1 (rserveS (⟨(qs : List Piece)⟩ : Sender) (List.getD l i default).want ((List.getD l i default).steps : Int) (sv : List UInt8)).2.1)))) RG (Runs.plain (by kernel_rfl)) (by kernel_rfl) (by kernel_rfl) lp (keepK_M [true, true, true, true, true, true, true] (by kernel_rfl)) (y_move (by kernel_rfl)) ?_
            refine wpa_grp 0 [true, true, true, true, true, true, true, true, true, true] [(0, Value.slice Al (l).length cl), (3, Value.pointer (some ⟨b3_0, 0, none⟩)), (4, Value.pointer (some ⟨b6, 0, none⟩)), (5, Value.int .i64 ((i : Int))), (11, Value.pointer (some ⟨b27, 0, none⟩)), (100, Value.bool (((!(samePieceS (serveS (⟨(ps : List Piece)⟩ : Sender) (List.getD l i default).want ((List.getD l i default).steps : Int) (sv : List UInt8)).2.1 (rserveS (⟨(qs : List Piece)⟩ : Sender) (List.getD l i default).want ((List.getD l i default).steps : Int) (sv : List UInt8)).2.1)) || ((serveS (⟨(ps : List Piece)⟩ : Sender) (List.getD l i default).want ((List.getD l i default).steps : Int) (sv : List UInt8)).2.2 != (rserveS (⟨(qs : List Piece)⟩ : Sender) (List.getD l i default).want ((List.getD l i default).steps : Int) (sv : List UInt8)).2.2))))] (fun hk5 => ?_) ?_
            · refine wpq_split 96 (b := (!(samePieceS (serveS (⟨(ps : List Piece)⟩ : Sender) (List.getD l i default).want ((List.getD l i default).steps : Int) (sv : List UInt8)).2.1 (rserveS (⟨(qs : List Piece)⟩ : Sender) (List.getD l i default).want ((List.getD l i default).steps : Int) (sv : List UInt8)).2.1))) (by kernel_rfl) (fun q38 => ?_) (fun q38 => ?_)
              · have q38n := not_eq_true_ q38
                refine wpa_takeSkip 6 [true, true, true, true, true, true, true, false, false, false] 97 RG (Skips.mk' (j := 5) (t := 96) (b := false) (by kernel_rfl) (by kernel_rfl) (by kernel_rfl)) (by kernel_rfl) (by kernel_rfl) lp (keepK_M [true, true, true, true, true, true, true] (by kernel_rfl)) ?_
                refine wpa_takeSkip 7 [true, true, true, true, true, true, true, true, false, false] 98 RG (Skips.mk' (j := 5) (t := 96) (b := false) (by kernel_rfl) (by kernel_rfl) (by kernel_rfl)) (by kernel_rfl) (by kernel_rfl) lp (keepK_M [true, true, true, true, true, true, true] (by kernel_rfl)) ?_
                refine wpa_takeSkip 8 [true, true, true, true, true, true, true, true, true, false] 99 RG (Skips.mk' (j := 5) (t := 96) (b := false) (by kernel_rfl) (by kernel_rfl) (by kernel_rfl)) (by kernel_rfl) (by kernel_rfl) lp (keepK_M [true, true, true, true, true, true, true] (by kernel_rfl)) ?_
                refine wpa_take 9 [true, true, true, true, true, true, true, true, true, true] 100 (.pick (.tmp 96) (.const (Value.bool (true))) (.tmp 99)) 4 (Value.bool (true)) RG (Runs.plain (by kernel_rfl)) (by kernel_rfl) (by kernel_rfl) lp (keepK_M [true, true, true, true, true, true, true] (by kernel_rfl)) (y_pickT (by kernel_rfl) (by kernel_rfl)) ?_
                refine wpq_re 100 (v := Value.bool (true)) (Value.bool (((!(samePieceS (serveS (⟨(ps : List Piece)⟩ : Sender) (List.getD l i default).want ((List.getD l i default).steps : Int) (sv : List UInt8)).2.1 (rserveS (⟨(qs : List Piece)⟩ : Sender) (List.getD l i default).want ((List.getD l i default).steps : Int) (sv : List UInt8)).2.1)) || ((serveS (⟨(ps : List Piece)⟩ : Sender) (List.getD l i default).want ((List.getD l i default).steps : Int) (sv : List UInt8)).2.2 != (rserveS (⟨(qs : List Piece)⟩ : Sender) (List.getD l i default).want ((List.getD l i default).steps : Int) (sv : List UInt8)).2.2)))) (by kernel_rfl) (re_or1 q38) ?_
                exact wpq_sub _ (by kernel_rfl) hk5
              · have q38n := not_eq_false_ q38
                refine wpa_take 6 [true, true, true, true, true, true, true, false, false, false] 97 (.move (.tmp 10)) 27 (Value.int .i64 ((serveS (⟨(ps : List Piece)⟩ : Sender) (List.getD l i default).want ((List.getD l i default).steps : Int) (sv : List UInt8)).2.2)) RG (Runs.guarded (j := 5) (t := 96) (b := false) (by kernel_rfl) (by kernel_rfl) (by kernel_rfl)) (by kernel_rfl) (by kernel_rfl) lp (keepK_M [true, true, true, true, true, true, true] (by kernel_rfl)) (y_move (by kernel_rfl)) ?_
                refine wpa_take 7 [true, true, true, true, true, true, true, true, false, false] 98 (.move (.tmp 13)) 27 (Value.int .i64 ((rserveS (⟨(qs : List Piece)⟩ : Sender) (List.getD l i default).want ((List.getD l i default).steps : Int) (sv : List UInt8)).2.2)) RG (Runs.guarded (j := 5) (t := 96) (b := false) (by kernel_rfl) (by kernel_rfl) (by kernel_rfl)) (by kernel_rfl) (by kernel_rfl) lp (keepK_M [true, true, true, true, true, true, true] (by kernel_rfl)) (y_move (by kernel_rfl)) ?_
                refine wpa_take 8 [true, true, true, true, true, true, true, true, true, false] 99 (.binOp .neq 27 (.tmp 97) (.tmp 98) 27) 4 (Value.bool (((serveS (⟨(ps : List Piece)⟩ : Sender) (List.getD l i default).want ((List.getD l i default).steps : Int) (sv : List UInt8)).2.2 != (rserveS (⟨(qs : List Piece)⟩ : Sender) (List.getD l i default).want ((List.getD l i default).steps : Int) (sv : List UInt8)).2.2))) RG (Runs.guarded (j := 5) (t := 96) (b := false) (by kernel_rfl) (by kernel_rfl) (by kernel_rfl)) (by kernel_rfl) (by kernel_rfl) lp (keepK_M [true, true, true, true, true, true, true] (by kernel_rfl)) (y_pure (by kernel_rfl) (fun _ => by kernel_rfl)) ?_
                refine wpa_take 9 [true, true, true, true, true, true, true, true, true, true] 100 (.pick (.tmp 96) (.const (Value.bool (true))) (.tmp 99)) 4 (Value.bool (((serveS (⟨(ps : List Piece)⟩ : Sender) (List.getD l i default).want ((List.getD l i default).steps : Int) (sv : List UInt8)).2.2 != (rserveS (⟨(qs : List Piece)⟩ : Sender) (List.getD l i default).want ((List.getD l i default).steps : Int) (sv : List UInt8)).2.2))) RG (Runs.plain (by kernel_rfl)) (by kernel_rfl) (by kernel_rfl) lp (keepK_M [true, true, true, true, true, true, true] (by kernel_rfl)) (y_pickF (by kernel_rfl) (by kernel_rfl)) ?_
                refine wpq_re 100 (v := Value.bool (((serveS (⟨(ps : List Piece)⟩ : Sender) (List.getD l i default).want ((List.getD l i default).steps : Int) (sv : List UInt8)).2.2 != (rserveS (⟨(qs : List Piece)⟩ : Sender) (List.getD l i default).want ((List.getD l i default).steps : Int) (sv : List UInt8)).2.2))) (Value.bool (((!(samePieceS (serveS (⟨(ps : List Piece)⟩ : Sender) (List.getD l i default).want ((List.getD l i default).steps : Int) (sv : List UInt8)).2.1 (rserveS (⟨(qs : List Piece)⟩ : Sender) (List.getD l i default).want ((List.getD l i default).steps : Int) (sv : List UInt8)).2.1)) || ((serveS (⟨(ps : List Piece)⟩ : Sender) (List.getD l i default).want ((List.getD l i default).steps : Int) (sv : List UInt8)).2.2 != (rserveS (⟨(qs : List Piece)⟩ : Sender) (List.getD l i default).want ((List.getD l i default).steps : Int) (sv : List UInt8)).2.2)))) (by kernel_rfl) (re_or0 q38) ?_
                exact wpq_sub _ (by kernel_rfl) hk5
            · refine wpa_done (by kernel_rfl) ?_
              refine wpq_then ?_
              -- condition 4
              refine wpc_cond (x := F6_106) (y := F6_107) (o := (.tmp 100)) (b := ((!(samePieceS (serveS (⟨(ps : List Piece)⟩ : Sender) (List.getD l i default).want ((List.getD l i default).steps : Int) (sv : List UInt8)).2.1 (rserveS (⟨(qs : List Piece)⟩ : Sender) (List.getD l i default).want ((List.getD l i default).steps : Int) (sv : List UInt8)).2.1)) || ((serveS (⟨(ps : List Piece)⟩ : Sender) (List.getD l i default).want ((List.getD l i default).steps : Int) (sv : List UInt8)).2.2 != (rserveS (⟨(qs : List Piece)⟩ : Sender) (List.getD l i default).want ((List.getD l i default).steps : Int) (sv : List UInt8)).2.2))) (by kernel_rfl) (by kernel_rfl) (fun h4 => ?_) (fun h4 => ?_)
              · rw [serve_ok he] at h4; cases h4
              · have h4l := (or_false_ h4).1
                have h4r := (or_false_ h4).2
                have h4ln := not_eq_false_ h4l
                have h4rp : (serveS (⟨(ps : List Piece)⟩ : Sender) (List.getD l i default).want ((List.getD l i default).steps : Int) (sv : List UInt8)).2.2 = (rserveS (⟨(qs : List Piece)⟩ : Sender) (List.getD l i default).want ((List.getD l i default).steps : Int) (sv : List UInt8)).2.2 := eq_of_bne_false_ h4r
                refine wpc_skip (by kernel_rfl) ?_
                refine wpq_then ?_
                refine wpc_region (ops := R6_102) (id := 26) (by kernel_rfl) ?_
                refine wpr_val 1 101 (.load 53 (.tmp 11)) 53 (Value.agg #[Value.slice A24_0_pieces ((rserveS (⟨(qs : List Piece)⟩ : Sender) (List.getD l i default).want ((List.getD l i default).steps : Int) (sv : List UInt8)).1.pieces).length c24_0_pieces]) (Runs.plain (by kernel_rfl)) (by kernel_rfl) (q_loadA b27 0 1 [Value.slice A24_0_pieces ((rserveS (⟨(qs : List Piece)⟩ : Sender) (List.getD l i default).want ((List.getD l i default).steps : Int) (sv : List UInt8)).1.pieces).length c24_0_pieces] (by kernel_rfl) (by kernel_rfl) (by kernel_rfl)) ?_
                refine wpr_do 2 (.store 53 (.tmp 4) (.tmp 101)) 0 (Runs.plain (by kernel_rfl)) (by kernel_rfl) (q_store b6 0 5 (Value.agg #[Value.slice A24_0_pieces ((rserveS (⟨(qs : List Piece)⟩ : Sender) (List.getD l i default).want ((List.getD l i default).steps : Int) (sv : List UInt8)).1.pieces).length c24_0_pieces]) [Value.slice A24_0_pieces ((rserveS (⟨(qs : List Piece)⟩ : Sender) (List.getD l i default).want ((List.getD l i default).steps : Int) (sv : List UInt8)).1.pieces).length c24_0_pieces] 53 [Value.slice Aqs (qs).length cqs] [Value.slice A24_0_pieces ((rserveS (⟨(qs : List Piece)⟩ : Sender) (List.getD l i default).want ((List.getD l i default).steps : Int) (sv : List UInt8)).1.pieces).length c24_0_pieces] (by kernel_rfl) (by kernel_rfl) (by kernel_rfl) (by kernel_rfl) (by kernel_rfl) (by kernel_rfl) (by kernel_rfl)) ?_
                rintro _ _ _ - ⟨rfl, rfl⟩
                refine wpr_end (by kernel_rfl) ?_
                refine wpq_blockN ?_
                refine wpq_then ?_
                refine wpc_region (ops := R6_29) (id := 6) (by kernel_rfl) ?_
                refine wpr_val 1 27 (.move (.tmp 5)) 3 (Value.int .i64 ((i : Int))) (Runs.plain (by kernel_rfl)) (by kernel_rfl) (y_move (by kernel_rfl)) ?_
                refine wpr_val 2 28 (.binOp .add 3 (.tmp 27) (.const (Value.int .i64 (1))) 3) 3 (Value.int .i64 (((i : Int) + 1))) (Runs.plain (by kernel_rfl)) (by kernel_rfl) (y_add (by kernel_rfl) (by kernel_rfl) (wr64 (by omega))) ?_
                refine wpr_val 3 5 (.assign (.tmp 28)) 3 (Value.int .i64 (((i : Int) + 1))) (Runs.plain (by kernel_rfl)) (by kernel_rfl) (y_assign (by kernel_rfl)) ?_
                refine wpr_end (by kernel_rfl) ?_
                refine wpq_thenN ?_
                refine wpq_drop [false, false, false, false, false, true, true] [some ⟨b6, 53, [Value.slice A24_0_pieces ((rserveS (⟨(qs : List Piece)⟩ : Sender) (List.getD l i default).want ((List.getD l i default).steps : Int) (sv : List UInt8)).1.pieces).length c24_0_pieces]⟩, some ⟨b3_0, 107, [Value.slice A20_s_pieces ((serveS (⟨(ps : List Piece)⟩ : Sender) (List.getD l i default).want ((List.getD l i default).steps : Int) (sv : List UInt8)).1.pieces).length c20_s_pieces]⟩] (by kernel_rfl) ?_
                refine wpq_re 5 (v := Value.int .i64 (((i : Int) + 1))) (Value.int .i64 ((((i + 1) : Nat) : Int))) (by kernel_rfl) (congrArg (Value.int .i64) (by omega)) ?_
                refine wpq_sub [(0, Value.slice Al (l).length cl), (3, Value.pointer (some ⟨b3_0, 0, none⟩)), (4, Value.pointer (some ⟨b6, 0, none⟩)), (5, Value.int .i64 ((((i + 1) : Nat) : Int)))] (by kernel_rfl) ?_
                exact hQL0 _ _ _ (16 - ((i + 1))) LHL0 (by omega) ⟨(i + 1), (serveS (⟨(ps : List Piece)⟩ : Sender) (List.getD l i default).want ((List.getD l i default).steps : Int) (sv : List UInt8)).1.pieces, A20_s_pieces, c20_s_pieces, (rserveS (⟨(qs : List Piece)⟩ : Sender) (List.getD l i default).want ((List.getD l i default).steps : Int) (sv : List UInt8)).1.pieces, A24_0_pieces, c24_0_pieces, rfl, rfl, rfl, f20_s_pieces, f24_0_pieces, by omega, (by first | rfl | exact serve_he he)⟩
    · refine wpc_exit (id := 0) (by kernel_rfl) ?_
      refine wpq_thenX ?_
      refine wpq_thenX ?_
      refine wpq_blockE ?_
      refine wpq_then ?_
      refine wpq_sub [] (by kernel_rfl) ?_
      refine wpc_seq (x := F6_109) (y := F6_110) (by kernel_rfl) ?_
      refine wpc_region (ops := R6_109) (id := 27) (by kernel_rfl) ?_
      refine wpr_val 1 2 (.assign (.const (Value.bool (true)))) 4 (Value.bool (true)) (Runs.plain (by kernel_rfl)) (by kernel_rfl) (y_assign (by kernel_rfl)) ?_
      refine wpr_end (by kernel_rfl) ?_
      refine wpq_then ?_
      refine wpc_ret (rs := [.tmp 2]) [Value.bool (true)] [] (by kernel_rfl) (fun _ _ h => h) (by kernel_rfl) (res_tmp (by kernel_rfl) res_nil) L0 keep0 ?_
      exact ⟨rfl, rfl⟩

end Go.Proofs.Ytolppdcaaoghgaa
