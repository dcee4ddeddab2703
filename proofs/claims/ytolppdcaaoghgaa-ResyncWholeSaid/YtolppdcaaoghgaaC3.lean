/-
Walks, printed by wip/eng/eng.py. Conditions: each theorem's own.
-/
import Derived.Test.YtolppdcaaoghgaaC2
namespace Go.Proofs.Ytolppdcaaoghgaa
set_option linter.unusedVariables false
set_option linter.unusedSimpArgs false
open Go.RowKit
noncomputable def F35_0 : Code := sub (Try.f35.body.getD .skip) []
noncomputable def F35_1 : Code := sub (Try.f35.body.getD .skip) [0]
noncomputable def F35_2 : Code := sub (Try.f35.body.getD .skip) [1]
noncomputable def R35_1 : Array Oper := regOf F35_1
noncomputable def F35_4 : Code := sub (Try.f35.body.getD .skip) [1, 0]
noncomputable def F35_5 : Code := sub (Try.f35.body.getD .skip) [1, 1]
noncomputable def F35_6 : Code := sub (Try.f35.body.getD .skip) [1, 0, 0]
noncomputable def F35_7 : Code := sub (Try.f35.body.getD .skip) [1, 0, 1]
noncomputable def R35_6 : Array Oper := regOf F35_6
noncomputable def F35_9 : Code := sub (Try.f35.body.getD .skip) [1, 0, 1, 0]
noncomputable def F35_10 : Code := sub (Try.f35.body.getD .skip) [1, 0, 1, 1]
noncomputable def F35_11 : Code := sub (Try.f35.body.getD .skip) [1, 0, 1, 0, 0]
noncomputable def F35_12 : Code := sub (Try.f35.body.getD .skip) [1, 0, 1, 0, 1]
noncomputable def R35_11 : Array Oper := regOf F35_11
noncomputable def F35_14 : Code := sub (Try.f35.body.getD .skip) [1, 1, 0]
noncomputable def F35_15 : Code := sub (Try.f35.body.getD .skip) [1, 1, 1]
noncomputable def R35_14 : Array Oper := regOf F35_14
noncomputable def F35_17 : Code := sub (Try.f35.body.getD .skip) [1, 1, 1, 0]
noncomputable def F35_18 : Code := sub (Try.f35.body.getD .skip) [1, 1, 1, 1]
noncomputable def F35_19 : Code := sub (Try.f35.body.getD .skip) [1, 1, 1, 0, 0]
noncomputable def F35_20 : Code := sub (Try.f35.body.getD .skip) [1, 1, 1, 0, 1]
noncomputable def R35_19 : Array Oper := regOf F35_19
noncomputable def F35_22 : Code := sub (Try.f35.body.getD .skip) [1, 1, 1, 0, 1, 0]
noncomputable def F35_23 : Code := sub (Try.f35.body.getD .skip) [1, 1, 1, 0, 1, 0, 0]
noncomputable def F35_24 : Code := sub (Try.f35.body.getD .skip) [1, 1, 1, 0, 1, 0, 0, 0]
noncomputable def F35_25 : Code := sub (Try.f35.body.getD .skip) [1, 1, 1, 0, 1, 0, 0, 1]
noncomputable def R35_24 : Array Oper := regOf F35_24
noncomputable def F35_27 : Code := sub (Try.f35.body.getD .skip) [1, 1, 1, 0, 1, 0, 0, 1, 0]
noncomputable def F35_28 : Code := sub (Try.f35.body.getD .skip) [1, 1, 1, 0, 1, 0, 0, 1, 1]
noncomputable def F35_29 : Code := sub (Try.f35.body.getD .skip) [1, 1, 1, 0, 1, 0, 0, 1, 0, 0]
noncomputable def F35_30 : Code := sub (Try.f35.body.getD .skip) [1, 1, 1, 0, 1, 0, 0, 1, 0, 1]
noncomputable def F35_31 : Code := sub (Try.f35.body.getD .skip) [1, 1, 1, 0, 1, 0, 0, 1, 1, 0]
noncomputable def F35_32 : Code := sub (Try.f35.body.getD .skip) [1, 1, 1, 0, 1, 0, 0, 1, 1, 1]
noncomputable def F35_33 : Code := sub (Try.f35.body.getD .skip) [1, 1, 1, 0, 1, 0, 0, 1, 1, 0, 0]
noncomputable def F35_34 : Code := sub (Try.f35.body.getD .skip) [1, 1, 1, 0, 1, 0, 0, 1, 1, 0, 0, 0]
noncomputable def F35_35 : Code := sub (Try.f35.body.getD .skip) [1, 1, 1, 0, 1, 0, 0, 1, 1, 0, 0, 1]
noncomputable def R35_34 : Array Oper := regOf F35_34
noncomputable def R35_35 : Array Oper := regOf F35_35
noncomputable def R35_32 : Array Oper := regOf F35_32
noncomputable def F35_39 : Code := sub (Try.f35.body.getD .skip) [1, 1, 1, 1, 0]
noncomputable def F35_40 : Code := sub (Try.f35.body.getD .skip) [1, 1, 1, 1, 1]
noncomputable def R35_39 : Array Oper := regOf F35_39
set_option maxRecDepth 100000 in
theorem c35 (g : Gh) (a_c : Addr) (c : Coll) (Ac_parts : Option Addr) (cc_parts : Nat) (Ac_sets : Option Addr) (cc_sets : Nat) (hc_c : Cells g.r a_c [Value.int .i64 (c.base), Value.int .i64 (c.count), Value.slice Ac_parts (c.parts).length cc_parts, Value.slice Ac_sets (c.sets).length cc_sets]) (fc_parts : ArrM g.r g.b (tyArr tyU8) Ac_parts cc_parts c.parts) (fc_sets : ArrM g.r g.b tySett Ac_sets cc_sets c.sets) (hF : c.parts.flatten.length ≤ 1000000000) (hl : c.sets.length ≤ 1000000) :
    Ctr0 Try.prog 35 [Value.pointer (some a_c)] g (fun v ψ => ∃ (Ar0_snapshot : Option Addr) (cr0_snapshot : Nat) (Ar0_sets : Option Addr) (cr0_sets : Nat), v = Value.tuple #[Value.agg #[Value.int .i64 ((jobS c).1.base), Value.slice Ar0_snapshot ((jobS c).1.snapshot).length cr0_snapshot, Value.slice Ar0_sets ((jobS c).1.sets).length cr0_sets], Value.bool ((jobS c).2)] ∧ Arr ψ tyU8 Ar0_snapshot cr0_snapshot (jobS c).1.snapshot ∧ Arr ψ tySett Ar0_sets cr0_sets (jobS c).1.sets) := by
  refine ctr_of Try.f35 F35_0 61 [Value.pointer (some a_c)] (by kernel_rfl) (by kernel_rfl) (by kernel_rfl) (by kernel_rfl) ?_
  have L0 := Gh.le.refl g
  have nfc_parts := fc_parts.len
  have nfc_sets := fc_sets.len
  refine wpc_seq (x := F35_1) (y := F35_2) (by kernel_rfl) ?_
  refine wpc_region (ops := R35_1) (id := 0) (by kernel_rfl) ?_
  refine wpr_eff 1 2 (.alloc 90) 0 (Runs.plain (by kernel_rfl)) (by kernel_rfl) (e_alloc (cs := [Value.int .i64 (0), Value.slice none 0 0, Value.slice none 0 0]) (by kernel_rfl)) ?_
  rintro _ _ _ - ⟨b1, rfl, rfl, rfl⟩
  refine wpr_val 2 3 (.assign (.const (Value.bool (false)))) 4 (Value.bool (false)) (Runs.plain (by kernel_rfl)) (by kernel_rfl) (y_assign (by kernel_rfl)) ?_
  refine wpr_end (by kernel_rfl) ?_
  refine wpq_then ?_
  refine wpc_seq (x := F35_4) (y := F35_5) (by kernel_rfl) ?_
  refine wpc_seq (x := F35_6) (y := F35_7) (by kernel_rfl) ?_
  refine wpa_start (ops := R35_6) (id := 1) (by kernel_rfl) (by kernel_rfl) [6, 14, 19] [] [some ⟨b1, 90, [Value.int .i64 (0), Value.slice none 0 0, Value.slice none 0 0]⟩] (by kernel_rfl) (by kernel_rfl) (fun _ _ _ _ _ h => h) 22 (by kernel_rfl) (fun RG => ?_)
  have lp := Psi.le.refl g.r
  refine wpa_take0 0 [true, false, false, false, false, false, false, false, false, false, false, false, false, false, false, false, false, false, false, false, false, false] 6 (.move (.tmp 0)) 72 (Value.pointer (some a_c)) RG (Runs.plain (by kernel_rfl)) (by kernel_rfl) (by kernel_rfl) (fun _ => (y_move (by kernel_rfl))) ?_
  refine wpa_take0 1 [true, true, false, false, false, false, false, false, false, false, false, false, false, false, false, false, false, false, false, false, false, false] 7 (.binOp .eql 72 (.tmp 6) (.const (Value.pointer none)) 72) 4 (Value.bool (false)) RG (Runs.plain (by kernel_rfl)) (by kernel_rfl) (by kernel_rfl) (fun _ => (y_pure (by kernel_rfl) (fun _ => by kernel_rfl))) ?_
  refine wpa_take0 2 [true, true, true, false, false, false, false, false, false, false, false, false, false, false, false, false, false, false, false, false, false, false] 8 (.move (.tmp 7)) 4 (Value.bool (false)) RG (Runs.plain (by kernel_rfl)) (by kernel_rfl) (by kernel_rfl) (fun _ => (y_move (by kernel_rfl))) ?_
  refine wpa_take0 3 [true, true, true, true, false, false, false, false, false, false, false, false, false, false, false, false, false, false, false, false, false, false] 9 (.move (.tmp 0)) 72 (Value.pointer (some a_c)) RG (Runs.guarded (j := 2) (t := 8) (b := false) (by kernel_rfl) (by kernel_rfl) (by kernel_rfl)) (by kernel_rfl) (by kernel_rfl) (fun _ => (y_move (by kernel_rfl))) ?_
  refine wpa_take0 4 [true, true, true, true, true, false, false, false, false, false, false, false, false, false, false, false, false, false, false, false, false, false] 10 (.nilCheck (.tmp 9)) 0 (Value.pointer (some a_c)) RG (Runs.guarded (j := 2) (t := 8) (b := false) (by kernel_rfl) (by kernel_rfl) (by kernel_rfl)) (by kernel_rfl) (by kernel_rfl) (fun _ => (y_pure (by kernel_rfl) (fun _ => by kernel_rfl))) ?_
  refine wpa_take0 5 [true, true, true, true, true, true, false, false, false, false, false, false, false, false, false, false, false, false, false, false, false, false] 11 (.fieldAddr 114 (.tmp 10) 2) 0 (Value.pointer (some (Addr.add a_c 2))) RG (Runs.guarded (j := 2) (t := 8) (b := false) (by kernel_rfl) (by kernel_rfl) (by kernel_rfl)) (by kernel_rfl) (by kernel_rfl) (fun _ => (y_pure (by kernel_rfl) (fun _ => by kernel_rfl))) ?_
  refine wpa_take 6 [true, true, true, true, true, true, true, false, false, false, false, false, false, false, false, false, false, false, false, false, false, false] 12 (.load 74 (.tmp 11)) 74 (Value.slice Ac_parts (c.parts).length cc_parts) RG (Runs.guarded (j := 2) (t := 8) (b := false) (by kernel_rfl) (by kernel_rfl) (by kernel_rfl)) (by kernel_rfl) (by kernel_rfl) lp (keepK_P [some 0] (by kernel_rfl)) (q_loadP1 a_c 2 (by kernel_rfl) hc_c (by kernel_rfl) (by kernel_rfl)) ?_
  refine wpa_take0 7 [true, true, true, true, true, true, true, true, false, false, false, false, false, false, false, false, false, false, false, false, false, false] 13 (.call { callee := .builtin .len, args := #[(.tmp 12)], argTypes := #[74] }) 3 (Value.int .i64 ((((c.parts).length : Nat) : Int))) RG (Runs.guarded (j := 2) (t := 8) (b := false) (by kernel_rfl) (by kernel_rfl) (by kernel_rfl)) (by kernel_rfl) (by kernel_rfl) (fun _ => (y_pure (by kernel_rfl) (fun _ => by kernel_rfl))) ?_
  refine wpa_take0 8 [true, true, true, true, true, true, true, true, true, false, false, false, false, false, false, false, false, false, false, false, false, false] 14 (.binOp .eql 3 (.tmp 13) (.const (Value.int .i64 (0))) 3) 4 (Value.bool (((((c.parts).length : Nat) : Int) == 0))) RG (Runs.guarded (j := 2) (t := 8) (b := false) (by kernel_rfl) (by kernel_rfl) (by kernel_rfl)) (by kernel_rfl) (by kernel_rfl) (fun _ => (y_pure (by kernel_rfl) (fun _ => by kernel_rfl))) ?_
  refine wpa_take0 9 [true, true, true, true, true, true, true, true, true, true, false, false, false, false, false, false, false, false, false, false, false, false] 15 (.pick (.tmp 8) (.const (Value.bool (true))) (.tmp 14)) 4 (Value.bool (((((c.parts).length : Nat) : Int) == 0))) RG (Runs.plain (by kernel_rfl)) (by kernel_rfl) (by kernel_rfl) (fun _ => (y_pickF (by kernel_rfl) (by kernel_rfl))) ?_
  refine wpa_take0 10 [true, true, true, true, true, true, true, true, true, true, true, false, false, false, false, false, false, false, false, false, false, false] 16 (.move (.tmp 15)) 4 (Value.bool (((((c.parts).length : Nat) : Int) == 0))) RG (Runs.plain (by kernel_rfl)) (by kernel_rfl) (by kernel_rfl) (fun _ => (y_move (by kernel_rfl))) ?_
  refine wpa_grp 0 [true, true, true, true, true, true, true, true, true, true, true, true, true, true, true, true, true, true, true, true, true, true] [(0, Value.pointer (some a_c)), (2, Value.pointer (some ⟨b1, 0, none⟩)), (27, Value.bool ((((((c.parts).length : Nat) : Int) == 0) || ((((c.parts).length : Nat) : Int) != c.count))))] (fun hk10 => ?_) ?_
  · refine wpq_split 16 (b := ((((c.parts).length : Nat) : Int) == 0)) (by kernel_rfl) (fun q2 => ?_) (fun q2 => ?_)
    · have q2p : (((c.parts).length : Nat) : Int) = 0 := eq_of_beq q2
      refine wpa_takeSkip0 11 [true, true, true, true, true, true, true, true, true, true, true, true, false, false, false, false, false, false, false, false, false, false] 17 RG (Skips.mk' (j := 10) (t := 16) (b := false) (by kernel_rfl) (by kernel_rfl) (by kernel_rfl)) (by kernel_rfl) (by kernel_rfl) ?_
      refine wpa_takeSkip0 12 [true, true, true, true, true, true, true, true, true, true, true, true, true, false, false, false, false, false, false, false, false, false] 18 RG (Skips.mk' (j := 10) (t := 16) (b := false) (by kernel_rfl) (by kernel_rfl) (by kernel_rfl)) (by kernel_rfl) (by kernel_rfl) ?_
      refine wpa_takeSkip0 13 [true, true, true, true, true, true, true, true, true, true, true, true, true, true, false, false, false, false, false, false, false, false] 19 RG (Skips.mk' (j := 10) (t := 16) (b := false) (by kernel_rfl) (by kernel_rfl) (by kernel_rfl)) (by kernel_rfl) (by kernel_rfl) ?_
      refine wpa_takeSkip0 14 [true, true, true, true, true, true, true, true, true, true, true, true, true, true, true, false, false, false, false, false, false, false] 20 RG (Skips.mk' (j := 10) (t := 16) (b := false) (by kernel_rfl) (by kernel_rfl) (by kernel_rfl)) (by kernel_rfl) (by kernel_rfl) ?_
      refine wpa_takeSkip0 15 [true, true, true, true, true, true, true, true, true, true, true, true, true, true, true, true, false, false, false, false, false, false] 21 RG (Skips.mk' (j := 10) (t := 16) (b := false) (by kernel_rfl) (by kernel_rfl) (by kernel_rfl)) (by kernel_rfl) (by kernel_rfl) ?_
      refine wpa_takeSkip0 16 [true, true, true, true, true, true, true, true, true, true, true, true, true, true, true, true, true, false, false, false, false, false] 22 RG (Skips.mk' (j := 10) (t := 16) (b := false) (by kernel_rfl) (by kernel_rfl) (by kernel_rfl)) (by kernel_rfl) (by kernel_rfl) ?_
      refine wpa_takeSkip0 17 [true, true, true, true, true, true, true, true, true, true, true, true, true, true, true, true, true, true, false, false, false, false] 23 RG (Skips.mk' (j := 10) (t := 16) (b := false) (by kernel_rfl) (by kernel_rfl) (by kernel_rfl)) (by kernel_rfl) (by kernel_rfl) ?_
      refine wpa_takeSkip0 18 [true, true, true, true, true, true, true, true, true, true, true, true, true, true, true, true, true, true, true, false, false, false] 24 RG (Skips.mk' (j := 10) (t := 16) (b := false) (by kernel_rfl) (by kernel_rfl) (by kernel_rfl)) (by kernel_rfl) (by kernel_rfl) ?_
      refine wpa_takeSkip0 19 [true, true, true, true, true, true, true, true, true, true, true, true, true, true, true, true, true, true, true, true, false, false] 25 RG (Skips.mk' (j := 10) (t := 16) (b := false) (by kernel_rfl) (by kernel_rfl) (by kernel_rfl)) (by kernel_rfl) (by kernel_rfl) ?_
      refine wpa_takeSkip0 20 [true, true, true, true, true, true, true, true, true, true, true, true, true, true, true, true, true, true, true, true, true, false] 26 RG (Skips.mk' (j := 10) (t := 16) (b := false) (by kernel_rfl) (by kernel_rfl) (by kernel_rfl)) (by kernel_rfl) (by kernel_rfl) ?_
      refine wpa_take0 21 [true, true, true, true, true, true, true, true, true, true, true, true, true, true, true, true, true, true, true, true, true, true] 27 (.pick (.tmp 16) (.const (Value.bool (true))) (.tmp 26)) 4 (Value.bool (true)) RG (Runs.plain (by kernel_rfl)) (by kernel_rfl) (by kernel_rfl) (fun _ => (y_pickT (by kernel_rfl) (by kernel_rfl))) ?_
      refine wpq_re 27 (v := Value.bool (true)) (Value.bool ((((((c.parts).length : Nat) : Int) == 0) || ((((c.parts).length : Nat) : Int) != c.count)))) (by kernel_rfl) (re_or1 q2) ?_
      exact wpq_sub _ (by kernel_rfl) hk10
    · have q2p : ¬ ((((c.parts).length : Nat) : Int) = 0) := ne_of_beq_false_ q2
      refine wpa_take0 11 [true, true, true, true, true, true, true, true, true, true, true, true, false, false, false, false, false, false, false, false, false, false] 17 (.move (.tmp 0)) 72 (Value.pointer (some a_c)) RG (Runs.guarded (j := 10) (t := 16) (b := false) (by kernel_rfl) (by kernel_rfl) (by kernel_rfl)) (by kernel_rfl) (by kernel_rfl) (fun _ => (y_move (by kernel_rfl))) ?_
      refine wpa_take0 12 [true, true, true, true, true, true, true, true, true, true, true, true, true, false, false, false, false, false, false, false, false, false] 18 (.nilCheck (.tmp 17)) 0 (Value.pointer (some a_c)) RG (Runs.guarded (j := 10) (t := 16) (b := false) (by kernel_rfl) (by kernel_rfl) (by kernel_rfl)) (by kernel_rfl) (by kernel_rfl) (fun _ => (y_pure (by kernel_rfl) (fun _ => by kernel_rfl))) ?_
      refine wpa_take0 13 [true, true, true, true, true, true, true, true, true, true, true, true, true, true, false, false, false, false, false, false, false, false] 19 (.fieldAddr 114 (.tmp 18) 2) 0 (Value.pointer (some (Addr.add a_c 2))) RG (Runs.guarded (j := 10) (t := 16) (b := false) (by kernel_rfl) (by kernel_rfl) (by kernel_rfl)) (by kernel_rfl) (by kernel_rfl) (fun _ => (y_pure (by kernel_rfl) (fun _ => by kernel_rfl))) ?_
      refine wpa_take 14 [true, true, true, true, true, true, true, true, true, true, true, true, true, true, true, false, false, false, false, false, false, false] 20 (.load 74 (.tmp 19)) 74 (Value.slice Ac_parts (c.parts).length cc_parts) RG (Runs.guarded (j := 10) (t := 16) (b := false) (by kernel_rfl) (by kernel_rfl) (by kernel_rfl)) (by kernel_rfl) (by kernel_rfl) lp (keepK_P [some 0] (by kernel_rfl)) (q_loadP1 a_c 2 (by kernel_rfl) hc_c (by kernel_rfl) (by kernel_rfl)) ?_
      refine wpa_take0 15 [true, true, true, true, true, true, true, true, true, true, true, true, true, true, true, true, false, false, false, false, false, false] 21 (.call { callee := .builtin .len, args := #[(.tmp 20)], argTypes := #[74] }) 3 (Value.int .i64 ((((c.parts).length : Nat) : Int))) RG (Runs.guarded (j := 10) (t := 16) (b := false) (by kernel_rfl) (by kernel_rfl) (by kernel_rfl)) (by kernel_rfl) (by kernel_rfl) (fun _ => (y_pure (by kernel_rfl) (fun _ => by kernel_rfl))) ?_
      refine wpa_take0 16 [true, true, true, true, true, true, true, true, true, true, true, true, true, true, true, true, true, false, false, false, false, false] 22 (.move (.tmp 0)) 72 (Value.pointer (some a_c)) RG (Runs.guarded (j := 10) (t := 16) (b := false) (by kernel_rfl) (by kernel_rfl) (by kernel_rfl)) (by kernel_rfl) (by kernel_rfl) (fun _ => (y_move (by kernel_rfl))) ?_
      refine wpa_take0 17 [true, true, true, true, true, true, true, true, true, true, true, true, true, true, true, true, true, true, false, false, false, false] 23 (.nilCheck (.tmp 22)) 0 (Value.pointer (some a_c)) RG (Runs.guarded (j := 10) (t := 16) (b := false) (by kernel_rfl) (by kernel_rfl) (by kernel_rfl)) (by kernel_rfl) (by kernel_rfl) (fun _ => (y_pure (by kernel_rfl) (fun _ => by kernel_rfl))) ?_
      refine wpa_take0 18 [true, true, true, true, true, true, true, true, true, true, true, true, true, true, true, true, true, true, true, false, false, false] 24 (.fieldAddr 114 (.tmp 23) 1) 0 (Value.pointer (some (Addr.add a_c 1))) RG (Runs.guarded (j := 10) (t := 16) (b := false) (by kernel_rfl) (by kernel_rfl) (by kernel_rfl)) (by kernel_rfl) (by kernel_rfl) (fun _ => (y_pure (by kernel_rfl) (fun _ => by kernel_rfl))) ?_
      refine wpa_take 19 [true, true, true, true, true, true, true, true, true, true, true, true, true, true, true, true, true, true, true, true, false, false] 25 (.load 2 (.tmp 24)) 2 (Value.int .i64 (c.count)) RG (Runs.guarded (j := 10) (t := 16) (b := false) (by kernel_rfl) (by kernel_rfl) (by kernel_rfl)) (by kernel_rfl) (by kernel_rfl) lp (keepK_P [some 0] (by kernel_rfl)) (q_loadP1 a_c 1 (by kernel_rfl) hc_c (by kernel_rfl) (by kernel_rfl)) ?_
      refine wpa_take0 20 [true, true, true, true, true, true, true, true, true, true, true, true, true, true, true, true, true, true, true, true, true, false] 26 (.binOp .neq 2 (.tmp 21) (.tmp 25) 2) 4 (Value.bool (((((c.parts).length : Nat) : Int) != c.count))) RG (Runs.guarded (j := 10) (t := 16) (b := false) (by kernel_rfl) (by kernel_rfl) (by kernel_rfl)) (by kernel_rfl) (by kernel_rfl) (fun _ => (y_pure (by kernel_rfl) (fun _ => by kernel_rfl))) ?_
      refine wpa_take0 21 [true, true, true, true, true, true, true, true, true, true, true, true, true, true, true, true, true, true, true, true, true, true] 27 (.pick (.tmp 16) (.const (Value.bool (true))) (.tmp 26)) 4 (Value.bool (((((c.parts).length : Nat) : Int) != c.count))) RG (Runs.plain (by kernel_rfl)) (by kernel_rfl) (by kernel_rfl) (fun _ => (y_pickF (by kernel_rfl) (by kernel_rfl))) ?_
      refine wpq_re 27 (v := Value.bool (((((c.parts).length : Nat) : Int) != c.count))) (Value.bool ((((((c.parts).length : Nat) : Int) == 0) || ((((c.parts).length : Nat) : Int) != c.count)))) (by kernel_rfl) (re_or0 q2) ?_
      exact wpq_sub _ (by kernel_rfl) hk10
  · refine wpa_done (by kernel_rfl) ?_
    refine wpq_then ?_
    -- condition 0
    refine wpc_cond (x := F35_9) (y := F35_10) (o := (.tmp 27)) (b := (((((c.parts).length : Nat) : Int) == 0) || ((((c.parts).length : Nat) : Int) != c.count))) (by kernel_rfl) (by kernel_rfl) (fun h0 => ?_) (fun h0 => ?_)
    · refine wpc_seq (x := F35_11) (y := F35_12) (by kernel_rfl) ?_
      refine wpc_region (ops := R35_11) (id := 2) (by kernel_rfl) ?_
      refine wpr_val 1 28 (.build 90 #[]) 90 (Value.agg #[Value.int .i64 (0), Value.slice none 0 0, Value.slice none 0 0]) (Runs.plain (by kernel_rfl)) (by kernel_rfl) (y_pure (by kernel_rfl) (fun _ => by kernel_rfl)) ?_
      refine wpr_do 2 (.store 90 (.tmp 2) (.tmp 28)) 0 (Runs.plain (by kernel_rfl)) (by kernel_rfl) (q_store b1 0 0 (Value.agg #[Value.int .i64 (0), Value.slice none 0 0, Value.slice none 0 0]) [Value.int .i64 (0), Value.slice none 0 0, Value.slice none 0 0] 90 [Value.int .i64 (0), Value.slice none 0 0, Value.slice none 0 0] [Value.int .i64 (0), Value.slice none 0 0, Value.slice none 0 0] (by kernel_rfl) (by kernel_rfl) (by kernel_rfl) (by kernel_rfl) (by kernel_rfl) (by kernel_rfl) (by kernel_rfl)) ?_
      rintro _ _ _ - ⟨rfl, rfl⟩
      refine wpr_val 3 3 (.assign (.const (Value.bool (false)))) 4 (Value.bool (false)) (Runs.plain (by kernel_rfl)) (by kernel_rfl) (y_assign (by kernel_rfl)) ?_
      refine wpr_end (by kernel_rfl) ?_
      refine wpq_then ?_
      refine wpc_ret (rs := [.cell 2 90, .tmp 3]) [Value.agg #[Value.int .i64 (0), Value.slice none 0 0, Value.slice none 0 0], Value.bool (false)] [] (by kernel_rfl) (fun _ _ h => h) (by kernel_rfl) (rq_cellA b1 0 0 [Value.int .i64 (0), Value.slice none 0 0, Value.slice none 0 0] (by kernel_rfl) (by kernel_rfl) (by kernel_rfl) (res_tmp (by kernel_rfl) res_nil)) L0 keep0 ?_
      have eS : (jobS c) = ((⟨(0 : Int), ([] : List UInt8), ([] : List Sett)⟩ : Job), (false)) := by
        unfold jobS; rw [h0]; rfl
      rw [eS]
      exact ⟨rfl, none, 0, none, 0, rfl, Arr.nil, Arr.nil⟩
    · have h0l := (or_false_ h0).1
      have h0r := (or_false_ h0).2
      have h0lp : ¬ ((((c.parts).length : Nat) : Int) = 0) := ne_of_beq_false_ h0l
      have h0rp : (((c.parts).length : Nat) : Int) = c.count := eq_of_bne_false_ h0r
      refine wpc_skip (by kernel_rfl) ?_
      refine wpq_then ?_
      refine wpc_seq (x := F35_14) (y := F35_15) (by kernel_rfl) ?_
      refine wpc_region (ops := R35_14) (id := 3) (by kernel_rfl) ?_
      refine wpr_val 1 29 (.move (.tmp 0)) 72 (Value.pointer (some a_c)) (Runs.plain (by kernel_rfl)) (by kernel_rfl) (y_move (by kernel_rfl)) ?_
      refine wpr_val 2 30 (.nilCheck (.tmp 29)) 0 (Value.pointer (some a_c)) (Runs.plain (by kernel_rfl)) (by kernel_rfl) (y_pure (by kernel_rfl) (fun _ => by kernel_rfl)) ?_
      refine wpr_val 3 31 (.fieldAddr 114 (.tmp 30) 3) 0 (Value.pointer (some (Addr.add a_c 3))) (Runs.plain (by kernel_rfl)) (by kernel_rfl) (y_pure (by kernel_rfl) (fun _ => by kernel_rfl)) ?_
      refine wpr_val 4 32 (.load 88 (.tmp 31)) 88 (Value.slice Ac_sets (c.sets).length cc_sets) (Runs.plain (by kernel_rfl)) (by kernel_rfl) (q_loadP1 a_c 3 (by kernel_rfl) hc_c (by kernel_rfl) (by kernel_rfl)) ?_
      refine wpr_eff 5 33 (.call { callee := .value (.func 49), args := #[(.tmp 32)], argTypes := #[88] }) 88 (Runs.plain (by kernel_rfl)) (by kernel_rfl) (e_callM (sel := []) [Value.slice Ac_sets (c.sets).length cc_sets] [] (by kernel_rfl) (by kernel_rfl) (by kernel_rfl) (fun g' lr eb ln => c49 g' (c.sets : List Sett) Ac_sets cc_sets (ArrM.lent fc_sets lr eb) (by omega))) ?_
      rintro _ g4 _ le5 ⟨_, rfl, A3_0, c3_0, k3_0, rfl, rfl, h3_0⟩
      have hc_c := hc_c.mono le5.r
      have fc_parts := fc_parts.mono le5.r le5.b
      have fc_sets := fc_sets.mono le5.r le5.b
      have L0 := L0.trans le5
      refine wpq_own [k3_0, some ⟨b1, 90, [Value.int .i64 (0), Value.slice none 0 0, Value.slice none 0 0]⟩] (by kernel_rfl) ?_
      have nh3_0 := h3_0.len
      refine wpr_val 6 4 (.assign (.tmp 33)) 88 (Value.slice A3_0 (( (c.sets : List Sett))).length c3_0) (Runs.plain (by kernel_rfl)) (by kernel_rfl) (y_assign (by kernel_rfl)) ?_
      refine wpr_end (by kernel_rfl) ?_
      refine wpq_then ?_
      refine wpq_sub [(0, Value.pointer (some a_c)), (2, Value.pointer (some ⟨b1, 0, none⟩)), (4, Value.slice A3_0 (( (c.sets : List Sett))).length c3_0)] (by kernel_rfl) ?_
      refine wpc_seq (x := F35_17) (y := F35_18) (by kernel_rfl) ?_
      refine wpc_seq (x := F35_19) (y := F35_20) (by kernel_rfl) ?_
      refine wpc_region (ops := R35_19) (id := 4) (by kernel_rfl) ?_
      refine wpr_val 1 34 (.move (.tmp 4)) 88 (Value.slice A3_0 (( (c.sets : List Sett))).length c3_0) (Runs.plain (by kernel_rfl)) (by kernel_rfl) (y_move (by kernel_rfl)) ?_
      refine wpr_val 2 35 (.call { callee := .builtin .len, args := #[(.tmp 34)], argTypes := #[88] }) 3 (Value.int .i64 ((((( (c.sets : List Sett))).length : Nat) : Int))) (Runs.plain (by kernel_rfl)) (by kernel_rfl) (y_pure (by kernel_rfl) (fun _ => by kernel_rfl)) ?_
      refine wpr_val 3 36 (.move (.const (Value.int .i64 (0)))) 3 (Value.int .i64 (0)) (Runs.plain (by kernel_rfl)) (by kernel_rfl) (y_move (by kernel_rfl)) ?_
      refine wpr_end (by kernel_rfl) ?_
      refine wpq_then ?_
      refine wpc_block (x := F35_22) (id := 0) (by kernel_rfl) ?_
      refine wpq_sub [(0, Value.pointer (some a_c)), (2, Value.pointer (some ⟨b1, 0, none⟩)), (4, Value.slice A3_0 (( (c.sets : List Sett))).length c3_0), (35, Value.int .i64 ((((( (c.sets : List Sett))).length : Nat) : Int))), (36, Value.int .i64 (0))] (by kernel_rfl) ?_
      -- loop 0
      refine wpc_loop (x := F35_23) (by kernel_rfl) (fun g own sl m => ∃ (k : Nat) (sets : List Sett) (Asets : Option Addr) (csets : Nat) (ksets : Option Bk), own = [ksets, some ⟨b1, 90, [Value.int .i64 (0), Value.slice none 0 0, Value.slice none 0 0]⟩] ∧ sl = [(0, Value.pointer (some a_c)), (2, Value.pointer (some ⟨b1, 0, none⟩)), (4, Value.slice Asets (sets).length csets), (35, Value.int .i64 ((((( (c.sets : List Sett))).length : Nat) : Int))), (36, Value.int .i64 ((k : Int)))] ∧ m = c.sets.length - k ∧ Buf g.b tySett 79 (.slice Asets sets.length csets) ksets sets ∧ (k ≤ c.sets.length) ∧ (sets = c.sets)) _ ⟨0, ( (c.sets : List Sett)), A3_0, c3_0, k3_0, rfl, rfl, rfl, h3_0, by omega, rfl⟩ ?_
      rintro g6 _ _ _ le7 ⟨k, sets, Asets, csets, ksets, rfl, rfl, rfl, hsets, hk, he⟩ QrL0 hQL0
      have hc_c := hc_c.mono le7.r
      have fc_parts := fc_parts.mono le7.r le7.b
      have fc_sets := fc_sets.mono le7.r le7.b
      have h3_0 := h3_0.mono le7.b
      have L0 := L0.trans le7
      have nhsets := hsets.len
      have LHL0 := Gh.le.refl g6
      refine wpc_seq (x := F35_24) (y := F35_25) (by kernel_rfl) ?_
      refine wpc_region (ops := R35_24) (id := 5) (by kernel_rfl) ?_
      refine wpr_val 1 37 (.binOp .lss 3 (.tmp 36) (.tmp 35) 3) 0 (Value.bool (decide ((k : Int) < (((( (c.sets : List Sett))).length : Nat) : Int)))) (Runs.plain (by kernel_rfl)) (by kernel_rfl) (y_pure (by kernel_rfl) (fun _ => by kernel_rfl)) ?_
      refine wpr_end (by kernel_rfl) ?_
      refine wpq_then ?_
      refine wpc_seq (x := F35_27) (y := F35_28) (by kernel_rfl) ?_
      -- condition 1
      refine wpc_cond (x := F35_29) (y := F35_30) (o := (.tmp 37)) (b := decide ((k : Int) < (((( (c.sets : List Sett))).length : Nat) : Int))) (by kernel_rfl) (by kernel_rfl) (fun h1 => ?_) (fun h1 => ?_)
      · have h1p := of_decide_eq_true h1
        refine wpc_skip (by kernel_rfl) ?_
        refine wpq_then ?_
        refine wpc_seq (x := F35_31) (y := F35_32) (by kernel_rfl) ?_
        refine wpc_block (x := F35_33) (id := 1) (by kernel_rfl) ?_
        refine wpc_seq (x := F35_34) (y := F35_35) (by kernel_rfl) ?_
        refine wpc_region (ops := R35_34) (id := 6) (by kernel_rfl) ?_
        refine wpr_val 1 38 (.move (.tmp 36)) 3 (Value.int .i64 ((k : Int))) (Runs.plain (by kernel_rfl)) (by kernel_rfl) (y_move (by kernel_rfl)) ?_
        refine wpr_val 2 5 (.assign (.tmp 38)) 3 (Value.int .i64 ((k : Int))) (Runs.plain (by kernel_rfl)) (by kernel_rfl) (y_assign (by kernel_rfl)) ?_
        refine wpr_end (by kernel_rfl) ?_
        refine wpq_then ?_
        refine wpc_region (ops := R35_35) (id := 7) (by kernel_rfl) ?_
        refine wpr_val 1 39 (.move (.tmp 4)) 88 (Value.slice Asets (sets).length csets) (Runs.plain (by kernel_rfl)) (by kernel_rfl) (y_move (by kernel_rfl)) ?_
        refine wpr_val 2 40 (.move (.tmp 5)) 3 (Value.int .i64 ((k : Int))) (Runs.plain (by kernel_rfl)) (by kernel_rfl) (y_move (by kernel_rfl)) ?_
        refine wpr_val 3 41 (.move (.tmp 4)) 88 (Value.slice Asets (sets).length csets) (Runs.plain (by kernel_rfl)) (by kernel_rfl) (y_move (by kernel_rfl)) ?_
        refine wpr_val 4 42 (.move (.tmp 5)) 3 (Value.int .i64 ((k : Int))) (Runs.plain (by kernel_rfl)) (by kernel_rfl) (y_move (by kernel_rfl)) ?_
        have hi8 : k < (sets).length := by (have := congrArg List.length he; omega)
        obtain ⟨kb8, cs8, hA8, hk8, hr8, hw8⟩ := hsets.open_ hi8 default
        subst hk8
        obtain ⟨A8_in_, c8_in_, rfl, f8_in_⟩ := hr8
        have nf8_in_ := f8_in_.len
        refine wpr_val 5 43 (.indexAddr 88 (.tmp 41) (.tmp 42)) 0 (Value.pointer (some ⟨kb8.g, k * 4 + 0, none⟩)) (Runs.plain (by kernel_rfl)) (by kernel_rfl) (q_indexB (e := 79) (sz := 4) (len := (sets).length) (c := csets) k kb8.g (k := .i64) (z := (k : Int)) hA8 (by kernel_rfl) (by kernel_rfl) rfl hi8 (by kernel_rfl) (by kernel_rfl)) ?_
        refine wpr_val 6 44 (.fieldAddr 79 (.tmp 43) 3) 0 (Value.pointer (some ⟨kb8.g, k * 4 + 3, none⟩)) (Runs.plain (by kernel_rfl)) (by kernel_rfl) (y_pure (by kernel_rfl) (fun _ => by kernel_rfl)) ?_
        refine wpr_val 7 45 (.load 22 (.tmp 44)) 22 (Value.slice A8_in_ ((List.getD sets k default).in_).length c8_in_) (Runs.plain (by kernel_rfl)) (by kernel_rfl) (y_loadB1 (cs := [Value.int .i64 ((List.getD sets k default).steps), Value.int .i64 ((List.getD sets k default).cycle), Value.bool ((List.getD sets k default).fresh), Value.slice A8_in_ ((List.getD sets k default).in_).length c8_in_]) k 4 3 0 (by kernel_rfl) (by kernel_rfl) hw8 (by kernel_rfl) (by kernel_rfl)) ?_
        refine wpr_eff 8 46 (.call { callee := .value (.func 42), args := #[(.tmp 45)], argTypes := #[22] }) 22 (Runs.plain (by kernel_rfl)) (by kernel_rfl) (e_call [Value.slice A8_in_ ((List.getD sets k default).in_).length c8_in_] (by kernel_rfl) (by kernel_rfl) (fun g' lr eb ln => c42 g' ((List.getD sets k default).in_ : List UInt8) A8_in_ c8_in_ ((f8_in_.mono g6.br).mono lr))) ?_
        rintro _ g10 _ le11 ⟨rfl, A9_0, c9_0, rfl, f9_0⟩
        have hc_c := hc_c.mono le11.r
        have fc_parts := fc_parts.mono le11.r le11.b
        have fc_sets := fc_sets.mono le11.r le11.b
        have h3_0 := h3_0.mono le11.b
        have hsets := hsets.mono le11.b
        have f8_in_ := f8_in_.mono le11.b
        have L0 := L0.trans le11
        have LHL0 := LHL0.trans le11
        have nf9_0 := f9_0.len
        have hi12 : k < (sets).length := by (have := congrArg List.length he; simp only [List.length_set] at *; omega)
        obtain ⟨kc12, cs12, hA12, hk12, hr12, hw12⟩ := hsets.open_ hi12 default
        cases hk12
        obtain ⟨A12_in_, c12_in_, rfl, f12_in_⟩ := hr12
        have nf12_in_ := f12_in_.len
        refine wpr_val 9 47 (.indexAddr 88 (.tmp 39) (.tmp 40)) 0 (Value.pointer (some ⟨kb8.g, k * 4 + 0, none⟩)) (Runs.plain (by kernel_rfl)) (by kernel_rfl) (q_indexB (e := 79) (sz := 4) (len := (sets).length) (c := csets) k kb8.g (k := .i64) (z := (k : Int)) hA12 (by kernel_rfl) (by kernel_rfl) rfl hi12 (by kernel_rfl) (by kernel_rfl)) ?_
        refine wpr_val 10 48 (.fieldAddr 79 (.tmp 47) 3) 0 (Value.pointer (some ⟨kb8.g, k * 4 + 3, none⟩)) (Runs.plain (by kernel_rfl)) (by kernel_rfl) (y_pure (by kernel_rfl) (fun _ => by kernel_rfl)) ?_
        refine wpr_do 11 (.store 22 (.tmp 48) (.tmp 46)) 0 (Runs.plain (by kernel_rfl)) (by kernel_rfl) (e_storeB (T := tySett) (p := g10.b) (cs := [Value.int .i64 ((List.getD sets k default).steps), Value.int .i64 ((List.getD sets k default).cycle), Value.bool ((List.getD sets k default).fresh), Value.slice A12_in_ ((List.getD sets k default).in_).length c12_in_]) k 4 3 0 (Value.slice A9_0 ((idL ((List.getD sets k default).in_ : List UInt8))).length c9_0) [Value.slice A9_0 ((idL ((List.getD sets k default).in_ : List UInt8))).length c9_0] sets (⟨((List.getD sets k default).steps : Int), ((List.getD sets k default).cycle : Int), ((List.getD sets k default).fresh), ((idL ((List.getD sets k default).in_ : List UInt8)) : List UInt8)⟩ : Sett) (by kernel_rfl) (by kernel_rfl) (by kernel_rfl) (by kernel_rfl) (by kernel_rfl) (by kernel_rfl) hsets rfl hw12 ⟨A9_0, c9_0, rfl, f9_0⟩ (by kernel_rfl) hi12) ?_
        rintro _ _ _ - ⟨k13, rfl, rfl, hb13⟩
        have hz13 : ((List.set sets k (⟨((List.getD sets k default).steps : Int), ((List.getD sets k default).cycle : Int), ((List.getD sets k default).fresh), ((idL ((List.getD sets k default).in_ : List UInt8)) : List UInt8)⟩ : Sett))).length = (sets).length := List.length_set
        refine wpr_end (by kernel_rfl) ?_
        refine wpq_blockN ?_
        refine wpq_then ?_
        refine wpq_sub [(0, Value.pointer (some a_c)), (2, Value.pointer (some ⟨b1, 0, none⟩)), (4, Value.slice Asets (sets).length csets), (35, Value.int .i64 ((((( (c.sets : List Sett))).length : Nat) : Int))), (36, Value.int .i64 ((k : Int)))] (by kernel_rfl) ?_
        refine wpc_region (ops := R35_32) (id := 8) (by kernel_rfl) ?_
        refine wpr_val 1 49 (.binOp .add 3 (.tmp 36) (.const (Value.int .i64 (1))) 3) 3 (Value.int .i64 (((k : Int) + 1))) (Runs.plain (by kernel_rfl)) (by kernel_rfl) (y_add (by kernel_rfl) (by kernel_rfl) (wr64 (by omega))) ?_
        refine wpr_val 2 36 (.move (.tmp 49)) 3 (Value.int .i64 (((k : Int) + 1))) (Runs.plain (by kernel_rfl)) (by kernel_rfl) (y_move (by kernel_rfl)) ?_
        refine wpr_end (by kernel_rfl) ?_
        refine wpq_thenN ?_
        refine wpq_re 36 (v := Value.int .i64 (((k : Int) + 1))) (Value.int .i64 ((((k + 1) : Nat) : Int))) (by kernel_rfl) (congrArg (Value.int .i64) (by omega)) ?_
        refine wpq_re 4 (v := Value.slice Asets (sets).length csets) (Value.slice Asets ((List.set sets k (⟨((List.getD sets k default).steps : Int), ((List.getD sets k default).cycle : Int), ((List.getD sets k default).fresh), ((idL ((List.getD sets k default).in_ : List UInt8)) : List UInt8)⟩ : Sett))).length csets) (by kernel_rfl) (congrArg (fun z => Value.slice Asets z csets) (by simp only [List.length_set])) ?_
        refine wpq_sub [(0, Value.pointer (some a_c)), (2, Value.pointer (some ⟨b1, 0, none⟩)), (4, Value.slice Asets ((List.set sets k (⟨((List.getD sets k default).steps : Int), ((List.getD sets k default).cycle : Int), ((List.getD sets k default).fresh), ((idL ((List.getD sets k default).in_ : List UInt8)) : List UInt8)⟩ : Sett))).length csets), (35, Value.int .i64 ((((( (c.sets : List Sett))).length : Nat) : Int))), (36, Value.int .i64 ((((k + 1) : Nat) : Int)))] (by kernel_rfl) ?_
        exact hQL0 _ _ _ (c.sets.length - ((k + 1))) LHL0 (by omega) ⟨(k + 1), (List.set sets k (⟨((List.getD sets k default).steps : Int), ((List.getD sets k default).cycle : Int), ((List.getD sets k default).fresh), ((idL ((List.getD sets k default).in_ : List UInt8)) : List UInt8)⟩ : Sett)), Asets, csets, k13, rfl, rfl, rfl, (by simp only [List.length_set]; exact hb13), by omega, (set_getD_same (d := default)).trans he⟩
      · have h1p := of_decide_eq_false h1
        refine wpc_exit (id := 0) (by kernel_rfl) ?_
        refine wpq_thenX ?_
        refine wpq_thenX ?_
        refine wpq_blockE ?_
        refine wpq_then ?_
        refine wpc_seq (x := F35_39) (y := F35_40) (by kernel_rfl) ?_
        refine wpa_start (ops := R35_39) (id := 9) (by kernel_rfl) (by kernel_rfl) [3, 7] [11, 12] [] (by kernel_rfl) (by kernel_rfl) (fun _ _ _ _ _ h => h) 13 (by kernel_rfl) (fun RG => ?_)
        have lp := Psi.le.refl g6.r
        refine wpa_take0 0 [true, false, false, false, false, false, false, false, false, false, false, false, false] 50 (.move (.tmp 0)) 72 (Value.pointer (some a_c)) RG (Runs.plain (by kernel_rfl)) (by kernel_rfl) (by kernel_rfl) (fun _ => (y_move (by kernel_rfl))) ?_
        refine wpa_take0 1 [true, true, false, false, false, false, false, false, false, false, false, false, false] 51 (.nilCheck (.tmp 50)) 0 (Value.pointer (some a_c)) RG (Runs.plain (by kernel_rfl)) (by kernel_rfl) (by kernel_rfl) (fun _ => (y_pure (by kernel_rfl) (fun _ => by kernel_rfl))) ?_
        refine wpa_take0 2 [true, true, true, false, false, false, false, false, false, false, false, false, false] 52 (.fieldAddr 114 (.tmp 51) 0) 0 (Value.pointer (some a_c)) RG (Runs.plain (by kernel_rfl)) (by kernel_rfl) (by kernel_rfl) (fun _ => (y_pure (by kernel_rfl) (fun _ => by kernel_rfl))) ?_
        refine wpa_take 3 [true, true, true, true, false, false, false, false, false, false, false, false, false] 53 (.load 2 (.tmp 52)) 2 (Value.int .i64 (c.base)) RG (Runs.plain (by kernel_rfl)) (by kernel_rfl) (by kernel_rfl) lp (keepK_P [] (by kernel_rfl)) (q_loadP1 a_c 0 (by kernel_rfl) hc_c (by kernel_rfl) (by kernel_rfl)) ?_
        refine wpa_take0 4 [true, true, true, true, true, false, false, false, false, false, false, false, false] 54 (.move (.tmp 0)) 72 (Value.pointer (some a_c)) RG (Runs.plain (by kernel_rfl)) (by kernel_rfl) (by kernel_rfl) (fun _ => (y_move (by kernel_rfl))) ?_
        refine wpa_take0 5 [true, true, true, true, true, true, false, false, false, false, false, false, false] 55 (.nilCheck (.tmp 54)) 0 (Value.pointer (some a_c)) RG (Runs.plain (by kernel_rfl)) (by kernel_rfl) (by kernel_rfl) (fun _ => (y_pure (by kernel_rfl) (fun _ => by kernel_rfl))) ?_
        refine wpa_take0 6 [true, true, true, true, true, true, true, false, false, false, false, false, false] 56 (.fieldAddr 114 (.tmp 55) 2) 0 (Value.pointer (some (Addr.add a_c 2))) RG (Runs.plain (by kernel_rfl)) (by kernel_rfl) (by kernel_rfl) (fun _ => (y_pure (by kernel_rfl) (fun _ => by kernel_rfl))) ?_
        refine wpa_take 7 [true, true, true, true, true, true, true, true, false, false, false, false, false] 57 (.load 74 (.tmp 56)) 74 (Value.slice Ac_parts (c.parts).length cc_parts) RG (Runs.plain (by kernel_rfl)) (by kernel_rfl) (by kernel_rfl) lp (keepK_P [] (by kernel_rfl)) (q_loadP1 a_c 2 (by kernel_rfl) hc_c (by kernel_rfl) (by kernel_rfl)) ?_
        refine wpa_take0 9 [true, true, true, true, true, true, true, true, false, true, false, false, false] 59 (.move (.tmp 4)) 88 (Value.slice Asets (sets).length csets) RG (Runs.plain (by kernel_rfl)) (by kernel_rfl) (by kernel_rfl) (fun _ => (y_move (by kernel_rfl))) ?_
        refine wpa_one 8 (by kernel_rfl) ?_
        refine wpi_eff [true, true, true, true, true, true, true, true, true, true, false, false, false] 58 (.call { callee := .value (.func 50), args := #[(.tmp 57)], argTypes := #[74] }) 22 (Runs.plain (by kernel_rfl)) (by kernel_rfl) lp (e_call [Value.slice Ac_parts (c.parts).length cc_parts] (by kernel_rfl) (by kernel_rfl) (fun g' lr eb ln => c50 g' (c.parts : List (List UInt8)) Ac_parts cc_parts ((fc_parts.toArr g6.br).mono lr) (by omega))) (by kernel_rfl) ?_
        rintro _ g15 _ le16 ⟨rfl, A14_0, c14_0, rfl, f14_0⟩
        refine ⟨.inr (keepK_P [] (by kernel_rfl)), ?_⟩
        have hc_c := hc_c.mono le16.r
        have fc_parts := fc_parts.mono le16.r le16.b
        have fc_sets := fc_sets.mono le16.r le16.b
        have h3_0 := h3_0.mono le16.b
        have hsets := hsets.mono le16.b
        have L0 := L0.trans le16
        have LHL0 := LHL0.trans le16
        have lp := lp.trans le16.r
        have nf14_0 := f14_0.len
        refine wpa_take0 10 [true, true, true, true, true, true, true, true, true, true, true, false, false] 60 (.build 90 #[(0, (.tmp 53)), (1, (.tmp 58)), (2, (.tmp 59))]) 90 (Value.agg #[Value.int .i64 (c.base), Value.slice A14_0 ((concatS (c.parts : List (List UInt8)))).length c14_0, Value.slice Asets (sets).length csets]) RG (Runs.plain (by kernel_rfl)) (by kernel_rfl) (by kernel_rfl) (fun _ => (y_pure (by kernel_rfl) (fun _ => by kernel_rfl))) ?_
        refine wpa_one 11 (by kernel_rfl) ?_
        refine wpi_do [true, true, true, true, true, true, true, true, true, true, true, true, false] (.store 90 (.tmp 2) (.tmp 60)) 0 (Runs.plain (by kernel_rfl)) lp (q_store b1 0 1 (Value.agg #[Value.int .i64 (c.base), Value.slice A14_0 ((concatS (c.parts : List (List UInt8)))).length c14_0, Value.slice Asets (sets).length csets]) [Value.int .i64 (c.base), Value.slice A14_0 ((concatS (c.parts : List (List UInt8)))).length c14_0, Value.slice Asets (sets).length csets] 90 [Value.int .i64 (0), Value.slice none 0 0, Value.slice none 0 0] [Value.int .i64 (c.base), Value.slice A14_0 ((concatS (c.parts : List (List UInt8)))).length c14_0, Value.slice Asets (sets).length csets] (by kernel_rfl) (by kernel_rfl) (by kernel_rfl) (by kernel_rfl) (by kernel_rfl) (by kernel_rfl) (by kernel_rfl)) (by kernel_rfl) ?_
        rintro _ _ _ - ⟨rfl, rfl⟩
        refine ⟨.inl (by kernel_rfl), ?_⟩
        refine wpa_take0 12 [true, true, true, true, true, true, true, true, true, true, true, true, true] 3 (.assign (.const (Value.bool (true)))) 4 (Value.bool (true)) RG (Runs.plain (by kernel_rfl)) (by kernel_rfl) (by kernel_rfl) (fun _ => (y_assign (by kernel_rfl))) ?_
        refine wpa_done (by kernel_rfl) ?_
        refine wpq_then ?_
        refine wpq_sub [(2, Value.pointer (some ⟨b1, 0, none⟩)), (3, Value.bool (true))] (by kernel_rfl) ?_
        refine wpq_freeze 0 (by kernel_rfl) hsets (fun g17 le18 f19 => ?_)
        have hc_c := hc_c.mono le18.r
        have fc_parts := fc_parts.mono le18.r le18.b
        have fc_sets := fc_sets.mono le18.r le18.b
        have h3_0 := h3_0.mono le18.b
        have f14_0 := f14_0.mono le18.b
        have L0 := L0.trans le18
        have LHL0 := LHL0.trans le18
        refine wpc_ret (rs := [.cell 2 90, .tmp 3]) [Value.agg #[Value.int .i64 (c.base), Value.slice A14_0 ((concatS (c.parts : List (List UInt8)))).length c14_0, Value.slice Asets (sets).length csets], Value.bool (true)] [] (by kernel_rfl) (fun _ _ h => h) (by kernel_rfl) (rq_cellA b1 0 1 [Value.int .i64 (c.base), Value.slice A14_0 ((concatS (c.parts : List (List UInt8)))).length c14_0, Value.slice Asets (sets).length csets] (by kernel_rfl) (by kernel_rfl) (by kernel_rfl) (res_tmp (by kernel_rfl) res_nil)) L0 keep0 ?_
        have eS : (jobS c) = ((⟨(c.base : Int), ((concatS (c.parts : List (List UInt8))) : List UInt8), (sets : List Sett)⟩ : Job), (true)) := by
          unfold jobS; rw [h0]; exact jobS_end he
        rw [eS]
        exact ⟨rfl, A14_0, c14_0, Asets, csets, rfl, f14_0, f19⟩

noncomputable def F36_0 : Code := sub (Try.f36.body.getD .skip) []
noncomputable def F36_1 : Code := sub (Try.f36.body.getD .skip) [0]
noncomputable def F36_2 : Code := sub (Try.f36.body.getD .skip) [1]
noncomputable def R36_1 : Array Oper := regOf F36_1
noncomputable def F36_4 : Code := sub (Try.f36.body.getD .skip) [1, 0]
noncomputable def F36_5 : Code := sub (Try.f36.body.getD .skip) [1, 1]
noncomputable def F36_6 : Code := sub (Try.f36.body.getD .skip) [1, 0, 0]
noncomputable def F36_7 : Code := sub (Try.f36.body.getD .skip) [1, 0, 1]
noncomputable def R36_6 : Array Oper := regOf F36_6
noncomputable def F36_9 : Code := sub (Try.f36.body.getD .skip) [1, 0, 1, 0]
noncomputable def F36_10 : Code := sub (Try.f36.body.getD .skip) [1, 0, 1, 1]
noncomputable def F36_11 : Code := sub (Try.f36.body.getD .skip) [1, 0, 1, 0, 0]
noncomputable def F36_12 : Code := sub (Try.f36.body.getD .skip) [1, 0, 1, 0, 1]
noncomputable def R36_11 : Array Oper := regOf F36_11
noncomputable def F36_14 : Code := sub (Try.f36.body.getD .skip) [1, 1, 0]
noncomputable def F36_15 : Code := sub (Try.f36.body.getD .skip) [1, 1, 1]
noncomputable def R36_14 : Array Oper := regOf F36_14
noncomputable def F36_17 : Code := sub (Try.f36.body.getD .skip) [1, 1, 1, 0]
noncomputable def F36_18 : Code := sub (Try.f36.body.getD .skip) [1, 1, 1, 1]
noncomputable def F36_19 : Code := sub (Try.f36.body.getD .skip) [1, 1, 1, 0, 0]
noncomputable def F36_20 : Code := sub (Try.f36.body.getD .skip) [1, 1, 1, 0, 1]
noncomputable def R36_19 : Array Oper := regOf F36_19
noncomputable def F36_22 : Code := sub (Try.f36.body.getD .skip) [1, 1, 1, 0, 1, 0]
noncomputable def F36_23 : Code := sub (Try.f36.body.getD .skip) [1, 1, 1, 0, 1, 0, 0]
noncomputable def F36_24 : Code := sub (Try.f36.body.getD .skip) [1, 1, 1, 0, 1, 0, 0, 0]
noncomputable def F36_25 : Code := sub (Try.f36.body.getD .skip) [1, 1, 1, 0, 1, 0, 0, 1]
noncomputable def R36_24 : Array Oper := regOf F36_24
noncomputable def F36_27 : Code := sub (Try.f36.body.getD .skip) [1, 1, 1, 0, 1, 0, 0, 1, 0]
noncomputable def F36_28 : Code := sub (Try.f36.body.getD .skip) [1, 1, 1, 0, 1, 0, 0, 1, 1]
noncomputable def F36_29 : Code := sub (Try.f36.body.getD .skip) [1, 1, 1, 0, 1, 0, 0, 1, 0, 0]
noncomputable def F36_30 : Code := sub (Try.f36.body.getD .skip) [1, 1, 1, 0, 1, 0, 0, 1, 0, 1]
noncomputable def F36_31 : Code := sub (Try.f36.body.getD .skip) [1, 1, 1, 0, 1, 0, 0, 1, 1, 0]
noncomputable def F36_32 : Code := sub (Try.f36.body.getD .skip) [1, 1, 1, 0, 1, 0, 0, 1, 1, 1]
noncomputable def F36_33 : Code := sub (Try.f36.body.getD .skip) [1, 1, 1, 0, 1, 0, 0, 1, 1, 0, 0]
noncomputable def F36_34 : Code := sub (Try.f36.body.getD .skip) [1, 1, 1, 0, 1, 0, 0, 1, 1, 0, 0, 0]
noncomputable def F36_35 : Code := sub (Try.f36.body.getD .skip) [1, 1, 1, 0, 1, 0, 0, 1, 1, 0, 0, 1]
noncomputable def R36_34 : Array Oper := regOf F36_34
noncomputable def R36_35 : Array Oper := regOf F36_35
noncomputable def R36_32 : Array Oper := regOf F36_32
noncomputable def F36_39 : Code := sub (Try.f36.body.getD .skip) [1, 1, 1, 1, 0]
noncomputable def F36_40 : Code := sub (Try.f36.body.getD .skip) [1, 1, 1, 1, 1]
noncomputable def R36_39 : Array Oper := regOf F36_39
set_option maxRecDepth 100000 in
theorem c36 (g : Gh) (c : Coll) (Ac_parts : Option Addr) (cc_parts : Nat) (Ac_sets : Option Addr) (cc_sets : Nat) (fc_parts : Arr g.b (tyArr tyU8) Ac_parts cc_parts c.parts) (fc_sets : Arr g.b tySett Ac_sets cc_sets c.sets) (hF : c.parts.flatten.length ≤ 1000000000) :
    Ctr0 Try.prog 36 [Value.agg #[Value.int .i64 (c.base), Value.int .i64 (c.count), Value.slice Ac_parts (c.parts).length cc_parts, Value.slice Ac_sets (c.sets).length cc_sets]] g (fun v ψ => ∃ (Ar0_snapshot : Option Addr) (cr0_snapshot : Nat) (Ar0_sets : Option Addr) (cr0_sets : Nat), v = Value.tuple #[Value.agg #[Value.int .i64 ((readyS c).1.base), Value.slice Ar0_snapshot ((readyS c).1.snapshot).length cr0_snapshot, Value.slice Ar0_sets ((readyS c).1.sets).length cr0_sets], Value.bool ((readyS c).2)] ∧ Arr ψ tyU8 Ar0_snapshot cr0_snapshot (readyS c).1.snapshot ∧ Arr ψ tySett Ar0_sets cr0_sets (readyS c).1.sets) := by
  refine ctr_of Try.f36 F36_0 39 [Value.agg #[Value.int .i64 (c.base), Value.int .i64 (c.count), Value.slice Ac_parts (c.parts).length cc_parts, Value.slice Ac_sets (c.sets).length cc_sets]] (by kernel_rfl) (by kernel_rfl) (by kernel_rfl) (by kernel_rfl) ?_
  have L0 := Gh.le.refl g
  have nfc_parts := fc_parts.len
  have nfc_sets := fc_sets.len
  refine wpc_seq (x := F36_1) (y := F36_2) (by kernel_rfl) ?_
  refine wpc_region (ops := R36_1) (id := 0) (by kernel_rfl) ?_
  refine wpr_eff 1 1 (.box 77 (.tmp 0)) 0 (Runs.plain (by kernel_rfl)) (by kernel_rfl) (e_box (v := Value.agg #[Value.int .i64 (c.base), Value.int .i64 (c.count), Value.slice Ac_parts (c.parts).length cc_parts, Value.slice Ac_sets (c.sets).length cc_sets]) (cs := [Value.int .i64 (c.base), Value.int .i64 (c.count), Value.slice Ac_parts (c.parts).length cc_parts, Value.slice Ac_sets (c.sets).length cc_sets]) (by kernel_rfl) (by kernel_rfl)) ?_
  rintro _ _ _ - ⟨b1, rfl, rfl, rfl⟩
  refine wpr_eff 2 2 (.alloc 94) 0 (Runs.plain (by kernel_rfl)) (by kernel_rfl) (e_alloc (cs := [Value.int .i64 (0), Value.slice none 0 0, Value.slice none 0 0]) (by kernel_rfl)) ?_
  rintro _ _ _ - ⟨b2, rfl, rfl, rfl⟩
  refine wpr_val 3 3 (.assign (.const (Value.bool (false)))) 4 (Value.bool (false)) (Runs.plain (by kernel_rfl)) (by kernel_rfl) (y_assign (by kernel_rfl)) ?_
  refine wpr_end (by kernel_rfl) ?_
  refine wpq_then ?_
  refine wpc_seq (x := F36_4) (y := F36_5) (by kernel_rfl) ?_
  refine wpc_seq (x := F36_6) (y := F36_7) (by kernel_rfl) ?_
  refine wpc_region (ops := R36_6) (id := 1) (by kernel_rfl) ?_
  refine wpr_val 1 7 (.fieldAddr 77 (.tmp 1) 2) 0 (Value.pointer (some ⟨b1, 2, none⟩)) (Runs.plain (by kernel_rfl)) (by kernel_rfl) (y_pure (by kernel_rfl) (fun _ => by kernel_rfl)) ?_
  refine wpr_val 2 8 (.load 74 (.tmp 7)) 74 (Value.slice Ac_parts (c.parts).length cc_parts) (Runs.plain (by kernel_rfl)) (by kernel_rfl) (q_load1 b1 2 1 (by kernel_rfl) (by kernel_rfl) (by kernel_rfl)) ?_
  refine wpr_val 3 9 (.call { callee := .builtin .len, args := #[(.tmp 8)], argTypes := #[74] }) 3 (Value.int .i64 ((((c.parts).length : Nat) : Int))) (Runs.plain (by kernel_rfl)) (by kernel_rfl) (y_pure (by kernel_rfl) (fun _ => by kernel_rfl)) ?_
  refine wpr_val 4 10 (.binOp .eql 3 (.tmp 9) (.const (Value.int .i64 (0))) 3) 4 (Value.bool (((((c.parts).length : Nat) : Int) == 0))) (Runs.plain (by kernel_rfl)) (by kernel_rfl) (y_pure (by kernel_rfl) (fun _ => by kernel_rfl)) ?_
  refine wpr_val 5 11 (.move (.tmp 10)) 4 (Value.bool (((((c.parts).length : Nat) : Int) == 0))) (Runs.plain (by kernel_rfl)) (by kernel_rfl) (y_move (by kernel_rfl)) ?_
  refine wpr_grp 12 [(1, Value.pointer (some ⟨b1, 0, none⟩)), (2, Value.pointer (some ⟨b2, 0, none⟩)), (18, Value.bool ((((((c.parts).length : Nat) : Int) == 0) || decide ((((c.parts).length : Nat) : Int) < c.count))))] (fun hk4 => ?_) ?_
  · refine wpq_split 11 (b := ((((c.parts).length : Nat) : Int) == 0)) (by kernel_rfl) (fun q3 => ?_) (fun q3 => ?_)
    · have q3p : (((c.parts).length : Nat) : Int) = 0 := eq_of_beq q3
      refine wpr_skip 6 12 (Skips.mk' (j := 4) (t := 11) (b := false) (by kernel_rfl) (by kernel_rfl) (by kernel_rfl)) (by kernel_rfl) ?_
      refine wpr_skip 7 13 (Skips.mk' (j := 4) (t := 11) (b := false) (by kernel_rfl) (by kernel_rfl) (by kernel_rfl)) (by kernel_rfl) ?_
      refine wpr_skip 8 14 (Skips.mk' (j := 4) (t := 11) (b := false) (by kernel_rfl) (by kernel_rfl) (by kernel_rfl)) (by kernel_rfl) ?_
      refine wpr_skip 9 15 (Skips.mk' (j := 4) (t := 11) (b := false) (by kernel_rfl) (by kernel_rfl) (by kernel_rfl)) (by kernel_rfl) ?_
      refine wpr_skip 10 16 (Skips.mk' (j := 4) (t := 11) (b := false) (by kernel_rfl) (by kernel_rfl) (by kernel_rfl)) (by kernel_rfl) ?_
      refine wpr_skip 11 17 (Skips.mk' (j := 4) (t := 11) (b := false) (by kernel_rfl) (by kernel_rfl) (by kernel_rfl)) (by kernel_rfl) ?_
      refine wpr_val 12 18 (.pick (.tmp 11) (.const (Value.bool (true))) (.tmp 17)) 4 (Value.bool (true)) (Runs.plain (by kernel_rfl)) (by kernel_rfl) (y_pickT (by kernel_rfl) (by kernel_rfl)) ?_
      refine wpq_re 18 (v := Value.bool (true)) (Value.bool ((((((c.parts).length : Nat) : Int) == 0) || decide ((((c.parts).length : Nat) : Int) < c.count)))) (by kernel_rfl) (re_or1 q3) ?_
      exact wpq_sub _ (by kernel_rfl) hk4
    · have q3p : ¬ ((((c.parts).length : Nat) : Int) = 0) := ne_of_beq_false_ q3
      refine wpr_val 6 12 (.fieldAddr 77 (.tmp 1) 2) 0 (Value.pointer (some ⟨b1, 2, none⟩)) (Runs.guarded (j := 4) (t := 11) (b := false) (by kernel_rfl) (by kernel_rfl) (by kernel_rfl)) (by kernel_rfl) (y_pure (by kernel_rfl) (fun _ => by kernel_rfl)) ?_
      refine wpr_val 7 13 (.load 74 (.tmp 12)) 74 (Value.slice Ac_parts (c.parts).length cc_parts) (Runs.guarded (j := 4) (t := 11) (b := false) (by kernel_rfl) (by kernel_rfl) (by kernel_rfl)) (by kernel_rfl) (q_load1 b1 2 1 (by kernel_rfl) (by kernel_rfl) (by kernel_rfl)) ?_
      refine wpr_val 8 14 (.call { callee := .builtin .len, args := #[(.tmp 13)], argTypes := #[74] }) 3 (Value.int .i64 ((((c.parts).length : Nat) : Int))) (Runs.guarded (j := 4) (t := 11) (b := false) (by kernel_rfl) (by kernel_rfl) (by kernel_rfl)) (by kernel_rfl) (y_pure (by kernel_rfl) (fun _ => by kernel_rfl)) ?_
      refine wpr_val 9 15 (.fieldAddr 77 (.tmp 1) 1) 0 (Value.pointer (some ⟨b1, 1, none⟩)) (Runs.guarded (j := 4) (t := 11) (b := false) (by kernel_rfl) (by kernel_rfl) (by kernel_rfl)) (by kernel_rfl) (y_pure (by kernel_rfl) (fun _ => by kernel_rfl)) ?_
      refine wpr_val 10 16 (.load 3 (.tmp 15)) 3 (Value.int .i64 (c.count)) (Runs.guarded (j := 4) (t := 11) (b := false) (by kernel_rfl) (by kernel_rfl) (by kernel_rfl)) (by kernel_rfl) (q_load1 b1 1 1 (by kernel_rfl) (by kernel_rfl) (by kernel_rfl)) ?_
      refine wpr_val 11 17 (.binOp .lss 3 (.tmp 14) (.tmp 16) 3) 4 (Value.bool (decide ((((c.parts).length : Nat) : Int) < c.count))) (Runs.guarded (j := 4) (t := 11) (b := false) (by kernel_rfl) (by kernel_rfl) (by kernel_rfl)) (by kernel_rfl) (y_pure (by kernel_rfl) (fun _ => by kernel_rfl)) ?_
      refine wpr_val 12 18 (.pick (.tmp 11) (.const (Value.bool (true))) (.tmp 17)) 4 (Value.bool (decide ((((c.parts).length : Nat) : Int) < c.count))) (Runs.plain (by kernel_rfl)) (by kernel_rfl) (y_pickF (by kernel_rfl) (by kernel_rfl)) ?_
      refine wpq_re 18 (v := Value.bool (decide ((((c.parts).length : Nat) : Int) < c.count))) (Value.bool ((((((c.parts).length : Nat) : Int) == 0) || decide ((((c.parts).length : Nat) : Int) < c.count)))) (by kernel_rfl) (re_or0 q3) ?_
      exact wpq_sub _ (by kernel_rfl) hk4
  · refine wpr_end (by kernel_rfl) ?_
    refine wpq_then ?_
    -- condition 0
    refine wpc_cond (x := F36_9) (y := F36_10) (o := (.tmp 18)) (b := (((((c.parts).length : Nat) : Int) == 0) || decide ((((c.parts).length : Nat) : Int) < c.count))) (by kernel_rfl) (by kernel_rfl) (fun h0 => ?_) (fun h0 => ?_)
    · refine wpc_seq (x := F36_11) (y := F36_12) (by kernel_rfl) ?_
      refine wpc_region (ops := R36_11) (id := 2) (by kernel_rfl) ?_
      refine wpr_val 1 19 (.build 94 #[]) 94 (Value.agg #[Value.int .i64 (0), Value.slice none 0 0, Value.slice none 0 0]) (Runs.plain (by kernel_rfl)) (by kernel_rfl) (y_pure (by kernel_rfl) (fun _ => by kernel_rfl)) ?_
      refine wpr_do 2 (.store 94 (.tmp 2) (.tmp 19)) 0 (Runs.plain (by kernel_rfl)) (by kernel_rfl) (q_store b2 0 0 (Value.agg #[Value.int .i64 (0), Value.slice none 0 0, Value.slice none 0 0]) [Value.int .i64 (0), Value.slice none 0 0, Value.slice none 0 0] 94 [Value.int .i64 (0), Value.slice none 0 0, Value.slice none 0 0] [Value.int .i64 (0), Value.slice none 0 0, Value.slice none 0 0] (by kernel_rfl) (by kernel_rfl) (by kernel_rfl) (by kernel_rfl) (by kernel_rfl) (by kernel_rfl) (by kernel_rfl)) ?_
      rintro _ _ _ - ⟨rfl, rfl⟩
      refine wpr_val 3 3 (.assign (.const (Value.bool (false)))) 4 (Value.bool (false)) (Runs.plain (by kernel_rfl)) (by kernel_rfl) (y_assign (by kernel_rfl)) ?_
      refine wpr_end (by kernel_rfl) ?_
      refine wpq_then ?_
      refine wpc_ret (rs := [.cell 2 94, .tmp 3]) [Value.agg #[Value.int .i64 (0), Value.slice none 0 0, Value.slice none 0 0], Value.bool (false)] [] (by kernel_rfl) (fun _ _ h => h) (by kernel_rfl) (rq_cellA b2 0 0 [Value.int .i64 (0), Value.slice none 0 0, Value.slice none 0 0] (by kernel_rfl) (by kernel_rfl) (by kernel_rfl) (res_tmp (by kernel_rfl) res_nil)) L0 keep0 ?_
      have eS : (readyS c) = ((⟨(0 : Int), ([] : List UInt8), ([] : List Sett)⟩ : Job), (false)) := by
        unfold readyS; rw [h0]; rfl
      rw [eS]
      exact ⟨rfl, none, 0, none, 0, rfl, Arr.nil, Arr.nil⟩
    · have h0l := (or_false_ h0).1
      have h0r := (or_false_ h0).2
      have h0lp : ¬ ((((c.parts).length : Nat) : Int) = 0) := ne_of_beq_false_ h0l
      have h0rp := of_decide_eq_false h0r
      refine wpc_skip (by kernel_rfl) ?_
      refine wpq_then ?_
      refine wpc_seq (x := F36_14) (y := F36_15) (by kernel_rfl) ?_
      refine wpc_region (ops := R36_14) (id := 3) (by kernel_rfl) ?_
      refine wpr_val 1 20 (.fieldAddr 77 (.tmp 1) 0) 0 (Value.pointer (some ⟨b1, 0, none⟩)) (Runs.plain (by kernel_rfl)) (by kernel_rfl) (y_pure (by kernel_rfl) (fun _ => by kernel_rfl)) ?_
      refine wpr_val 2 21 (.load 2 (.tmp 20)) 2 (Value.int .i64 (c.base)) (Runs.plain (by kernel_rfl)) (by kernel_rfl) (q_load1 b1 0 1 (by kernel_rfl) (by kernel_rfl) (by kernel_rfl)) ?_
      refine wpr_val 3 22 (.fieldAddr 77 (.tmp 1) 3) 0 (Value.pointer (some ⟨b1, 3, none⟩)) (Runs.plain (by kernel_rfl)) (by kernel_rfl) (y_pure (by kernel_rfl) (fun _ => by kernel_rfl)) ?_
      refine wpr_val 4 23 (.load 75 (.tmp 22)) 75 (Value.slice Ac_sets (c.sets).length cc_sets) (Runs.plain (by kernel_rfl)) (by kernel_rfl) (q_load1 b1 3 1 (by kernel_rfl) (by kernel_rfl) (by kernel_rfl)) ?_
      refine wpr_val 5 24 (.build 94 #[(0, (.tmp 21)), (2, (.tmp 23))]) 94 (Value.agg #[Value.int .i64 (c.base), Value.slice none 0 0, Value.slice Ac_sets (c.sets).length cc_sets]) (Runs.plain (by kernel_rfl)) (by kernel_rfl) (y_pure (by kernel_rfl) (fun _ => by kernel_rfl)) ?_
      refine wpr_eff 6 4 (.alloc 94) 0 (Runs.plain (by kernel_rfl)) (by kernel_rfl) (e_alloc (cs := [Value.int .i64 (0), Value.slice none 0 0, Value.slice none 0 0]) (by kernel_rfl)) ?_
      rintro _ _ _ - ⟨b4, rfl, rfl, rfl⟩
      refine wpr_do 7 (.store 94 (.tmp 4) (.tmp 24)) 0 (Runs.plain (by kernel_rfl)) (by kernel_rfl) (q_store b4 0 0 (Value.agg #[Value.int .i64 (c.base), Value.slice none 0 0, Value.slice Ac_sets (c.sets).length cc_sets]) [Value.int .i64 (c.base), Value.slice none 0 0, Value.slice Ac_sets (c.sets).length cc_sets] 94 [Value.int .i64 (0), Value.slice none 0 0, Value.slice none 0 0] [Value.int .i64 (c.base), Value.slice none 0 0, Value.slice Ac_sets (c.sets).length cc_sets] (by kernel_rfl) (by kernel_rfl) (by kernel_rfl) (by kernel_rfl) (by kernel_rfl) (by kernel_rfl) (by kernel_rfl)) ?_
      rintro _ _ _ - ⟨rfl, rfl⟩
      refine wpr_end (by kernel_rfl) ?_
      refine wpq_then ?_
      refine wpq_sub [(1, Value.pointer (some ⟨b1, 0, none⟩)), (2, Value.pointer (some ⟨b2, 0, none⟩)), (4, Value.pointer (some ⟨b4, 0, none⟩))] (by kernel_rfl) ?_
      refine wpc_seq (x := F36_17) (y := F36_18) (by kernel_rfl) ?_
      refine wpc_seq (x := F36_19) (y := F36_20) (by kernel_rfl) ?_
      refine wpc_region (ops := R36_19) (id := 4) (by kernel_rfl) ?_
      refine wpr_val 1 25 (.fieldAddr 77 (.tmp 1) 2) 0 (Value.pointer (some ⟨b1, 2, none⟩)) (Runs.plain (by kernel_rfl)) (by kernel_rfl) (y_pure (by kernel_rfl) (fun _ => by kernel_rfl)) ?_
      refine wpr_val 2 26 (.load 74 (.tmp 25)) 74 (Value.slice Ac_parts (c.parts).length cc_parts) (Runs.plain (by kernel_rfl)) (by kernel_rfl) (q_load1 b1 2 2 (by kernel_rfl) (by kernel_rfl) (by kernel_rfl)) ?_
      refine wpr_val 3 27 (.call { callee := .builtin .len, args := #[(.tmp 26)], argTypes := #[74] }) 3 (Value.int .i64 ((((c.parts).length : Nat) : Int))) (Runs.plain (by kernel_rfl)) (by kernel_rfl) (y_pure (by kernel_rfl) (fun _ => by kernel_rfl)) ?_
      refine wpr_val 4 28 (.move (.const (Value.int .i64 (0)))) 3 (Value.int .i64 (0)) (Runs.plain (by kernel_rfl)) (by kernel_rfl) (y_move (by kernel_rfl)) ?_
      refine wpr_end (by kernel_rfl) ?_
      refine wpq_then ?_
      refine wpc_block (x := F36_22) (id := 0) (by kernel_rfl) ?_
      refine wpq_addnone ?_
      refine wpq_name (T := tyU8) (p := g.b) (et := 5) (v := Value.slice none 0 0) (xs := []) 0 (by kernel_rfl) Buf.nil (fun k5 hk5 => ?_)
      refine wpq_sub [(2, Value.pointer (some ⟨b2, 0, none⟩)), (4, Value.pointer (some ⟨b4, 0, none⟩)), (26, Value.slice Ac_parts (c.parts).length cc_parts), (27, Value.int .i64 ((((c.parts).length : Nat) : Int))), (28, Value.int .i64 (0))] (by kernel_rfl) ?_
      -- loop 0
      refine wpc_loop (x := F36_23) (by kernel_rfl) (fun g own sl m => ∃ (k : Nat) (out : List UInt8) (Aout : Option Addr) (cout : Nat) (kout : Option Bk), own = [kout, some ⟨b4, 94, [Value.int .i64 (c.base), Value.slice Aout (out).length cout, Value.slice Ac_sets (c.sets).length cc_sets]⟩, some ⟨b2, 94, [Value.int .i64 (0), Value.slice none 0 0, Value.slice none 0 0]⟩, some ⟨b1, 77, [Value.int .i64 (c.base), Value.int .i64 (c.count), Value.slice Ac_parts (c.parts).length cc_parts, Value.slice Ac_sets (c.sets).length cc_sets]⟩] ∧ sl = [(2, Value.pointer (some ⟨b2, 0, none⟩)), (4, Value.pointer (some ⟨b4, 0, none⟩)), (26, Value.slice Ac_parts (c.parts).length cc_parts), (27, Value.int .i64 ((((c.parts).length : Nat) : Int))), (28, Value.int .i64 ((k : Int)))] ∧ m = c.parts.length - k ∧ Buf g.b tyU8 5 (.slice Aout out.length cout) kout out ∧ (k ≤ c.parts.length) ∧ (out = (c.parts.take k).flatten)) _ ⟨0, [], none, 0, k5, rfl, rfl, rfl, hk5, by omega, rfl⟩ ?_
      rintro g6 _ _ _ le7 ⟨k, out, Aout, cout, kout, rfl, rfl, rfl, hout, hk, ho⟩ QrL0 hQL0
      have fc_parts := fc_parts.mono le7.b
      have fc_sets := fc_sets.mono le7.b
      have hk5 := hk5.mono le7.b
      have L0 := L0.trans le7
      have nhout := hout.len
      have LHL0 := Gh.le.refl g6
      refine wpc_seq (x := F36_24) (y := F36_25) (by kernel_rfl) ?_
      refine wpc_region (ops := R36_24) (id := 5) (by kernel_rfl) ?_
      refine wpr_val 1 29 (.binOp .lss 3 (.tmp 28) (.tmp 27) 3) 0 (Value.bool (decide ((k : Int) < (((c.parts).length : Nat) : Int)))) (Runs.plain (by kernel_rfl)) (by kernel_rfl) (y_pure (by kernel_rfl) (fun _ => by kernel_rfl)) ?_
      refine wpr_end (by kernel_rfl) ?_
      refine wpq_then ?_
      refine wpc_seq (x := F36_27) (y := F36_28) (by kernel_rfl) ?_
      -- condition 1
      refine wpc_cond (x := F36_29) (y := F36_30) (o := (.tmp 29)) (b := decide ((k : Int) < (((c.parts).length : Nat) : Int))) (by kernel_rfl) (by kernel_rfl) (fun h1 => ?_) (fun h1 => ?_)
      · have h1p := of_decide_eq_true h1
        refine wpc_skip (by kernel_rfl) ?_
        refine wpq_then ?_
        refine wpc_seq (x := F36_31) (y := F36_32) (by kernel_rfl) ?_
        refine wpc_block (x := F36_33) (id := 1) (by kernel_rfl) ?_
        refine wpc_seq (x := F36_34) (y := F36_35) (by kernel_rfl) ?_
        refine wpc_region (ops := R36_34) (id := 6) (by kernel_rfl) ?_
        have hi8 : k < (c.parts).length := by omega
        obtain ⟨ad8, cs8, hA8, hr8, hc8⟩ := fc_parts.at_ (get_getD (d := []) hi8)
        obtain ⟨A8, c8, rfl, f8⟩ := hr8
        have nf8 := f8.len
        have fl8 := flat_le c.parts (k + 1)
        rw [flat_succ hi8, List.length_append] at fl8
        have hq8 := congrArg List.length ho
        refine wpr_val 1 30 (.indexAddr 74 (.tmp 26) (.tmp 28)) 0 (Value.pointer (some (Addr.add ad8 (k * 1)))) (Runs.plain (by kernel_rfl)) (by kernel_rfl) (q_index (e := 22) (sz := 1) (len := (c.parts).length) (c := cc_parts) k (A := ad8) (k := .i64) (z := (k : Int)) hA8 (by kernel_rfl) (by kernel_rfl) rfl hi8 (by kernel_rfl) (by kernel_rfl)) ?_
        refine wpr_val 2 31 (.load 22 (.tmp 30)) 22 (Value.slice A8 ((List.getD c.parts k [])).length c8) (Runs.plain (by kernel_rfl)) (by kernel_rfl) (q_loadP1 (Addr.add ad8 (k * 1)) 0 (by kernel_rfl) (hc8.mono g6.br) (by kernel_rfl) (by kernel_rfl)) ?_
        refine wpr_val 3 6 (.assign (.tmp 31)) 22 (Value.slice A8 ((List.getD c.parts k [])).length c8) (Runs.plain (by kernel_rfl)) (by kernel_rfl) (y_assign (by kernel_rfl)) ?_
        refine wpr_end (by kernel_rfl) ?_
        refine wpq_then ?_
        refine wpc_region (ops := R36_35) (id := 7) (by kernel_rfl) ?_
        refine wpr_val 1 32 (.fieldAddr 94 (.tmp 4) 1) 0 (Value.pointer (some ⟨b4, 1, none⟩)) (Runs.plain (by kernel_rfl)) (by kernel_rfl) (y_pure (by kernel_rfl) (fun _ => by kernel_rfl)) ?_
        refine wpr_val 2 33 (.load 22 (.tmp 32)) 22 (Value.slice Aout (out).length cout) (Runs.plain (by kernel_rfl)) (by kernel_rfl) (q_load1 b4 1 1 (by kernel_rfl) (by kernel_rfl) (by kernel_rfl)) ?_
        refine wpr_val 3 34 (.move (.tmp 6)) 22 (Value.slice A8 ((List.getD c.parts k [])).length c8) (Runs.plain (by kernel_rfl)) (by kernel_rfl) (y_move (by kernel_rfl)) ?_
        obtain ⟨nw9, hp9, hs9⟩ := f8.srcB
        have hz9 : (out ++ (List.getD c.parts k []) : List UInt8).length = (out : List UInt8).length + ((List.getD c.parts k [])).length := List.length_append
        refine wpr_eff 4 35 (.call { callee := .builtin .append, args := #[(.tmp 33), (.tmp 34)], argTypes := #[22, 22] }) 22 (Runs.plain (by kernel_rfl)) (by kernel_rfl) (e_appendQ (T := tyU8) (p := g6.b) (et := 5) (bytes := 1) 0 (Value.slice Aout (out).length cout) (kout) (out) A8 ((List.getD c.parts k [])).length c8 ((List.getD c.parts k [])) (by kernel_rfl) (by kernel_rfl) (by kernel_rfl) (by kernel_rfl) hout rfl (fun w hs => hs9 w _ hs) hp9 (by first | omega | (simp only [List.length_nil, List.length_cons, List.length_append] <;> omega)) (by first | omega | (simp only [List.length_nil, List.length_cons, List.length_append] <;> omega))) ?_
        rintro _ _ _ - ⟨A9, c9, k9, rfl, rfl, rfl, hb9⟩
        have nhb9 := hb9.len
        refine wpr_val 5 36 (.fieldAddr 94 (.tmp 4) 1) 0 (Value.pointer (some ⟨b4, 1, none⟩)) (Runs.plain (by kernel_rfl)) (by kernel_rfl) (y_pure (by kernel_rfl) (fun _ => by kernel_rfl)) ?_
        refine wpr_do 6 (.store 22 (.tmp 36) (.tmp 35)) 0 (Runs.plain (by kernel_rfl)) (by kernel_rfl) (q_store b4 1 1 (Value.slice A9 ((out ++ (List.getD c.parts k [])) : List UInt8).length c9) [Value.slice A9 ((out ++ (List.getD c.parts k [])) : List UInt8).length c9] 94 [Value.int .i64 (c.base), Value.slice Aout (out).length cout, Value.slice Ac_sets (c.sets).length cc_sets] [Value.int .i64 (c.base), Value.slice A9 ((out ++ (List.getD c.parts k [])) : List UInt8).length c9, Value.slice Ac_sets (c.sets).length cc_sets] (by kernel_rfl) (by kernel_rfl) (by kernel_rfl) (by kernel_rfl) (by kernel_rfl) (by kernel_rfl) (by kernel_rfl)) ?_
        rintro _ _ _ - ⟨rfl, rfl⟩
        refine wpr_end (by kernel_rfl) ?_
        refine wpq_blockN ?_
        refine wpq_then ?_
        refine wpq_sub [(2, Value.pointer (some ⟨b2, 0, none⟩)), (4, Value.pointer (some ⟨b4, 0, none⟩)), (26, Value.slice Ac_parts (c.parts).length cc_parts), (27, Value.int .i64 ((((c.parts).length : Nat) : Int))), (28, Value.int .i64 ((k : Int)))] (by kernel_rfl) ?_
        refine wpc_region (ops := R36_32) (id := 8) (by kernel_rfl) ?_
        refine wpr_val 1 37 (.binOp .add 3 (.tmp 28) (.const (Value.int .i64 (1))) 3) 3 (Value.int .i64 (((k : Int) + 1))) (Runs.plain (by kernel_rfl)) (by kernel_rfl) (y_add (by kernel_rfl) (by kernel_rfl) (wr64 (by omega))) ?_
        refine wpr_val 2 28 (.move (.tmp 37)) 3 (Value.int .i64 (((k : Int) + 1))) (Runs.plain (by kernel_rfl)) (by kernel_rfl) (y_move (by kernel_rfl)) ?_
        refine wpr_end (by kernel_rfl) ?_
        refine wpq_thenN ?_
        refine wpq_re 28 (v := Value.int .i64 (((k : Int) + 1))) (Value.int .i64 ((((k + 1) : Nat) : Int))) (by kernel_rfl) (congrArg (Value.int .i64) (by omega)) ?_
        refine wpq_sub [(2, Value.pointer (some ⟨b2, 0, none⟩)), (4, Value.pointer (some ⟨b4, 0, none⟩)), (26, Value.slice Ac_parts (c.parts).length cc_parts), (27, Value.int .i64 ((((c.parts).length : Nat) : Int))), (28, Value.int .i64 ((((k + 1) : Nat) : Int)))] (by kernel_rfl) ?_
        exact hQL0 _ _ _ (c.parts.length - ((k + 1))) LHL0 (by omega) ⟨(k + 1), (out ++ (List.getD c.parts k [])), A9, c9, k9, rfl, rfl, rfl, hb9, by omega, by rw [flat_succ (by omega), ho]⟩
      · have h1p := of_decide_eq_false h1
        refine wpc_exit (id := 0) (by kernel_rfl) ?_
        refine wpq_thenX ?_
        refine wpq_thenX ?_
        refine wpq_blockE ?_
        refine wpq_then ?_
        refine wpc_seq (x := F36_39) (y := F36_40) (by kernel_rfl) ?_
        refine wpc_region (ops := R36_39) (id := 9) (by kernel_rfl) ?_
        refine wpr_val 1 38 (.load 94 (.tmp 4)) 94 (Value.agg #[Value.int .i64 (c.base), Value.slice Aout (out).length cout, Value.slice Ac_sets (c.sets).length cc_sets]) (Runs.plain (by kernel_rfl)) (by kernel_rfl) (q_loadA b4 0 1 [Value.int .i64 (c.base), Value.slice Aout (out).length cout, Value.slice Ac_sets (c.sets).length cc_sets] (by kernel_rfl) (by kernel_rfl) (by kernel_rfl)) ?_
        refine wpr_do 2 (.store 94 (.tmp 2) (.tmp 38)) 0 (Runs.plain (by kernel_rfl)) (by kernel_rfl) (q_store b2 0 2 (Value.agg #[Value.int .i64 (c.base), Value.slice Aout (out).length cout, Value.slice Ac_sets (c.sets).length cc_sets]) [Value.int .i64 (c.base), Value.slice Aout (out).length cout, Value.slice Ac_sets (c.sets).length cc_sets] 94 [Value.int .i64 (0), Value.slice none 0 0, Value.slice none 0 0] [Value.int .i64 (c.base), Value.slice Aout (out).length cout, Value.slice Ac_sets (c.sets).length cc_sets] (by kernel_rfl) (by kernel_rfl) (by kernel_rfl) (by kernel_rfl) (by kernel_rfl) (by kernel_rfl) (by kernel_rfl)) ?_
        rintro _ _ _ - ⟨rfl, rfl⟩
        refine wpr_val 3 3 (.assign (.const (Value.bool (true)))) 4 (Value.bool (true)) (Runs.plain (by kernel_rfl)) (by kernel_rfl) (y_assign (by kernel_rfl)) ?_
        refine wpr_end (by kernel_rfl) ?_
        refine wpq_then ?_
        refine wpq_sub [(2, Value.pointer (some ⟨b2, 0, none⟩)), (3, Value.bool (true))] (by kernel_rfl) ?_
        refine wpq_freeze 0 (by kernel_rfl) hout (fun g10 le11 f12 => ?_)
        have fc_parts := fc_parts.mono le11.b
        have fc_sets := fc_sets.mono le11.b
        have hk5 := hk5.mono le11.b
        have L0 := L0.trans le11
        have LHL0 := LHL0.trans le11
        refine wpc_ret (rs := [.cell 2 94, .tmp 3]) [Value.agg #[Value.int .i64 (c.base), Value.slice Aout (out).length cout, Value.slice Ac_sets (c.sets).length cc_sets], Value.bool (true)] [] (by kernel_rfl) (fun _ _ h => h) (by kernel_rfl) (rq_cellA b2 0 2 [Value.int .i64 (c.base), Value.slice Aout (out).length cout, Value.slice Ac_sets (c.sets).length cc_sets] (by kernel_rfl) (by kernel_rfl) (by kernel_rfl) (res_tmp (by kernel_rfl) res_nil)) L0 keep0 ?_
        have eS : (readyS c) = ((⟨(c.base : Int), (out : List UInt8), (c.sets : List Sett)⟩ : Job), (true)) := by
          unfold readyS; rw [h0]; exact readyS_end (by omega) ho
        rw [eS]
        exact ⟨rfl, Aout, cout, Ac_sets, cc_sets, rfl, f12, fc_sets⟩

noncomputable def F40_0 : Code := sub (Try.f40.body.getD .skip) []
noncomputable def F40_1 : Code := sub (Try.f40.body.getD .skip) [0]
noncomputable def F40_2 : Code := sub (Try.f40.body.getD .skip) [1]
noncomputable def R40_1 : Array Oper := regOf F40_1
noncomputable def F40_4 : Code := sub (Try.f40.body.getD .skip) [1, 0]
noncomputable def F40_5 : Code := sub (Try.f40.body.getD .skip) [1, 1]
noncomputable def R40_4 : Array Oper := regOf F40_4
noncomputable def F40_7 : Code := sub (Try.f40.body.getD .skip) [1, 1, 0]
noncomputable def F40_8 : Code := sub (Try.f40.body.getD .skip) [1, 1, 1]
noncomputable def F40_9 : Code := sub (Try.f40.body.getD .skip) [1, 1, 0, 0]
noncomputable def F40_10 : Code := sub (Try.f40.body.getD .skip) [1, 1, 0, 1]
noncomputable def R40_9 : Array Oper := regOf F40_9
noncomputable def F40_12 : Code := sub (Try.f40.body.getD .skip) [1, 1, 0, 1, 0]
noncomputable def F40_13 : Code := sub (Try.f40.body.getD .skip) [1, 1, 0, 1, 0, 0]
noncomputable def F40_14 : Code := sub (Try.f40.body.getD .skip) [1, 1, 0, 1, 0, 0, 0]
noncomputable def F40_15 : Code := sub (Try.f40.body.getD .skip) [1, 1, 0, 1, 0, 0, 1]
noncomputable def R40_14 : Array Oper := regOf F40_14
noncomputable def F40_17 : Code := sub (Try.f40.body.getD .skip) [1, 1, 0, 1, 0, 0, 1, 0]
noncomputable def F40_18 : Code := sub (Try.f40.body.getD .skip) [1, 1, 0, 1, 0, 0, 1, 1]
noncomputable def F40_19 : Code := sub (Try.f40.body.getD .skip) [1, 1, 0, 1, 0, 0, 1, 0, 0]
noncomputable def F40_20 : Code := sub (Try.f40.body.getD .skip) [1, 1, 0, 1, 0, 0, 1, 0, 1]
noncomputable def F40_21 : Code := sub (Try.f40.body.getD .skip) [1, 1, 0, 1, 0, 0, 1, 1, 0]
noncomputable def F40_22 : Code := sub (Try.f40.body.getD .skip) [1, 1, 0, 1, 0, 0, 1, 1, 1]
noncomputable def F40_23 : Code := sub (Try.f40.body.getD .skip) [1, 1, 0, 1, 0, 0, 1, 1, 0, 0]
noncomputable def F40_24 : Code := sub (Try.f40.body.getD .skip) [1, 1, 0, 1, 0, 0, 1, 1, 0, 0, 0]
noncomputable def F40_25 : Code := sub (Try.f40.body.getD .skip) [1, 1, 0, 1, 0, 0, 1, 1, 0, 0, 1]
noncomputable def R40_24 : Array Oper := regOf F40_24
noncomputable def R40_25 : Array Oper := regOf F40_25
noncomputable def R40_22 : Array Oper := regOf F40_22
noncomputable def F40_29 : Code := sub (Try.f40.body.getD .skip) [1, 1, 1, 0]
noncomputable def F40_30 : Code := sub (Try.f40.body.getD .skip) [1, 1, 1, 1]
noncomputable def R40_29 : Array Oper := regOf F40_29
set_option maxRecDepth 100000 in
theorem c40 (g : Gh) (j : Job) (Aj_snapshot : Option Addr) (cj_snapshot : Nat) (Aj_sets : Option Addr) (cj_sets : Nat) (fj_snapshot : Arr g.b tyU8 Aj_snapshot cj_snapshot j.snapshot) (fj_sets : Arr g.b tySett Aj_sets cj_sets j.sets) (hl : j.sets.length ≤ 1000000) :
    Ctr0 Try.prog 40 [Value.agg #[Value.int .i64 (j.base), Value.slice Aj_snapshot (j.snapshot).length cj_snapshot, Value.slice Aj_sets (j.sets).length cj_sets]] g (fun v ψ => ∃ (Ar_snapshot : Option Addr) (cr_snapshot : Nat) (Ar_sets : Option Addr) (cr_sets : Nat), v = Value.agg #[Value.int .i64 (( j).base), Value.slice Ar_snapshot (( j).snapshot).length cr_snapshot, Value.slice Ar_sets (( j).sets).length cr_sets] ∧ Arr ψ tyU8 Ar_snapshot cr_snapshot ( j).snapshot ∧ Arr ψ tySett Ar_sets cr_sets ( j).sets) := by
  refine ctr_of Try.f40 F40_0 27 [Value.agg #[Value.int .i64 (j.base), Value.slice Aj_snapshot (j.snapshot).length cj_snapshot, Value.slice Aj_sets (j.sets).length cj_sets]] (by kernel_rfl) (by kernel_rfl) (by kernel_rfl) (by kernel_rfl) ?_
  have L0 := Gh.le.refl g
  have nfj_snapshot := fj_snapshot.len
  have nfj_sets := fj_sets.len
  refine wpc_seq (x := F40_1) (y := F40_2) (by kernel_rfl) ?_
  refine wpc_region (ops := R40_1) (id := 0) (by kernel_rfl) ?_
  refine wpr_eff 1 1 (.box 90 (.tmp 0)) 0 (Runs.plain (by kernel_rfl)) (by kernel_rfl) (e_box (v := Value.agg #[Value.int .i64 (j.base), Value.slice Aj_snapshot (j.snapshot).length cj_snapshot, Value.slice Aj_sets (j.sets).length cj_sets]) (cs := [Value.int .i64 (j.base), Value.slice Aj_snapshot (j.snapshot).length cj_snapshot, Value.slice Aj_sets (j.sets).length cj_sets]) (by kernel_rfl) (by kernel_rfl)) ?_
  rintro _ _ _ - ⟨b1, rfl, rfl, rfl⟩
  refine wpr_eff 2 2 (.alloc 94) 0 (Runs.plain (by kernel_rfl)) (by kernel_rfl) (e_alloc (cs := [Value.int .i64 (0), Value.slice none 0 0, Value.slice none 0 0]) (by kernel_rfl)) ?_
  rintro _ _ _ - ⟨b2, rfl, rfl, rfl⟩
  refine wpr_end (by kernel_rfl) ?_
  refine wpq_then ?_
  refine wpc_seq (x := F40_4) (y := F40_5) (by kernel_rfl) ?_
  refine wpc_region (ops := R40_4) (id := 1) (by kernel_rfl) ?_
  refine wpr_val 1 6 (.fieldAddr 90 (.tmp 1) 0) 0 (Value.pointer (some ⟨b1, 0, none⟩)) (Runs.plain (by kernel_rfl)) (by kernel_rfl) (y_pure (by kernel_rfl) (fun _ => by kernel_rfl)) ?_
  refine wpr_val 2 7 (.load 2 (.tmp 6)) 2 (Value.int .i64 (j.base)) (Runs.plain (by kernel_rfl)) (by kernel_rfl) (q_load1 b1 0 1 (by kernel_rfl) (by kernel_rfl) (by kernel_rfl)) ?_
  refine wpr_val 3 8 (.fieldAddr 90 (.tmp 1) 1) 0 (Value.pointer (some ⟨b1, 1, none⟩)) (Runs.plain (by kernel_rfl)) (by kernel_rfl) (y_pure (by kernel_rfl) (fun _ => by kernel_rfl)) ?_
  refine wpr_val 4 9 (.load 22 (.tmp 8)) 22 (Value.slice Aj_snapshot (j.snapshot).length cj_snapshot) (Runs.plain (by kernel_rfl)) (by kernel_rfl) (q_load1 b1 1 1 (by kernel_rfl) (by kernel_rfl) (by kernel_rfl)) ?_
  refine wpr_val 5 10 (.build 94 #[(0, (.tmp 7)), (1, (.tmp 9))]) 94 (Value.agg #[Value.int .i64 (j.base), Value.slice Aj_snapshot (j.snapshot).length cj_snapshot, Value.slice none 0 0]) (Runs.plain (by kernel_rfl)) (by kernel_rfl) (y_pure (by kernel_rfl) (fun _ => by kernel_rfl)) ?_
  refine wpr_eff 6 3 (.alloc 94) 0 (Runs.plain (by kernel_rfl)) (by kernel_rfl) (e_alloc (cs := [Value.int .i64 (0), Value.slice none 0 0, Value.slice none 0 0]) (by kernel_rfl)) ?_
  rintro _ _ _ - ⟨b3, rfl, rfl, rfl⟩
  refine wpr_do 7 (.store 94 (.tmp 3) (.tmp 10)) 0 (Runs.plain (by kernel_rfl)) (by kernel_rfl) (q_store b3 0 0 (Value.agg #[Value.int .i64 (j.base), Value.slice Aj_snapshot (j.snapshot).length cj_snapshot, Value.slice none 0 0]) [Value.int .i64 (j.base), Value.slice Aj_snapshot (j.snapshot).length cj_snapshot, Value.slice none 0 0] 94 [Value.int .i64 (0), Value.slice none 0 0, Value.slice none 0 0] [Value.int .i64 (j.base), Value.slice Aj_snapshot (j.snapshot).length cj_snapshot, Value.slice none 0 0] (by kernel_rfl) (by kernel_rfl) (by kernel_rfl) (by kernel_rfl) (by kernel_rfl) (by kernel_rfl) (by kernel_rfl)) ?_
  rintro _ _ _ - ⟨rfl, rfl⟩
  refine wpr_end (by kernel_rfl) ?_
  refine wpq_then ?_
  refine wpq_sub [(1, Value.pointer (some ⟨b1, 0, none⟩)), (2, Value.pointer (some ⟨b2, 0, none⟩)), (3, Value.pointer (some ⟨b3, 0, none⟩))] (by kernel_rfl) ?_
  refine wpc_seq (x := F40_7) (y := F40_8) (by kernel_rfl) ?_
  refine wpc_seq (x := F40_9) (y := F40_10) (by kernel_rfl) ?_
  refine wpc_region (ops := R40_9) (id := 2) (by kernel_rfl) ?_
  refine wpr_val 1 11 (.fieldAddr 90 (.tmp 1) 2) 0 (Value.pointer (some ⟨b1, 2, none⟩)) (Runs.plain (by kernel_rfl)) (by kernel_rfl) (y_pure (by kernel_rfl) (fun _ => by kernel_rfl)) ?_
  refine wpr_val 2 12 (.load 88 (.tmp 11)) 88 (Value.slice Aj_sets (j.sets).length cj_sets) (Runs.plain (by kernel_rfl)) (by kernel_rfl) (q_load1 b1 2 2 (by kernel_rfl) (by kernel_rfl) (by kernel_rfl)) ?_
  refine wpr_val 3 13 (.call { callee := .builtin .len, args := #[(.tmp 12)], argTypes := #[88] }) 3 (Value.int .i64 ((((j.sets).length : Nat) : Int))) (Runs.plain (by kernel_rfl)) (by kernel_rfl) (y_pure (by kernel_rfl) (fun _ => by kernel_rfl)) ?_
  refine wpr_val 4 14 (.move (.const (Value.int .i64 (0)))) 3 (Value.int .i64 (0)) (Runs.plain (by kernel_rfl)) (by kernel_rfl) (y_move (by kernel_rfl)) ?_
  refine wpr_end (by kernel_rfl) ?_
  refine wpq_then ?_
  refine wpc_block (x := F40_12) (id := 0) (by kernel_rfl) ?_
  refine wpq_addnone ?_
  refine wpq_name (T := tySett) (p := g.b) (et := 86) (v := Value.slice none 0 0) (xs := []) 0 (by kernel_rfl) Buf.nil (fun k4 hk4 => ?_)
  refine wpq_sub [(2, Value.pointer (some ⟨b2, 0, none⟩)), (3, Value.pointer (some ⟨b3, 0, none⟩)), (12, Value.slice Aj_sets (j.sets).length cj_sets), (13, Value.int .i64 ((((j.sets).length : Nat) : Int))), (14, Value.int .i64 (0))] (by kernel_rfl) ?_
  -- loop 0
  refine wpc_loop (x := F40_13) (by kernel_rfl) (fun g own sl m => ∃ (k : Nat) (out : List Sett) (Aout : Option Addr) (cout : Nat) (kout : Option Bk), own = [kout, some ⟨b3, 94, [Value.int .i64 (j.base), Value.slice Aj_snapshot (j.snapshot).length cj_snapshot, Value.slice Aout (out).length cout]⟩, some ⟨b2, 94, [Value.int .i64 (0), Value.slice none 0 0, Value.slice none 0 0]⟩, some ⟨b1, 90, [Value.int .i64 (j.base), Value.slice Aj_snapshot (j.snapshot).length cj_snapshot, Value.slice Aj_sets (j.sets).length cj_sets]⟩] ∧ sl = [(2, Value.pointer (some ⟨b2, 0, none⟩)), (3, Value.pointer (some ⟨b3, 0, none⟩)), (12, Value.slice Aj_sets (j.sets).length cj_sets), (13, Value.int .i64 ((((j.sets).length : Nat) : Int))), (14, Value.int .i64 ((k : Int)))] ∧ m = j.sets.length - k ∧ Buf g.b tySett 86 (.slice Aout out.length cout) kout out ∧ (k ≤ j.sets.length) ∧ (out.length = k) ∧ (out = j.sets.take k)) _ ⟨0, [], none, 0, k4, rfl, rfl, rfl, hk4, by omega, rfl, rfl⟩ ?_
  rintro g5 _ _ _ le6 ⟨k, out, Aout, cout, kout, rfl, rfl, rfl, hout, hk, hc, ho⟩ QrL0 hQL0
  have fj_snapshot := fj_snapshot.mono le6.b
  have fj_sets := fj_sets.mono le6.b
  have hk4 := hk4.mono le6.b
  have L0 := L0.trans le6
  have nhout := hout.len
  have LHL0 := Gh.le.refl g5
  refine wpc_seq (x := F40_14) (y := F40_15) (by kernel_rfl) ?_
  refine wpc_region (ops := R40_14) (id := 3) (by kernel_rfl) ?_
  refine wpr_val 1 15 (.binOp .lss 3 (.tmp 14) (.tmp 13) 3) 0 (Value.bool (decide ((k : Int) < (((j.sets).length : Nat) : Int)))) (Runs.plain (by kernel_rfl)) (by kernel_rfl) (y_pure (by kernel_rfl) (fun _ => by kernel_rfl)) ?_
  refine wpr_end (by kernel_rfl) ?_
  refine wpq_then ?_
  refine wpc_seq (x := F40_17) (y := F40_18) (by kernel_rfl) ?_
  -- condition 0
  refine wpc_cond (x := F40_19) (y := F40_20) (o := (.tmp 15)) (b := decide ((k : Int) < (((j.sets).length : Nat) : Int))) (by kernel_rfl) (by kernel_rfl) (fun h0 => ?_) (fun h0 => ?_)
  · have h0p := of_decide_eq_true h0
    refine wpc_skip (by kernel_rfl) ?_
    refine wpq_then ?_
    refine wpc_seq (x := F40_21) (y := F40_22) (by kernel_rfl) ?_
    refine wpc_block (x := F40_23) (id := 1) (by kernel_rfl) ?_
    refine wpc_seq (x := F40_24) (y := F40_25) (by kernel_rfl) ?_
    refine wpc_region (ops := R40_24) (id := 4) (by kernel_rfl) ?_
    have hi7 : k < (j.sets).length := by omega
    obtain ⟨ad7, cs7, hA7, hr7, hc7⟩ := fj_sets.at_ (get_getD (d := default) hi7)
    obtain ⟨A7_in_, c7_in_, rfl, f7_in_⟩ := hr7
    have nf7_in_ := f7_in_.len
    refine wpr_val 1 16 (.indexAddr 88 (.tmp 12) (.tmp 14)) 0 (Value.pointer (some (Addr.add ad7 (k * 4)))) (Runs.plain (by kernel_rfl)) (by kernel_rfl) (q_index (e := 79) (sz := 4) (len := (j.sets).length) (c := cj_sets) k (A := ad7) (k := .i64) (z := (k : Int)) hA7 (by kernel_rfl) (by kernel_rfl) rfl hi7 (by kernel_rfl) (by kernel_rfl)) ?_
    refine wpr_val 2 17 (.load 79 (.tmp 16)) 79 (Value.agg #[Value.int .i64 ((List.getD j.sets k default).steps), Value.int .i64 ((List.getD j.sets k default).cycle), Value.bool ((List.getD j.sets k default).fresh), Value.slice A7_in_ ((List.getD j.sets k default).in_).length c7_in_]) (Runs.plain (by kernel_rfl)) (by kernel_rfl) (q_loadPA (Addr.add ad7 (k * 4)) 0 [Value.int .i64 ((List.getD j.sets k default).steps), Value.int .i64 ((List.getD j.sets k default).cycle), Value.bool ((List.getD j.sets k default).fresh), Value.slice A7_in_ ((List.getD j.sets k default).in_).length c7_in_] (by kernel_rfl) (hc7.mono g5.br) (by kernel_rfl) (by kernel_rfl)) ?_
    refine wpr_eff 3 5 (.alloc 79) 0 (Runs.plain (by kernel_rfl)) (by kernel_rfl) (e_alloc (cs := [Value.int .i64 (0), Value.int .i64 (0), Value.bool (false), Value.slice none 0 0]) (by kernel_rfl)) ?_
    rintro _ _ _ - ⟨b8, rfl, rfl, rfl⟩
    refine wpr_do 4 (.store 79 (.tmp 5) (.tmp 17)) 0 (Runs.plain (by kernel_rfl)) (by kernel_rfl) (q_store b8 0 0 (Value.agg #[Value.int .i64 ((List.getD j.sets k default).steps), Value.int .i64 ((List.getD j.sets k default).cycle), Value.bool ((List.getD j.sets k default).fresh), Value.slice A7_in_ ((List.getD j.sets k default).in_).length c7_in_]) [Value.int .i64 ((List.getD j.sets k default).steps), Value.int .i64 ((List.getD j.sets k default).cycle), Value.bool ((List.getD j.sets k default).fresh), Value.slice A7_in_ ((List.getD j.sets k default).in_).length c7_in_] 79 [Value.int .i64 (0), Value.int .i64 (0), Value.bool (false), Value.slice none 0 0] [Value.int .i64 ((List.getD j.sets k default).steps), Value.int .i64 ((List.getD j.sets k default).cycle), Value.bool ((List.getD j.sets k default).fresh), Value.slice A7_in_ ((List.getD j.sets k default).in_).length c7_in_] (by kernel_rfl) (by kernel_rfl) (by kernel_rfl) (by kernel_rfl) (by kernel_rfl) (by kernel_rfl) (by kernel_rfl)) ?_
    rintro _ _ _ - ⟨rfl, rfl⟩
    refine wpr_end (by kernel_rfl) ?_
    refine wpq_then ?_
    refine wpa_start (ops := R40_25) (id := 5) (by kernel_rfl) (by kernel_rfl) [1, 2] [7, 6] [some ⟨b8, 79, [Value.int .i64 ((List.getD j.sets k default).steps), Value.int .i64 ((List.getD j.sets k default).cycle), Value.bool ((List.getD j.sets k default).fresh), Value.slice A7_in_ ((List.getD j.sets k default).in_).length c7_in_]⟩, some ⟨b3, 94, [Value.int .i64 (j.base), Value.slice Aj_snapshot (j.snapshot).length cj_snapshot, Value.slice Aout (out).length cout]⟩, some ⟨b2, 94, [Value.int .i64 (0), Value.slice none 0 0, Value.slice none 0 0]⟩, some ⟨b1, 90, [Value.int .i64 (j.base), Value.slice Aj_snapshot (j.snapshot).length cj_snapshot, Value.slice Aj_sets (j.sets).length cj_sets]⟩] (by kernel_rfl) (by kernel_rfl) (fun _ _ _ _ _ h => h) 8 (by kernel_rfl) (fun RG => ?_)
    have lp := Psi.le.refl g5.r
    refine wpa_take0 0 [true, false, false, false, false, false, false, false] 18 (.fieldAddr 94 (.tmp 3) 2) 0 (Value.pointer (some ⟨b3, 2, none⟩)) RG (Runs.plain (by kernel_rfl)) (by kernel_rfl) (by kernel_rfl) (fun _ => (y_pure (by kernel_rfl) (fun _ => by kernel_rfl))) ?_
    refine wpa_take 1 [true, true, false, false, false, false, false, false] 19 (.load 75 (.tmp 18)) 75 (Value.slice Aout (out).length cout) RG (Runs.plain (by kernel_rfl)) (by kernel_rfl) (by kernel_rfl) lp (keepK_P [some 0, some 2, some 3, some 4] (by kernel_rfl)) (q_load1 b3 2 1 (by kernel_rfl) (by kernel_rfl) (by kernel_rfl)) ?_
    refine wpa_take 2 [true, true, true, false, false, false, false, false] 20 (.load 79 (.tmp 5)) 79 (Value.agg #[Value.int .i64 ((List.getD j.sets k default).steps), Value.int .i64 ((List.getD j.sets k default).cycle), Value.bool ((List.getD j.sets k default).fresh), Value.slice A7_in_ ((List.getD j.sets k default).in_).length c7_in_]) RG (Runs.plain (by kernel_rfl)) (by kernel_rfl) (by kernel_rfl) lp (keepK_P [some 0, some 2, some 3, some 4] (by kernel_rfl)) (q_loadA b8 0 0 [Value.int .i64 ((List.getD j.sets k default).steps), Value.int .i64 ((List.getD j.sets k default).cycle), Value.bool ((List.getD j.sets k default).fresh), Value.slice A7_in_ ((List.getD j.sets k default).in_).length c7_in_] (by kernel_rfl) (by kernel_rfl) (by kernel_rfl)) ?_
    refine wpa_one 3 (by kernel_rfl) ?_
    refine wpi_eff [true, true, true, true, false, false, false, false] 21 (.call { callee := .value (.func 33), args := #[(.tmp 20)], argTypes := #[79] }) 86 (Runs.plain (by kernel_rfl)) (by kernel_rfl) lp (e_call [Value.agg #[Value.int .i64 ((List.getD j.sets k default).steps), Value.int .i64 ((List.getD j.sets k default).cycle), Value.bool ((List.getD j.sets k default).fresh), Value.slice A7_in_ ((List.getD j.sets k default).in_).length c7_in_]] (by kernel_rfl) (by kernel_rfl) (fun g' lr eb ln => c33 g' (List.getD j.sets k default) A7_in_ c7_in_ (by rw [eb]; exact f7_in_))) (by kernel_rfl) ?_
    rintro _ g10 _ le11 ⟨rfl, A9_0_in_, c9_0_in_, rfl, f9_0_in_⟩
    refine ⟨.inr (keepK_P [some 0, some 2, some 3, some 4] (by kernel_rfl)), ?_⟩
    have fj_snapshot := fj_snapshot.mono le11.b
    have fj_sets := fj_sets.mono le11.b
    have hk4 := hk4.mono le11.b
    have hout := hout.mono le11.b
    have hc7 := hc7.mono le11.b
    have f7_in_ := f7_in_.mono le11.b
    have L0 := L0.trans le11
    have LHL0 := LHL0.trans le11
    have lp := lp.trans le11.r
    have nf9_0_in_ := f9_0_in_.len
    refine wpa_one 4 (by kernel_rfl) ?_
    refine wpi_eff [true, true, true, true, true, false, false, false] 22 (.buildSlice 75 1 #[(0, (.tmp 21))]) 75 (Runs.plain (by kernel_rfl)) (by kernel_rfl) lp (e_buildSlice (et := 86) [(0, Value.agg #[Value.int .i64 ((ownSetS (List.getD j.sets k default)).steps), Value.int .i64 ((ownSetS (List.getD j.sets k default)).cycle), Value.bool ((ownSetS (List.getD j.sets k default)).fresh), Value.slice A9_0_in_ ((ownSetS (List.getD j.sets k default)).in_).length c9_0_in_])] [Value.int .i64 ((ownSetS (List.getD j.sets k default)).steps), Value.int .i64 ((ownSetS (List.getD j.sets k default)).cycle), Value.bool ((ownSetS (List.getD j.sets k default)).fresh), Value.slice A9_0_in_ ((ownSetS (List.getD j.sets k default)).in_).length c9_0_in_] (by kernel_rfl) (by kernel_rfl)) (by kernel_rfl) ?_
    rintro _ _ _ - ⟨b12, rfl, rfl, rfl⟩
    refine ⟨.inr (keepK_P [some 1, some 3, some 4, some 5] (by kernel_rfl)), ?_⟩
    refine wpa_one 5 (by kernel_rfl) ?_
    have hz13 : (out ++ [(ownSetS (List.getD j.sets k default))] : List Sett).length = (out : List Sett).length + 1 := by rw [List.length_append]; rfl
    refine wpi_eff [true, true, true, true, true, true, false, false] 23 (.call { callee := .builtin .append, args := #[(.tmp 19), (.tmp 22)], argTypes := #[75, 75] }) 75 (Runs.plain (by kernel_rfl)) (by kernel_rfl) lp (e_appendQ (T := tySett) (p := g10.b) (et := 86) (bytes := 48) 2 (Value.slice Aout (out).length cout) (kout) (out) (some ⟨b12, 0, none⟩) 1 1 ([(ownSetS (List.getD j.sets k default))]) (by kernel_rfl) (by kernel_rfl) (by kernel_rfl) (by kernel_rfl) hout rfl (src_lit (i := 0) (t := 86) (cs := [Value.int .i64 ((ownSetS (List.getD j.sets k default)).steps), Value.int .i64 ((ownSetS (List.getD j.sets k default)).cycle), Value.bool ((ownSetS (List.getD j.sets k default)).fresh), Value.slice A9_0_in_ ((ownSetS (List.getD j.sets k default)).in_).length c9_0_in_]) (by kernel_rfl)) (reps_cons (c := [Value.int .i64 ((ownSetS (List.getD j.sets k default)).steps), Value.int .i64 ((ownSetS (List.getD j.sets k default)).cycle), Value.bool ((ownSetS (List.getD j.sets k default)).fresh), Value.slice A9_0_in_ ((ownSetS (List.getD j.sets k default)).in_).length c9_0_in_]) ⟨A9_0_in_, c9_0_in_, rfl, f9_0_in_⟩ reps_nil) (by first | omega | (simp only [List.length_nil, List.length_cons, List.length_append] <;> omega)) (by first | omega | (simp only [List.length_nil, List.length_cons, List.length_append] <;> omega))) (by kernel_rfl) ?_
    rintro _ _ _ - ⟨A13, c13, k13, rfl, rfl, rfl, hb13⟩
    refine ⟨.inr (keepK_P [some 1, some 3, some 4, some 5] (by kernel_rfl)), ?_⟩
    have nhb13 := hb13.len
    refine wpa_take0 6 [true, true, true, true, true, true, true, false] 24 (.fieldAddr 94 (.tmp 3) 2) 0 (Value.pointer (some ⟨b3, 2, none⟩)) RG (Runs.plain (by kernel_rfl)) (by kernel_rfl) (by kernel_rfl) (fun _ => (y_pure (by kernel_rfl) (fun _ => by kernel_rfl))) ?_
    refine wpa_one 7 (by kernel_rfl) ?_
    refine wpi_do [true, true, true, true, true, true, true, true] (.store 75 (.tmp 24) (.tmp 23)) 0 (Runs.plain (by kernel_rfl)) lp (q_store b3 2 3 (Value.slice A13 ((out ++ [(ownSetS (List.getD j.sets k default))]) : List Sett).length c13) [Value.slice A13 ((out ++ [(ownSetS (List.getD j.sets k default))]) : List Sett).length c13] 94 [Value.int .i64 (j.base), Value.slice Aj_snapshot (j.snapshot).length cj_snapshot, Value.slice Aout (out).length cout] [Value.int .i64 (j.base), Value.slice Aj_snapshot (j.snapshot).length cj_snapshot, Value.slice A13 ((out ++ [(ownSetS (List.getD j.sets k default))]) : List Sett).length c13] (by kernel_rfl) (by kernel_rfl) (by kernel_rfl) (by kernel_rfl) (by kernel_rfl) (by kernel_rfl) (by kernel_rfl)) (by kernel_rfl) ?_
    rintro _ _ _ - ⟨rfl, rfl⟩
    refine ⟨.inl (by kernel_rfl), ?_⟩
    refine wpa_done (by kernel_rfl) ?_
    refine wpq_blockN ?_
    refine wpq_then ?_
    refine wpq_sub [(2, Value.pointer (some ⟨b2, 0, none⟩)), (3, Value.pointer (some ⟨b3, 0, none⟩)), (12, Value.slice Aj_sets (j.sets).length cj_sets), (13, Value.int .i64 ((((j.sets).length : Nat) : Int))), (14, Value.int .i64 ((k : Int)))] (by kernel_rfl) ?_
    refine wpc_region (ops := R40_22) (id := 6) (by kernel_rfl) ?_
    refine wpr_val 1 25 (.binOp .add 3 (.tmp 14) (.const (Value.int .i64 (1))) 3) 3 (Value.int .i64 (((k : Int) + 1))) (Runs.plain (by kernel_rfl)) (by kernel_rfl) (y_add (by kernel_rfl) (by kernel_rfl) (wr64 (by omega))) ?_
    refine wpr_val 2 14 (.move (.tmp 25)) 3 (Value.int .i64 (((k : Int) + 1))) (Runs.plain (by kernel_rfl)) (by kernel_rfl) (y_move (by kernel_rfl)) ?_
    refine wpr_end (by kernel_rfl) ?_
    refine wpq_thenN ?_
    refine wpq_sel [some 2, some 3, some 4, some 5] [k13, some ⟨b3, 94, [Value.int .i64 (j.base), Value.slice Aj_snapshot (j.snapshot).length cj_snapshot, Value.slice A13 ((out ++ [(ownSetS (List.getD j.sets k default))]) : List Sett).length c13]⟩, some ⟨b2, 94, [Value.int .i64 (0), Value.slice none 0 0, Value.slice none 0 0]⟩, some ⟨b1, 90, [Value.int .i64 (j.base), Value.slice Aj_snapshot (j.snapshot).length cj_snapshot, Value.slice Aj_sets (j.sets).length cj_sets]⟩] (by kernel_rfl) (by kernel_rfl) ?_
    refine wpq_re 14 (v := Value.int .i64 (((k : Int) + 1))) (Value.int .i64 ((((k + 1) : Nat) : Int))) (by kernel_rfl) (congrArg (Value.int .i64) (by omega)) ?_
    refine wpq_sub [(2, Value.pointer (some ⟨b2, 0, none⟩)), (3, Value.pointer (some ⟨b3, 0, none⟩)), (12, Value.slice Aj_sets (j.sets).length cj_sets), (13, Value.int .i64 ((((j.sets).length : Nat) : Int))), (14, Value.int .i64 ((((k + 1) : Nat) : Int)))] (by kernel_rfl) ?_
    exact hQL0 _ _ _ (j.sets.length - ((k + 1))) LHL0 (by omega) ⟨(k + 1), (out ++ [(ownSetS (List.getD j.sets k default))]), A13, c13, k13, rfl, rfl, rfl, hb13, by omega, (by rw [List.length_append, hc]; rfl), (by rw [take_succ_getD (d := default) (by omega), ho]; rfl)⟩
  · have h0p := of_decide_eq_false h0
    refine wpc_exit (id := 0) (by kernel_rfl) ?_
    refine wpq_thenX ?_
    refine wpq_thenX ?_
    refine wpq_blockE ?_
    refine wpq_then ?_
    refine wpc_seq (x := F40_29) (y := F40_30) (by kernel_rfl) ?_
    refine wpc_region (ops := R40_29) (id := 7) (by kernel_rfl) ?_
    refine wpr_val 1 26 (.load 94 (.tmp 3)) 94 (Value.agg #[Value.int .i64 (j.base), Value.slice Aj_snapshot (j.snapshot).length cj_snapshot, Value.slice Aout (out).length cout]) (Runs.plain (by kernel_rfl)) (by kernel_rfl) (q_loadA b3 0 1 [Value.int .i64 (j.base), Value.slice Aj_snapshot (j.snapshot).length cj_snapshot, Value.slice Aout (out).length cout] (by kernel_rfl) (by kernel_rfl) (by kernel_rfl)) ?_
    refine wpr_do 2 (.store 94 (.tmp 2) (.tmp 26)) 0 (Runs.plain (by kernel_rfl)) (by kernel_rfl) (q_store b2 0 2 (Value.agg #[Value.int .i64 (j.base), Value.slice Aj_snapshot (j.snapshot).length cj_snapshot, Value.slice Aout (out).length cout]) [Value.int .i64 (j.base), Value.slice Aj_snapshot (j.snapshot).length cj_snapshot, Value.slice Aout (out).length cout] 94 [Value.int .i64 (0), Value.slice none 0 0, Value.slice none 0 0] [Value.int .i64 (j.base), Value.slice Aj_snapshot (j.snapshot).length cj_snapshot, Value.slice Aout (out).length cout] (by kernel_rfl) (by kernel_rfl) (by kernel_rfl) (by kernel_rfl) (by kernel_rfl) (by kernel_rfl) (by kernel_rfl)) ?_
    rintro _ _ _ - ⟨rfl, rfl⟩
    refine wpr_end (by kernel_rfl) ?_
    refine wpq_then ?_
    refine wpq_sub [(2, Value.pointer (some ⟨b2, 0, none⟩))] (by kernel_rfl) ?_
    refine wpq_freeze 0 (by kernel_rfl) hout (fun g14 le15 f16 => ?_)
    have fj_snapshot := fj_snapshot.mono le15.b
    have fj_sets := fj_sets.mono le15.b
    have hk4 := hk4.mono le15.b
    have L0 := L0.trans le15
    have LHL0 := LHL0.trans le15
    refine wpc_ret (rs := [.cell 2 94]) [Value.agg #[Value.int .i64 (j.base), Value.slice Aj_snapshot (j.snapshot).length cj_snapshot, Value.slice Aout (out).length cout]] [] (by kernel_rfl) (fun _ _ h => h) (by kernel_rfl) (rq_cellA b2 0 2 [Value.int .i64 (j.base), Value.slice Aj_snapshot (j.snapshot).length cj_snapshot, Value.slice Aout (out).length cout] (by kernel_rfl) (by kernel_rfl) (by kernel_rfl) res_nil) L0 keep0 ?_
    have eS : ( j) = (⟨(j.base : Int), (j.snapshot : List UInt8), (out : List Sett)⟩ : Job) := by
      rw [ho, List.take_of_length_le (by omega)]
    rw [eS]
    exact ⟨rfl, Aj_snapshot, cj_snapshot, Aout, cout, rfl, fj_snapshot, f16⟩

noncomputable def F30_0 : Code := sub (Try.f30.body.getD .skip) []
noncomputable def F30_1 : Code := sub (Try.f30.body.getD .skip) [0]
noncomputable def F30_2 : Code := sub (Try.f30.body.getD .skip) [1]
noncomputable def R30_1 : Array Oper := regOf F30_1
noncomputable def F30_4 : Code := sub (Try.f30.body.getD .skip) [1, 0]
noncomputable def F30_5 : Code := sub (Try.f30.body.getD .skip) [1, 1]
noncomputable def R30_4 : Array Oper := regOf F30_4
noncomputable def F30_7 : Code := sub (Try.f30.body.getD .skip) [1, 1, 0]
noncomputable def F30_8 : Code := sub (Try.f30.body.getD .skip) [1, 1, 1]
noncomputable def F30_9 : Code := sub (Try.f30.body.getD .skip) [1, 1, 0, 0]
noncomputable def F30_10 : Code := sub (Try.f30.body.getD .skip) [1, 1, 0, 1]
noncomputable def R30_9 : Array Oper := regOf F30_9
noncomputable def F30_12 : Code := sub (Try.f30.body.getD .skip) [1, 1, 0, 1, 0]
noncomputable def F30_13 : Code := sub (Try.f30.body.getD .skip) [1, 1, 0, 1, 1]
noncomputable def F30_14 : Code := sub (Try.f30.body.getD .skip) [1, 1, 0, 1, 0, 0]
noncomputable def F30_15 : Code := sub (Try.f30.body.getD .skip) [1, 1, 0, 1, 0, 1]
noncomputable def R30_14 : Array Oper := regOf F30_14
noncomputable def F30_17 : Code := sub (Try.f30.body.getD .skip) [1, 1, 1, 0]
noncomputable def F30_18 : Code := sub (Try.f30.body.getD .skip) [1, 1, 1, 1]
noncomputable def F30_19 : Code := sub (Try.f30.body.getD .skip) [1, 1, 1, 0, 0]
noncomputable def F30_20 : Code := sub (Try.f30.body.getD .skip) [1, 1, 1, 0, 1]
noncomputable def R30_19 : Array Oper := regOf F30_19
noncomputable def F30_22 : Code := sub (Try.f30.body.getD .skip) [1, 1, 1, 0, 1, 0]
noncomputable def F30_23 : Code := sub (Try.f30.body.getD .skip) [1, 1, 1, 0, 1, 1]
noncomputable def F30_24 : Code := sub (Try.f30.body.getD .skip) [1, 1, 1, 0, 1, 0, 0]
noncomputable def F30_25 : Code := sub (Try.f30.body.getD .skip) [1, 1, 1, 0, 1, 0, 1]
noncomputable def R30_24 : Array Oper := regOf F30_24
noncomputable def F30_27 : Code := sub (Try.f30.body.getD .skip) [1, 1, 1, 0, 1, 0, 1, 0]
noncomputable def F30_28 : Code := sub (Try.f30.body.getD .skip) [1, 1, 1, 0, 1, 0, 1, 1]
noncomputable def R30_27 : Array Oper := regOf F30_27
noncomputable def F30_30 : Code := sub (Try.f30.body.getD .skip) [1, 1, 1, 1, 0]
noncomputable def F30_31 : Code := sub (Try.f30.body.getD .skip) [1, 1, 1, 1, 1]
noncomputable def F30_32 : Code := sub (Try.f30.body.getD .skip) [1, 1, 1, 1, 0, 0]
noncomputable def F30_33 : Code := sub (Try.f30.body.getD .skip) [1, 1, 1, 1, 0, 1]
noncomputable def R30_32 : Array Oper := regOf F30_32
noncomputable def F30_35 : Code := sub (Try.f30.body.getD .skip) [1, 1, 1, 1, 0, 1, 0]
noncomputable def F30_36 : Code := sub (Try.f30.body.getD .skip) [1, 1, 1, 1, 0, 1, 1]
noncomputable def F30_37 : Code := sub (Try.f30.body.getD .skip) [1, 1, 1, 1, 0, 1, 0, 0]
noncomputable def F30_38 : Code := sub (Try.f30.body.getD .skip) [1, 1, 1, 1, 0, 1, 0, 1]
noncomputable def R30_37 : Array Oper := regOf F30_37
noncomputable def F30_40 : Code := sub (Try.f30.body.getD .skip) [1, 1, 1, 1, 1, 0]
noncomputable def F30_41 : Code := sub (Try.f30.body.getD .skip) [1, 1, 1, 1, 1, 1]
noncomputable def R30_40 : Array Oper := regOf F30_40
def rtakeS (c : Coll) (p : Piece) : Coll :=
  (cond (((rencS p).2 != 0)) c (cond ((((decide ((((c.parts).length : Nat) : Int) > 0) && (p.base == c.base)) && (p.count == c.count)) && (p.index == (((c.parts).length : Nat) : Int)))) (⟨(c.base : Int), (c.count : Int), ((c.parts ++ [p.data]) : List (List UInt8)), (c.sets : List Sett)⟩ : Coll) (cond ((p.index == 0)) (⟨(p.base : Int), (p.count : Int), (([p.data] : List (List UInt8)) : List (List UInt8)), ([] : List Sett)⟩ : Coll) c)))
set_option maxRecDepth 100000 in
theorem c30 (g : Gh) (c : Coll) (Ac_parts : Option Addr) (cc_parts : Nat) (Ac_sets : Option Addr) (cc_sets : Nat) (p : Piece) (Ap_data : Option Addr) (cp_data : Nat) (fc_parts : Arr g.b (tyArr tyU8) Ac_parts cc_parts c.parts) (fc_sets : Arr g.b tySett Ac_sets cc_sets c.sets) (fp_data : Arr g.b tyU8 Ap_data cp_data p.data) (hl : c.parts.length ≤ 1000000) :
    Ctr0 Try.prog 30 [Value.agg #[Value.int .i64 (c.base), Value.int .i64 (c.count), Value.slice Ac_parts (c.parts).length cc_parts, Value.slice Ac_sets (c.sets).length cc_sets], Value.agg #[Value.int .i64 (p.base), Value.int .i64 (p.index), Value.int .i64 (p.count), Value.slice Ap_data (p.data).length cp_data]] g (fun v ψ => ∃ (Ar_parts : Option Addr) (cr_parts : Nat) (Ar_sets : Option Addr) (cr_sets : Nat), v = Value.agg #[Value.int .i64 ((rtakeS c p).base), Value.int .i64 ((rtakeS c p).count), Value.slice Ar_parts ((rtakeS c p).parts).length cr_parts, Value.slice Ar_sets ((rtakeS c p).sets).length cr_sets] ∧ Arr ψ (tyArr tyU8) Ar_parts cr_parts (rtakeS c p).parts ∧ Arr ψ tySett Ar_sets cr_sets (rtakeS c p).sets) := by
  refine ctr_of Try.f30 F30_0 63 [Value.agg #[Value.int .i64 (c.base), Value.int .i64 (c.count), Value.slice Ac_parts (c.parts).length cc_parts, Value.slice Ac_sets (c.sets).length cc_sets], Value.agg #[Value.int .i64 (p.base), Value.int .i64 (p.index), Value.int .i64 (p.count), Value.slice Ap_data (p.data).length cp_data]] (by kernel_rfl) (by kernel_rfl) (by kernel_rfl) (by kernel_rfl) ?_
  have L0 := Gh.le.refl g
  have nfc_parts := fc_parts.len
  have nfc_sets := fc_sets.len
  have nfp_data := fp_data.len
  refine wpc_seq (x := F30_1) (y := F30_2) (by kernel_rfl) ?_
  refine wpc_region (ops := R30_1) (id := 0) (by kernel_rfl) ?_
  refine wpr_eff 1 2 (.box 77 (.tmp 0)) 0 (Runs.plain (by kernel_rfl)) (by kernel_rfl) (e_box (v := Value.agg #[Value.int .i64 (c.base), Value.int .i64 (c.count), Value.slice Ac_parts (c.parts).length cc_parts, Value.slice Ac_sets (c.sets).length cc_sets]) (cs := [Value.int .i64 (c.base), Value.int .i64 (c.count), Value.slice Ac_parts (c.parts).length cc_parts, Value.slice Ac_sets (c.sets).length cc_sets]) (by kernel_rfl) (by kernel_rfl)) ?_
  rintro _ _ _ - ⟨b1, rfl, rfl, rfl⟩
  refine wpr_eff 2 3 (.box 35 (.tmp 1)) 0 (Runs.plain (by kernel_rfl)) (by kernel_rfl) (e_box (v := Value.agg #[Value.int .i64 (p.base), Value.int .i64 (p.index), Value.int .i64 (p.count), Value.slice Ap_data (p.data).length cp_data]) (cs := [Value.int .i64 (p.base), Value.int .i64 (p.index), Value.int .i64 (p.count), Value.slice Ap_data (p.data).length cp_data]) (by kernel_rfl) (by kernel_rfl)) ?_
  rintro _ _ _ - ⟨b2, rfl, rfl, rfl⟩
  refine wpr_eff 3 4 (.alloc 77) 0 (Runs.plain (by kernel_rfl)) (by kernel_rfl) (e_alloc (cs := [Value.int .i64 (0), Value.int .i64 (0), Value.slice none 0 0, Value.slice none 0 0]) (by kernel_rfl)) ?_
  rintro _ _ _ - ⟨b3, rfl, rfl, rfl⟩
  refine wpr_end (by kernel_rfl) ?_
  refine wpq_then ?_
  refine wpc_seq (x := F30_4) (y := F30_5) (by kernel_rfl) ?_
  refine wpc_region (ops := R30_4) (id := 1) (by kernel_rfl) ?_
  refine wpr_val 1 8 (.load 35 (.tmp 3)) 35 (Value.agg #[Value.int .i64 (p.base), Value.int .i64 (p.index), Value.int .i64 (p.count), Value.slice Ap_data (p.data).length cp_data]) (Runs.plain (by kernel_rfl)) (by kernel_rfl) (q_loadA b2 0 1 [Value.int .i64 (p.base), Value.int .i64 (p.index), Value.int .i64 (p.count), Value.slice Ap_data (p.data).length cp_data] (by kernel_rfl) (by kernel_rfl) (by kernel_rfl)) ?_
  refine wpr_eff 2 9 (.call { callee := .value (.func 25), args := #[(.tmp 8)], argTypes := #[35] }) 64 (Runs.plain (by kernel_rfl)) (by kernel_rfl) (e_call [Value.agg #[Value.int .i64 (p.base), Value.int .i64 (p.index), Value.int .i64 (p.count), Value.slice Ap_data (p.data).length cp_data]] (by kernel_rfl) (by kernel_rfl) (fun g' lr eb ln => c25 g' p Ap_data cp_data ((fp_data.mono g.br).mono lr))) ?_
  rintro _ g5 _ le6 ⟨rfl, A4_0, c4_0, rfl, f4_0⟩
  have fc_parts := fc_parts.mono le6.b
  have fc_sets := fc_sets.mono le6.b
  have fp_data := fp_data.mono le6.b
  have L0 := L0.trans le6
  have nf4_0 := f4_0.len
  refine wpr_val 3 7 (.move (.tmp 9)) 64 (Value.tuple #[Value.slice A4_0 ((rencS p).1).length c4_0, Value.int .i64 ((rencS p).2)]) (Runs.plain (by kernel_rfl)) (by kernel_rfl) (y_move (by kernel_rfl)) ?_
  refine wpr_val 4 10 (.extract (.tmp 7) 0) 22 (Value.slice A4_0 ((rencS p).1).length c4_0) (Runs.plain (by kernel_rfl)) (by kernel_rfl) (y_pure (by kernel_rfl) (fun _ => by kernel_rfl)) ?_
  refine wpr_val 5 11 (.extract (.tmp 7) 1) 27 (Value.int .i64 ((rencS p).2)) (Runs.plain (by kernel_rfl)) (by kernel_rfl) (y_pure (by kernel_rfl) (fun _ => by kernel_rfl)) ?_
  refine wpr_val 6 5 (.assign (.tmp 10)) 22 (Value.slice A4_0 ((rencS p).1).length c4_0) (Runs.plain (by kernel_rfl)) (by kernel_rfl) (y_assign (by kernel_rfl)) ?_
  refine wpr_val 7 6 (.assign (.tmp 11)) 27 (Value.int .i64 ((rencS p).2)) (Runs.plain (by kernel_rfl)) (by kernel_rfl) (y_assign (by kernel_rfl)) ?_
  refine wpr_end (by kernel_rfl) ?_
  refine wpq_then ?_
  refine wpq_sub [(2, Value.pointer (some ⟨b1, 0, none⟩)), (3, Value.pointer (some ⟨b2, 0, none⟩)), (4, Value.pointer (some ⟨b3, 0, none⟩)), (6, Value.int .i64 ((rencS p).2))] (by kernel_rfl) ?_
  refine wpc_seq (x := F30_7) (y := F30_8) (by kernel_rfl) ?_
  refine wpc_seq (x := F30_9) (y := F30_10) (by kernel_rfl) ?_
  refine wpc_region (ops := R30_9) (id := 2) (by kernel_rfl) ?_
  refine wpr_val 1 12 (.move (.tmp 6)) 27 (Value.int .i64 ((rencS p).2)) (Runs.plain (by kernel_rfl)) (by kernel_rfl) (y_move (by kernel_rfl)) ?_
  refine wpr_val 2 13 (.binOp .neq 27 (.tmp 12) (.const (Value.int .i64 (0))) 27) 4 (Value.bool (((rencS p).2 != 0))) (Runs.plain (by kernel_rfl)) (by kernel_rfl) (y_pure (by kernel_rfl) (fun _ => by kernel_rfl)) ?_
  refine wpr_end (by kernel_rfl) ?_
  refine wpq_then ?_
  -- condition 0
  refine wpc_cond (x := F30_12) (y := F30_13) (o := (.tmp 13)) (b := ((rencS p).2 != 0)) (by kernel_rfl) (by kernel_rfl) (fun h0 => ?_) (fun h0 => ?_)
  · have h0p : ¬ ((rencS p).2 = 0) := ne_of_bne_ h0
    refine wpc_seq (x := F30_14) (y := F30_15) (by kernel_rfl) ?_
    refine wpc_region (ops := R30_14) (id := 3) (by kernel_rfl) ?_
    refine wpr_val 1 14 (.load 77 (.tmp 2)) 77 (Value.agg #[Value.int .i64 (c.base), Value.int .i64 (c.count), Value.slice Ac_parts (c.parts).length cc_parts, Value.slice Ac_sets (c.sets).length cc_sets]) (Runs.plain (by kernel_rfl)) (by kernel_rfl) (q_loadA b1 0 2 [Value.int .i64 (c.base), Value.int .i64 (c.count), Value.slice Ac_parts (c.parts).length cc_parts, Value.slice Ac_sets (c.sets).length cc_sets] (by kernel_rfl) (by kernel_rfl) (by kernel_rfl)) ?_
    refine wpr_do 2 (.store 77 (.tmp 4) (.tmp 14)) 0 (Runs.plain (by kernel_rfl)) (by kernel_rfl) (q_store b3 0 0 (Value.agg #[Value.int .i64 (c.base), Value.int .i64 (c.count), Value.slice Ac_parts (c.parts).length cc_parts, Value.slice Ac_sets (c.sets).length cc_sets]) [Value.int .i64 (c.base), Value.int .i64 (c.count), Value.slice Ac_parts (c.parts).length cc_parts, Value.slice Ac_sets (c.sets).length cc_sets] 77 [Value.int .i64 (0), Value.int .i64 (0), Value.slice none 0 0, Value.slice none 0 0] [Value.int .i64 (c.base), Value.int .i64 (c.count), Value.slice Ac_parts (c.parts).length cc_parts, Value.slice Ac_sets (c.sets).length cc_sets] (by kernel_rfl) (by kernel_rfl) (by kernel_rfl) (by kernel_rfl) (by kernel_rfl) (by kernel_rfl) (by kernel_rfl)) ?_
    rintro _ _ _ - ⟨rfl, rfl⟩
    refine wpr_end (by kernel_rfl) ?_
    refine wpq_then ?_
    refine wpq_sub [(4, Value.pointer (some ⟨b3, 0, none⟩))] (by kernel_rfl) ?_
    refine wpc_ret (rs := [.cell 4 77]) [Value.agg #[Value.int .i64 (c.base), Value.int .i64 (c.count), Value.slice Ac_parts (c.parts).length cc_parts, Value.slice Ac_sets (c.sets).length cc_sets]] [] (by kernel_rfl) (fun _ _ h => h) (by kernel_rfl) (rq_cellA b3 0 0 [Value.int .i64 (c.base), Value.int .i64 (c.count), Value.slice Ac_parts (c.parts).length cc_parts, Value.slice Ac_sets (c.sets).length cc_sets] (by kernel_rfl) (by kernel_rfl) (by kernel_rfl) res_nil) L0 keep0 ?_
    have eS : (rtakeS c p) = c := by
      unfold rtakeS
      rw [h0]
      rfl
    rw [eS]
    exact ⟨rfl, Ac_parts, cc_parts, Ac_sets, cc_sets, rfl, fc_parts, fc_sets⟩
  · have h0p : (rencS p).2 = 0 := eq_of_bne_false_ h0
    refine wpc_skip (by kernel_rfl) ?_
    refine wpq_then ?_
    refine wpc_seq (x := F30_17) (y := F30_18) (by kernel_rfl) ?_
    refine wpc_seq (x := F30_19) (y := F30_20) (by kernel_rfl) ?_
    refine wpc_region (ops := R30_19) (id := 4) (by kernel_rfl) ?_
    refine wpr_val 1 15 (.fieldAddr 77 (.tmp 2) 2) 0 (Value.pointer (some ⟨b1, 2, none⟩)) (Runs.plain (by kernel_rfl)) (by kernel_rfl) (y_pure (by kernel_rfl) (fun _ => by kernel_rfl)) ?_
    refine wpr_val 2 16 (.load 74 (.tmp 15)) 74 (Value.slice Ac_parts (c.parts).length cc_parts) (Runs.plain (by kernel_rfl)) (by kernel_rfl) (q_load1 b1 2 2 (by kernel_rfl) (by kernel_rfl) (by kernel_rfl)) ?_
    refine wpr_val 3 17 (.call { callee := .builtin .len, args := #[(.tmp 16)], argTypes := #[74] }) 3 (Value.int .i64 ((((c.parts).length : Nat) : Int))) (Runs.plain (by kernel_rfl)) (by kernel_rfl) (y_pure (by kernel_rfl) (fun _ => by kernel_rfl)) ?_
    refine wpr_val 4 18 (.binOp .gtr 3 (.tmp 17) (.const (Value.int .i64 (0))) 3) 4 (Value.bool (decide ((((c.parts).length : Nat) : Int) > 0))) (Runs.plain (by kernel_rfl)) (by kernel_rfl) (y_pure (by kernel_rfl) (fun _ => by kernel_rfl)) ?_
    refine wpr_val 5 19 (.move (.tmp 18)) 4 (Value.bool (decide ((((c.parts).length : Nat) : Int) > 0))) (Runs.plain (by kernel_rfl)) (by kernel_rfl) (y_move (by kernel_rfl)) ?_
    refine wpr_grp 11 [(2, Value.pointer (some ⟨b1, 0, none⟩)), (3, Value.pointer (some ⟨b2, 0, none⟩)), (4, Value.pointer (some ⟨b3, 0, none⟩)), (25, Value.bool ((decide ((((c.parts).length : Nat) : Int) > 0) && (p.base == c.base))))] (fun hk4 => ?_) ?_
    · refine wpq_split 19 (b := decide ((((c.parts).length : Nat) : Int) > 0)) (by kernel_rfl) (fun q7 => ?_) (fun q7 => ?_)
      · have q7p := of_decide_eq_true q7
        refine wpr_val 6 20 (.fieldAddr 35 (.tmp 3) 0) 0 (Value.pointer (some ⟨b2, 0, none⟩)) (Runs.guarded (j := 4) (t := 19) (b := true) (by kernel_rfl) (by kernel_rfl) (by kernel_rfl)) (by kernel_rfl) (y_pure (by kernel_rfl) (fun _ => by kernel_rfl)) ?_
        refine wpr_val 7 21 (.load 2 (.tmp 20)) 2 (Value.int .i64 (p.base)) (Runs.guarded (j := 4) (t := 19) (b := true) (by kernel_rfl) (by kernel_rfl) (by kernel_rfl)) (by kernel_rfl) (q_load1 b2 0 1 (by kernel_rfl) (by kernel_rfl) (by kernel_rfl)) ?_
        refine wpr_val 8 22 (.fieldAddr 77 (.tmp 2) 0) 0 (Value.pointer (some ⟨b1, 0, none⟩)) (Runs.guarded (j := 4) (t := 19) (b := true) (by kernel_rfl) (by kernel_rfl) (by kernel_rfl)) (by kernel_rfl) (y_pure (by kernel_rfl) (fun _ => by kernel_rfl)) ?_
        refine wpr_val 9 23 (.load 2 (.tmp 22)) 2 (Value.int .i64 (c.base)) (Runs.guarded (j := 4) (t := 19) (b := true) (by kernel_rfl) (by kernel_rfl) (by kernel_rfl)) (by kernel_rfl) (q_load1 b1 0 2 (by kernel_rfl) (by kernel_rfl) (by kernel_rfl)) ?_
        refine wpr_val 10 24 (.binOp .eql 2 (.tmp 21) (.tmp 23) 2) 4 (Value.bool ((p.base == c.base))) (Runs.guarded (j := 4) (t := 19) (b := true) (by kernel_rfl) (by kernel_rfl) (by kernel_rfl)) (by kernel_rfl) (y_pure (by kernel_rfl) (fun _ => by kernel_rfl)) ?_
        refine wpr_val 11 25 (.pick (.tmp 19) (.tmp 24) (.const (Value.bool (false)))) 4 (Value.bool ((p.base == c.base))) (Runs.plain (by kernel_rfl)) (by kernel_rfl) (y_pickT (by kernel_rfl) (by kernel_rfl)) ?_
        refine wpq_re 25 (v := Value.bool ((p.base == c.base))) (Value.bool ((decide ((((c.parts).length : Nat) : Int) > 0) && (p.base == c.base)))) (by kernel_rfl) (re_and1 q7) ?_
        exact wpq_sub _ (by kernel_rfl) hk4
      · have q7p := of_decide_eq_false q7
        refine wpr_skip 6 20 (Skips.mk' (j := 4) (t := 19) (b := true) (by kernel_rfl) (by kernel_rfl) (by kernel_rfl)) (by kernel_rfl) ?_
        refine wpr_skip 7 21 (Skips.mk' (j := 4) (t := 19) (b := true) (by kernel_rfl) (by kernel_rfl) (by kernel_rfl)) (by kernel_rfl) ?_
        refine wpr_skip 8 22 (Skips.mk' (j := 4) (t := 19) (b := true) (by kernel_rfl) (by kernel_rfl) (by kernel_rfl)) (by kernel_rfl) ?_
        refine wpr_skip 9 23 (Skips.mk' (j := 4) (t := 19) (b := true) (by kernel_rfl) (by kernel_rfl) (by kernel_rfl)) (by kernel_rfl) ?_
        refine wpr_skip 10 24 (Skips.mk' (j := 4) (t := 19) (b := true) (by kernel_rfl) (by kernel_rfl) (by kernel_rfl)) (by kernel_rfl) ?_
        refine wpr_val 11 25 (.pick (.tmp 19) (.tmp 24) (.const (Value.bool (false)))) 4 (Value.bool (false)) (Runs.plain (by kernel_rfl)) (by kernel_rfl) (y_pickF (by kernel_rfl) (by kernel_rfl)) ?_
        refine wpq_re 25 (v := Value.bool (false)) (Value.bool ((decide ((((c.parts).length : Nat) : Int) > 0) && (p.base == c.base)))) (by kernel_rfl) (re_and0 q7) ?_
        exact wpq_sub _ (by kernel_rfl) hk4
    · refine wpr_val 12 26 (.move (.tmp 25)) 4 (Value.bool ((decide ((((c.parts).length : Nat) : Int) > 0) && (p.base == c.base)))) (Runs.plain (by kernel_rfl)) (by kernel_rfl) (y_move (by kernel_rfl)) ?_
      refine wpr_grp 18 [(2, Value.pointer (some ⟨b1, 0, none⟩)), (3, Value.pointer (some ⟨b2, 0, none⟩)), (4, Value.pointer (some ⟨b3, 0, none⟩)), (32, Value.bool (((decide ((((c.parts).length : Nat) : Int) > 0) && (p.base == c.base)) && (p.count == c.count))))] (fun hk11 => ?_) ?_
      · refine wpq_split 26 (b := (decide ((((c.parts).length : Nat) : Int) > 0) && (p.base == c.base))) (by kernel_rfl) (fun q8 => ?_) (fun q8 => ?_)
        · have q8l := (and_true_ q8).1
          have q8r := (and_true_ q8).2
          have q8lp := of_decide_eq_true q8l
          have q8rp : p.base = c.base := eq_of_beq q8r
          refine wpr_val 13 27 (.fieldAddr 35 (.tmp 3) 2) 0 (Value.pointer (some ⟨b2, 2, none⟩)) (Runs.guarded (j := 11) (t := 26) (b := true) (by kernel_rfl) (by kernel_rfl) (by kernel_rfl)) (by kernel_rfl) (y_pure (by kernel_rfl) (fun _ => by kernel_rfl)) ?_
          refine wpr_val 14 28 (.load 3 (.tmp 27)) 3 (Value.int .i64 (p.count)) (Runs.guarded (j := 11) (t := 26) (b := true) (by kernel_rfl) (by kernel_rfl) (by kernel_rfl)) (by kernel_rfl) (q_load1 b2 2 1 (by kernel_rfl) (by kernel_rfl) (by kernel_rfl)) ?_
          refine wpr_val 15 29 (.fieldAddr 77 (.tmp 2) 1) 0 (Value.pointer (some ⟨b1, 1, none⟩)) (Runs.guarded (j := 11) (t := 26) (b := true) (by kernel_rfl) (by kernel_rfl) (by kernel_rfl)) (by kernel_rfl) (y_pure (by kernel_rfl) (fun _ => by kernel_rfl)) ?_
          refine wpr_val 16 30 (.load 3 (.tmp 29)) 3 (Value.int .i64 (c.count)) (Runs.guarded (j := 11) (t := 26) (b := true) (by kernel_rfl) (by kernel_rfl) (by kernel_rfl)) (by kernel_rfl) (q_load1 b1 1 2 (by kernel_rfl) (by kernel_rfl) (by kernel_rfl)) ?_
          refine wpr_val 17 31 (.binOp .eql 3 (.tmp 28) (.tmp 30) 3) 4 (Value.bool ((p.count == c.count))) (Runs.guarded (j := 11) (t := 26) (b := true) (by kernel_rfl) (by kernel_rfl) (by kernel_rfl)) (by kernel_rfl) (y_pure (by kernel_rfl) (fun _ => by kernel_rfl)) ?_
          refine wpr_val 18 32 (.pick (.tmp 26) (.tmp 31) (.const (Value.bool (false)))) 4 (Value.bool ((p.count == c.count))) (Runs.plain (by kernel_rfl)) (by kernel_rfl) (y_pickT (by kernel_rfl) (by kernel_rfl)) ?_
          refine wpq_re 32 (v := Value.bool ((p.count == c.count))) (Value.bool (((decide ((((c.parts).length : Nat) : Int) > 0) && (p.base == c.base)) && (p.count == c.count)))) (by kernel_rfl) (re_and1 q8) ?_
          exact wpq_sub _ (by kernel_rfl) hk11
        · refine wpr_skip 13 27 (Skips.mk' (j := 11) (t := 26) (b := true) (by kernel_rfl) (by kernel_rfl) (by kernel_rfl)) (by kernel_rfl) ?_
          refine wpr_skip 14 28 (Skips.mk' (j := 11) (t := 26) (b := true) (by kernel_rfl) (by kernel_rfl) (by kernel_rfl)) (by kernel_rfl) ?_
          refine wpr_skip 15 29 (Skips.mk' (j := 11) (t := 26) (b := true) (by kernel_rfl) (by kernel_rfl) (by kernel_rfl)) (by kernel_rfl) ?_
          refine wpr_skip 16 30 (Skips.mk' (j := 11) (t := 26) (b := true) (by kernel_rfl) (by kernel_rfl) (by kernel_rfl)) (by kernel_rfl) ?_
          refine wpr_skip 17 31 (Skips.mk' (j := 11) (t := 26) (b := true) (by kernel_rfl) (by kernel_rfl) (by kernel_rfl)) (by kernel_rfl) ?_
          refine wpr_val 18 32 (.pick (.tmp 26) (.tmp 31) (.const (Value.bool (false)))) 4 (Value.bool (false)) (Runs.plain (by kernel_rfl)) (by kernel_rfl) (y_pickF (by kernel_rfl) (by kernel_rfl)) ?_
          refine wpq_re 32 (v := Value.bool (false)) (Value.bool (((decide ((((c.parts).length : Nat) : Int) > 0) && (p.base == c.base)) && (p.count == c.count)))) (by kernel_rfl) (re_and0 q8) ?_
          exact wpq_sub _ (by kernel_rfl) hk11
      · refine wpr_val 19 33 (.move (.tmp 32)) 4 (Value.bool (((decide ((((c.parts).length : Nat) : Int) > 0) && (p.base == c.base)) && (p.count == c.count)))) (Runs.plain (by kernel_rfl)) (by kernel_rfl) (y_move (by kernel_rfl)) ?_
        refine wpr_grp 26 [(2, Value.pointer (some ⟨b1, 0, none⟩)), (3, Value.pointer (some ⟨b2, 0, none⟩)), (4, Value.pointer (some ⟨b3, 0, none⟩)), (40, Value.bool ((((decide ((((c.parts).length : Nat) : Int) > 0) && (p.base == c.base)) && (p.count == c.count)) && (p.index == (((c.parts).length : Nat) : Int)))))] (fun hk18 => ?_) ?_
        · refine wpq_split 33 (b := ((decide ((((c.parts).length : Nat) : Int) > 0) && (p.base == c.base)) && (p.count == c.count))) (by kernel_rfl) (fun q9 => ?_) (fun q9 => ?_)
          · have q9l := (and_true_ q9).1
            have q9r := (and_true_ q9).2
            have q9ll := (and_true_ q9l).1
            have q9lr := (and_true_ q9l).2
            have q9llp := of_decide_eq_true q9ll
            have q9lrp : p.base = c.base := eq_of_beq q9lr
            have q9rp : p.count = c.count := eq_of_beq q9r
            refine wpr_val 20 34 (.fieldAddr 35 (.tmp 3) 1) 0 (Value.pointer (some ⟨b2, 1, none⟩)) (Runs.guarded (j := 18) (t := 33) (b := true) (by kernel_rfl) (by kernel_rfl) (by kernel_rfl)) (by kernel_rfl) (y_pure (by kernel_rfl) (fun _ => by kernel_rfl)) ?_
            refine wpr_val 21 35 (.load 3 (.tmp 34)) 3 (Value.int .i64 (p.index)) (Runs.guarded (j := 18) (t := 33) (b := true) (by kernel_rfl) (by kernel_rfl) (by kernel_rfl)) (by kernel_rfl) (q_load1 b2 1 1 (by kernel_rfl) (by kernel_rfl) (by kernel_rfl)) ?_
            refine wpr_val 22 36 (.fieldAddr 77 (.tmp 2) 2) 0 (Value.pointer (some ⟨b1, 2, none⟩)) (Runs.guarded (j := 18) (t := 33) (b := true) (by kernel_rfl) (by kernel_rfl) (by kernel_rfl)) (by kernel_rfl) (y_pure (by kernel_rfl) (fun _ => by kernel_rfl)) ?_
            refine wpr_val 23 37 (.load 74 (.tmp 36)) 74 (Value.slice Ac_parts (c.parts).length cc_parts) (Runs.guarded (j := 18) (t := 33) (b := true) (by kernel_rfl) (by kernel_rfl) (by kernel_rfl)) (by kernel_rfl) (q_load1 b1 2 2 (by kernel_rfl) (by kernel_rfl) (by kernel_rfl)) ?_
            refine wpr_val 24 38 (.call { callee := .builtin .len, args := #[(.tmp 37)], argTypes := #[74] }) 3 (Value.int .i64 ((((c.parts).length : Nat) : Int))) (Runs.guarded (j := 18) (t := 33) (b := true) (by kernel_rfl) (by kernel_rfl) (by kernel_rfl)) (by kernel_rfl) (y_pure (by kernel_rfl) (fun _ => by kernel_rfl)) ?_
            refine wpr_val 25 39 (.binOp .eql 3 (.tmp 35) (.tmp 38) 3) 4 (Value.bool ((p.index == (((c.parts).length : Nat) : Int)))) (Runs.guarded (j := 18) (t := 33) (b := true) (by kernel_rfl) (by kernel_rfl) (by kernel_rfl)) (by kernel_rfl) (y_pure (by kernel_rfl) (fun _ => by kernel_rfl)) ?_
            refine wpr_val 26 40 (.pick (.tmp 33) (.tmp 39) (.const (Value.bool (false)))) 4 (Value.bool ((p.index == (((c.parts).length : Nat) : Int)))) (Runs.plain (by kernel_rfl)) (by kernel_rfl) (y_pickT (by kernel_rfl) (by kernel_rfl)) ?_
            refine wpq_re 40 (v := Value.bool ((p.index == (((c.parts).length : Nat) : Int)))) (Value.bool ((((decide ((((c.parts).length : Nat) : Int) > 0) && (p.base == c.base)) && (p.count == c.count)) && (p.index == (((c.parts).length : Nat) : Int))))) (by kernel_rfl) (re_and1 q9) ?_
            exact wpq_sub _ (by kernel_rfl) hk18
          · refine wpr_skip 20 34 (Skips.mk' (j := 18) (t := 33) (b := true) (by kernel_rfl) (by kernel_rfl) (by kernel_rfl)) (by kernel_rfl) ?_
            refine wpr_skip 21 35 (Skips.mk' (j := 18) (t := 33) (b := true) (by kernel_rfl) (by kernel_rfl) (by kernel_rfl)) (by kernel_rfl) ?_
            refine wpr_skip 22 36 (Skips.mk' (j := 18) (t := 33) (b := true) (by kernel_rfl) (by kernel_rfl) (by kernel_rfl)) (by kernel_rfl) ?_
            refine wpr_skip 23 37 (Skips.mk' (j := 18) (t := 33) (b := true) (by kernel_rfl) (by kernel_rfl) (by kernel_rfl)) (by kernel_rfl) ?_
            refine wpr_skip 24 38 (Skips.mk' (j := 18) (t := 33) (b := true) (by kernel_rfl) (by kernel_rfl) (by kernel_rfl)) (by kernel_rfl) ?_
            refine wpr_skip 25 39 (Skips.mk' (j := 18) (t := 33) (b := true) (by kernel_rfl) (by kernel_rfl) (by kernel_rfl)) (by kernel_rfl) ?_
            refine wpr_val 26 40 (.pick (.tmp 33) (.tmp 39) (.const (Value.bool (false)))) 4 (Value.bool (false)) (Runs.plain (by kernel_rfl)) (by kernel_rfl) (y_pickF (by kernel_rfl) (by kernel_rfl)) ?_
            refine wpq_re 40 (v := Value.bool (false)) (Value.bool ((((decide ((((c.parts).length : Nat) : Int) > 0) && (p.base == c.base)) && (p.count == c.count)) && (p.index == (((c.parts).length : Nat) : Int))))) (by kernel_rfl) (re_and0 q9) ?_
            exact wpq_sub _ (by kernel_rfl) hk18
        · refine wpr_end (by kernel_rfl) ?_
          refine wpq_then ?_
          -- condition 1
          refine wpc_cond (x := F30_22) (y := F30_23) (o := (.tmp 40)) (b := (((decide ((((c.parts).length : Nat) : Int) > 0) && (p.base == c.base)) && (p.count == c.count)) && (p.index == (((c.parts).length : Nat) : Int)))) (by kernel_rfl) (by kernel_rfl) (fun h1 => ?_) (fun h1 => ?_)
          · have h1l := (and_true_ h1).1
            have h1r := (and_true_ h1).2
            have h1ll := (and_true_ h1l).1
            have h1lr := (and_true_ h1l).2
            have h1lll := (and_true_ h1ll).1
            have h1llr := (and_true_ h1ll).2
            have h1lllp := of_decide_eq_true h1lll
            have h1llrp : p.base = c.base := eq_of_beq h1llr
            have h1lrp : p.count = c.count := eq_of_beq h1lr
            have h1rp : p.index = (((c.parts).length : Nat) : Int) := eq_of_beq h1r
            refine wpc_seq (x := F30_24) (y := F30_25) (by kernel_rfl) ?_
            refine wpa_start (ops := R30_24) (id := 5) (by kernel_rfl) (by kernel_rfl) [2, 5] [9, 8] [some ⟨b3, 77, [Value.int .i64 (0), Value.int .i64 (0), Value.slice none 0 0, Value.slice none 0 0]⟩, some ⟨b2, 35, [Value.int .i64 (p.base), Value.int .i64 (p.index), Value.int .i64 (p.count), Value.slice Ap_data (p.data).length cp_data]⟩, some ⟨b1, 77, [Value.int .i64 (c.base), Value.int .i64 (c.count), Value.slice Ac_parts (c.parts).length cc_parts, Value.slice Ac_sets (c.sets).length cc_sets]⟩] (by kernel_rfl) (by kernel_rfl) (fun _ _ _ _ _ h => h) 10 (by kernel_rfl) (fun RG => ?_)
            have lp := Psi.le.refl g5.r
            refine wpa_take0 1 [false, true, false, false, false, false, false, false, false, false] 42 (.fieldAddr 77 (.tmp 2) 2) 0 (Value.pointer (some ⟨b1, 2, none⟩)) RG (Runs.plain (by kernel_rfl)) (by kernel_rfl) (by kernel_rfl) (fun _ => (y_pure (by kernel_rfl) (fun _ => by kernel_rfl))) ?_
            refine wpa_take 2 [false, true, true, false, false, false, false, false, false, false] 43 (.load 74 (.tmp 42)) 74 (Value.slice Ac_parts (c.parts).length cc_parts) RG (Runs.plain (by kernel_rfl)) (by kernel_rfl) (by kernel_rfl) lp (keepK_P [some 0, some 1, some 2] (by kernel_rfl)) (q_load1 b1 2 2 (by kernel_rfl) (by kernel_rfl) (by kernel_rfl)) ?_
            refine wpa_take0 4 [false, true, true, false, true, false, false, false, false, false] 45 (.fieldAddr 35 (.tmp 3) 3) 0 (Value.pointer (some ⟨b2, 3, none⟩)) RG (Runs.plain (by kernel_rfl)) (by kernel_rfl) (by kernel_rfl) (fun _ => (y_pure (by kernel_rfl) (fun _ => by kernel_rfl))) ?_
            refine wpa_take 5 [false, true, true, false, true, true, false, false, false, false] 46 (.load 22 (.tmp 45)) 22 (Value.slice Ap_data (p.data).length cp_data) RG (Runs.plain (by kernel_rfl)) (by kernel_rfl) (by kernel_rfl) lp (keepK_P [some 0, some 1, some 2] (by kernel_rfl)) (q_load1 b2 3 1 (by kernel_rfl) (by kernel_rfl) (by kernel_rfl)) ?_
            refine wpa_meet (fun g own sl => ∃ (b11 : Nat) (A12 : Option Addr) (c12 : Nat) (k12 : Option Bk) (b13 : Nat), own = [some ⟨b13, 22, [Value.slice Ap_data (p.data).length cp_data]⟩, k12, some ⟨b3, 77, [Value.int .i64 (0), Value.int .i64 (0), Value.slice none 0 0, Value.slice none 0 0]⟩, some ⟨b2, 35, [Value.int .i64 (p.base), Value.int .i64 (p.index), Value.int .i64 (p.count), Value.slice Ap_data (p.data).length cp_data]⟩, some ⟨b1, 77, [Value.int .i64 (c.base), Value.int .i64 (c.count), Value.slice Ac_parts (c.parts).length cc_parts, Value.slice Ac_sets (c.sets).length cc_sets]⟩] ∧ sl = [(2, Value.pointer (some ⟨b1, 0, none⟩)), (4, Value.pointer (some ⟨b3, 0, none⟩)), (44, Value.slice A12 (c.parts : List (List UInt8)).length c12), (47, Value.slice (some ⟨b13, 0, none⟩) 1 1)] ∧ Buf g.b (tyArr tyU8) 22 (.slice A12 (c.parts : List (List UInt8)).length c12) k12 c.parts) 3 [true, true, true, true, true, true, true, false, false, false] ?_ (fun hD10 => ?_)
            · rintro g11 _ _ le12 ⟨b11, A12, c12, k12, b13, rfl, rfl, hb12⟩
              have fc_parts := fc_parts.mono le12.b
              have fc_sets := fc_sets.mono le12.b
              have fp_data := fp_data.mono le12.b
              have f4_0 := f4_0.mono le12.b
              have L0 := L0.trans le12
              have lp := lp.trans le12.r
              have nhb12 := hb12.len
              refine wpa_one 7 (by kernel_rfl) ?_
              have hz13 : (c.parts ++ [p.data] : List (List UInt8)).length = (c.parts : List (List UInt8)).length + 1 := by rw [List.length_append]; rfl
              refine wpi_eff [true, true, true, true, true, true, true, true, false, false] 48 (.call { callee := .builtin .append, args := #[(.tmp 44), (.tmp 47)], argTypes := #[74, 74] }) 74 (Runs.plain (by kernel_rfl)) (by kernel_rfl) lp (e_appendQ (T := (tyArr tyU8)) (p := g11.b) (et := 22) (bytes := 24) 1 (Value.slice A12 (c.parts : List (List UInt8)).length c12) (k12) (c.parts) (some ⟨b13, 0, none⟩) 1 1 ([p.data]) (by kernel_rfl) (by kernel_rfl) (by kernel_rfl) (by kernel_rfl) hb12 rfl (src_lit (i := 0) (t := 22) (cs := [Value.slice Ap_data (p.data).length cp_data]) (by kernel_rfl)) (reps_cons (c := [Value.slice Ap_data (p.data).length cp_data]) ⟨Ap_data, cp_data, rfl, fp_data⟩ reps_nil) (by first | omega | (simp only [List.length_nil, List.length_cons, List.length_append] <;> omega)) (by first | omega | (simp only [List.length_nil, List.length_cons, List.length_append] <;> omega))) (by kernel_rfl) ?_
              rintro _ _ _ - ⟨A13, c13, k13, rfl, rfl, rfl, hb13⟩
              refine ⟨.inr (keepK_P [some 2, some 3, some 4] (by kernel_rfl)), ?_⟩
              have nhb13 := hb13.len
              refine wpa_take0 8 [true, true, true, true, true, true, true, true, true, false] 49 (.fieldAddr 77 (.tmp 2) 2) 0 (Value.pointer (some ⟨b1, 2, none⟩)) RG (Runs.plain (by kernel_rfl)) (by kernel_rfl) (by kernel_rfl) (fun _ => (y_pure (by kernel_rfl) (fun _ => by kernel_rfl))) ?_
              refine wpa_one 9 (by kernel_rfl) ?_
              refine wpi_do [true, true, true, true, true, true, true, true, true, true] (.store 74 (.tmp 49) (.tmp 48)) 0 (Runs.plain (by kernel_rfl)) lp (q_store b1 2 4 (Value.slice A13 ((c.parts ++ [p.data]) : List (List UInt8)).length c13) [Value.slice A13 ((c.parts ++ [p.data]) : List (List UInt8)).length c13] 77 [Value.int .i64 (c.base), Value.int .i64 (c.count), Value.slice Ac_parts (c.parts).length cc_parts, Value.slice Ac_sets (c.sets).length cc_sets] [Value.int .i64 (c.base), Value.int .i64 (c.count), Value.slice A13 ((c.parts ++ [p.data]) : List (List UInt8)).length c13, Value.slice Ac_sets (c.sets).length cc_sets] (by kernel_rfl) (by kernel_rfl) (by kernel_rfl) (by kernel_rfl) (by kernel_rfl) (by kernel_rfl) (by kernel_rfl)) (by kernel_rfl) ?_
              rintro _ _ _ - ⟨rfl, rfl⟩
              refine ⟨.inl (by kernel_rfl), ?_⟩
              refine wpa_done (by kernel_rfl) ?_
              refine wpq_then ?_
              refine wpc_seq (x := F30_27) (y := F30_28) (by kernel_rfl) ?_
              refine wpc_region (ops := R30_27) (id := 6) (by kernel_rfl) ?_
              refine wpr_val 1 50 (.load 77 (.tmp 2)) 77 (Value.agg #[Value.int .i64 (c.base), Value.int .i64 (c.count), Value.slice A13 ((c.parts ++ [p.data]) : List (List UInt8)).length c13, Value.slice Ac_sets (c.sets).length cc_sets]) (Runs.plain (by kernel_rfl)) (by kernel_rfl) (q_loadA b1 0 4 [Value.int .i64 (c.base), Value.int .i64 (c.count), Value.slice A13 ((c.parts ++ [p.data]) : List (List UInt8)).length c13, Value.slice Ac_sets (c.sets).length cc_sets] (by kernel_rfl) (by kernel_rfl) (by kernel_rfl)) ?_
              refine wpr_do 2 (.store 77 (.tmp 4) (.tmp 50)) 0 (Runs.plain (by kernel_rfl)) (by kernel_rfl) (q_store b3 0 2 (Value.agg #[Value.int .i64 (c.base), Value.int .i64 (c.count), Value.slice A13 ((c.parts ++ [p.data]) : List (List UInt8)).length c13, Value.slice Ac_sets (c.sets).length cc_sets]) [Value.int .i64 (c.base), Value.int .i64 (c.count), Value.slice A13 ((c.parts ++ [p.data]) : List (List UInt8)).length c13, Value.slice Ac_sets (c.sets).length cc_sets] 77 [Value.int .i64 (0), Value.int .i64 (0), Value.slice none 0 0, Value.slice none 0 0] [Value.int .i64 (c.base), Value.int .i64 (c.count), Value.slice A13 ((c.parts ++ [p.data]) : List (List UInt8)).length c13, Value.slice Ac_sets (c.sets).length cc_sets] (by kernel_rfl) (by kernel_rfl) (by kernel_rfl) (by kernel_rfl) (by kernel_rfl) (by kernel_rfl) (by kernel_rfl)) ?_
              rintro _ _ _ - ⟨rfl, rfl⟩
              refine wpr_end (by kernel_rfl) ?_
              refine wpq_then ?_
              refine wpq_sub [(4, Value.pointer (some ⟨b3, 0, none⟩))] (by kernel_rfl) ?_
              refine wpq_freeze 1 (by kernel_rfl) hb13 (fun g14 le15 f16 => ?_)
              have fc_parts := fc_parts.mono le15.b
              have fc_sets := fc_sets.mono le15.b
              have fp_data := fp_data.mono le15.b
              have f4_0 := f4_0.mono le15.b
              have L0 := L0.trans le15
              refine wpc_ret (rs := [.cell 4 77]) [Value.agg #[Value.int .i64 (c.base), Value.int .i64 (c.count), Value.slice A13 ((c.parts ++ [p.data]) : List (List UInt8)).length c13, Value.slice Ac_sets (c.sets).length cc_sets]] [] (by kernel_rfl) (fun _ _ h => h) (by kernel_rfl) (rq_cellA b3 0 2 [Value.int .i64 (c.base), Value.int .i64 (c.count), Value.slice A13 ((c.parts ++ [p.data]) : List (List UInt8)).length c13, Value.slice Ac_sets (c.sets).length cc_sets] (by kernel_rfl) (by kernel_rfl) (by kernel_rfl) res_nil) L0 keep0 ?_
              have eS : (rtakeS c p) = (⟨(c.base : Int), (c.count : Int), ((c.parts ++ [p.data]) : List (List UInt8)), (c.sets : List Sett)⟩ : Coll) := by
                unfold rtakeS
                rw [h0]
                rw [h1]
                rfl
              rw [eS]
              exact ⟨rfl, A13, c13, Ac_sets, cc_sets, rfl, f16, fc_sets⟩
            · have LD10 := Gh.le.refl g5
              refine wpa_two 0 6 (by kernel_rfl) ?_ ?_
              · refine wpi_eff [true, true, true, false, true, true, false, false, false, false] 41 (.buildSlice 74 0 #[]) 74 (Runs.plain (by kernel_rfl)) (by kernel_rfl) lp (e_buildSlice (et := 22) [] [] (by kernel_rfl) (by kernel_rfl)) (by kernel_rfl) ?_
                rintro _ _ _ - ⟨b17, rfl, rfl, rfl⟩
                refine ⟨.inr (keepK_P [some 1, some 2, some 3] (by kernel_rfl)), ?_⟩
                refine wpa_two 3 6 (by kernel_rfl) ?_ ?_
                · obtain ⟨nw18, hp18, hs18⟩ := fc_parts.srcB
                  refine wpi_eff [true, true, true, true, true, true, false, false, false, false] 44 (.call { callee := .builtin .append, args := #[(.tmp 41), (.tmp 43)], argTypes := #[74, 74] }) 74 (Runs.plain (by kernel_rfl)) (by kernel_rfl) lp (e_appendQ (T := (tyArr tyU8)) (p := g5.b) (et := 22) (bytes := 24) 0 (Value.slice (some ⟨b17, 0, none⟩) 0 0) (some ⟨b17, 22, []⟩) ([]) Ac_parts (c.parts).length cc_parts (c.parts) (by kernel_rfl) (by kernel_rfl) (by kernel_rfl) (by kernel_rfl) (buf_lit reps_nil rfl (by omega)) rfl (fun w hs => hs18 w _ hs) hp18 (by first | omega | (simp only [List.length_nil, List.length_cons, List.length_append] <;> omega)) (by first | omega | (simp only [List.length_nil, List.length_cons, List.length_append] <;> omega))) (by kernel_rfl) ?_
                  rintro _ _ _ - ⟨A18, c18, k18, rfl, rfl, rfl, hb18⟩
                  refine ⟨.inr (keepK_P [some 1, some 2, some 3] (by kernel_rfl)), ?_⟩
                  have hb18 : Buf g5.b (tyArr tyU8) 22 (.slice A18 (c.parts : List (List UInt8)).length c18) k18 c.parts := hb18
                  have nhb18 := hb18.len
                  refine wpa_one 6 (by kernel_rfl) ?_
                  refine wpi_eff [true, true, true, true, true, true, true, false, false, false] 47 (.buildSlice 74 1 #[(0, (.tmp 46))]) 74 (Runs.plain (by kernel_rfl)) (by kernel_rfl) lp (e_buildSlice (et := 22) [(0, Value.slice Ap_data (p.data).length cp_data)] [Value.slice Ap_data (p.data).length cp_data] (by kernel_rfl) (by kernel_rfl)) (by kernel_rfl) ?_
                  rintro _ _ _ - ⟨b19, rfl, rfl, rfl⟩
                  refine ⟨.inr (keepK_P [some 2, some 3, some 4] (by kernel_rfl)), ?_⟩
                  refine wpq_sub [(2, Value.pointer (some ⟨b1, 0, none⟩)), (4, Value.pointer (some ⟨b3, 0, none⟩)), (44, Value.slice A18 (c.parts : List (List UInt8)).length c18), (47, Value.slice (some ⟨b19, 0, none⟩) 1 1)] (by kernel_rfl) ?_
                  exact hD10 _ _ _ LD10 ⟨b17, A18, c18, k18, b19, rfl, rfl, hb18⟩
                · refine wpi_eff [true, true, true, false, true, true, true, false, false, false] 47 (.buildSlice 74 1 #[(0, (.tmp 46))]) 74 (Runs.plain (by kernel_rfl)) (by kernel_rfl) lp (e_buildSlice (et := 22) [(0, Value.slice Ap_data (p.data).length cp_data)] [Value.slice Ap_data (p.data).length cp_data] (by kernel_rfl) (by kernel_rfl)) (by kernel_rfl) ?_
                  rintro _ _ _ - ⟨b20, rfl, rfl, rfl⟩
                  refine ⟨.inr (keepK_P [some 2, some 3, some 4] (by kernel_rfl)), ?_⟩
                  refine wpa_one 3 (by kernel_rfl) ?_
                  obtain ⟨nw21, hp21, hs21⟩ := fc_parts.srcB
                  refine wpi_eff [true, true, true, true, true, true, true, false, false, false] 44 (.call { callee := .builtin .append, args := #[(.tmp 41), (.tmp 43)], argTypes := #[74, 74] }) 74 (Runs.plain (by kernel_rfl)) (by kernel_rfl) lp (e_appendQ (T := (tyArr tyU8)) (p := g5.b) (et := 22) (bytes := 24) 1 (Value.slice (some ⟨b17, 0, none⟩) 0 0) (some ⟨b17, 22, []⟩) ([]) Ac_parts (c.parts).length cc_parts (c.parts) (by kernel_rfl) (by kernel_rfl) (by kernel_rfl) (by kernel_rfl) (buf_lit reps_nil rfl (by omega)) rfl (fun w hs => hs21 w _ hs) hp21 (by first | omega | (simp only [List.length_nil, List.length_cons, List.length_append] <;> omega)) (by first | omega | (simp only [List.length_nil, List.length_cons, List.length_append] <;> omega))) (by kernel_rfl) ?_
                  rintro _ _ _ - ⟨A21, c21, k21, rfl, rfl, rfl, hb21⟩
                  refine ⟨.inr (keepK_P [some 2, some 3, some 4] (by kernel_rfl)), ?_⟩
                  have hb21 : Buf g5.b (tyArr tyU8) 22 (.slice A21 (c.parts : List (List UInt8)).length c21) k21 c.parts := hb21
                  have nhb21 := hb21.len
                  refine wpq_sub [(2, Value.pointer (some ⟨b1, 0, none⟩)), (4, Value.pointer (some ⟨b3, 0, none⟩)), (44, Value.slice A21 (c.parts : List (List UInt8)).length c21), (47, Value.slice (some ⟨b20, 0, none⟩) 1 1)] (by kernel_rfl) ?_
                  exact hD10 _ _ _ LD10 ⟨b17, A21, c21, k21, b20, rfl, rfl, hb21⟩
              · refine wpi_eff [false, true, true, false, true, true, true, false, false, false] 47 (.buildSlice 74 1 #[(0, (.tmp 46))]) 74 (Runs.plain (by kernel_rfl)) (by kernel_rfl) lp (e_buildSlice (et := 22) [(0, Value.slice Ap_data (p.data).length cp_data)] [Value.slice Ap_data (p.data).length cp_data] (by kernel_rfl) (by kernel_rfl)) (by kernel_rfl) ?_
                rintro _ _ _ - ⟨b22, rfl, rfl, rfl⟩
                refine ⟨.inr (keepK_P [some 1, some 2, some 3] (by kernel_rfl)), ?_⟩
                refine wpa_one 0 (by kernel_rfl) ?_
                refine wpi_eff [true, true, true, false, true, true, true, false, false, false] 41 (.buildSlice 74 0 #[]) 74 (Runs.plain (by kernel_rfl)) (by kernel_rfl) lp (e_buildSlice (et := 22) [] [] (by kernel_rfl) (by kernel_rfl)) (by kernel_rfl) ?_
                rintro _ _ _ - ⟨b23, rfl, rfl, rfl⟩
                refine ⟨.inr (keepK_P [some 2, some 3, some 4] (by kernel_rfl)), ?_⟩
                refine wpa_one 3 (by kernel_rfl) ?_
                obtain ⟨nw24, hp24, hs24⟩ := fc_parts.srcB
                refine wpi_eff [true, true, true, true, true, true, true, false, false, false] 44 (.call { callee := .builtin .append, args := #[(.tmp 41), (.tmp 43)], argTypes := #[74, 74] }) 74 (Runs.plain (by kernel_rfl)) (by kernel_rfl) lp (e_appendQ (T := (tyArr tyU8)) (p := g5.b) (et := 22) (bytes := 24) 0 (Value.slice (some ⟨b23, 0, none⟩) 0 0) (some ⟨b23, 22, []⟩) ([]) Ac_parts (c.parts).length cc_parts (c.parts) (by kernel_rfl) (by kernel_rfl) (by kernel_rfl) (by kernel_rfl) (buf_lit reps_nil rfl (by omega)) rfl (fun w hs => hs24 w _ hs) hp24 (by first | omega | (simp only [List.length_nil, List.length_cons, List.length_append] <;> omega)) (by first | omega | (simp only [List.length_nil, List.length_cons, List.length_append] <;> omega))) (by kernel_rfl) ?_
                rintro _ _ _ - ⟨A24, c24, k24, rfl, rfl, rfl, hb24⟩
                refine ⟨.inr (keepK_P [some 2, some 3, some 4] (by kernel_rfl)), ?_⟩
                have hb24 : Buf g5.b (tyArr tyU8) 22 (.slice A24 (c.parts : List (List UInt8)).length c24) k24 c.parts := hb24
                have nhb24 := hb24.len
                refine wpq_sel [some 1, some 0, some 2, some 3, some 4] [some ⟨b22, 22, [Value.slice Ap_data (p.data).length cp_data]⟩, k24, some ⟨b3, 77, [Value.int .i64 (0), Value.int .i64 (0), Value.slice none 0 0, Value.slice none 0 0]⟩, some ⟨b2, 35, [Value.int .i64 (p.base), Value.int .i64 (p.index), Value.int .i64 (p.count), Value.slice Ap_data (p.data).length cp_data]⟩, some ⟨b1, 77, [Value.int .i64 (c.base), Value.int .i64 (c.count), Value.slice Ac_parts (c.parts).length cc_parts, Value.slice Ac_sets (c.sets).length cc_sets]⟩] (by kernel_rfl) (by kernel_rfl) ?_
                refine wpq_sub [(2, Value.pointer (some ⟨b1, 0, none⟩)), (4, Value.pointer (some ⟨b3, 0, none⟩)), (44, Value.slice A24 (c.parts : List (List UInt8)).length c24), (47, Value.slice (some ⟨b22, 0, none⟩) 1 1)] (by kernel_rfl) ?_
                exact hD10 _ _ _ LD10 ⟨b23, A24, c24, k24, b22, rfl, rfl, hb24⟩
          · refine wpc_skip (by kernel_rfl) ?_
            refine wpq_then ?_
            refine wpc_seq (x := F30_30) (y := F30_31) (by kernel_rfl) ?_
            refine wpc_seq (x := F30_32) (y := F30_33) (by kernel_rfl) ?_
            refine wpc_region (ops := R30_32) (id := 7) (by kernel_rfl) ?_
            refine wpr_val 1 51 (.fieldAddr 35 (.tmp 3) 1) 0 (Value.pointer (some ⟨b2, 1, none⟩)) (Runs.plain (by kernel_rfl)) (by kernel_rfl) (y_pure (by kernel_rfl) (fun _ => by kernel_rfl)) ?_
            refine wpr_val 2 52 (.load 3 (.tmp 51)) 3 (Value.int .i64 (p.index)) (Runs.plain (by kernel_rfl)) (by kernel_rfl) (q_load1 b2 1 1 (by kernel_rfl) (by kernel_rfl) (by kernel_rfl)) ?_
            refine wpr_val 3 53 (.binOp .eql 3 (.tmp 52) (.const (Value.int .i64 (0))) 3) 4 (Value.bool ((p.index == 0))) (Runs.plain (by kernel_rfl)) (by kernel_rfl) (y_pure (by kernel_rfl) (fun _ => by kernel_rfl)) ?_
            refine wpr_end (by kernel_rfl) ?_
            refine wpq_then ?_
            -- condition 2
            refine wpc_cond (x := F30_35) (y := F30_36) (o := (.tmp 53)) (b := (p.index == 0)) (by kernel_rfl) (by kernel_rfl) (fun h2 => ?_) (fun h2 => ?_)
            · have h2p : p.index = 0 := eq_of_beq h2
              refine wpc_seq (x := F30_37) (y := F30_38) (by kernel_rfl) ?_
              refine wpc_region (ops := R30_37) (id := 8) (by kernel_rfl) ?_
              refine wpr_val 1 54 (.fieldAddr 35 (.tmp 3) 0) 0 (Value.pointer (some ⟨b2, 0, none⟩)) (Runs.plain (by kernel_rfl)) (by kernel_rfl) (y_pure (by kernel_rfl) (fun _ => by kernel_rfl)) ?_
              refine wpr_val 2 55 (.load 2 (.tmp 54)) 2 (Value.int .i64 (p.base)) (Runs.plain (by kernel_rfl)) (by kernel_rfl) (q_load1 b2 0 1 (by kernel_rfl) (by kernel_rfl) (by kernel_rfl)) ?_
              refine wpr_val 3 56 (.fieldAddr 35 (.tmp 3) 2) 0 (Value.pointer (some ⟨b2, 2, none⟩)) (Runs.plain (by kernel_rfl)) (by kernel_rfl) (y_pure (by kernel_rfl) (fun _ => by kernel_rfl)) ?_
              refine wpr_val 4 57 (.load 3 (.tmp 56)) 3 (Value.int .i64 (p.count)) (Runs.plain (by kernel_rfl)) (by kernel_rfl) (q_load1 b2 2 1 (by kernel_rfl) (by kernel_rfl) (by kernel_rfl)) ?_
              refine wpr_val 5 58 (.fieldAddr 35 (.tmp 3) 3) 0 (Value.pointer (some ⟨b2, 3, none⟩)) (Runs.plain (by kernel_rfl)) (by kernel_rfl) (y_pure (by kernel_rfl) (fun _ => by kernel_rfl)) ?_
              refine wpr_val 6 59 (.load 22 (.tmp 58)) 22 (Value.slice Ap_data (p.data).length cp_data) (Runs.plain (by kernel_rfl)) (by kernel_rfl) (q_load1 b2 3 1 (by kernel_rfl) (by kernel_rfl) (by kernel_rfl)) ?_
              refine wpr_eff 7 60 (.buildSlice 74 1 #[(0, (.tmp 59))]) 74 (Runs.plain (by kernel_rfl)) (by kernel_rfl) (e_buildSlice (et := 22) [(0, Value.slice Ap_data (p.data).length cp_data)] [Value.slice Ap_data (p.data).length cp_data] (by kernel_rfl) (by kernel_rfl)) ?_
              rintro _ _ _ - ⟨b25, rfl, rfl, rfl⟩
              refine wpr_val 8 61 (.build 77 #[(0, (.tmp 55)), (1, (.tmp 57)), (2, (.tmp 60))]) 77 (Value.agg #[Value.int .i64 (p.base), Value.int .i64 (p.count), Value.slice (some ⟨b25, 0, none⟩) 1 1, Value.slice none 0 0]) (Runs.plain (by kernel_rfl)) (by kernel_rfl) (y_pure (by kernel_rfl) (fun _ => by kernel_rfl)) ?_
              refine wpr_do 9 (.store 77 (.tmp 4) (.tmp 61)) 0 (Runs.plain (by kernel_rfl)) (by kernel_rfl) (q_store b3 0 1 (Value.agg #[Value.int .i64 (p.base), Value.int .i64 (p.count), Value.slice (some ⟨b25, 0, none⟩) 1 1, Value.slice none 0 0]) [Value.int .i64 (p.base), Value.int .i64 (p.count), Value.slice (some ⟨b25, 0, none⟩) 1 1, Value.slice none 0 0] 77 [Value.int .i64 (0), Value.int .i64 (0), Value.slice none 0 0, Value.slice none 0 0] [Value.int .i64 (p.base), Value.int .i64 (p.count), Value.slice (some ⟨b25, 0, none⟩) 1 1, Value.slice none 0 0] (by kernel_rfl) (by kernel_rfl) (by kernel_rfl) (by kernel_rfl) (by kernel_rfl) (by kernel_rfl) (by kernel_rfl)) ?_
              rintro _ _ _ - ⟨rfl, rfl⟩
              refine wpr_end (by kernel_rfl) ?_
              refine wpq_then ?_
              refine wpq_sub [(4, Value.pointer (some ⟨b3, 0, none⟩))] (by kernel_rfl) ?_
              refine wpq_name (T := (tyArr tyU8)) (p := g5.b) (et := 22) (v := Value.slice (some ⟨b25, 0, none⟩) 1 1) (xs := [p.data]) 0 (by kernel_rfl) (buf_lit (reps_cons (c := [Value.slice Ap_data (p.data).length cp_data]) ⟨Ap_data, cp_data, rfl, fp_data⟩ reps_nil) rfl (by omega)) (fun k26 hk26 => ?_)
              refine wpq_freeze 0 (by kernel_rfl) hk26 (fun g27 le28 f29 => ?_)
              have fc_parts := fc_parts.mono le28.b
              have fc_sets := fc_sets.mono le28.b
              have fp_data := fp_data.mono le28.b
              have f4_0 := f4_0.mono le28.b
              have L0 := L0.trans le28
              refine wpc_ret (rs := [.cell 4 77]) [Value.agg #[Value.int .i64 (p.base), Value.int .i64 (p.count), Value.slice (some ⟨b25, 0, none⟩) 1 1, Value.slice none 0 0]] [] (by kernel_rfl) (fun _ _ h => h) (by kernel_rfl) (rq_cellA b3 0 1 [Value.int .i64 (p.base), Value.int .i64 (p.count), Value.slice (some ⟨b25, 0, none⟩) 1 1, Value.slice none 0 0] (by kernel_rfl) (by kernel_rfl) (by kernel_rfl) res_nil) L0 keep0 ?_
              have eS : (rtakeS c p) = (⟨(p.base : Int), (p.count : Int), (([p.data] : List (List UInt8)) : List (List UInt8)), ([] : List Sett)⟩ : Coll) := by
                unfold rtakeS
                rw [h0]
                rw [h1]
                rw [h2]
                rfl
              rw [eS]
              exact ⟨rfl, (some ⟨b25, 0, none⟩), 1, none, 0, rfl, f29, Arr.nil⟩
            · have h2p : ¬ (p.index = 0) := ne_of_beq_false_ h2
              refine wpc_skip (by kernel_rfl) ?_
              refine wpq_then ?_
              refine wpq_sub [(2, Value.pointer (some ⟨b1, 0, none⟩)), (4, Value.pointer (some ⟨b3, 0, none⟩))] (by kernel_rfl) ?_
              refine wpc_seq (x := F30_40) (y := F30_41) (by kernel_rfl) ?_
              refine wpc_region (ops := R30_40) (id := 9) (by kernel_rfl) ?_
              refine wpr_val 1 62 (.load 77 (.tmp 2)) 77 (Value.agg #[Value.int .i64 (c.base), Value.int .i64 (c.count), Value.slice Ac_parts (c.parts).length cc_parts, Value.slice Ac_sets (c.sets).length cc_sets]) (Runs.plain (by kernel_rfl)) (by kernel_rfl) (q_loadA b1 0 2 [Value.int .i64 (c.base), Value.int .i64 (c.count), Value.slice Ac_parts (c.parts).length cc_parts, Value.slice Ac_sets (c.sets).length cc_sets] (by kernel_rfl) (by kernel_rfl) (by kernel_rfl)) ?_
              refine wpr_do 2 (.store 77 (.tmp 4) (.tmp 62)) 0 (Runs.plain (by kernel_rfl)) (by kernel_rfl) (q_store b3 0 0 (Value.agg #[Value.int .i64 (c.base), Value.int .i64 (c.count), Value.slice Ac_parts (c.parts).length cc_parts, Value.slice Ac_sets (c.sets).length cc_sets]) [Value.int .i64 (c.base), Value.int .i64 (c.count), Value.slice Ac_parts (c.parts).length cc_parts, Value.slice Ac_sets (c.sets).length cc_sets] 77 [Value.int .i64 (0), Value.int .i64 (0), Value.slice none 0 0, Value.slice none 0 0] [Value.int .i64 (c.base), Value.int .i64 (c.count), Value.slice Ac_parts (c.parts).length cc_parts, Value.slice Ac_sets (c.sets).length cc_sets] (by kernel_rfl) (by kernel_rfl) (by kernel_rfl) (by kernel_rfl) (by kernel_rfl) (by kernel_rfl) (by kernel_rfl)) ?_
              rintro _ _ _ - ⟨rfl, rfl⟩
              refine wpr_end (by kernel_rfl) ?_
              refine wpq_then ?_
              refine wpc_ret (rs := [.cell 4 77]) [Value.agg #[Value.int .i64 (c.base), Value.int .i64 (c.count), Value.slice Ac_parts (c.parts).length cc_parts, Value.slice Ac_sets (c.sets).length cc_sets]] [] (by kernel_rfl) (fun _ _ h => h) (by kernel_rfl) (rq_cellA b3 0 0 [Value.int .i64 (c.base), Value.int .i64 (c.count), Value.slice Ac_parts (c.parts).length cc_parts, Value.slice Ac_sets (c.sets).length cc_sets] (by kernel_rfl) (by kernel_rfl) (by kernel_rfl) res_nil) L0 keep0 ?_
              have eS : (rtakeS c p) = c := by
                unfold rtakeS
                rw [h0]
                rw [h1]
                rw [h2]
                rfl
              rw [eS]
              exact ⟨rfl, Ac_parts, cc_parts, Ac_sets, cc_sets, rfl, fc_parts, fc_sets⟩

noncomputable def F32_0 : Code := sub (Try.f32.body.getD .skip) []
noncomputable def F32_1 : Code := sub (Try.f32.body.getD .skip) [0]
noncomputable def F32_2 : Code := sub (Try.f32.body.getD .skip) [1]
noncomputable def R32_1 : Array Oper := regOf F32_1
noncomputable def F32_4 : Code := sub (Try.f32.body.getD .skip) [1, 0]
noncomputable def F32_5 : Code := sub (Try.f32.body.getD .skip) [1, 1]
noncomputable def F32_6 : Code := sub (Try.f32.body.getD .skip) [1, 0, 0]
noncomputable def F32_7 : Code := sub (Try.f32.body.getD .skip) [1, 0, 1]
noncomputable def R32_6 : Array Oper := regOf F32_6
noncomputable def F32_9 : Code := sub (Try.f32.body.getD .skip) [1, 0, 1, 0]
noncomputable def F32_10 : Code := sub (Try.f32.body.getD .skip) [1, 0, 1, 1]
noncomputable def F32_11 : Code := sub (Try.f32.body.getD .skip) [1, 0, 1, 0, 0]
noncomputable def F32_12 : Code := sub (Try.f32.body.getD .skip) [1, 0, 1, 0, 1]
noncomputable def R32_11 : Array Oper := regOf F32_11
noncomputable def F32_14 : Code := sub (Try.f32.body.getD .skip) [1, 1, 0]
noncomputable def F32_15 : Code := sub (Try.f32.body.getD .skip) [1, 1, 1]
noncomputable def F32_16 : Code := sub (Try.f32.body.getD .skip) [1, 1, 0, 0]
noncomputable def F32_17 : Code := sub (Try.f32.body.getD .skip) [1, 1, 0, 1]
noncomputable def R32_16 : Array Oper := regOf F32_16
noncomputable def F32_19 : Code := sub (Try.f32.body.getD .skip) [1, 1, 0, 1, 0]
noncomputable def F32_20 : Code := sub (Try.f32.body.getD .skip) [1, 1, 0, 1, 1]
noncomputable def F32_21 : Code := sub (Try.f32.body.getD .skip) [1, 1, 0, 1, 0, 0]
noncomputable def F32_22 : Code := sub (Try.f32.body.getD .skip) [1, 1, 0, 1, 0, 1]
noncomputable def R32_21 : Array Oper := regOf F32_21
noncomputable def F32_24 : Code := sub (Try.f32.body.getD .skip) [1, 1, 1, 0]
noncomputable def F32_25 : Code := sub (Try.f32.body.getD .skip) [1, 1, 1, 1]
noncomputable def R32_24 : Array Oper := regOf F32_24
noncomputable def F32_27 : Code := sub (Try.f32.body.getD .skip) [1, 1, 1, 1, 0]
noncomputable def F32_28 : Code := sub (Try.f32.body.getD .skip) [1, 1, 1, 1, 1]
noncomputable def R32_27 : Array Oper := regOf F32_27
def rnoteS (c : Coll) (x : Sett) (came : Bool) : Coll :=
  (cond (((((c.parts).length : Nat) : Int) == 0)) c (cond (((((!came) || (x.steps != (IntKind.i64.wrap (c.base + (((c.sets).length : Nat) : Int))))) || x.fresh) || decide ((((c.sets).length : Nat) : Int) ≥ (((c.parts).length : Nat) : Int)))) (⟨(0 : Int), (0 : Int), ([] : List (List UInt8)), ([] : List Sett)⟩ : Coll) (⟨(c.base : Int), (c.count : Int), (c.parts : List (List UInt8)), ((c.sets ++ [x]) : List Sett)⟩ : Coll)))
set_option maxRecDepth 100000 in
theorem c32 (g : Gh) (c : Coll) (Ac_parts : Option Addr) (cc_parts : Nat) (Ac_sets : Option Addr) (cc_sets : Nat) (x : Sett) (Ax_in_ : Option Addr) (cx_in_ : Nat) (came : Bool) (fc_parts : Arr g.b (tyArr tyU8) Ac_parts cc_parts c.parts) (fc_sets : Arr g.b tySett Ac_sets cc_sets c.sets) (fx_in_ : Arr g.b tyU8 Ax_in_ cx_in_ x.in_) (hl : c.sets.length ≤ 1000000) :
    Ctr0 Try.prog 32 [Value.agg #[Value.int .i64 (c.base), Value.int .i64 (c.count), Value.slice Ac_parts (c.parts).length cc_parts, Value.slice Ac_sets (c.sets).length cc_sets], Value.agg #[Value.int .i64 (x.steps), Value.int .i64 (x.cycle), Value.bool (x.fresh), Value.slice Ax_in_ (x.in_).length cx_in_], Value.bool (came)] g (fun v ψ => ∃ (Ar_parts : Option Addr) (cr_parts : Nat) (Ar_sets : Option Addr) (cr_sets : Nat), v = Value.agg #[Value.int .i64 ((rnoteS c x came).base), Value.int .i64 ((rnoteS c x came).count), Value.slice Ar_parts ((rnoteS c x came).parts).length cr_parts, Value.slice Ar_sets ((rnoteS c x came).sets).length cr_sets] ∧ Arr ψ (tyArr tyU8) Ar_parts cr_parts (rnoteS c x came).parts ∧ Arr ψ tySett Ar_sets cr_sets (rnoteS c x came).sets) := by
  refine ctr_of Try.f32 F32_0 48 [Value.agg #[Value.int .i64 (c.base), Value.int .i64 (c.count), Value.slice Ac_parts (c.parts).length cc_parts, Value.slice Ac_sets (c.sets).length cc_sets], Value.agg #[Value.int .i64 (x.steps), Value.int .i64 (x.cycle), Value.bool (x.fresh), Value.slice Ax_in_ (x.in_).length cx_in_], Value.bool (came)] (by kernel_rfl) (by kernel_rfl) (by kernel_rfl) (by kernel_rfl) ?_
  have L0 := Gh.le.refl g
  have nfc_parts := fc_parts.len
  have nfc_sets := fc_sets.len
  have nfx_in_ := fx_in_.len
  refine wpc_seq (x := F32_1) (y := F32_2) (by kernel_rfl) ?_
  refine wpc_region (ops := R32_1) (id := 0) (by kernel_rfl) ?_
  refine wpr_eff 1 3 (.box 77 (.tmp 0)) 0 (Runs.plain (by kernel_rfl)) (by kernel_rfl) (e_box (v := Value.agg #[Value.int .i64 (c.base), Value.int .i64 (c.count), Value.slice Ac_parts (c.parts).length cc_parts, Value.slice Ac_sets (c.sets).length cc_sets]) (cs := [Value.int .i64 (c.base), Value.int .i64 (c.count), Value.slice Ac_parts (c.parts).length cc_parts, Value.slice Ac_sets (c.sets).length cc_sets]) (by kernel_rfl) (by kernel_rfl)) ?_
  rintro _ _ _ - ⟨b1, rfl, rfl, rfl⟩
  refine wpr_eff 2 4 (.box 86 (.tmp 1)) 0 (Runs.plain (by kernel_rfl)) (by kernel_rfl) (e_box (v := Value.agg #[Value.int .i64 (x.steps), Value.int .i64 (x.cycle), Value.bool (x.fresh), Value.slice Ax_in_ (x.in_).length cx_in_]) (cs := [Value.int .i64 (x.steps), Value.int .i64 (x.cycle), Value.bool (x.fresh), Value.slice Ax_in_ (x.in_).length cx_in_]) (by kernel_rfl) (by kernel_rfl)) ?_
  rintro _ _ _ - ⟨b2, rfl, rfl, rfl⟩
  refine wpr_eff 3 6 (.alloc 77) 0 (Runs.plain (by kernel_rfl)) (by kernel_rfl) (e_alloc (cs := [Value.int .i64 (0), Value.int .i64 (0), Value.slice none 0 0, Value.slice none 0 0]) (by kernel_rfl)) ?_
  rintro _ _ _ - ⟨b3, rfl, rfl, rfl⟩
  refine wpr_end (by kernel_rfl) ?_
  refine wpq_then ?_
  refine wpc_seq (x := F32_4) (y := F32_5) (by kernel_rfl) ?_
  refine wpc_seq (x := F32_6) (y := F32_7) (by kernel_rfl) ?_
  refine wpc_region (ops := R32_6) (id := 1) (by kernel_rfl) ?_
  refine wpr_val 1 7 (.fieldAddr 77 (.tmp 3) 2) 0 (Value.pointer (some ⟨b1, 2, none⟩)) (Runs.plain (by kernel_rfl)) (by kernel_rfl) (y_pure (by kernel_rfl) (fun _ => by kernel_rfl)) ?_
  refine wpr_val 2 8 (.load 74 (.tmp 7)) 74 (Value.slice Ac_parts (c.parts).length cc_parts) (Runs.plain (by kernel_rfl)) (by kernel_rfl) (q_load1 b1 2 2 (by kernel_rfl) (by kernel_rfl) (by kernel_rfl)) ?_
  refine wpr_val 3 9 (.call { callee := .builtin .len, args := #[(.tmp 8)], argTypes := #[74] }) 3 (Value.int .i64 ((((c.parts).length : Nat) : Int))) (Runs.plain (by kernel_rfl)) (by kernel_rfl) (y_pure (by kernel_rfl) (fun _ => by kernel_rfl)) ?_
  refine wpr_val 4 10 (.binOp .eql 3 (.tmp 9) (.const (Value.int .i64 (0))) 3) 4 (Value.bool (((((c.parts).length : Nat) : Int) == 0))) (Runs.plain (by kernel_rfl)) (by kernel_rfl) (y_pure (by kernel_rfl) (fun _ => by kernel_rfl)) ?_
  refine wpr_end (by kernel_rfl) ?_
  refine wpq_then ?_
  refine wpq_sub [(2, Value.bool (came)), (3, Value.pointer (some ⟨b1, 0, none⟩)), (4, Value.pointer (some ⟨b2, 0, none⟩)), (6, Value.pointer (some ⟨b3, 0, none⟩)), (10, Value.bool (((((c.parts).length : Nat) : Int) == 0)))] (by kernel_rfl) ?_
  -- condition 0
  refine wpc_cond (x := F32_9) (y := F32_10) (o := (.tmp 10)) (b := ((((c.parts).length : Nat) : Int) == 0)) (by kernel_rfl) (by kernel_rfl) (fun h0 => ?_) (fun h0 => ?_)
  · have h0p : (((c.parts).length : Nat) : Int) = 0 := eq_of_beq h0
    refine wpc_seq (x := F32_11) (y := F32_12) (by kernel_rfl) ?_
    refine wpc_region (ops := R32_11) (id := 2) (by kernel_rfl) ?_
    refine wpr_val 1 11 (.load 77 (.tmp 3)) 77 (Value.agg #[Value.int .i64 (c.base), Value.int .i64 (c.count), Value.slice Ac_parts (c.parts).length cc_parts, Value.slice Ac_sets (c.sets).length cc_sets]) (Runs.plain (by kernel_rfl)) (by kernel_rfl) (q_loadA b1 0 2 [Value.int .i64 (c.base), Value.int .i64 (c.count), Value.slice Ac_parts (c.parts).length cc_parts, Value.slice Ac_sets (c.sets).length cc_sets] (by kernel_rfl) (by kernel_rfl) (by kernel_rfl)) ?_
    refine wpr_do 2 (.store 77 (.tmp 6) (.tmp 11)) 0 (Runs.plain (by kernel_rfl)) (by kernel_rfl) (q_store b3 0 0 (Value.agg #[Value.int .i64 (c.base), Value.int .i64 (c.count), Value.slice Ac_parts (c.parts).length cc_parts, Value.slice Ac_sets (c.sets).length cc_sets]) [Value.int .i64 (c.base), Value.int .i64 (c.count), Value.slice Ac_parts (c.parts).length cc_parts, Value.slice Ac_sets (c.sets).length cc_sets] 77 [Value.int .i64 (0), Value.int .i64 (0), Value.slice none 0 0, Value.slice none 0 0] [Value.int .i64 (c.base), Value.int .i64 (c.count), Value.slice Ac_parts (c.parts).length cc_parts, Value.slice Ac_sets (c.sets).length cc_sets] (by kernel_rfl) (by kernel_rfl) (by kernel_rfl) (by kernel_rfl) (by kernel_rfl) (by kernel_rfl) (by kernel_rfl)) ?_
    rintro _ _ _ - ⟨rfl, rfl⟩
    refine wpr_end (by kernel_rfl) ?_
    refine wpq_then ?_
    refine wpq_sub [(6, Value.pointer (some ⟨b3, 0, none⟩))] (by kernel_rfl) ?_
    refine wpc_ret (rs := [.cell 6 77]) [Value.agg #[Value.int .i64 (c.base), Value.int .i64 (c.count), Value.slice Ac_parts (c.parts).length cc_parts, Value.slice Ac_sets (c.sets).length cc_sets]] [] (by kernel_rfl) (fun _ _ h => h) (by kernel_rfl) (rq_cellA b3 0 0 [Value.int .i64 (c.base), Value.int .i64 (c.count), Value.slice Ac_parts (c.parts).length cc_parts, Value.slice Ac_sets (c.sets).length cc_sets] (by kernel_rfl) (by kernel_rfl) (by kernel_rfl) res_nil) L0 keep0 ?_
    have eS : (rnoteS c x came) = c := by
      unfold rnoteS
      rw [h0]
      rfl
    rw [eS]
    exact ⟨rfl, Ac_parts, cc_parts, Ac_sets, cc_sets, rfl, fc_parts, fc_sets⟩
  · have h0p : ¬ ((((c.parts).length : Nat) : Int) = 0) := ne_of_beq_false_ h0
    refine wpc_skip (by kernel_rfl) ?_
    refine wpq_then ?_
    refine wpc_seq (x := F32_14) (y := F32_15) (by kernel_rfl) ?_
    refine wpc_seq (x := F32_16) (y := F32_17) (by kernel_rfl) ?_
    refine wpc_region (ops := R32_16) (id := 3) (by kernel_rfl) ?_
    refine wpr_val 1 12 (.move (.tmp 2)) 4 (Value.bool (came)) (Runs.plain (by kernel_rfl)) (by kernel_rfl) (y_move (by kernel_rfl)) ?_
    refine wpr_val 2 13 (.unOp .not 4 (.tmp 12)) 4 (Value.bool ((!came))) (Runs.plain (by kernel_rfl)) (by kernel_rfl) (y_pure (by kernel_rfl) (fun _ => by kernel_rfl)) ?_
    refine wpr_val 3 14 (.move (.tmp 13)) 4 (Value.bool ((!came))) (Runs.plain (by kernel_rfl)) (by kernel_rfl) (y_move (by kernel_rfl)) ?_
    refine wpr_grp 13 [(3, Value.pointer (some ⟨b1, 0, none⟩)), (4, Value.pointer (some ⟨b2, 0, none⟩)), (6, Value.pointer (some ⟨b3, 0, none⟩)), (24, Value.bool (((!came) || (x.steps != (IntKind.i64.wrap (c.base + (((c.sets).length : Nat) : Int)))))))] (fun hk2 => ?_) ?_
    · refine wpq_split 14 (b := (!came)) (by kernel_rfl) (fun q4 => ?_) (fun q4 => ?_)
      · have q4n := not_eq_true_ q4
        refine wpr_skip 4 15 (Skips.mk' (j := 2) (t := 14) (b := false) (by kernel_rfl) (by kernel_rfl) (by kernel_rfl)) (by kernel_rfl) ?_
        refine wpr_skip 5 16 (Skips.mk' (j := 2) (t := 14) (b := false) (by kernel_rfl) (by kernel_rfl) (by kernel_rfl)) (by kernel_rfl) ?_
        refine wpr_skip 6 17 (Skips.mk' (j := 2) (t := 14) (b := false) (by kernel_rfl) (by kernel_rfl) (by kernel_rfl)) (by kernel_rfl) ?_
        refine wpr_skip 7 18 (Skips.mk' (j := 2) (t := 14) (b := false) (by kernel_rfl) (by kernel_rfl) (by kernel_rfl)) (by kernel_rfl) ?_
        refine wpr_skip 8 19 (Skips.mk' (j := 2) (t := 14) (b := false) (by kernel_rfl) (by kernel_rfl) (by kernel_rfl)) (by kernel_rfl) ?_
        refine wpr_skip 9 20 (Skips.mk' (j := 2) (t := 14) (b := false) (by kernel_rfl) (by kernel_rfl) (by kernel_rfl)) (by kernel_rfl) ?_
        refine wpr_skip 10 21 (Skips.mk' (j := 2) (t := 14) (b := false) (by kernel_rfl) (by kernel_rfl) (by kernel_rfl)) (by kernel_rfl) ?_
        refine wpr_skip 11 22 (Skips.mk' (j := 2) (t := 14) (b := false) (by kernel_rfl) (by kernel_rfl) (by kernel_rfl)) (by kernel_rfl) ?_
        refine wpr_skip 12 23 (Skips.mk' (j := 2) (t := 14) (b := false) (by kernel_rfl) (by kernel_rfl) (by kernel_rfl)) (by kernel_rfl) ?_
        refine wpr_val 13 24 (.pick (.tmp 14) (.const (Value.bool (true))) (.tmp 23)) 4 (Value.bool (true)) (Runs.plain (by kernel_rfl)) (by kernel_rfl) (y_pickT (by kernel_rfl) (by kernel_rfl)) ?_
        refine wpq_re 24 (v := Value.bool (true)) (Value.bool (((!came) || (x.steps != (IntKind.i64.wrap (c.base + (((c.sets).length : Nat) : Int))))))) (by kernel_rfl) (re_or1 q4) ?_
        exact wpq_sub _ (by kernel_rfl) hk2
      · have q4n := not_eq_false_ q4
        refine wpr_val 4 15 (.fieldAddr 86 (.tmp 4) 0) 0 (Value.pointer (some ⟨b2, 0, none⟩)) (Runs.guarded (j := 2) (t := 14) (b := false) (by kernel_rfl) (by kernel_rfl) (by kernel_rfl)) (by kernel_rfl) (y_pure (by kernel_rfl) (fun _ => by kernel_rfl)) ?_
        refine wpr_val 5 16 (.load 2 (.tmp 15)) 2 (Value.int .i64 (x.steps)) (Runs.guarded (j := 2) (t := 14) (b := false) (by kernel_rfl) (by kernel_rfl) (by kernel_rfl)) (by kernel_rfl) (q_load1 b2 0 1 (by kernel_rfl) (by kernel_rfl) (by kernel_rfl)) ?_
        refine wpr_val 6 17 (.fieldAddr 77 (.tmp 3) 0) 0 (Value.pointer (some ⟨b1, 0, none⟩)) (Runs.guarded (j := 2) (t := 14) (b := false) (by kernel_rfl) (by kernel_rfl) (by kernel_rfl)) (by kernel_rfl) (y_pure (by kernel_rfl) (fun _ => by kernel_rfl)) ?_
        refine wpr_val 7 18 (.load 2 (.tmp 17)) 2 (Value.int .i64 (c.base)) (Runs.guarded (j := 2) (t := 14) (b := false) (by kernel_rfl) (by kernel_rfl) (by kernel_rfl)) (by kernel_rfl) (q_load1 b1 0 2 (by kernel_rfl) (by kernel_rfl) (by kernel_rfl)) ?_
        refine wpr_val 8 19 (.fieldAddr 77 (.tmp 3) 3) 0 (Value.pointer (some ⟨b1, 3, none⟩)) (Runs.guarded (j := 2) (t := 14) (b := false) (by kernel_rfl) (by kernel_rfl) (by kernel_rfl)) (by kernel_rfl) (y_pure (by kernel_rfl) (fun _ => by kernel_rfl)) ?_
        refine wpr_val 9 20 (.load 75 (.tmp 19)) 75 (Value.slice Ac_sets (c.sets).length cc_sets) (Runs.guarded (j := 2) (t := 14) (b := false) (by kernel_rfl) (by kernel_rfl) (by kernel_rfl)) (by kernel_rfl) (q_load1 b1 3 2 (by kernel_rfl) (by kernel_rfl) (by kernel_rfl)) ?_
        refine wpr_val 10 21 (.call { callee := .builtin .len, args := #[(.tmp 20)], argTypes := #[75] }) 3 (Value.int .i64 ((((c.sets).length : Nat) : Int))) (Runs.guarded (j := 2) (t := 14) (b := false) (by kernel_rfl) (by kernel_rfl) (by kernel_rfl)) (by kernel_rfl) (y_pure (by kernel_rfl) (fun _ => by kernel_rfl)) ?_
        refine wpr_val 11 22 (.binOp .add 2 (.tmp 18) (.tmp 21) 2) 2 (Value.int .i64 ((IntKind.i64.wrap (c.base + (((c.sets).length : Nat) : Int))))) (Runs.guarded (j := 2) (t := 14) (b := false) (by kernel_rfl) (by kernel_rfl) (by kernel_rfl)) (by kernel_rfl) (y_pure (by kernel_rfl) (fun _ => by kernel_rfl)) ?_
        refine wpr_val 12 23 (.binOp .neq 2 (.tmp 16) (.tmp 22) 2) 4 (Value.bool ((x.steps != (IntKind.i64.wrap (c.base + (((c.sets).length : Nat) : Int)))))) (Runs.guarded (j := 2) (t := 14) (b := false) (by kernel_rfl) (by kernel_rfl) (by kernel_rfl)) (by kernel_rfl) (y_pure (by kernel_rfl) (fun _ => by kernel_rfl)) ?_
        refine wpr_val 13 24 (.pick (.tmp 14) (.const (Value.bool (true))) (.tmp 23)) 4 (Value.bool ((x.steps != (IntKind.i64.wrap (c.base + (((c.sets).length : Nat) : Int)))))) (Runs.plain (by kernel_rfl)) (by kernel_rfl) (y_pickF (by kernel_rfl) (by kernel_rfl)) ?_
        refine wpq_re 24 (v := Value.bool ((x.steps != (IntKind.i64.wrap (c.base + (((c.sets).length : Nat) : Int)))))) (Value.bool (((!came) || (x.steps != (IntKind.i64.wrap (c.base + (((c.sets).length : Nat) : Int))))))) (by kernel_rfl) (re_or0 q4) ?_
        exact wpq_sub _ (by kernel_rfl) hk2
    · refine wpr_val 14 25 (.move (.tmp 24)) 4 (Value.bool (((!came) || (x.steps != (IntKind.i64.wrap (c.base + (((c.sets).length : Nat) : Int))))))) (Runs.plain (by kernel_rfl)) (by kernel_rfl) (y_move (by kernel_rfl)) ?_
      refine wpr_grp 17 [(3, Value.pointer (some ⟨b1, 0, none⟩)), (4, Value.pointer (some ⟨b2, 0, none⟩)), (6, Value.pointer (some ⟨b3, 0, none⟩)), (28, Value.bool ((((!came) || (x.steps != (IntKind.i64.wrap (c.base + (((c.sets).length : Nat) : Int))))) || x.fresh)))] (fun hk13 => ?_) ?_
      · refine wpq_split 25 (b := ((!came) || (x.steps != (IntKind.i64.wrap (c.base + (((c.sets).length : Nat) : Int)))))) (by kernel_rfl) (fun q5 => ?_) (fun q5 => ?_)
        · refine wpr_skip 15 26 (Skips.mk' (j := 13) (t := 25) (b := false) (by kernel_rfl) (by kernel_rfl) (by kernel_rfl)) (by kernel_rfl) ?_
          refine wpr_skip 16 27 (Skips.mk' (j := 13) (t := 25) (b := false) (by kernel_rfl) (by kernel_rfl) (by kernel_rfl)) (by kernel_rfl) ?_
          refine wpr_val 17 28 (.pick (.tmp 25) (.const (Value.bool (true))) (.tmp 27)) 4 (Value.bool (true)) (Runs.plain (by kernel_rfl)) (by kernel_rfl) (y_pickT (by kernel_rfl) (by kernel_rfl)) ?_
          refine wpq_re 28 (v := Value.bool (true)) (Value.bool ((((!came) || (x.steps != (IntKind.i64.wrap (c.base + (((c.sets).length : Nat) : Int))))) || x.fresh))) (by kernel_rfl) (re_or1 q5) ?_
          exact wpq_sub _ (by kernel_rfl) hk13
        · have q5l := (or_false_ q5).1
          have q5r := (or_false_ q5).2
          have q5ln := not_eq_false_ q5l
          have q5rp : x.steps = (IntKind.i64.wrap (c.base + (((c.sets).length : Nat) : Int))) := eq_of_bne_false_ q5r
          refine wpr_val 15 26 (.fieldAddr 86 (.tmp 4) 2) 0 (Value.pointer (some ⟨b2, 2, none⟩)) (Runs.guarded (j := 13) (t := 25) (b := false) (by kernel_rfl) (by kernel_rfl) (by kernel_rfl)) (by kernel_rfl) (y_pure (by kernel_rfl) (fun _ => by kernel_rfl)) ?_
          refine wpr_val 16 27 (.load 4 (.tmp 26)) 4 (Value.bool (x.fresh)) (Runs.guarded (j := 13) (t := 25) (b := false) (by kernel_rfl) (by kernel_rfl) (by kernel_rfl)) (by kernel_rfl) (q_load1 b2 2 1 (by kernel_rfl) (by kernel_rfl) (by kernel_rfl)) ?_
          refine wpr_val 17 28 (.pick (.tmp 25) (.const (Value.bool (true))) (.tmp 27)) 4 (Value.bool (x.fresh)) (Runs.plain (by kernel_rfl)) (by kernel_rfl) (y_pickF (by kernel_rfl) (by kernel_rfl)) ?_
          refine wpq_re 28 (v := Value.bool (x.fresh)) (Value.bool ((((!came) || (x.steps != (IntKind.i64.wrap (c.base + (((c.sets).length : Nat) : Int))))) || x.fresh))) (by kernel_rfl) (re_or0 q5) ?_
          exact wpq_sub _ (by kernel_rfl) hk13
      · refine wpr_val 18 29 (.move (.tmp 28)) 4 (Value.bool ((((!came) || (x.steps != (IntKind.i64.wrap (c.base + (((c.sets).length : Nat) : Int))))) || x.fresh))) (Runs.plain (by kernel_rfl)) (by kernel_rfl) (y_move (by kernel_rfl)) ?_
        refine wpr_grp 26 [(3, Value.pointer (some ⟨b1, 0, none⟩)), (4, Value.pointer (some ⟨b2, 0, none⟩)), (6, Value.pointer (some ⟨b3, 0, none⟩)), (37, Value.bool (((((!came) || (x.steps != (IntKind.i64.wrap (c.base + (((c.sets).length : Nat) : Int))))) || x.fresh) || decide ((((c.sets).length : Nat) : Int) ≥ (((c.parts).length : Nat) : Int)))))] (fun hk17 => ?_) ?_
        · refine wpq_split 29 (b := (((!came) || (x.steps != (IntKind.i64.wrap (c.base + (((c.sets).length : Nat) : Int))))) || x.fresh)) (by kernel_rfl) (fun q6 => ?_) (fun q6 => ?_)
          · refine wpr_skip 19 30 (Skips.mk' (j := 17) (t := 29) (b := false) (by kernel_rfl) (by kernel_rfl) (by kernel_rfl)) (by kernel_rfl) ?_
            refine wpr_skip 20 31 (Skips.mk' (j := 17) (t := 29) (b := false) (by kernel_rfl) (by kernel_rfl) (by kernel_rfl)) (by kernel_rfl) ?_
            refine wpr_skip 21 32 (Skips.mk' (j := 17) (t := 29) (b := false) (by kernel_rfl) (by kernel_rfl) (by kernel_rfl)) (by kernel_rfl) ?_
            refine wpr_skip 22 33 (Skips.mk' (j := 17) (t := 29) (b := false) (by kernel_rfl) (by kernel_rfl) (by kernel_rfl)) (by kernel_rfl) ?_
            refine wpr_skip 23 34 (Skips.mk' (j := 17) (t := 29) (b := false) (by kernel_rfl) (by kernel_rfl) (by kernel_rfl)) (by kernel_rfl) ?_
            refine wpr_skip 24 35 (Skips.mk' (j := 17) (t := 29) (b := false) (by kernel_rfl) (by kernel_rfl) (by kernel_rfl)) (by kernel_rfl) ?_
            refine wpr_skip 25 36 (Skips.mk' (j := 17) (t := 29) (b := false) (by kernel_rfl) (by kernel_rfl) (by kernel_rfl)) (by kernel_rfl) ?_
            refine wpr_val 26 37 (.pick (.tmp 29) (.const (Value.bool (true))) (.tmp 36)) 4 (Value.bool (true)) (Runs.plain (by kernel_rfl)) (by kernel_rfl) (y_pickT (by kernel_rfl) (by kernel_rfl)) ?_
            refine wpq_re 37 (v := Value.bool (true)) (Value.bool (((((!came) || (x.steps != (IntKind.i64.wrap (c.base + (((c.sets).length : Nat) : Int))))) || x.fresh) || decide ((((c.sets).length : Nat) : Int) ≥ (((c.parts).length : Nat) : Int))))) (by kernel_rfl) (re_or1 q6) ?_
            exact wpq_sub _ (by kernel_rfl) hk17
          · have q6l := (or_false_ q6).1
            have q6r := (or_false_ q6).2
            have q6ll := (or_false_ q6l).1
            have q6lr := (or_false_ q6l).2
            have q6lln := not_eq_false_ q6ll
            have q6lrp : x.steps = (IntKind.i64.wrap (c.base + (((c.sets).length : Nat) : Int))) := eq_of_bne_false_ q6lr
            refine wpr_val 19 30 (.fieldAddr 77 (.tmp 3) 3) 0 (Value.pointer (some ⟨b1, 3, none⟩)) (Runs.guarded (j := 17) (t := 29) (b := false) (by kernel_rfl) (by kernel_rfl) (by kernel_rfl)) (by kernel_rfl) (y_pure (by kernel_rfl) (fun _ => by kernel_rfl)) ?_
            refine wpr_val 20 31 (.load 75 (.tmp 30)) 75 (Value.slice Ac_sets (c.sets).length cc_sets) (Runs.guarded (j := 17) (t := 29) (b := false) (by kernel_rfl) (by kernel_rfl) (by kernel_rfl)) (by kernel_rfl) (q_load1 b1 3 2 (by kernel_rfl) (by kernel_rfl) (by kernel_rfl)) ?_
            refine wpr_val 21 32 (.call { callee := .builtin .len, args := #[(.tmp 31)], argTypes := #[75] }) 3 (Value.int .i64 ((((c.sets).length : Nat) : Int))) (Runs.guarded (j := 17) (t := 29) (b := false) (by kernel_rfl) (by kernel_rfl) (by kernel_rfl)) (by kernel_rfl) (y_pure (by kernel_rfl) (fun _ => by kernel_rfl)) ?_
            refine wpr_val 22 33 (.fieldAddr 77 (.tmp 3) 2) 0 (Value.pointer (some ⟨b1, 2, none⟩)) (Runs.guarded (j := 17) (t := 29) (b := false) (by kernel_rfl) (by kernel_rfl) (by kernel_rfl)) (by kernel_rfl) (y_pure (by kernel_rfl) (fun _ => by kernel_rfl)) ?_
            refine wpr_val 23 34 (.load 74 (.tmp 33)) 74 (Value.slice Ac_parts (c.parts).length cc_parts) (Runs.guarded (j := 17) (t := 29) (b := false) (by kernel_rfl) (by kernel_rfl) (by kernel_rfl)) (by kernel_rfl) (q_load1 b1 2 2 (by kernel_rfl) (by kernel_rfl) (by kernel_rfl)) ?_
            refine wpr_val 24 35 (.call { callee := .builtin .len, args := #[(.tmp 34)], argTypes := #[74] }) 3 (Value.int .i64 ((((c.parts).length : Nat) : Int))) (Runs.guarded (j := 17) (t := 29) (b := false) (by kernel_rfl) (by kernel_rfl) (by kernel_rfl)) (by kernel_rfl) (y_pure (by kernel_rfl) (fun _ => by kernel_rfl)) ?_
            refine wpr_val 25 36 (.binOp .geq 3 (.tmp 32) (.tmp 35) 3) 4 (Value.bool (decide ((((c.sets).length : Nat) : Int) ≥ (((c.parts).length : Nat) : Int)))) (Runs.guarded (j := 17) (t := 29) (b := false) (by kernel_rfl) (by kernel_rfl) (by kernel_rfl)) (by kernel_rfl) (y_pure (by kernel_rfl) (fun _ => by kernel_rfl)) ?_
            refine wpr_val 26 37 (.pick (.tmp 29) (.const (Value.bool (true))) (.tmp 36)) 4 (Value.bool (decide ((((c.sets).length : Nat) : Int) ≥ (((c.parts).length : Nat) : Int)))) (Runs.plain (by kernel_rfl)) (by kernel_rfl) (y_pickF (by kernel_rfl) (by kernel_rfl)) ?_
            refine wpq_re 37 (v := Value.bool (decide ((((c.sets).length : Nat) : Int) ≥ (((c.parts).length : Nat) : Int)))) (Value.bool (((((!came) || (x.steps != (IntKind.i64.wrap (c.base + (((c.sets).length : Nat) : Int))))) || x.fresh) || decide ((((c.sets).length : Nat) : Int) ≥ (((c.parts).length : Nat) : Int))))) (by kernel_rfl) (re_or0 q6) ?_
            exact wpq_sub _ (by kernel_rfl) hk17
        · refine wpr_end (by kernel_rfl) ?_
          refine wpq_then ?_
          -- condition 1
          refine wpc_cond (x := F32_19) (y := F32_20) (o := (.tmp 37)) (b := ((((!came) || (x.steps != (IntKind.i64.wrap (c.base + (((c.sets).length : Nat) : Int))))) || x.fresh) || decide ((((c.sets).length : Nat) : Int) ≥ (((c.parts).length : Nat) : Int)))) (by kernel_rfl) (by kernel_rfl) (fun h1 => ?_) (fun h1 => ?_)
          · refine wpc_seq (x := F32_21) (y := F32_22) (by kernel_rfl) ?_
            refine wpc_region (ops := R32_21) (id := 4) (by kernel_rfl) ?_
            refine wpr_val 1 38 (.build 77 #[]) 77 (Value.agg #[Value.int .i64 (0), Value.int .i64 (0), Value.slice none 0 0, Value.slice none 0 0]) (Runs.plain (by kernel_rfl)) (by kernel_rfl) (y_pure (by kernel_rfl) (fun _ => by kernel_rfl)) ?_
            refine wpr_do 2 (.store 77 (.tmp 6) (.tmp 38)) 0 (Runs.plain (by kernel_rfl)) (by kernel_rfl) (q_store b3 0 0 (Value.agg #[Value.int .i64 (0), Value.int .i64 (0), Value.slice none 0 0, Value.slice none 0 0]) [Value.int .i64 (0), Value.int .i64 (0), Value.slice none 0 0, Value.slice none 0 0] 77 [Value.int .i64 (0), Value.int .i64 (0), Value.slice none 0 0, Value.slice none 0 0] [Value.int .i64 (0), Value.int .i64 (0), Value.slice none 0 0, Value.slice none 0 0] (by kernel_rfl) (by kernel_rfl) (by kernel_rfl) (by kernel_rfl) (by kernel_rfl) (by kernel_rfl) (by kernel_rfl)) ?_
            rintro _ _ _ - ⟨rfl, rfl⟩
            refine wpr_end (by kernel_rfl) ?_
            refine wpq_then ?_
            refine wpc_ret (rs := [.cell 6 77]) [Value.agg #[Value.int .i64 (0), Value.int .i64 (0), Value.slice none 0 0, Value.slice none 0 0]] [] (by kernel_rfl) (fun _ _ h => h) (by kernel_rfl) (rq_cellA b3 0 0 [Value.int .i64 (0), Value.int .i64 (0), Value.slice none 0 0, Value.slice none 0 0] (by kernel_rfl) (by kernel_rfl) (by kernel_rfl) res_nil) L0 keep0 ?_
            have eS : (rnoteS c x came) = (⟨(0 : Int), (0 : Int), ([] : List (List UInt8)), ([] : List Sett)⟩ : Coll) := by
              unfold rnoteS
              rw [h0]
              rw [h1]
              rfl
            rw [eS]
            exact ⟨rfl, none, 0, none, 0, rfl, Arr.nil, Arr.nil⟩
          · have h1l := (or_false_ h1).1
            have h1r := (or_false_ h1).2
            have h1ll := (or_false_ h1l).1
            have h1lr := (or_false_ h1l).2
            have h1lll := (or_false_ h1ll).1
            have h1llr := (or_false_ h1ll).2
            have h1llln := not_eq_false_ h1lll
            have h1llrp : x.steps = (IntKind.i64.wrap (c.base + (((c.sets).length : Nat) : Int))) := eq_of_bne_false_ h1llr
            have h1rp := of_decide_eq_false h1r
            refine wpc_skip (by kernel_rfl) ?_
            refine wpq_then ?_
            refine wpc_seq (x := F32_24) (y := F32_25) (by kernel_rfl) ?_
            refine wpa_start (ops := R32_24) (id := 5) (by kernel_rfl) (by kernel_rfl) [2, 4] [8, 7] [some ⟨b3, 77, [Value.int .i64 (0), Value.int .i64 (0), Value.slice none 0 0, Value.slice none 0 0]⟩, some ⟨b2, 86, [Value.int .i64 (x.steps), Value.int .i64 (x.cycle), Value.bool (x.fresh), Value.slice Ax_in_ (x.in_).length cx_in_]⟩, some ⟨b1, 77, [Value.int .i64 (c.base), Value.int .i64 (c.count), Value.slice Ac_parts (c.parts).length cc_parts, Value.slice Ac_sets (c.sets).length cc_sets]⟩] (by kernel_rfl) (by kernel_rfl) (fun _ _ _ _ _ h => h) 9 (by kernel_rfl) (fun RG => ?_)
            have lp := Psi.le.refl g.r
            refine wpa_take0 1 [false, true, false, false, false, false, false, false, false] 40 (.fieldAddr 77 (.tmp 3) 3) 0 (Value.pointer (some ⟨b1, 3, none⟩)) RG (Runs.plain (by kernel_rfl)) (by kernel_rfl) (by kernel_rfl) (fun _ => (y_pure (by kernel_rfl) (fun _ => by kernel_rfl))) ?_
            refine wpa_take 2 [false, true, true, false, false, false, false, false, false] 41 (.load 75 (.tmp 40)) 75 (Value.slice Ac_sets (c.sets).length cc_sets) RG (Runs.plain (by kernel_rfl)) (by kernel_rfl) (by kernel_rfl) lp (keepK_P [some 0, some 1, some 2] (by kernel_rfl)) (q_load1 b1 3 2 (by kernel_rfl) (by kernel_rfl) (by kernel_rfl)) ?_
            refine wpa_take 4 [false, true, true, false, true, false, false, false, false] 43 (.load 86 (.tmp 4)) 86 (Value.agg #[Value.int .i64 (x.steps), Value.int .i64 (x.cycle), Value.bool (x.fresh), Value.slice Ax_in_ (x.in_).length cx_in_]) RG (Runs.plain (by kernel_rfl)) (by kernel_rfl) (by kernel_rfl) lp (keepK_P [some 0, some 1, some 2] (by kernel_rfl)) (q_loadA b2 0 1 [Value.int .i64 (x.steps), Value.int .i64 (x.cycle), Value.bool (x.fresh), Value.slice Ax_in_ (x.in_).length cx_in_] (by kernel_rfl) (by kernel_rfl) (by kernel_rfl)) ?_
            refine wpa_meet (fun g own sl => ∃ (b8 : Nat) (A9 : Option Addr) (c9 : Nat) (k9 : Option Bk) (b10 : Nat), own = [some ⟨b10, 86, [Value.int .i64 (x.steps), Value.int .i64 (x.cycle), Value.bool (x.fresh), Value.slice Ax_in_ (x.in_).length cx_in_]⟩, k9, some ⟨b3, 77, [Value.int .i64 (0), Value.int .i64 (0), Value.slice none 0 0, Value.slice none 0 0]⟩, some ⟨b2, 86, [Value.int .i64 (x.steps), Value.int .i64 (x.cycle), Value.bool (x.fresh), Value.slice Ax_in_ (x.in_).length cx_in_]⟩, some ⟨b1, 77, [Value.int .i64 (c.base), Value.int .i64 (c.count), Value.slice Ac_parts (c.parts).length cc_parts, Value.slice Ac_sets (c.sets).length cc_sets]⟩] ∧ sl = [(3, Value.pointer (some ⟨b1, 0, none⟩)), (6, Value.pointer (some ⟨b3, 0, none⟩)), (42, Value.slice A9 (c.sets : List Sett).length c9), (44, Value.slice (some ⟨b10, 0, none⟩) 1 1)] ∧ Buf g.b tySett 86 (.slice A9 (c.sets : List Sett).length c9) k9 c.sets) 3 [true, true, true, true, true, true, false, false, false] ?_ (fun hD7 => ?_)
            · rintro g8 _ _ le9 ⟨b8, A9, c9, k9, b10, rfl, rfl, hb9⟩
              have fc_parts := fc_parts.mono le9.b
              have fc_sets := fc_sets.mono le9.b
              have fx_in_ := fx_in_.mono le9.b
              have L0 := L0.trans le9
              have lp := lp.trans le9.r
              have nhb9 := hb9.len
              refine wpa_one 6 (by kernel_rfl) ?_
              have hz10 : (c.sets ++ [x] : List Sett).length = (c.sets : List Sett).length + 1 := by rw [List.length_append]; rfl
              refine wpi_eff [true, true, true, true, true, true, true, false, false] 45 (.call { callee := .builtin .append, args := #[(.tmp 42), (.tmp 44)], argTypes := #[75, 75] }) 75 (Runs.plain (by kernel_rfl)) (by kernel_rfl) lp (e_appendQ (T := tySett) (p := g8.b) (et := 86) (bytes := 48) 1 (Value.slice A9 (c.sets : List Sett).length c9) (k9) (c.sets) (some ⟨b10, 0, none⟩) 1 1 ([x]) (by kernel_rfl) (by kernel_rfl) (by kernel_rfl) (by kernel_rfl) hb9 rfl (src_lit (i := 0) (t := 86) (cs := [Value.int .i64 (x.steps), Value.int .i64 (x.cycle), Value.bool (x.fresh), Value.slice Ax_in_ (x.in_).length cx_in_]) (by kernel_rfl)) (reps_cons (c := [Value.int .i64 (x.steps), Value.int .i64 (x.cycle), Value.bool (x.fresh), Value.slice Ax_in_ (x.in_).length cx_in_]) ⟨Ax_in_, cx_in_, rfl, fx_in_⟩ reps_nil) (by first | omega | (simp only [List.length_nil, List.length_cons, List.length_append] <;> omega)) (by first | omega | (simp only [List.length_nil, List.length_cons, List.length_append] <;> omega))) (by kernel_rfl) ?_
              rintro _ _ _ - ⟨A10, c10, k10, rfl, rfl, rfl, hb10⟩
              refine ⟨.inr (keepK_P [some 2, some 3, some 4] (by kernel_rfl)), ?_⟩
              have nhb10 := hb10.len
              refine wpa_take0 7 [true, true, true, true, true, true, true, true, false] 46 (.fieldAddr 77 (.tmp 3) 3) 0 (Value.pointer (some ⟨b1, 3, none⟩)) RG (Runs.plain (by kernel_rfl)) (by kernel_rfl) (by kernel_rfl) (fun _ => (y_pure (by kernel_rfl) (fun _ => by kernel_rfl))) ?_
              refine wpa_one 8 (by kernel_rfl) ?_
              refine wpi_do [true, true, true, true, true, true, true, true, true] (.store 75 (.tmp 46) (.tmp 45)) 0 (Runs.plain (by kernel_rfl)) lp (q_store b1 3 4 (Value.slice A10 ((c.sets ++ [x]) : List Sett).length c10) [Value.slice A10 ((c.sets ++ [x]) : List Sett).length c10] 77 [Value.int .i64 (c.base), Value.int .i64 (c.count), Value.slice Ac_parts (c.parts).length cc_parts, Value.slice Ac_sets (c.sets).length cc_sets] [Value.int .i64 (c.base), Value.int .i64 (c.count), Value.slice Ac_parts (c.parts).length cc_parts, Value.slice A10 ((c.sets ++ [x]) : List Sett).length c10] (by kernel_rfl) (by kernel_rfl) (by kernel_rfl) (by kernel_rfl) (by kernel_rfl) (by kernel_rfl) (by kernel_rfl)) (by kernel_rfl) ?_
              rintro _ _ _ - ⟨rfl, rfl⟩
              refine ⟨.inl (by kernel_rfl), ?_⟩
              refine wpa_done (by kernel_rfl) ?_
              refine wpq_then ?_
              refine wpc_seq (x := F32_27) (y := F32_28) (by kernel_rfl) ?_
              refine wpc_region (ops := R32_27) (id := 6) (by kernel_rfl) ?_
              refine wpr_val 1 47 (.load 77 (.tmp 3)) 77 (Value.agg #[Value.int .i64 (c.base), Value.int .i64 (c.count), Value.slice Ac_parts (c.parts).length cc_parts, Value.slice A10 ((c.sets ++ [x]) : List Sett).length c10]) (Runs.plain (by kernel_rfl)) (by kernel_rfl) (q_loadA b1 0 4 [Value.int .i64 (c.base), Value.int .i64 (c.count), Value.slice Ac_parts (c.parts).length cc_parts, Value.slice A10 ((c.sets ++ [x]) : List Sett).length c10] (by kernel_rfl) (by kernel_rfl) (by kernel_rfl)) ?_
              refine wpr_do 2 (.store 77 (.tmp 6) (.tmp 47)) 0 (Runs.plain (by kernel_rfl)) (by kernel_rfl) (q_store b3 0 2 (Value.agg #[Value.int .i64 (c.base), Value.int .i64 (c.count), Value.slice Ac_parts (c.parts).length cc_parts, Value.slice A10 ((c.sets ++ [x]) : List Sett).length c10]) [Value.int .i64 (c.base), Value.int .i64 (c.count), Value.slice Ac_parts (c.parts).length cc_parts, Value.slice A10 ((c.sets ++ [x]) : List Sett).length c10] 77 [Value.int .i64 (0), Value.int .i64 (0), Value.slice none 0 0, Value.slice none 0 0] [Value.int .i64 (c.base), Value.int .i64 (c.count), Value.slice Ac_parts (c.parts).length cc_parts, Value.slice A10 ((c.sets ++ [x]) : List Sett).length c10] (by kernel_rfl) (by kernel_rfl) (by kernel_rfl) (by kernel_rfl) (by kernel_rfl) (by kernel_rfl) (by kernel_rfl)) ?_
              rintro _ _ _ - ⟨rfl, rfl⟩
              refine wpr_end (by kernel_rfl) ?_
              refine wpq_then ?_
              refine wpq_sub [(6, Value.pointer (some ⟨b3, 0, none⟩))] (by kernel_rfl) ?_
              refine wpq_freeze 1 (by kernel_rfl) hb10 (fun g11 le12 f13 => ?_)
              have fc_parts := fc_parts.mono le12.b
              have fc_sets := fc_sets.mono le12.b
              have fx_in_ := fx_in_.mono le12.b
              have L0 := L0.trans le12
              refine wpc_ret (rs := [.cell 6 77]) [Value.agg #[Value.int .i64 (c.base), Value.int .i64 (c.count), Value.slice Ac_parts (c.parts).length cc_parts, Value.slice A10 ((c.sets ++ [x]) : List Sett).length c10]] [] (by kernel_rfl) (fun _ _ h => h) (by kernel_rfl) (rq_cellA b3 0 2 [Value.int .i64 (c.base), Value.int .i64 (c.count), Value.slice Ac_parts (c.parts).length cc_parts, Value.slice A10 ((c.sets ++ [x]) : List Sett).length c10] (by kernel_rfl) (by kernel_rfl) (by kernel_rfl) res_nil) L0 keep0 ?_
              have eS : (rnoteS c x came) = (⟨(c.base : Int), (c.count : Int), (c.parts : List (List UInt8)), ((c.sets ++ [x]) : List Sett)⟩ : Coll) := by
                unfold rnoteS
                rw [h0]
                rw [h1]
                rfl
              rw [eS]
              exact ⟨rfl, Ac_parts, cc_parts, A10, c10, rfl, fc_parts, f13⟩
            · have LD7 := Gh.le.refl g
              refine wpa_two 0 5 (by kernel_rfl) ?_ ?_
              · refine wpi_eff [true, true, true, false, true, false, false, false, false] 39 (.buildSlice 75 0 #[]) 75 (Runs.plain (by kernel_rfl)) (by kernel_rfl) lp (e_buildSlice (et := 86) [] [] (by kernel_rfl) (by kernel_rfl)) (by kernel_rfl) ?_
                rintro _ _ _ - ⟨b14, rfl, rfl, rfl⟩
                refine ⟨.inr (keepK_P [some 1, some 2, some 3] (by kernel_rfl)), ?_⟩
                refine wpa_two 3 5 (by kernel_rfl) ?_ ?_
                · obtain ⟨nw15, hp15, hs15⟩ := fc_sets.srcB
                  refine wpi_eff [true, true, true, true, true, false, false, false, false] 42 (.call { callee := .builtin .append, args := #[(.tmp 39), (.tmp 41)], argTypes := #[75, 75] }) 75 (Runs.plain (by kernel_rfl)) (by kernel_rfl) lp (e_appendQ (T := tySett) (p := g.b) (et := 86) (bytes := 48) 0 (Value.slice (some ⟨b14, 0, none⟩) 0 0) (some ⟨b14, 86, []⟩) ([]) Ac_sets (c.sets).length cc_sets (c.sets) (by kernel_rfl) (by kernel_rfl) (by kernel_rfl) (by kernel_rfl) (buf_lit reps_nil rfl (by omega)) rfl (fun w hs => hs15 w _ hs) hp15 (by first | omega | (simp only [List.length_nil, List.length_cons, List.length_append] <;> omega)) (by first | omega | (simp only [List.length_nil, List.length_cons, List.length_append] <;> omega))) (by kernel_rfl) ?_
                  rintro _ _ _ - ⟨A15, c15, k15, rfl, rfl, rfl, hb15⟩
                  refine ⟨.inr (keepK_P [some 1, some 2, some 3] (by kernel_rfl)), ?_⟩
                  have hb15 : Buf g.b tySett 86 (.slice A15 (c.sets : List Sett).length c15) k15 c.sets := hb15
                  have nhb15 := hb15.len
                  refine wpa_one 5 (by kernel_rfl) ?_
                  refine wpi_eff [true, true, true, true, true, true, false, false, false] 44 (.buildSlice 75 1 #[(0, (.tmp 43))]) 75 (Runs.plain (by kernel_rfl)) (by kernel_rfl) lp (e_buildSlice (et := 86) [(0, Value.agg #[Value.int .i64 (x.steps), Value.int .i64 (x.cycle), Value.bool (x.fresh), Value.slice Ax_in_ (x.in_).length cx_in_])] [Value.int .i64 (x.steps), Value.int .i64 (x.cycle), Value.bool (x.fresh), Value.slice Ax_in_ (x.in_).length cx_in_] (by kernel_rfl) (by kernel_rfl)) (by kernel_rfl) ?_
                  rintro _ _ _ - ⟨b16, rfl, rfl, rfl⟩
                  refine ⟨.inr (keepK_P [some 2, some 3, some 4] (by kernel_rfl)), ?_⟩
                  refine wpq_sub [(3, Value.pointer (some ⟨b1, 0, none⟩)), (6, Value.pointer (some ⟨b3, 0, none⟩)), (42, Value.slice A15 (c.sets : List Sett).length c15), (44, Value.slice (some ⟨b16, 0, none⟩) 1 1)] (by kernel_rfl) ?_
                  exact hD7 _ _ _ LD7 ⟨b14, A15, c15, k15, b16, rfl, rfl, hb15⟩
                · refine wpi_eff [true, true, true, false, true, true, false, false, false] 44 (.buildSlice 75 1 #[(0, (.tmp 43))]) 75 (Runs.plain (by kernel_rfl)) (by kernel_rfl) lp (e_buildSlice (et := 86) [(0, Value.agg #[Value.int .i64 (x.steps), Value.int .i64 (x.cycle), Value.bool (x.fresh), Value.slice Ax_in_ (x.in_).length cx_in_])] [Value.int .i64 (x.steps), Value.int .i64 (x.cycle), Value.bool (x.fresh), Value.slice Ax_in_ (x.in_).length cx_in_] (by kernel_rfl) (by kernel_rfl)) (by kernel_rfl) ?_
                  rintro _ _ _ - ⟨b17, rfl, rfl, rfl⟩
                  refine ⟨.inr (keepK_P [some 2, some 3, some 4] (by kernel_rfl)), ?_⟩
                  refine wpa_one 3 (by kernel_rfl) ?_
                  obtain ⟨nw18, hp18, hs18⟩ := fc_sets.srcB
                  refine wpi_eff [true, true, true, true, true, true, false, false, false] 42 (.call { callee := .builtin .append, args := #[(.tmp 39), (.tmp 41)], argTypes := #[75, 75] }) 75 (Runs.plain (by kernel_rfl)) (by kernel_rfl) lp (e_appendQ (T := tySett) (p := g.b) (et := 86) (bytes := 48) 1 (Value.slice (some ⟨b14, 0, none⟩) 0 0) (some ⟨b14, 86, []⟩) ([]) Ac_sets (c.sets).length cc_sets (c.sets) (by kernel_rfl) (by kernel_rfl) (by kernel_rfl) (by kernel_rfl) (buf_lit reps_nil rfl (by omega)) rfl (fun w hs => hs18 w _ hs) hp18 (by first | omega | (simp only [List.length_nil, List.length_cons, List.length_append] <;> omega)) (by first | omega | (simp only [List.length_nil, List.length_cons, List.length_append] <;> omega))) (by kernel_rfl) ?_
                  rintro _ _ _ - ⟨A18, c18, k18, rfl, rfl, rfl, hb18⟩
                  refine ⟨.inr (keepK_P [some 2, some 3, some 4] (by kernel_rfl)), ?_⟩
                  have hb18 : Buf g.b tySett 86 (.slice A18 (c.sets : List Sett).length c18) k18 c.sets := hb18
                  have nhb18 := hb18.len
                  refine wpq_sub [(3, Value.pointer (some ⟨b1, 0, none⟩)), (6, Value.pointer (some ⟨b3, 0, none⟩)), (42, Value.slice A18 (c.sets : List Sett).length c18), (44, Value.slice (some ⟨b17, 0, none⟩) 1 1)] (by kernel_rfl) ?_
                  exact hD7 _ _ _ LD7 ⟨b14, A18, c18, k18, b17, rfl, rfl, hb18⟩
              · refine wpi_eff [false, true, true, false, true, true, false, false, false] 44 (.buildSlice 75 1 #[(0, (.tmp 43))]) 75 (Runs.plain (by kernel_rfl)) (by kernel_rfl) lp (e_buildSlice (et := 86) [(0, Value.agg #[Value.int .i64 (x.steps), Value.int .i64 (x.cycle), Value.bool (x.fresh), Value.slice Ax_in_ (x.in_).length cx_in_])] [Value.int .i64 (x.steps), Value.int .i64 (x.cycle), Value.bool (x.fresh), Value.slice Ax_in_ (x.in_).length cx_in_] (by kernel_rfl) (by kernel_rfl)) (by kernel_rfl) ?_
                rintro _ _ _ - ⟨b19, rfl, rfl, rfl⟩
                refine ⟨.inr (keepK_P [some 1, some 2, some 3] (by kernel_rfl)), ?_⟩
                refine wpa_one 0 (by kernel_rfl) ?_
                refine wpi_eff [true, true, true, false, true, true, false, false, false] 39 (.buildSlice 75 0 #[]) 75 (Runs.plain (by kernel_rfl)) (by kernel_rfl) lp (e_buildSlice (et := 86) [] [] (by kernel_rfl) (by kernel_rfl)) (by kernel_rfl) ?_
                rintro _ _ _ - ⟨b20, rfl, rfl, rfl⟩
                refine ⟨.inr (keepK_P [some 2, some 3, some 4] (by kernel_rfl)), ?_⟩
                refine wpa_one 3 (by kernel_rfl) ?_
                obtain ⟨nw21, hp21, hs21⟩ := fc_sets.srcB
                refine wpi_eff [true, true, true, true, true, true, false, false, false] 42 (.call { callee := .builtin .append, args := #[(.tmp 39), (.tmp 41)], argTypes := #[75, 75] }) 75 (Runs.plain (by kernel_rfl)) (by kernel_rfl) lp (e_appendQ (T := tySett) (p := g.b) (et := 86) (bytes := 48) 0 (Value.slice (some ⟨b20, 0, none⟩) 0 0) (some ⟨b20, 86, []⟩) ([]) Ac_sets (c.sets).length cc_sets (c.sets) (by kernel_rfl) (by kernel_rfl) (by kernel_rfl) (by kernel_rfl) (buf_lit reps_nil rfl (by omega)) rfl (fun w hs => hs21 w _ hs) hp21 (by first | omega | (simp only [List.length_nil, List.length_cons, List.length_append] <;> omega)) (by first | omega | (simp only [List.length_nil, List.length_cons, List.length_append] <;> omega))) (by kernel_rfl) ?_
                rintro _ _ _ - ⟨A21, c21, k21, rfl, rfl, rfl, hb21⟩
                refine ⟨.inr (keepK_P [some 2, some 3, some 4] (by kernel_rfl)), ?_⟩
                have hb21 : Buf g.b tySett 86 (.slice A21 (c.sets : List Sett).length c21) k21 c.sets := hb21
                have nhb21 := hb21.len
                refine wpq_sel [some 1, some 0, some 2, some 3, some 4] [some ⟨b19, 86, [Value.int .i64 (x.steps), Value.int .i64 (x.cycle), Value.bool (x.fresh), Value.slice Ax_in_ (x.in_).length cx_in_]⟩, k21, some ⟨b3, 77, [Value.int .i64 (0), Value.int .i64 (0), Value.slice none 0 0, Value.slice none 0 0]⟩, some ⟨b2, 86, [Value.int .i64 (x.steps), Value.int .i64 (x.cycle), Value.bool (x.fresh), Value.slice Ax_in_ (x.in_).length cx_in_]⟩, some ⟨b1, 77, [Value.int .i64 (c.base), Value.int .i64 (c.count), Value.slice Ac_parts (c.parts).length cc_parts, Value.slice Ac_sets (c.sets).length cc_sets]⟩] (by kernel_rfl) (by kernel_rfl) ?_
                refine wpq_sub [(3, Value.pointer (some ⟨b1, 0, none⟩)), (6, Value.pointer (some ⟨b3, 0, none⟩)), (42, Value.slice A21 (c.sets : List Sett).length c21), (44, Value.slice (some ⟨b19, 0, none⟩) 1 1)] (by kernel_rfl) ?_
                exact hD7 _ _ _ LD7 ⟨b20, A21, c21, k21, b19, rfl, rfl, hb21⟩

noncomputable def F39_0 : Code := sub (Try.f39.body.getD .skip) []
noncomputable def F39_1 : Code := sub (Try.f39.body.getD .skip) [0]
noncomputable def F39_2 : Code := sub (Try.f39.body.getD .skip) [1]
noncomputable def R39_1 : Array Oper := regOf F39_1
noncomputable def F39_4 : Code := sub (Try.f39.body.getD .skip) [1, 0]
noncomputable def F39_5 : Code := sub (Try.f39.body.getD .skip) [1, 1]
noncomputable def F39_6 : Code := sub (Try.f39.body.getD .skip) [1, 0, 0]
noncomputable def F39_7 : Code := sub (Try.f39.body.getD .skip) [1, 0, 1]
noncomputable def R39_6 : Array Oper := regOf F39_6
noncomputable def F39_9 : Code := sub (Try.f39.body.getD .skip) [1, 0, 1, 0]
noncomputable def F39_10 : Code := sub (Try.f39.body.getD .skip) [1, 0, 1, 1]
noncomputable def F39_11 : Code := sub (Try.f39.body.getD .skip) [1, 1, 0]
noncomputable def F39_12 : Code := sub (Try.f39.body.getD .skip) [1, 1, 1]
noncomputable def F39_13 : Code := sub (Try.f39.body.getD .skip) [1, 1, 0, 0]
noncomputable def F39_14 : Code := sub (Try.f39.body.getD .skip) [1, 1, 0, 1]
noncomputable def R39_13 : Array Oper := regOf F39_13
noncomputable def F39_16 : Code := sub (Try.f39.body.getD .skip) [1, 1, 0, 1, 0]
noncomputable def F39_17 : Code := sub (Try.f39.body.getD .skip) [1, 1, 0, 1, 0, 0]
noncomputable def F39_18 : Code := sub (Try.f39.body.getD .skip) [1, 1, 0, 1, 0, 0, 0]
noncomputable def F39_19 : Code := sub (Try.f39.body.getD .skip) [1, 1, 0, 1, 0, 0, 1]
noncomputable def R39_18 : Array Oper := regOf F39_18
noncomputable def F39_21 : Code := sub (Try.f39.body.getD .skip) [1, 1, 0, 1, 0, 0, 1, 0]
noncomputable def F39_22 : Code := sub (Try.f39.body.getD .skip) [1, 1, 0, 1, 0, 0, 1, 1]
noncomputable def F39_23 : Code := sub (Try.f39.body.getD .skip) [1, 1, 0, 1, 0, 0, 1, 0, 0]
noncomputable def F39_24 : Code := sub (Try.f39.body.getD .skip) [1, 1, 0, 1, 0, 0, 1, 0, 1]
noncomputable def F39_25 : Code := sub (Try.f39.body.getD .skip) [1, 1, 0, 1, 0, 0, 1, 1, 0]
noncomputable def F39_26 : Code := sub (Try.f39.body.getD .skip) [1, 1, 0, 1, 0, 0, 1, 1, 1]
noncomputable def F39_27 : Code := sub (Try.f39.body.getD .skip) [1, 1, 0, 1, 0, 0, 1, 1, 0, 0]
noncomputable def F39_28 : Code := sub (Try.f39.body.getD .skip) [1, 1, 0, 1, 0, 0, 1, 1, 0, 0, 0]
noncomputable def F39_29 : Code := sub (Try.f39.body.getD .skip) [1, 1, 0, 1, 0, 0, 1, 1, 0, 0, 1]
noncomputable def R39_28 : Array Oper := regOf F39_28
noncomputable def F39_31 : Code := sub (Try.f39.body.getD .skip) [1, 1, 0, 1, 0, 0, 1, 1, 0, 0, 1, 0]
noncomputable def F39_32 : Code := sub (Try.f39.body.getD .skip) [1, 1, 0, 1, 0, 0, 1, 1, 0, 0, 1, 1]
noncomputable def R39_31 : Array Oper := regOf F39_31
noncomputable def F39_34 : Code := sub (Try.f39.body.getD .skip) [1, 1, 0, 1, 0, 0, 1, 1, 0, 0, 1, 1, 0]
noncomputable def F39_35 : Code := sub (Try.f39.body.getD .skip) [1, 1, 0, 1, 0, 0, 1, 1, 0, 0, 1, 1, 1]
noncomputable def R39_26 : Array Oper := regOf F39_26
noncomputable def F39_37 : Code := sub (Try.f39.body.getD .skip) [1, 1, 1, 0]
noncomputable def F39_38 : Code := sub (Try.f39.body.getD .skip) [1, 1, 1, 1]
noncomputable def R39_37 : Array Oper := regOf F39_37
set_option maxRecDepth 100000 in
theorem c39 (g : Gh) (a : Job) (Aa_snapshot : Option Addr) (ca_snapshot : Nat) (Aa_sets : Option Addr) (ca_sets : Nat) (b : Job) (Ab_snapshot : Option Addr) (cb_snapshot : Nat) (Ab_sets : Option Addr) (cb_sets : Nat) (fa_snapshot : Arr g.r tyU8 Aa_snapshot ca_snapshot a.snapshot) (fa_sets : Arr g.r tySett Aa_sets ca_sets a.sets) (fb_snapshot : Arr g.r tyU8 Ab_snapshot cb_snapshot b.snapshot) (fb_sets : Arr g.r tySett Ab_sets cb_sets b.sets) (he : a = b) :
    Ctr0 Try.prog 39 [Value.agg #[Value.int .i64 (a.base), Value.slice Aa_snapshot (a.snapshot).length ca_snapshot, Value.slice Aa_sets (a.sets).length ca_sets], Value.agg #[Value.int .i64 (b.base), Value.slice Ab_snapshot (b.snapshot).length cb_snapshot, Value.slice Ab_sets (b.sets).length cb_sets]] g (fun v ψ => v = Value.bool (true)) := by
  refine ctr_of Try.f39 F39_0 48 [Value.agg #[Value.int .i64 (a.base), Value.slice Aa_snapshot (a.snapshot).length ca_snapshot, Value.slice Aa_sets (a.sets).length ca_sets], Value.agg #[Value.int .i64 (b.base), Value.slice Ab_snapshot (b.snapshot).length cb_snapshot, Value.slice Ab_sets (b.sets).length cb_sets]] (by kernel_rfl) (by kernel_rfl) (by kernel_rfl) (by kernel_rfl) ?_
  have L0 := Gh.le.refl g
  have nfa_snapshot := fa_snapshot.len
  have nfa_sets := fa_sets.len
  have nfb_snapshot := fb_snapshot.len
  have nfb_sets := fb_sets.len
  refine wpc_seq (x := F39_1) (y := F39_2) (by kernel_rfl) ?_
  refine wpc_region (ops := R39_1) (id := 0) (by kernel_rfl) ?_
  refine wpr_eff 1 2 (.box 94 (.tmp 0)) 0 (Runs.plain (by kernel_rfl)) (by kernel_rfl) (e_box (v := Value.agg #[Value.int .i64 (a.base), Value.slice Aa_snapshot (a.snapshot).length ca_snapshot, Value.slice Aa_sets (a.sets).length ca_sets]) (cs := [Value.int .i64 (a.base), Value.slice Aa_snapshot (a.snapshot).length ca_snapshot, Value.slice Aa_sets (a.sets).length ca_sets]) (by kernel_rfl) (by kernel_rfl)) ?_
  rintro _ _ _ - ⟨b1, rfl, rfl, rfl⟩
  refine wpr_eff 2 3 (.box 94 (.tmp 1)) 0 (Runs.plain (by kernel_rfl)) (by kernel_rfl) (e_box (v := Value.agg #[Value.int .i64 (b.base), Value.slice Ab_snapshot (b.snapshot).length cb_snapshot, Value.slice Ab_sets (b.sets).length cb_sets]) (cs := [Value.int .i64 (b.base), Value.slice Ab_snapshot (b.snapshot).length cb_snapshot, Value.slice Ab_sets (b.sets).length cb_sets]) (by kernel_rfl) (by kernel_rfl)) ?_
  rintro _ _ _ - ⟨b2, rfl, rfl, rfl⟩
  refine wpr_val 3 4 (.assign (.const (Value.bool (false)))) 4 (Value.bool (false)) (Runs.plain (by kernel_rfl)) (by kernel_rfl) (y_assign (by kernel_rfl)) ?_
  refine wpr_end (by kernel_rfl) ?_
  refine wpq_then ?_
  refine wpc_seq (x := F39_4) (y := F39_5) (by kernel_rfl) ?_
  refine wpc_seq (x := F39_6) (y := F39_7) (by kernel_rfl) ?_
  refine wpc_region (ops := R39_6) (id := 1) (by kernel_rfl) ?_
  refine wpr_val 1 6 (.fieldAddr 94 (.tmp 2) 0) 0 (Value.pointer (some ⟨b1, 0, none⟩)) (Runs.plain (by kernel_rfl)) (by kernel_rfl) (y_pure (by kernel_rfl) (fun _ => by kernel_rfl)) ?_
  refine wpr_val 2 7 (.load 2 (.tmp 6)) 2 (Value.int .i64 (a.base)) (Runs.plain (by kernel_rfl)) (by kernel_rfl) (q_load1 b1 0 1 (by kernel_rfl) (by kernel_rfl) (by kernel_rfl)) ?_
  refine wpr_val 3 8 (.fieldAddr 94 (.tmp 3) 0) 0 (Value.pointer (some ⟨b2, 0, none⟩)) (Runs.plain (by kernel_rfl)) (by kernel_rfl) (y_pure (by kernel_rfl) (fun _ => by kernel_rfl)) ?_
  refine wpr_val 4 9 (.load 2 (.tmp 8)) 2 (Value.int .i64 (b.base)) (Runs.plain (by kernel_rfl)) (by kernel_rfl) (q_load1 b2 0 0 (by kernel_rfl) (by kernel_rfl) (by kernel_rfl)) ?_
  refine wpr_val 5 10 (.binOp .neq 2 (.tmp 7) (.tmp 9) 2) 4 (Value.bool ((a.base != b.base))) (Runs.plain (by kernel_rfl)) (by kernel_rfl) (y_pure (by kernel_rfl) (fun _ => by kernel_rfl)) ?_
  refine wpr_val 6 11 (.move (.tmp 10)) 4 (Value.bool ((a.base != b.base))) (Runs.plain (by kernel_rfl)) (by kernel_rfl) (y_move (by kernel_rfl)) ?_
  refine wpr_grp 14 [(2, Value.pointer (some ⟨b1, 0, none⟩)), (3, Value.pointer (some ⟨b2, 0, none⟩)), (19, Value.bool (((a.base != b.base) || (!(a.snapshot == b.snapshot)))))] (fun hk5 => ?_) ?_
  · refine wpq_split 11 (b := (a.base != b.base)) (by kernel_rfl) (fun q3 => ?_) (fun q3 => ?_)
    · have q3p : ¬ (a.base = b.base) := ne_of_bne_ q3
      refine wpr_skip 7 12 (Skips.mk' (j := 5) (t := 11) (b := false) (by kernel_rfl) (by kernel_rfl) (by kernel_rfl)) (by kernel_rfl) ?_
      refine wpr_skip 8 13 (Skips.mk' (j := 5) (t := 11) (b := false) (by kernel_rfl) (by kernel_rfl) (by kernel_rfl)) (by kernel_rfl) ?_
      refine wpr_skip 9 14 (Skips.mk' (j := 5) (t := 11) (b := false) (by kernel_rfl) (by kernel_rfl) (by kernel_rfl)) (by kernel_rfl) ?_
      refine wpr_skip 10 15 (Skips.mk' (j := 5) (t := 11) (b := false) (by kernel_rfl) (by kernel_rfl) (by kernel_rfl)) (by kernel_rfl) ?_
      refine wpr_skip 11 16 (Skips.mk' (j := 5) (t := 11) (b := false) (by kernel_rfl) (by kernel_rfl) (by kernel_rfl)) (by kernel_rfl) ?_
      refine wpr_skip 12 17 (Skips.mk' (j := 5) (t := 11) (b := false) (by kernel_rfl) (by kernel_rfl) (by kernel_rfl)) (by kernel_rfl) ?_
      refine wpr_skip 13 18 (Skips.mk' (j := 5) (t := 11) (b := false) (by kernel_rfl) (by kernel_rfl) (by kernel_rfl)) (by kernel_rfl) ?_
      refine wpr_val 14 19 (.pick (.tmp 11) (.const (Value.bool (true))) (.tmp 18)) 4 (Value.bool (true)) (Runs.plain (by kernel_rfl)) (by kernel_rfl) (y_pickT (by kernel_rfl) (by kernel_rfl)) ?_
      refine wpq_re 19 (v := Value.bool (true)) (Value.bool (((a.base != b.base) || (!(a.snapshot == b.snapshot))))) (by kernel_rfl) (re_or1 q3) ?_
      exact wpq_sub _ (by kernel_rfl) hk5
    · have q3p : a.base = b.base := eq_of_bne_false_ q3
      refine wpr_val 7 12 (.fieldAddr 94 (.tmp 2) 1) 0 (Value.pointer (some ⟨b1, 1, none⟩)) (Runs.guarded (j := 5) (t := 11) (b := false) (by kernel_rfl) (by kernel_rfl) (by kernel_rfl)) (by kernel_rfl) (y_pure (by kernel_rfl) (fun _ => by kernel_rfl)) ?_
      refine wpr_val 8 13 (.load 22 (.tmp 12)) 22 (Value.slice Aa_snapshot (a.snapshot).length ca_snapshot) (Runs.guarded (j := 5) (t := 11) (b := false) (by kernel_rfl) (by kernel_rfl) (by kernel_rfl)) (by kernel_rfl) (q_load1 b1 1 1 (by kernel_rfl) (by kernel_rfl) (by kernel_rfl)) ?_
      refine wpr_val 9 14 (.convert 22 9 (.tmp 13)) 9 (Value.string (mkS (a.snapshot))) (Runs.guarded (j := 5) (t := 11) (b := false) (by kernel_rfl) (by kernel_rfl) (by kernel_rfl)) (by kernel_rfl) (y_str (e := 5) (by kernel_rfl) fa_snapshot (by kernel_rfl) (by kernel_rfl) (by kernel_rfl)) ?_
      refine wpr_val 10 15 (.fieldAddr 94 (.tmp 3) 1) 0 (Value.pointer (some ⟨b2, 1, none⟩)) (Runs.guarded (j := 5) (t := 11) (b := false) (by kernel_rfl) (by kernel_rfl) (by kernel_rfl)) (by kernel_rfl) (y_pure (by kernel_rfl) (fun _ => by kernel_rfl)) ?_
      refine wpr_val 11 16 (.load 22 (.tmp 15)) 22 (Value.slice Ab_snapshot (b.snapshot).length cb_snapshot) (Runs.guarded (j := 5) (t := 11) (b := false) (by kernel_rfl) (by kernel_rfl) (by kernel_rfl)) (by kernel_rfl) (q_load1 b2 1 0 (by kernel_rfl) (by kernel_rfl) (by kernel_rfl)) ?_
      refine wpr_val 12 17 (.convert 22 9 (.tmp 16)) 9 (Value.string (mkS (b.snapshot))) (Runs.guarded (j := 5) (t := 11) (b := false) (by kernel_rfl) (by kernel_rfl) (by kernel_rfl)) (by kernel_rfl) (y_str (e := 5) (by kernel_rfl) fb_snapshot (by kernel_rfl) (by kernel_rfl) (by kernel_rfl)) ?_
      refine wpr_val 13 18 (.binOp .neq 9 (.tmp 14) (.tmp 17) 9) 4 (Value.bool ((!(a.snapshot == b.snapshot)))) (Runs.guarded (j := 5) (t := 11) (b := false) (by kernel_rfl) (by kernel_rfl) (by kernel_rfl)) (by kernel_rfl) (y_neS (by kernel_rfl) (by kernel_rfl)) ?_
      refine wpr_val 14 19 (.pick (.tmp 11) (.const (Value.bool (true))) (.tmp 18)) 4 (Value.bool ((!(a.snapshot == b.snapshot)))) (Runs.plain (by kernel_rfl)) (by kernel_rfl) (y_pickF (by kernel_rfl) (by kernel_rfl)) ?_
      refine wpq_re 19 (v := Value.bool ((!(a.snapshot == b.snapshot)))) (Value.bool (((a.base != b.base) || (!(a.snapshot == b.snapshot))))) (by kernel_rfl) (re_or0 q3) ?_
      exact wpq_sub _ (by kernel_rfl) hk5
  · refine wpr_val 15 20 (.move (.tmp 19)) 4 (Value.bool (((a.base != b.base) || (!(a.snapshot == b.snapshot))))) (Runs.plain (by kernel_rfl)) (by kernel_rfl) (y_move (by kernel_rfl)) ?_
    refine wpr_grp 23 [(2, Value.pointer (some ⟨b1, 0, none⟩)), (3, Value.pointer (some ⟨b2, 0, none⟩)), (28, Value.bool ((((a.base != b.base) || (!(a.snapshot == b.snapshot))) || ((((a.sets).length : Nat) : Int) != (((b.sets).length : Nat) : Int)))))] (fun hk14 => ?_) ?_
    · refine wpq_split 20 (b := ((a.base != b.base) || (!(a.snapshot == b.snapshot)))) (by kernel_rfl) (fun q4 => ?_) (fun q4 => ?_)
      · refine wpr_skip 16 21 (Skips.mk' (j := 14) (t := 20) (b := false) (by kernel_rfl) (by kernel_rfl) (by kernel_rfl)) (by kernel_rfl) ?_
        refine wpr_skip 17 22 (Skips.mk' (j := 14) (t := 20) (b := false) (by kernel_rfl) (by kernel_rfl) (by kernel_rfl)) (by kernel_rfl) ?_
        refine wpr_skip 18 23 (Skips.mk' (j := 14) (t := 20) (b := false) (by kernel_rfl) (by kernel_rfl) (by kernel_rfl)) (by kernel_rfl) ?_
        refine wpr_skip 19 24 (Skips.mk' (j := 14) (t := 20) (b := false) (by kernel_rfl) (by kernel_rfl) (by kernel_rfl)) (by kernel_rfl) ?_
        refine wpr_skip 20 25 (Skips.mk' (j := 14) (t := 20) (b := false) (by kernel_rfl) (by kernel_rfl) (by kernel_rfl)) (by kernel_rfl) ?_
        refine wpr_skip 21 26 (Skips.mk' (j := 14) (t := 20) (b := false) (by kernel_rfl) (by kernel_rfl) (by kernel_rfl)) (by kernel_rfl) ?_
        refine wpr_skip 22 27 (Skips.mk' (j := 14) (t := 20) (b := false) (by kernel_rfl) (by kernel_rfl) (by kernel_rfl)) (by kernel_rfl) ?_
        refine wpr_val 23 28 (.pick (.tmp 20) (.const (Value.bool (true))) (.tmp 27)) 4 (Value.bool (true)) (Runs.plain (by kernel_rfl)) (by kernel_rfl) (y_pickT (by kernel_rfl) (by kernel_rfl)) ?_
        refine wpq_re 28 (v := Value.bool (true)) (Value.bool ((((a.base != b.base) || (!(a.snapshot == b.snapshot))) || ((((a.sets).length : Nat) : Int) != (((b.sets).length : Nat) : Int))))) (by kernel_rfl) (re_or1 q4) ?_
        exact wpq_sub _ (by kernel_rfl) hk14
      · have q4l := (or_false_ q4).1
        have q4r := (or_false_ q4).2
        have q4lp : a.base = b.base := eq_of_bne_false_ q4l
        have q4rn := not_eq_false_ q4r
        have q4rnp : a.snapshot = b.snapshot := eq_of_beq q4rn
        refine wpr_val 16 21 (.fieldAddr 94 (.tmp 2) 2) 0 (Value.pointer (some ⟨b1, 2, none⟩)) (Runs.guarded (j := 14) (t := 20) (b := false) (by kernel_rfl) (by kernel_rfl) (by kernel_rfl)) (by kernel_rfl) (y_pure (by kernel_rfl) (fun _ => by kernel_rfl)) ?_
        refine wpr_val 17 22 (.load 75 (.tmp 21)) 75 (Value.slice Aa_sets (a.sets).length ca_sets) (Runs.guarded (j := 14) (t := 20) (b := false) (by kernel_rfl) (by kernel_rfl) (by kernel_rfl)) (by kernel_rfl) (q_load1 b1 2 1 (by kernel_rfl) (by kernel_rfl) (by kernel_rfl)) ?_
        refine wpr_val 18 23 (.call { callee := .builtin .len, args := #[(.tmp 22)], argTypes := #[75] }) 3 (Value.int .i64 ((((a.sets).length : Nat) : Int))) (Runs.guarded (j := 14) (t := 20) (b := false) (by kernel_rfl) (by kernel_rfl) (by kernel_rfl)) (by kernel_rfl) (y_pure (by kernel_rfl) (fun _ => by kernel_rfl)) ?_
        refine wpr_val 19 24 (.fieldAddr 94 (.tmp 3) 2) 0 (Value.pointer (some ⟨b2, 2, none⟩)) (Runs.guarded (j := 14) (t := 20) (b := false) (by kernel_rfl) (by kernel_rfl) (by kernel_rfl)) (by kernel_rfl) (y_pure (by kernel_rfl) (fun _ => by kernel_rfl)) ?_
        refine wpr_val 20 25 (.load 75 (.tmp 24)) 75 (Value.slice Ab_sets (b.sets).length cb_sets) (Runs.guarded (j := 14) (t := 20) (b := false) (by kernel_rfl) (by kernel_rfl) (by kernel_rfl)) (by kernel_rfl) (q_load1 b2 2 0 (by kernel_rfl) (by kernel_rfl) (by kernel_rfl)) ?_
        refine wpr_val 21 26 (.call { callee := .builtin .len, args := #[(.tmp 25)], argTypes := #[75] }) 3 (Value.int .i64 ((((b.sets).length : Nat) : Int))) (Runs.guarded (j := 14) (t := 20) (b := false) (by kernel_rfl) (by kernel_rfl) (by kernel_rfl)) (by kernel_rfl) (y_pure (by kernel_rfl) (fun _ => by kernel_rfl)) ?_
        refine wpr_val 22 27 (.binOp .neq 3 (.tmp 23) (.tmp 26) 3) 4 (Value.bool (((((a.sets).length : Nat) : Int) != (((b.sets).length : Nat) : Int)))) (Runs.guarded (j := 14) (t := 20) (b := false) (by kernel_rfl) (by kernel_rfl) (by kernel_rfl)) (by kernel_rfl) (y_pure (by kernel_rfl) (fun _ => by kernel_rfl)) ?_
        refine wpr_val 23 28 (.pick (.tmp 20) (.const (Value.bool (true))) (.tmp 27)) 4 (Value.bool (((((a.sets).length : Nat) : Int) != (((b.sets).length : Nat) : Int)))) (Runs.plain (by kernel_rfl)) (by kernel_rfl) (y_pickF (by kernel_rfl) (by kernel_rfl)) ?_
        refine wpq_re 28 (v := Value.bool (((((a.sets).length : Nat) : Int) != (((b.sets).length : Nat) : Int)))) (Value.bool ((((a.base != b.base) || (!(a.snapshot == b.snapshot))) || ((((a.sets).length : Nat) : Int) != (((b.sets).length : Nat) : Int))))) (by kernel_rfl) (re_or0 q4) ?_
        exact wpq_sub _ (by kernel_rfl) hk14
    · refine wpr_end (by kernel_rfl) ?_
      refine wpq_then ?_
      -- condition 0
      refine wpc_cond (x := F39_9) (y := F39_10) (o := (.tmp 28)) (b := (((a.base != b.base) || (!(a.snapshot == b.snapshot))) || ((((a.sets).length : Nat) : Int) != (((b.sets).length : Nat) : Int)))) (by kernel_rfl) (by kernel_rfl) (fun h0 => ?_) (fun h0 => ?_)
      · subst he; simp at h0
      · have h0l := (or_false_ h0).1
        have h0r := (or_false_ h0).2
        have h0ll := (or_false_ h0l).1
        have h0lr := (or_false_ h0l).2
        have h0llp : a.base = b.base := eq_of_bne_false_ h0ll
        have h0lrn := not_eq_false_ h0lr
        have h0lrnp : a.snapshot = b.snapshot := eq_of_beq h0lrn
        have h0rp : (((a.sets).length : Nat) : Int) = (((b.sets).length : Nat) : Int) := eq_of_bne_false_ h0r
        refine wpc_skip (by kernel_rfl) ?_
        refine wpq_then ?_
        refine wpc_seq (x := F39_11) (y := F39_12) (by kernel_rfl) ?_
        refine wpc_seq (x := F39_13) (y := F39_14) (by kernel_rfl) ?_
        refine wpc_region (ops := R39_13) (id := 3) (by kernel_rfl) ?_
        refine wpr_val 1 29 (.fieldAddr 94 (.tmp 2) 2) 0 (Value.pointer (some ⟨b1, 2, none⟩)) (Runs.plain (by kernel_rfl)) (by kernel_rfl) (y_pure (by kernel_rfl) (fun _ => by kernel_rfl)) ?_
        refine wpr_val 2 30 (.load 75 (.tmp 29)) 75 (Value.slice Aa_sets (a.sets).length ca_sets) (Runs.plain (by kernel_rfl)) (by kernel_rfl) (q_load1 b1 2 1 (by kernel_rfl) (by kernel_rfl) (by kernel_rfl)) ?_
        refine wpr_val 3 31 (.call { callee := .builtin .len, args := #[(.tmp 30)], argTypes := #[75] }) 3 (Value.int .i64 ((((a.sets).length : Nat) : Int))) (Runs.plain (by kernel_rfl)) (by kernel_rfl) (y_pure (by kernel_rfl) (fun _ => by kernel_rfl)) ?_
        refine wpr_val 4 32 (.move (.const (Value.int .i64 (0)))) 3 (Value.int .i64 (0)) (Runs.plain (by kernel_rfl)) (by kernel_rfl) (y_move (by kernel_rfl)) ?_
        refine wpr_end (by kernel_rfl) ?_
        refine wpq_then ?_
        refine wpc_block (x := F39_16) (id := 0) (by kernel_rfl) ?_
        refine wpq_sub [(2, Value.pointer (some ⟨b1, 0, none⟩)), (3, Value.pointer (some ⟨b2, 0, none⟩)), (31, Value.int .i64 ((((a.sets).length : Nat) : Int))), (32, Value.int .i64 (0))] (by kernel_rfl) ?_
        -- loop 0
        refine wpc_loop (x := F39_17) (by kernel_rfl) (fun g own sl m => ∃ (k : Nat), own = [some ⟨b2, 94, [Value.int .i64 (b.base), Value.slice Ab_snapshot (b.snapshot).length cb_snapshot, Value.slice Ab_sets (b.sets).length cb_sets]⟩, some ⟨b1, 94, [Value.int .i64 (a.base), Value.slice Aa_snapshot (a.snapshot).length ca_snapshot, Value.slice Aa_sets (a.sets).length ca_sets]⟩] ∧ sl = [(2, Value.pointer (some ⟨b1, 0, none⟩)), (3, Value.pointer (some ⟨b2, 0, none⟩)), (31, Value.int .i64 ((((a.sets).length : Nat) : Int))), (32, Value.int .i64 ((k : Int)))] ∧ m = a.sets.length - k ∧ (k ≤ a.sets.length)) _ ⟨0, rfl, rfl, rfl, by omega⟩ ?_
        rintro g5 _ _ _ le6 ⟨k, rfl, rfl, rfl, hk⟩ QrL0 hQL0
        have fa_snapshot := fa_snapshot.mono le6.r
        have fa_sets := fa_sets.mono le6.r
        have fb_snapshot := fb_snapshot.mono le6.r
        have fb_sets := fb_sets.mono le6.r
        have L0 := L0.trans le6
        have LHL0 := Gh.le.refl g5
        refine wpc_seq (x := F39_18) (y := F39_19) (by kernel_rfl) ?_
        refine wpc_region (ops := R39_18) (id := 4) (by kernel_rfl) ?_
        refine wpr_val 1 33 (.binOp .lss 3 (.tmp 32) (.tmp 31) 3) 0 (Value.bool (decide ((k : Int) < (((a.sets).length : Nat) : Int)))) (Runs.plain (by kernel_rfl)) (by kernel_rfl) (y_pure (by kernel_rfl) (fun _ => by kernel_rfl)) ?_
        refine wpr_end (by kernel_rfl) ?_
        refine wpq_then ?_
        refine wpc_seq (x := F39_21) (y := F39_22) (by kernel_rfl) ?_
        -- condition 1
        refine wpc_cond (x := F39_23) (y := F39_24) (o := (.tmp 33)) (b := decide ((k : Int) < (((a.sets).length : Nat) : Int))) (by kernel_rfl) (by kernel_rfl) (fun h1 => ?_) (fun h1 => ?_)
        · have h1p := of_decide_eq_true h1
          refine wpc_skip (by kernel_rfl) ?_
          refine wpq_then ?_
          refine wpc_seq (x := F39_25) (y := F39_26) (by kernel_rfl) ?_
          refine wpc_block (x := F39_27) (id := 1) (by kernel_rfl) ?_
          refine wpc_seq (x := F39_28) (y := F39_29) (by kernel_rfl) ?_
          refine wpc_region (ops := R39_28) (id := 5) (by kernel_rfl) ?_
          refine wpr_val 1 34 (.move (.tmp 32)) 3 (Value.int .i64 ((k : Int))) (Runs.plain (by kernel_rfl)) (by kernel_rfl) (y_move (by kernel_rfl)) ?_
          refine wpr_val 2 5 (.assign (.tmp 34)) 3 (Value.int .i64 ((k : Int))) (Runs.plain (by kernel_rfl)) (by kernel_rfl) (y_assign (by kernel_rfl)) ?_
          refine wpr_end (by kernel_rfl) ?_
          refine wpq_then ?_
          refine wpc_seq (x := F39_31) (y := F39_32) (by kernel_rfl) ?_
          refine wpa_start (ops := R39_31) (id := 6) (by kernel_rfl) (by kernel_rfl) [1, 4, 6, 9] [] [some ⟨b2, 94, [Value.int .i64 (b.base), Value.slice Ab_snapshot (b.snapshot).length cb_snapshot, Value.slice Ab_sets (b.sets).length cb_sets]⟩, some ⟨b1, 94, [Value.int .i64 (a.base), Value.slice Aa_snapshot (a.snapshot).length ca_snapshot, Value.slice Aa_sets (a.sets).length ca_sets]⟩] (by kernel_rfl) (by kernel_rfl) (fun _ _ _ _ _ h => h) 12 (by kernel_rfl) (fun RG => ?_)
          have lp := Psi.le.refl g5.r
          refine wpa_take0 0 [true, false, false, false, false, false, false, false, false, false, false, false] 35 (.fieldAddr 94 (.tmp 2) 2) 0 (Value.pointer (some ⟨b1, 2, none⟩)) RG (Runs.plain (by kernel_rfl)) (by kernel_rfl) (by kernel_rfl) (fun _ => (y_pure (by kernel_rfl) (fun _ => by kernel_rfl))) ?_
          refine wpa_take 1 [true, true, false, false, false, false, false, false, false, false, false, false] 36 (.load 75 (.tmp 35)) 75 (Value.slice Aa_sets (a.sets).length ca_sets) RG (Runs.plain (by kernel_rfl)) (by kernel_rfl) (by kernel_rfl) lp (keepK_P [some 0, some 1] (by kernel_rfl)) (q_load1 b1 2 1 (by kernel_rfl) (by kernel_rfl) (by kernel_rfl)) ?_
          refine wpa_take0 2 [true, true, true, false, false, false, false, false, false, false, false, false] 37 (.move (.tmp 5)) 3 (Value.int .i64 ((k : Int))) RG (Runs.plain (by kernel_rfl)) (by kernel_rfl) (by kernel_rfl) (fun _ => (y_move (by kernel_rfl))) ?_
          have hi7 : k < (a.sets).length := by omega
          obtain ⟨ad7, cs7, hA7, hr7, hc7⟩ := fa_sets.at_ (get_getD (d := default) hi7)
          obtain ⟨A7_in_, c7_in_, rfl, f7_in_⟩ := hr7
          have nf7_in_ := f7_in_.len
          refine wpa_take0 3 [true, true, true, true, false, false, false, false, false, false, false, false] 38 (.indexAddr 75 (.tmp 36) (.tmp 37)) 0 (Value.pointer (some (Addr.add ad7 (k * 4)))) RG (Runs.plain (by kernel_rfl)) (by kernel_rfl) (by kernel_rfl) (fun _ => (q_index (e := 86) (sz := 4) (len := (a.sets).length) (c := ca_sets) k (A := ad7) (k := .i64) (z := (k : Int)) hA7 (by kernel_rfl) (by kernel_rfl) rfl hi7 (by kernel_rfl) (by kernel_rfl))) ?_
          refine wpa_take 4 [true, true, true, true, true, false, false, false, false, false, false, false] 39 (.load 86 (.tmp 38)) 86 (Value.agg #[Value.int .i64 ((List.getD a.sets k default).steps), Value.int .i64 ((List.getD a.sets k default).cycle), Value.bool ((List.getD a.sets k default).fresh), Value.slice A7_in_ ((List.getD a.sets k default).in_).length c7_in_]) RG (Runs.plain (by kernel_rfl)) (by kernel_rfl) (by kernel_rfl) lp (keepK_P [some 0, some 1] (by kernel_rfl)) (q_loadPA (Addr.add ad7 (k * 4)) 0 [Value.int .i64 ((List.getD a.sets k default).steps), Value.int .i64 ((List.getD a.sets k default).cycle), Value.bool ((List.getD a.sets k default).fresh), Value.slice A7_in_ ((List.getD a.sets k default).in_).length c7_in_] (by kernel_rfl) hc7 (by kernel_rfl) (by kernel_rfl)) ?_
          refine wpa_take0 5 [true, true, true, true, true, true, false, false, false, false, false, false] 40 (.fieldAddr 94 (.tmp 3) 2) 0 (Value.pointer (some ⟨b2, 2, none⟩)) RG (Runs.plain (by kernel_rfl)) (by kernel_rfl) (by kernel_rfl) (fun _ => (y_pure (by kernel_rfl) (fun _ => by kernel_rfl))) ?_
          refine wpa_take 6 [true, true, true, true, true, true, true, false, false, false, false, false] 41 (.load 75 (.tmp 40)) 75 (Value.slice Ab_sets (b.sets).length cb_sets) RG (Runs.plain (by kernel_rfl)) (by kernel_rfl) (by kernel_rfl) lp (keepK_P [some 0, some 1] (by kernel_rfl)) (q_load1 b2 2 0 (by kernel_rfl) (by kernel_rfl) (by kernel_rfl)) ?_
          refine wpa_take0 7 [true, true, true, true, true, true, true, true, false, false, false, false] 42 (.move (.tmp 5)) 3 (Value.int .i64 ((k : Int))) RG (Runs.plain (by kernel_rfl)) (by kernel_rfl) (by kernel_rfl) (fun _ => (y_move (by kernel_rfl))) ?_
          have hi8 : k < (b.sets).length := by have hq : a.sets.length = b.sets.length := (congrArg (fun j : Job => j.sets.length) he); omega
          obtain ⟨ad8, cs8, hA8, hr8, hc8⟩ := fb_sets.at_ (get_getD (d := default) hi8)
          obtain ⟨A8_in_, c8_in_, rfl, f8_in_⟩ := hr8
          have nf8_in_ := f8_in_.len
          refine wpa_take0 8 [true, true, true, true, true, true, true, true, true, false, false, false] 43 (.indexAddr 75 (.tmp 41) (.tmp 42)) 0 (Value.pointer (some (Addr.add ad8 (k * 4)))) RG (Runs.plain (by kernel_rfl)) (by kernel_rfl) (by kernel_rfl) (fun _ => (q_index (e := 86) (sz := 4) (len := (b.sets).length) (c := cb_sets) k (A := ad8) (k := .i64) (z := (k : Int)) hA8 (by kernel_rfl) (by kernel_rfl) rfl hi8 (by kernel_rfl) (by kernel_rfl))) ?_
          refine wpa_take 9 [true, true, true, true, true, true, true, true, true, true, false, false] 44 (.load 86 (.tmp 43)) 86 (Value.agg #[Value.int .i64 ((List.getD b.sets k default).steps), Value.int .i64 ((List.getD b.sets k default).cycle), Value.bool ((List.getD b.sets k default).fresh), Value.slice A8_in_ ((List.getD b.sets k default).in_).length c8_in_]) RG (Runs.plain (by kernel_rfl)) (by kernel_rfl) (by kernel_rfl) lp (keepK_P [some 0, some 1] (by kernel_rfl)) (q_loadPA (Addr.add ad8 (k * 4)) 0 [Value.int .i64 ((List.getD b.sets k default).steps), Value.int .i64 ((List.getD b.sets k default).cycle), Value.bool ((List.getD b.sets k default).fresh), Value.slice A8_in_ ((List.getD b.sets k default).in_).length c8_in_] (by kernel_rfl) hc8 (by kernel_rfl) (by kernel_rfl)) ?_
          refine wpa_one 10 (by kernel_rfl) ?_
          refine wpi_eff [true, true, true, true, true, true, true, true, true, true, true, false] 45 (.call { callee := .value (.func 51), args := #[(.tmp 39), (.tmp 44)], argTypes := #[86, 86] }) 4 (Runs.plain (by kernel_rfl)) (by kernel_rfl) lp (e_call [Value.agg #[Value.int .i64 ((List.getD a.sets k default).steps), Value.int .i64 ((List.getD a.sets k default).cycle), Value.bool ((List.getD a.sets k default).fresh), Value.slice A7_in_ ((List.getD a.sets k default).in_).length c7_in_], Value.agg #[Value.int .i64 ((List.getD b.sets k default).steps), Value.int .i64 ((List.getD b.sets k default).cycle), Value.bool ((List.getD b.sets k default).fresh), Value.slice A8_in_ ((List.getD b.sets k default).in_).length c8_in_]] (by kernel_rfl) (by kernel_rfl) (fun g' lr eb ln => c51 g' (List.getD a.sets k default) A7_in_ c7_in_ (List.getD b.sets k default) A8_in_ c8_in_ (f7_in_.mono lr) (f8_in_.mono lr))) (by kernel_rfl) ?_
          rintro _ g10 _ le11 ⟨rfl, rfl⟩
          refine ⟨.inr (keepK_P [some 0, some 1] (by kernel_rfl)), ?_⟩
          have fa_snapshot := fa_snapshot.mono le11.r
          have fa_sets := fa_sets.mono le11.r
          have fb_snapshot := fb_snapshot.mono le11.r
          have fb_sets := fb_sets.mono le11.r
          have hc7 := hc7.mono le11.r
          have f7_in_ := f7_in_.mono le11.r
          have hc8 := hc8.mono le11.r
          have f8_in_ := f8_in_.mono le11.r
          have L0 := L0.trans le11
          have LHL0 := LHL0.trans le11
          have lp := lp.trans le11.r
          refine wpa_take0 11 [true, true, true, true, true, true, true, true, true, true, true, true] 46 (.unOp .not 4 (.tmp 45)) 4 (Value.bool ((!(sameSetS (List.getD a.sets k default) (List.getD b.sets k default))))) RG (Runs.plain (by kernel_rfl)) (by kernel_rfl) (by kernel_rfl) (fun _ => (y_pure (by kernel_rfl) (fun _ => by kernel_rfl))) ?_
          refine wpa_done (by kernel_rfl) ?_
          refine wpq_then ?_
          refine wpq_sub [(2, Value.pointer (some ⟨b1, 0, none⟩)), (3, Value.pointer (some ⟨b2, 0, none⟩)), (31, Value.int .i64 ((((a.sets).length : Nat) : Int))), (32, Value.int .i64 ((k : Int))), (46, Value.bool ((!(sameSetS (List.getD a.sets k default) (List.getD b.sets k default)))))] (by kernel_rfl) ?_
          -- condition 2
          refine wpc_cond (x := F39_34) (y := F39_35) (o := (.tmp 46)) (b := (!(sameSetS (List.getD a.sets k default) (List.getD b.sets k default)))) (by kernel_rfl) (by kernel_rfl) (fun h2 => ?_) (fun h2 => ?_)
          · have h2n := not_eq_true_ h2
            rw [he, sameSetS_refl] at h2; cases h2
          · have h2n := not_eq_false_ h2
            refine wpc_skip (by kernel_rfl) ?_
            refine wpq_blockN ?_
            refine wpq_then ?_
            refine wpc_region (ops := R39_26) (id := 8) (by kernel_rfl) ?_
            refine wpr_val 1 47 (.binOp .add 3 (.tmp 32) (.const (Value.int .i64 (1))) 3) 3 (Value.int .i64 (((k : Int) + 1))) (Runs.plain (by kernel_rfl)) (by kernel_rfl) (y_add (by kernel_rfl) (by kernel_rfl) (wr64 (by omega))) ?_
            refine wpr_val 2 32 (.move (.tmp 47)) 3 (Value.int .i64 (((k : Int) + 1))) (Runs.plain (by kernel_rfl)) (by kernel_rfl) (y_move (by kernel_rfl)) ?_
            refine wpr_end (by kernel_rfl) ?_
            refine wpq_thenN ?_
            refine wpq_re 32 (v := Value.int .i64 (((k : Int) + 1))) (Value.int .i64 ((((k + 1) : Nat) : Int))) (by kernel_rfl) (congrArg (Value.int .i64) (by omega)) ?_
            refine wpq_sub [(2, Value.pointer (some ⟨b1, 0, none⟩)), (3, Value.pointer (some ⟨b2, 0, none⟩)), (31, Value.int .i64 ((((a.sets).length : Nat) : Int))), (32, Value.int .i64 ((((k + 1) : Nat) : Int)))] (by kernel_rfl) ?_
            exact hQL0 _ _ _ (a.sets.length - ((k + 1))) LHL0 (by omega) ⟨(k + 1), rfl, rfl, rfl, by omega⟩
        · have h1p := of_decide_eq_false h1
          refine wpc_exit (id := 0) (by kernel_rfl) ?_
          refine wpq_thenX ?_
          refine wpq_thenX ?_
          refine wpq_blockE ?_
          refine wpq_then ?_
          refine wpq_sub [] (by kernel_rfl) ?_
          refine wpc_seq (x := F39_37) (y := F39_38) (by kernel_rfl) ?_
          refine wpc_region (ops := R39_37) (id := 9) (by kernel_rfl) ?_
          refine wpr_val 1 4 (.assign (.const (Value.bool (true)))) 4 (Value.bool (true)) (Runs.plain (by kernel_rfl)) (by kernel_rfl) (y_assign (by kernel_rfl)) ?_
          refine wpr_end (by kernel_rfl) ?_
          refine wpq_then ?_
          refine wpc_ret (rs := [.tmp 4]) [Value.bool (true)] [] (by kernel_rfl) (fun _ _ h => h) (by kernel_rfl) (res_tmp (by kernel_rfl) res_nil) L0 keep0 ?_
          exact ⟨rfl, rfl⟩

end Go.Proofs.Ytolppdcaaoghgaa
