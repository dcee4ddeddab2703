/-
Walks, printed by wip/eng/eng.py. Conditions: each theorem's own.
-/
import Derived.Test.YtolppdcaaoghgaaC1
import Derived.Test.YtolppdcaaoghgaaR54
namespace Go.Proofs.Ytolppdcaaoghgaa
set_option linter.unusedVariables false
set_option linter.unusedSimpArgs false
open Go.RowKit
noncomputable def F47_0 : Code := sub (Try.f47.body.getD .skip) []
noncomputable def F47_1 : Code := sub (Try.f47.body.getD .skip) [0]
noncomputable def F47_2 : Code := sub (Try.f47.body.getD .skip) [1]
noncomputable def R47_1 : Array Oper := regOf F47_1
noncomputable def F47_4 : Code := sub (Try.f47.body.getD .skip) [1, 0]
noncomputable def F47_5 : Code := sub (Try.f47.body.getD .skip) [1, 1]
noncomputable def R47_4 : Array Oper := regOf F47_4
noncomputable def F47_7 : Code := sub (Try.f47.body.getD .skip) [1, 1, 0]
noncomputable def F47_8 : Code := sub (Try.f47.body.getD .skip) [1, 1, 1]
noncomputable def F47_9 : Code := sub (Try.f47.body.getD .skip) [1, 1, 0, 0]
noncomputable def F47_10 : Code := sub (Try.f47.body.getD .skip) [1, 1, 0, 1]
noncomputable def R47_9 : Array Oper := regOf F47_9
noncomputable def F47_12 : Code := sub (Try.f47.body.getD .skip) [1, 1, 0, 1, 0]
noncomputable def F47_13 : Code := sub (Try.f47.body.getD .skip) [1, 1, 0, 1, 0, 0]
noncomputable def F47_14 : Code := sub (Try.f47.body.getD .skip) [1, 1, 0, 1, 0, 0, 0]
noncomputable def F47_15 : Code := sub (Try.f47.body.getD .skip) [1, 1, 0, 1, 0, 0, 1]
noncomputable def F47_16 : Code := sub (Try.f47.body.getD .skip) [1, 1, 0, 1, 0, 0, 0, 0]
noncomputable def F47_17 : Code := sub (Try.f47.body.getD .skip) [1, 1, 0, 1, 0, 0, 0, 1]
noncomputable def R47_16 : Array Oper := regOf F47_16
noncomputable def F47_19 : Code := sub (Try.f47.body.getD .skip) [1, 1, 0, 1, 0, 0, 0, 1, 0]
noncomputable def F47_20 : Code := sub (Try.f47.body.getD .skip) [1, 1, 0, 1, 0, 0, 0, 1, 1]
noncomputable def F47_21 : Code := sub (Try.f47.body.getD .skip) [1, 1, 0, 1, 0, 0, 1, 0]
noncomputable def F47_22 : Code := sub (Try.f47.body.getD .skip) [1, 1, 0, 1, 0, 0, 1, 1]
noncomputable def F47_23 : Code := sub (Try.f47.body.getD .skip) [1, 1, 0, 1, 0, 0, 1, 0, 0]
noncomputable def R47_23 : Array Oper := regOf F47_23
noncomputable def R47_22 : Array Oper := regOf F47_22
noncomputable def F47_26 : Code := sub (Try.f47.body.getD .skip) [1, 1, 1, 0]
noncomputable def F47_27 : Code := sub (Try.f47.body.getD .skip) [1, 1, 1, 1]
noncomputable def R47_26 : Array Oper := regOf F47_26
set_option maxRecDepth 100000 in
theorem c47 (g : Gh) (x : Int) (n : Int) (hn : 0 ≤ n ∧ n ≤ 100) :
    Ctr Try.prog 47 [Value.int .i64 (x), Value.int .i64 (n)] g [] (fun v ψ o => ∃ (Ar : Option Addr) (cr : Nat) (kr : Option Bk), v = Value.slice Ar ((lowS x n)).length cr ∧ o = [kr] ∧ Buf ψ tyU8 5 (.slice Ar ((lowS x n)).length cr) kr (lowS x n)) := by
  refine ctr_of Try.f47 F47_0 22 [Value.int .i64 (x), Value.int .i64 (n)] (by kernel_rfl) (by kernel_rfl) (by kernel_rfl) (by kernel_rfl) ?_
  have L0 := Gh.le.refl g
  refine wpc_seq (x := F47_1) (y := F47_2) (by kernel_rfl) ?_
  refine wpc_region (ops := R47_1) (id := 0) (by kernel_rfl) ?_
  refine wpr_val 1 4 (.assign (.const (Value.slice none 0 0))) 22 (Value.slice none 0 0) (Runs.plain (by kernel_rfl)) (by kernel_rfl) (y_assign (by kernel_rfl)) ?_
  refine wpr_end (by kernel_rfl) ?_
  refine wpq_then ?_
  refine wpc_seq (x := F47_4) (y := F47_5) (by kernel_rfl) ?_
  refine wpc_region (ops := R47_4) (id := 1) (by kernel_rfl) ?_
  refine wpr_val 1 5 (.assign (.const (Value.slice none 0 0))) 22 (Value.slice none 0 0) (Runs.plain (by kernel_rfl)) (by kernel_rfl) (y_assign (by kernel_rfl)) ?_
  refine wpr_end (by kernel_rfl) ?_
  refine wpq_then ?_
  refine wpc_seq (x := F47_7) (y := F47_8) (by kernel_rfl) ?_
  refine wpc_seq (x := F47_9) (y := F47_10) (by kernel_rfl) ?_
  refine wpc_region (ops := R47_9) (id := 2) (by kernel_rfl) ?_
  refine wpr_val 1 6 (.assign (.const (Value.int .i64 (0)))) 3 (Value.int .i64 (0)) (Runs.plain (by kernel_rfl)) (by kernel_rfl) (y_assign (by kernel_rfl)) ?_
  refine wpr_end (by kernel_rfl) ?_
  refine wpq_then ?_
  refine wpc_block (x := F47_12) (id := 0) (by kernel_rfl) ?_
  refine wpq_addnone ?_
  refine wpq_sub [(0, Value.int .i64 (x)), (1, Value.int .i64 (n)), (5, Value.slice none 0 0), (6, Value.int .i64 (0))] (by kernel_rfl) ?_
  -- loop 0
  refine wpc_loop (x := F47_13) (by kernel_rfl) (fun g own sl m => ∃ (k : Nat) (out : List UInt8) (Aout : Option Addr) (cout : Nat) (kout : Option Bk), own = [kout] ∧ sl = [(0, Value.int .i64 (x)), (1, Value.int .i64 (n)), (5, Value.slice Aout (out).length cout), (6, Value.int .i64 ((k : Int)))] ∧ m = n.toNat - k ∧ Buf g.b tyU8 5 (.slice Aout out.length cout) kout out ∧ ((k : Int) ≤ n) ∧ (out.length = k) ∧ (out = lowK x k)) _ ⟨0, [], none, 0, none, rfl, rfl, rfl, Buf.nil, by omega, rfl, rfl⟩ ?_
  rintro g1 _ _ _ le2 ⟨k, out, Aout, cout, kout, rfl, rfl, rfl, hout, hk, hl, ho⟩ QrL0 hQL0
  have L0 := L0.trans le2
  have nhout := hout.len
  have LHL0 := Gh.le.refl g1
  refine wpc_seq (x := F47_14) (y := F47_15) (by kernel_rfl) ?_
  refine wpc_seq (x := F47_16) (y := F47_17) (by kernel_rfl) ?_
  refine wpc_region (ops := R47_16) (id := 3) (by kernel_rfl) ?_
  refine wpr_val 1 7 (.move (.tmp 6)) 3 (Value.int .i64 ((k : Int))) (Runs.plain (by kernel_rfl)) (by kernel_rfl) (y_move (by kernel_rfl)) ?_
  refine wpr_val 2 8 (.move (.tmp 1)) 3 (Value.int .i64 (n)) (Runs.plain (by kernel_rfl)) (by kernel_rfl) (y_move (by kernel_rfl)) ?_
  refine wpr_val 3 9 (.binOp .lss 3 (.tmp 7) (.tmp 8) 3) 4 (Value.bool (decide ((k : Int) < n))) (Runs.plain (by kernel_rfl)) (by kernel_rfl) (y_pure (by kernel_rfl) (fun _ => by kernel_rfl)) ?_
  refine wpr_end (by kernel_rfl) ?_
  refine wpq_then ?_
  -- condition 0
  refine wpc_cond (x := F47_19) (y := F47_20) (o := (.tmp 9)) (b := decide ((k : Int) < n)) (by kernel_rfl) (by kernel_rfl) (fun h0 => ?_) (fun h0 => ?_)
  · have h0p := of_decide_eq_true h0
    refine wpc_skip (by kernel_rfl) ?_
    refine wpq_then ?_
    refine wpc_seq (x := F47_21) (y := F47_22) (by kernel_rfl) ?_
    refine wpc_block (x := F47_23) (id := 1) (by kernel_rfl) ?_
    refine wpc_region (ops := R47_23) (id := 5) (by kernel_rfl) ?_
    refine wpr_val 1 12 (.move (.tmp 5)) 22 (Value.slice Aout (out).length cout) (Runs.plain (by kernel_rfl)) (by kernel_rfl) (y_move (by kernel_rfl)) ?_
    refine wpr_val 2 13 (.move (.tmp 0)) 2 (Value.int .i64 (x)) (Runs.plain (by kernel_rfl)) (by kernel_rfl) (y_move (by kernel_rfl)) ?_
    refine wpr_val 3 14 (.convert 2 111 (.tmp 13)) 111 (Value.int .u64 ((IntKind.u64.wrap x))) (Runs.plain (by kernel_rfl)) (by kernel_rfl) (y_pure (by kernel_rfl) (fun _ => by kernel_rfl)) ?_
    refine wpr_val 4 15 (.move (.tmp 6)) 3 (Value.int .i64 ((k : Int))) (Runs.plain (by kernel_rfl)) (by kernel_rfl) (y_move (by kernel_rfl)) ?_
    refine wpr_val 5 16 (.binOp .mul 3 (.const (Value.int .i64 (8))) (.tmp 15) 3) 3 (Value.int .i64 ((8 * (k : Int)))) (Runs.plain (by kernel_rfl)) (by kernel_rfl) (y_mul (by kernel_rfl) (by kernel_rfl) (wr64 (by omega))) ?_
    refine wpr_val 6 17 (.binOp .shr 111 (.tmp 14) (.tmp 16) 3) 111 (Value.int .u64 ((shrK .u64 (IntKind.u64.wrap x) (8 * (k : Int))))) (Runs.plain (by kernel_rfl)) (by kernel_rfl) (y_shr (a := (IntKind.u64.wrap x)) (b := (8 * (k : Int))) (k2 := .i64) (by kernel_rfl) (by kernel_rfl) (by omega) rfl) ?_
    refine wpr_val 7 18 (.convert 111 5 (.tmp 17)) 5 (Value.int .u8 ((IntKind.u8.wrap (shrK .u64 (IntKind.u64.wrap x) (8 * (k : Int)))))) (Runs.plain (by kernel_rfl)) (by kernel_rfl) (y_pure (by kernel_rfl) (fun _ => by kernel_rfl)) ?_
    refine wpr_eff 8 19 (.buildSlice 22 1 #[(0, (.tmp 18))]) 22 (Runs.plain (by kernel_rfl)) (by kernel_rfl) (e_buildSlice (et := 5) [(0, Value.int .u8 ((IntKind.u8.wrap (shrK .u64 (IntKind.u64.wrap x) (8 * (k : Int))))))] [Value.int .u8 ((IntKind.u8.wrap (shrK .u64 (IntKind.u64.wrap x) (8 * (k : Int)))))] (by kernel_rfl) (by kernel_rfl)) ?_
    rintro _ _ _ - ⟨b3, rfl, rfl, rfl⟩
    have hz4 : (out ++ [(u8 (IntKind.u8.wrap (shrK .u64 (IntKind.u64.wrap x) (8 * (k : Int)))))] : List UInt8).length = (out : List UInt8).length + 1 := by rw [List.length_append]; rfl
    refine wpr_eff 9 20 (.call { callee := .builtin .append, args := #[(.tmp 12), (.tmp 19)], argTypes := #[22, 22] }) 22 (Runs.plain (by kernel_rfl)) (by kernel_rfl) (e_appendQ (T := tyU8) (p := g1.b) (et := 5) (bytes := 1) 1 (Value.slice Aout (out).length cout) (kout) (out) (some ⟨b3, 0, none⟩) 1 1 ([(u8 (IntKind.u8.wrap (shrK .u64 (IntKind.u64.wrap x) (8 * (k : Int)))))]) (by kernel_rfl) (by kernel_rfl) (by kernel_rfl) (by kernel_rfl) hout rfl (src_lit (i := 0) (t := 5) (cs := [Value.int .u8 ((IntKind.u8.wrap (shrK .u64 (IntKind.u64.wrap x) (8 * (k : Int)))))]) (by kernel_rfl)) (reps_cons (c := [Value.int .u8 ((IntKind.u8.wrap (shrK .u64 (IntKind.u64.wrap x) (8 * (k : Int)))))]) (u8_rep (wrapU8_rng _)) reps_nil) (by first | omega | (simp only [List.length_nil, List.length_cons, List.length_append] <;> omega)) (by first | omega | (simp only [List.length_nil, List.length_cons, List.length_append] <;> omega))) ?_
    rintro _ _ _ - ⟨A4, c4, k4, rfl, rfl, rfl, hb4⟩
    have nhb4 := hb4.len
    refine wpr_val 10 5 (.assign (.tmp 20)) 22 (Value.slice A4 ((out ++ [(u8 (IntKind.u8.wrap (shrK .u64 (IntKind.u64.wrap x) (8 * (k : Int)))))]) : List UInt8).length c4) (Runs.plain (by kernel_rfl)) (by kernel_rfl) (y_assign (by kernel_rfl)) ?_
    refine wpr_end (by kernel_rfl) ?_
    refine wpq_blockN ?_
    refine wpq_then ?_
    refine wpq_sub [(0, Value.int .i64 (x)), (1, Value.int .i64 (n)), (5, Value.slice A4 ((out ++ [(u8 (IntKind.u8.wrap (shrK .u64 (IntKind.u64.wrap x) (8 * (k : Int)))))]) : List UInt8).length c4), (6, Value.int .i64 ((k : Int)))] (by kernel_rfl) ?_
    refine wpc_region (ops := R47_22) (id := 4) (by kernel_rfl) ?_
    refine wpr_val 1 10 (.move (.tmp 6)) 3 (Value.int .i64 ((k : Int))) (Runs.plain (by kernel_rfl)) (by kernel_rfl) (y_move (by kernel_rfl)) ?_
    refine wpr_val 2 11 (.binOp .add 3 (.tmp 10) (.const (Value.int .i64 (1))) 3) 3 (Value.int .i64 (((k : Int) + 1))) (Runs.plain (by kernel_rfl)) (by kernel_rfl) (y_add (by kernel_rfl) (by kernel_rfl) (wr64 (by omega))) ?_
    refine wpr_val 3 6 (.assign (.tmp 11)) 3 (Value.int .i64 (((k : Int) + 1))) (Runs.plain (by kernel_rfl)) (by kernel_rfl) (y_assign (by kernel_rfl)) ?_
    refine wpr_end (by kernel_rfl) ?_
    refine wpq_thenN ?_
    refine wpq_sel [some 1] [k4] (by kernel_rfl) (by kernel_rfl) ?_
    refine wpq_re 6 (v := Value.int .i64 (((k : Int) + 1))) (Value.int .i64 ((((k + 1) : Nat) : Int))) (by kernel_rfl) (congrArg (Value.int .i64) (by omega)) ?_
    refine wpq_sub [(0, Value.int .i64 (x)), (1, Value.int .i64 (n)), (5, Value.slice A4 ((out ++ [(u8 (IntKind.u8.wrap (shrK .u64 (IntKind.u64.wrap x) (8 * (k : Int)))))]) : List UInt8).length c4), (6, Value.int .i64 ((((k + 1) : Nat) : Int)))] (by kernel_rfl) ?_
    exact hQL0 _ _ _ (n.toNat - ((k + 1))) LHL0 (by omega) ⟨(k + 1), (out ++ [(u8 (IntKind.u8.wrap (shrK .u64 (IntKind.u64.wrap x) (8 * (k : Int)))))]), A4, c4, k4, rfl, rfl, rfl, hb4, by omega, by omega, (by rw [lowK_succ, ho])⟩
  · have h0p := of_decide_eq_false h0
    refine wpc_exit (id := 0) (by kernel_rfl) ?_
    refine wpq_thenX ?_
    refine wpq_thenX ?_
    refine wpq_blockE ?_
    refine wpq_then ?_
    refine wpq_sub [(5, Value.slice Aout (out).length cout)] (by kernel_rfl) ?_
    refine wpc_seq (x := F47_26) (y := F47_27) (by kernel_rfl) ?_
    refine wpc_region (ops := R47_26) (id := 6) (by kernel_rfl) ?_
    refine wpr_val 1 21 (.move (.tmp 5)) 22 (Value.slice Aout (out).length cout) (Runs.plain (by kernel_rfl)) (by kernel_rfl) (y_move (by kernel_rfl)) ?_
    refine wpr_val 2 4 (.assign (.tmp 21)) 22 (Value.slice Aout (out).length cout) (Runs.plain (by kernel_rfl)) (by kernel_rfl) (y_assign (by kernel_rfl)) ?_
    refine wpr_end (by kernel_rfl) ?_
    refine wpq_then ?_
    refine wpc_ret (rs := [.tmp 4]) [Value.slice Aout (out).length cout] [kout] (by kernel_rfl) (fun _ _ h => h) (by kernel_rfl) (res_tmp (by kernel_rfl) res_nil) L0 (keepP [some 0] (by kernel_rfl) (by kernel_rfl)) ?_
    have eS : (lowS x n) = (out : List UInt8) := by
      unfold lowS; rw [ho]; congr 1; omega
    rw [eS]
    exact ⟨Aout, cout, kout, rfl, rfl, hout⟩

noncomputable def F25_0 : Code := sub (Try.f25.body.getD .skip) []
noncomputable def F25_1 : Code := sub (Try.f25.body.getD .skip) [0]
noncomputable def F25_2 : Code := sub (Try.f25.body.getD .skip) [1]
noncomputable def R25_1 : Array Oper := regOf F25_1
noncomputable def F25_4 : Code := sub (Try.f25.body.getD .skip) [1, 0]
noncomputable def F25_5 : Code := sub (Try.f25.body.getD .skip) [1, 1]
noncomputable def F25_6 : Code := sub (Try.f25.body.getD .skip) [1, 0, 0]
noncomputable def F25_7 : Code := sub (Try.f25.body.getD .skip) [1, 0, 1]
noncomputable def R25_6 : Array Oper := regOf F25_6
noncomputable def F25_9 : Code := sub (Try.f25.body.getD .skip) [1, 0, 1, 0]
noncomputable def F25_10 : Code := sub (Try.f25.body.getD .skip) [1, 0, 1, 1]
noncomputable def F25_11 : Code := sub (Try.f25.body.getD .skip) [1, 0, 1, 0, 0]
noncomputable def F25_12 : Code := sub (Try.f25.body.getD .skip) [1, 0, 1, 0, 1]
noncomputable def R25_11 : Array Oper := regOf F25_11
noncomputable def F25_14 : Code := sub (Try.f25.body.getD .skip) [1, 1, 0]
noncomputable def F25_15 : Code := sub (Try.f25.body.getD .skip) [1, 1, 1]
noncomputable def R25_14 : Array Oper := regOf F25_14
noncomputable def F25_17 : Code := sub (Try.f25.body.getD .skip) [1, 1, 1, 0]
noncomputable def F25_18 : Code := sub (Try.f25.body.getD .skip) [1, 1, 1, 1]
noncomputable def R25_17 : Array Oper := regOf F25_17
noncomputable def F25_20 : Code := sub (Try.f25.body.getD .skip) [1, 1, 1, 1, 0]
noncomputable def F25_21 : Code := sub (Try.f25.body.getD .skip) [1, 1, 1, 1, 1]
noncomputable def R25_20 : Array Oper := regOf F25_20
noncomputable def F25_23 : Code := sub (Try.f25.body.getD .skip) [1, 1, 1, 1, 1, 0]
noncomputable def F25_24 : Code := sub (Try.f25.body.getD .skip) [1, 1, 1, 1, 1, 1]
noncomputable def R25_23 : Array Oper := regOf F25_23
def rencS (p : Piece) : (List UInt8) × Int :=
  (cond (((((((decide (p.base < 1) || decide (p.base > 2305843009213693952)) || decide (p.count < 1)) || decide (p.count > 874)) || decide (p.index < 0)) || decide (p.index ≥ p.count)) || decide ((((p.data).length : Nat) : Int) > 600))) (([] : List UInt8), (1 : Int)) ((((((lowS (p.base : Int) (8 : Int)) ++ (lowS (p.index : Int) (2 : Int))) ++ (lowS (p.count : Int) (2 : Int))) ++ p.data) : List UInt8), (0 : Int)))
set_option maxRecDepth 100000 in
theorem c25 (g : Gh) (p : Piece) (Ap_data : Option Addr) (cp_data : Nat) (fp_data : Arr g.r tyU8 Ap_data cp_data p.data) :
    Ctr0 Try.prog 25 [Value.agg #[Value.int .i64 (p.base), Value.int .i64 (p.index), Value.int .i64 (p.count), Value.slice Ap_data (p.data).length cp_data]] g (fun v ψ => ∃ (Ar0 : Option Addr) (cr0 : Nat), v = Value.tuple #[Value.slice Ar0 ((rencS p).1).length cr0, Value.int .i64 ((rencS p).2)] ∧ Arr ψ tyU8 Ar0 cr0 (rencS p).1) := by
  refine ctr_of Try.f25 F25_0 58 [Value.agg #[Value.int .i64 (p.base), Value.int .i64 (p.index), Value.int .i64 (p.count), Value.slice Ap_data (p.data).length cp_data]] (by kernel_rfl) (by kernel_rfl) (by kernel_rfl) (by kernel_rfl) ?_
  have L0 := Gh.le.refl g
  have nfp_data := fp_data.len
  refine wpc_seq (x := F25_1) (y := F25_2) (by kernel_rfl) ?_
  refine wpc_region (ops := R25_1) (id := 0) (by kernel_rfl) ?_
  refine wpr_eff 1 1 (.box 35 (.tmp 0)) 0 (Runs.plain (by kernel_rfl)) (by kernel_rfl) (e_box (v := Value.agg #[Value.int .i64 (p.base), Value.int .i64 (p.index), Value.int .i64 (p.count), Value.slice Ap_data (p.data).length cp_data]) (cs := [Value.int .i64 (p.base), Value.int .i64 (p.index), Value.int .i64 (p.count), Value.slice Ap_data (p.data).length cp_data]) (by kernel_rfl) (by kernel_rfl)) ?_
  rintro _ _ _ - ⟨b1, rfl, rfl, rfl⟩
  refine wpr_val 2 2 (.assign (.const (Value.slice none 0 0))) 22 (Value.slice none 0 0) (Runs.plain (by kernel_rfl)) (by kernel_rfl) (y_assign (by kernel_rfl)) ?_
  refine wpr_val 3 3 (.assign (.const (Value.int .i64 (0)))) 27 (Value.int .i64 (0)) (Runs.plain (by kernel_rfl)) (by kernel_rfl) (y_assign (by kernel_rfl)) ?_
  refine wpr_end (by kernel_rfl) ?_
  refine wpq_then ?_
  refine wpc_seq (x := F25_4) (y := F25_5) (by kernel_rfl) ?_
  refine wpc_seq (x := F25_6) (y := F25_7) (by kernel_rfl) ?_
  refine wpc_region (ops := R25_6) (id := 1) (by kernel_rfl) ?_
  refine wpr_val 1 5 (.fieldAddr 35 (.tmp 1) 0) 0 (Value.pointer (some ⟨b1, 0, none⟩)) (Runs.plain (by kernel_rfl)) (by kernel_rfl) (y_pure (by kernel_rfl) (fun _ => by kernel_rfl)) ?_
  refine wpr_val 2 6 (.load 2 (.tmp 5)) 2 (Value.int .i64 (p.base)) (Runs.plain (by kernel_rfl)) (by kernel_rfl) (q_load1 b1 0 0 (by kernel_rfl) (by kernel_rfl) (by kernel_rfl)) ?_
  refine wpr_val 3 7 (.binOp .lss 2 (.tmp 6) (.const (Value.int .i64 (1))) 2) 4 (Value.bool (decide (p.base < 1))) (Runs.plain (by kernel_rfl)) (by kernel_rfl) (y_pure (by kernel_rfl) (fun _ => by kernel_rfl)) ?_
  refine wpr_val 4 8 (.move (.tmp 7)) 4 (Value.bool (decide (p.base < 1))) (Runs.plain (by kernel_rfl)) (by kernel_rfl) (y_move (by kernel_rfl)) ?_
  refine wpr_grp 8 [(1, Value.pointer (some ⟨b1, 0, none⟩)), (12, Value.bool ((decide (p.base < 1) || decide (p.base > 2305843009213693952))))] (fun hk3 => ?_) ?_
  · refine wpq_split 8 (b := decide (p.base < 1)) (by kernel_rfl) (fun q2 => ?_) (fun q2 => ?_)
    · have q2p := of_decide_eq_true q2
      refine wpr_skip 5 9 (Skips.mk' (j := 3) (t := 8) (b := false) (by kernel_rfl) (by kernel_rfl) (by kernel_rfl)) (by kernel_rfl) ?_
      refine wpr_skip 6 10 (Skips.mk' (j := 3) (t := 8) (b := false) (by kernel_rfl) (by kernel_rfl) (by kernel_rfl)) (by kernel_rfl) ?_
      refine wpr_skip 7 11 (Skips.mk' (j := 3) (t := 8) (b := false) (by kernel_rfl) (by kernel_rfl) (by kernel_rfl)) (by kernel_rfl) ?_
      refine wpr_val 8 12 (.pick (.tmp 8) (.const (Value.bool (true))) (.tmp 11)) 4 (Value.bool (true)) (Runs.plain (by kernel_rfl)) (by kernel_rfl) (y_pickT (by kernel_rfl) (by kernel_rfl)) ?_
      refine wpq_re 12 (v := Value.bool (true)) (Value.bool ((decide (p.base < 1) || decide (p.base > 2305843009213693952)))) (by kernel_rfl) (re_or1 q2) ?_
      exact wpq_sub _ (by kernel_rfl) hk3
    · have q2p := of_decide_eq_false q2
      refine wpr_val 5 9 (.fieldAddr 35 (.tmp 1) 0) 0 (Value.pointer (some ⟨b1, 0, none⟩)) (Runs.guarded (j := 3) (t := 8) (b := false) (by kernel_rfl) (by kernel_rfl) (by kernel_rfl)) (by kernel_rfl) (y_pure (by kernel_rfl) (fun _ => by kernel_rfl)) ?_
      refine wpr_val 6 10 (.load 2 (.tmp 9)) 2 (Value.int .i64 (p.base)) (Runs.guarded (j := 3) (t := 8) (b := false) (by kernel_rfl) (by kernel_rfl) (by kernel_rfl)) (by kernel_rfl) (q_load1 b1 0 0 (by kernel_rfl) (by kernel_rfl) (by kernel_rfl)) ?_
      refine wpr_val 7 11 (.binOp .gtr 2 (.tmp 10) (.const (Value.int .i64 (2305843009213693952))) 2) 4 (Value.bool (decide (p.base > 2305843009213693952))) (Runs.guarded (j := 3) (t := 8) (b := false) (by kernel_rfl) (by kernel_rfl) (by kernel_rfl)) (by kernel_rfl) (y_pure (by kernel_rfl) (fun _ => by kernel_rfl)) ?_
      refine wpr_val 8 12 (.pick (.tmp 8) (.const (Value.bool (true))) (.tmp 11)) 4 (Value.bool (decide (p.base > 2305843009213693952))) (Runs.plain (by kernel_rfl)) (by kernel_rfl) (y_pickF (by kernel_rfl) (by kernel_rfl)) ?_
      refine wpq_re 12 (v := Value.bool (decide (p.base > 2305843009213693952))) (Value.bool ((decide (p.base < 1) || decide (p.base > 2305843009213693952)))) (by kernel_rfl) (re_or0 q2) ?_
      exact wpq_sub _ (by kernel_rfl) hk3
  · refine wpr_val 9 13 (.move (.tmp 12)) 4 (Value.bool ((decide (p.base < 1) || decide (p.base > 2305843009213693952)))) (Runs.plain (by kernel_rfl)) (by kernel_rfl) (y_move (by kernel_rfl)) ?_
    refine wpr_grp 13 [(1, Value.pointer (some ⟨b1, 0, none⟩)), (17, Value.bool (((decide (p.base < 1) || decide (p.base > 2305843009213693952)) || decide (p.count < 1))))] (fun hk8 => ?_) ?_
    · refine wpq_split 13 (b := (decide (p.base < 1) || decide (p.base > 2305843009213693952))) (by kernel_rfl) (fun q3 => ?_) (fun q3 => ?_)
      · refine wpr_skip 10 14 (Skips.mk' (j := 8) (t := 13) (b := false) (by kernel_rfl) (by kernel_rfl) (by kernel_rfl)) (by kernel_rfl) ?_
        refine wpr_skip 11 15 (Skips.mk' (j := 8) (t := 13) (b := false) (by kernel_rfl) (by kernel_rfl) (by kernel_rfl)) (by kernel_rfl) ?_
        refine wpr_skip 12 16 (Skips.mk' (j := 8) (t := 13) (b := false) (by kernel_rfl) (by kernel_rfl) (by kernel_rfl)) (by kernel_rfl) ?_
        refine wpr_val 13 17 (.pick (.tmp 13) (.const (Value.bool (true))) (.tmp 16)) 4 (Value.bool (true)) (Runs.plain (by kernel_rfl)) (by kernel_rfl) (y_pickT (by kernel_rfl) (by kernel_rfl)) ?_
        refine wpq_re 17 (v := Value.bool (true)) (Value.bool (((decide (p.base < 1) || decide (p.base > 2305843009213693952)) || decide (p.count < 1)))) (by kernel_rfl) (re_or1 q3) ?_
        exact wpq_sub _ (by kernel_rfl) hk8
      · have q3l := (or_false_ q3).1
        have q3r := (or_false_ q3).2
        have q3lp := of_decide_eq_false q3l
        have q3rp := of_decide_eq_false q3r
        refine wpr_val 10 14 (.fieldAddr 35 (.tmp 1) 2) 0 (Value.pointer (some ⟨b1, 2, none⟩)) (Runs.guarded (j := 8) (t := 13) (b := false) (by kernel_rfl) (by kernel_rfl) (by kernel_rfl)) (by kernel_rfl) (y_pure (by kernel_rfl) (fun _ => by kernel_rfl)) ?_
        refine wpr_val 11 15 (.load 3 (.tmp 14)) 3 (Value.int .i64 (p.count)) (Runs.guarded (j := 8) (t := 13) (b := false) (by kernel_rfl) (by kernel_rfl) (by kernel_rfl)) (by kernel_rfl) (q_load1 b1 2 0 (by kernel_rfl) (by kernel_rfl) (by kernel_rfl)) ?_
        refine wpr_val 12 16 (.binOp .lss 3 (.tmp 15) (.const (Value.int .i64 (1))) 3) 4 (Value.bool (decide (p.count < 1))) (Runs.guarded (j := 8) (t := 13) (b := false) (by kernel_rfl) (by kernel_rfl) (by kernel_rfl)) (by kernel_rfl) (y_pure (by kernel_rfl) (fun _ => by kernel_rfl)) ?_
        refine wpr_val 13 17 (.pick (.tmp 13) (.const (Value.bool (true))) (.tmp 16)) 4 (Value.bool (decide (p.count < 1))) (Runs.plain (by kernel_rfl)) (by kernel_rfl) (y_pickF (by kernel_rfl) (by kernel_rfl)) ?_
        refine wpq_re 17 (v := Value.bool (decide (p.count < 1))) (Value.bool (((decide (p.base < 1) || decide (p.base > 2305843009213693952)) || decide (p.count < 1)))) (by kernel_rfl) (re_or0 q3) ?_
        exact wpq_sub _ (by kernel_rfl) hk8
    · refine wpr_val 14 18 (.move (.tmp 17)) 4 (Value.bool (((decide (p.base < 1) || decide (p.base > 2305843009213693952)) || decide (p.count < 1)))) (Runs.plain (by kernel_rfl)) (by kernel_rfl) (y_move (by kernel_rfl)) ?_
      refine wpr_grp 18 [(1, Value.pointer (some ⟨b1, 0, none⟩)), (22, Value.bool ((((decide (p.base < 1) || decide (p.base > 2305843009213693952)) || decide (p.count < 1)) || decide (p.count > 874))))] (fun hk13 => ?_) ?_
      · refine wpq_split 18 (b := ((decide (p.base < 1) || decide (p.base > 2305843009213693952)) || decide (p.count < 1))) (by kernel_rfl) (fun q4 => ?_) (fun q4 => ?_)
        · refine wpr_skip 15 19 (Skips.mk' (j := 13) (t := 18) (b := false) (by kernel_rfl) (by kernel_rfl) (by kernel_rfl)) (by kernel_rfl) ?_
          refine wpr_skip 16 20 (Skips.mk' (j := 13) (t := 18) (b := false) (by kernel_rfl) (by kernel_rfl) (by kernel_rfl)) (by kernel_rfl) ?_
          refine wpr_skip 17 21 (Skips.mk' (j := 13) (t := 18) (b := false) (by kernel_rfl) (by kernel_rfl) (by kernel_rfl)) (by kernel_rfl) ?_
          refine wpr_val 18 22 (.pick (.tmp 18) (.const (Value.bool (true))) (.tmp 21)) 4 (Value.bool (true)) (Runs.plain (by kernel_rfl)) (by kernel_rfl) (y_pickT (by kernel_rfl) (by kernel_rfl)) ?_
          refine wpq_re 22 (v := Value.bool (true)) (Value.bool ((((decide (p.base < 1) || decide (p.base > 2305843009213693952)) || decide (p.count < 1)) || decide (p.count > 874)))) (by kernel_rfl) (re_or1 q4) ?_
          exact wpq_sub _ (by kernel_rfl) hk13
        · have q4l := (or_false_ q4).1
          have q4r := (or_false_ q4).2
          have q4ll := (or_false_ q4l).1
          have q4lr := (or_false_ q4l).2
          have q4llp := of_decide_eq_false q4ll
          have q4lrp := of_decide_eq_false q4lr
          have q4rp := of_decide_eq_false q4r
          refine wpr_val 15 19 (.fieldAddr 35 (.tmp 1) 2) 0 (Value.pointer (some ⟨b1, 2, none⟩)) (Runs.guarded (j := 13) (t := 18) (b := false) (by kernel_rfl) (by kernel_rfl) (by kernel_rfl)) (by kernel_rfl) (y_pure (by kernel_rfl) (fun _ => by kernel_rfl)) ?_
          refine wpr_val 16 20 (.load 3 (.tmp 19)) 3 (Value.int .i64 (p.count)) (Runs.guarded (j := 13) (t := 18) (b := false) (by kernel_rfl) (by kernel_rfl) (by kernel_rfl)) (by kernel_rfl) (q_load1 b1 2 0 (by kernel_rfl) (by kernel_rfl) (by kernel_rfl)) ?_
          refine wpr_val 17 21 (.binOp .gtr 3 (.tmp 20) (.const (Value.int .i64 (874))) 3) 4 (Value.bool (decide (p.count > 874))) (Runs.guarded (j := 13) (t := 18) (b := false) (by kernel_rfl) (by kernel_rfl) (by kernel_rfl)) (by kernel_rfl) (y_pure (by kernel_rfl) (fun _ => by kernel_rfl)) ?_
          refine wpr_val 18 22 (.pick (.tmp 18) (.const (Value.bool (true))) (.tmp 21)) 4 (Value.bool (decide (p.count > 874))) (Runs.plain (by kernel_rfl)) (by kernel_rfl) (y_pickF (by kernel_rfl) (by kernel_rfl)) ?_
          refine wpq_re 22 (v := Value.bool (decide (p.count > 874))) (Value.bool ((((decide (p.base < 1) || decide (p.base > 2305843009213693952)) || decide (p.count < 1)) || decide (p.count > 874)))) (by kernel_rfl) (re_or0 q4) ?_
          exact wpq_sub _ (by kernel_rfl) hk13
      · refine wpr_val 19 23 (.move (.tmp 22)) 4 (Value.bool ((((decide (p.base < 1) || decide (p.base > 2305843009213693952)) || decide (p.count < 1)) || decide (p.count > 874)))) (Runs.plain (by kernel_rfl)) (by kernel_rfl) (y_move (by kernel_rfl)) ?_
        refine wpr_grp 23 [(1, Value.pointer (some ⟨b1, 0, none⟩)), (27, Value.bool (((((decide (p.base < 1) || decide (p.base > 2305843009213693952)) || decide (p.count < 1)) || decide (p.count > 874)) || decide (p.index < 0))))] (fun hk18 => ?_) ?_
        · refine wpq_split 23 (b := (((decide (p.base < 1) || decide (p.base > 2305843009213693952)) || decide (p.count < 1)) || decide (p.count > 874))) (by kernel_rfl) (fun q5 => ?_) (fun q5 => ?_)
          · refine wpr_skip 20 24 (Skips.mk' (j := 18) (t := 23) (b := false) (by kernel_rfl) (by kernel_rfl) (by kernel_rfl)) (by kernel_rfl) ?_
            refine wpr_skip 21 25 (Skips.mk' (j := 18) (t := 23) (b := false) (by kernel_rfl) (by kernel_rfl) (by kernel_rfl)) (by kernel_rfl) ?_
            refine wpr_skip 22 26 (Skips.mk' (j := 18) (t := 23) (b := false) (by kernel_rfl) (by kernel_rfl) (by kernel_rfl)) (by kernel_rfl) ?_
            refine wpr_val 23 27 (.pick (.tmp 23) (.const (Value.bool (true))) (.tmp 26)) 4 (Value.bool (true)) (Runs.plain (by kernel_rfl)) (by kernel_rfl) (y_pickT (by kernel_rfl) (by kernel_rfl)) ?_
            refine wpq_re 27 (v := Value.bool (true)) (Value.bool (((((decide (p.base < 1) || decide (p.base > 2305843009213693952)) || decide (p.count < 1)) || decide (p.count > 874)) || decide (p.index < 0)))) (by kernel_rfl) (re_or1 q5) ?_
            exact wpq_sub _ (by kernel_rfl) hk18
          · have q5l := (or_false_ q5).1
            have q5r := (or_false_ q5).2
            have q5ll := (or_false_ q5l).1
            have q5lr := (or_false_ q5l).2
            have q5lll := (or_false_ q5ll).1
            have q5llr := (or_false_ q5ll).2
            have q5lllp := of_decide_eq_false q5lll
            have q5llrp := of_decide_eq_false q5llr
            have q5lrp := of_decide_eq_false q5lr
            have q5rp := of_decide_eq_false q5r
            refine wpr_val 20 24 (.fieldAddr 35 (.tmp 1) 1) 0 (Value.pointer (some ⟨b1, 1, none⟩)) (Runs.guarded (j := 18) (t := 23) (b := false) (by kernel_rfl) (by kernel_rfl) (by kernel_rfl)) (by kernel_rfl) (y_pure (by kernel_rfl) (fun _ => by kernel_rfl)) ?_
            refine wpr_val 21 25 (.load 3 (.tmp 24)) 3 (Value.int .i64 (p.index)) (Runs.guarded (j := 18) (t := 23) (b := false) (by kernel_rfl) (by kernel_rfl) (by kernel_rfl)) (by kernel_rfl) (q_load1 b1 1 0 (by kernel_rfl) (by kernel_rfl) (by kernel_rfl)) ?_
            refine wpr_val 22 26 (.binOp .lss 3 (.tmp 25) (.const (Value.int .i64 (0))) 3) 4 (Value.bool (decide (p.index < 0))) (Runs.guarded (j := 18) (t := 23) (b := false) (by kernel_rfl) (by kernel_rfl) (by kernel_rfl)) (by kernel_rfl) (y_pure (by kernel_rfl) (fun _ => by kernel_rfl)) ?_
            refine wpr_val 23 27 (.pick (.tmp 23) (.const (Value.bool (true))) (.tmp 26)) 4 (Value.bool (decide (p.index < 0))) (Runs.plain (by kernel_rfl)) (by kernel_rfl) (y_pickF (by kernel_rfl) (by kernel_rfl)) ?_
            refine wpq_re 27 (v := Value.bool (decide (p.index < 0))) (Value.bool (((((decide (p.base < 1) || decide (p.base > 2305843009213693952)) || decide (p.count < 1)) || decide (p.count > 874)) || decide (p.index < 0)))) (by kernel_rfl) (re_or0 q5) ?_
            exact wpq_sub _ (by kernel_rfl) hk18
        · refine wpr_val 24 28 (.move (.tmp 27)) 4 (Value.bool (((((decide (p.base < 1) || decide (p.base > 2305843009213693952)) || decide (p.count < 1)) || decide (p.count > 874)) || decide (p.index < 0)))) (Runs.plain (by kernel_rfl)) (by kernel_rfl) (y_move (by kernel_rfl)) ?_
          refine wpr_grp 30 [(1, Value.pointer (some ⟨b1, 0, none⟩)), (34, Value.bool ((((((decide (p.base < 1) || decide (p.base > 2305843009213693952)) || decide (p.count < 1)) || decide (p.count > 874)) || decide (p.index < 0)) || decide (p.index ≥ p.count))))] (fun hk23 => ?_) ?_
          · refine wpq_split 28 (b := ((((decide (p.base < 1) || decide (p.base > 2305843009213693952)) || decide (p.count < 1)) || decide (p.count > 874)) || decide (p.index < 0))) (by kernel_rfl) (fun q6 => ?_) (fun q6 => ?_)
            · refine wpr_skip 25 29 (Skips.mk' (j := 23) (t := 28) (b := false) (by kernel_rfl) (by kernel_rfl) (by kernel_rfl)) (by kernel_rfl) ?_
              refine wpr_skip 26 30 (Skips.mk' (j := 23) (t := 28) (b := false) (by kernel_rfl) (by kernel_rfl) (by kernel_rfl)) (by kernel_rfl) ?_
              refine wpr_skip 27 31 (Skips.mk' (j := 23) (t := 28) (b := false) (by kernel_rfl) (by kernel_rfl) (by kernel_rfl)) (by kernel_rfl) ?_
              refine wpr_skip 28 32 (Skips.mk' (j := 23) (t := 28) (b := false) (by kernel_rfl) (by kernel_rfl) (by kernel_rfl)) (by kernel_rfl) ?_
              refine wpr_skip 29 33 (Skips.mk' (j := 23) (t := 28) (b := false) (by kernel_rfl) (by kernel_rfl) (by kernel_rfl)) (by kernel_rfl) ?_
              refine wpr_val 30 34 (.pick (.tmp 28) (.const (Value.bool (true))) (.tmp 33)) 4 (Value.bool (true)) (Runs.plain (by kernel_rfl)) (by kernel_rfl) (y_pickT (by kernel_rfl) (by kernel_rfl)) ?_
              refine wpq_re 34 (v := Value.bool (true)) (Value.bool ((((((decide (p.base < 1) || decide (p.base > 2305843009213693952)) || decide (p.count < 1)) || decide (p.count > 874)) || decide (p.index < 0)) || decide (p.index ≥ p.count)))) (by kernel_rfl) (re_or1 q6) ?_
              exact wpq_sub _ (by kernel_rfl) hk23
            · have q6l := (or_false_ q6).1
              have q6r := (or_false_ q6).2
              have q6ll := (or_false_ q6l).1
              have q6lr := (or_false_ q6l).2
              have q6lll := (or_false_ q6ll).1
              have q6llr := (or_false_ q6ll).2
              have q6llll := (or_false_ q6lll).1
              have q6lllr := (or_false_ q6lll).2
              have q6llllp := of_decide_eq_false q6llll
              have q6lllrp := of_decide_eq_false q6lllr
              have q6llrp := of_decide_eq_false q6llr
              have q6lrp := of_decide_eq_false q6lr
              have q6rp := of_decide_eq_false q6r
              refine wpr_val 25 29 (.fieldAddr 35 (.tmp 1) 1) 0 (Value.pointer (some ⟨b1, 1, none⟩)) (Runs.guarded (j := 23) (t := 28) (b := false) (by kernel_rfl) (by kernel_rfl) (by kernel_rfl)) (by kernel_rfl) (y_pure (by kernel_rfl) (fun _ => by kernel_rfl)) ?_
              refine wpr_val 26 30 (.load 3 (.tmp 29)) 3 (Value.int .i64 (p.index)) (Runs.guarded (j := 23) (t := 28) (b := false) (by kernel_rfl) (by kernel_rfl) (by kernel_rfl)) (by kernel_rfl) (q_load1 b1 1 0 (by kernel_rfl) (by kernel_rfl) (by kernel_rfl)) ?_
              refine wpr_val 27 31 (.fieldAddr 35 (.tmp 1) 2) 0 (Value.pointer (some ⟨b1, 2, none⟩)) (Runs.guarded (j := 23) (t := 28) (b := false) (by kernel_rfl) (by kernel_rfl) (by kernel_rfl)) (by kernel_rfl) (y_pure (by kernel_rfl) (fun _ => by kernel_rfl)) ?_
              refine wpr_val 28 32 (.load 3 (.tmp 31)) 3 (Value.int .i64 (p.count)) (Runs.guarded (j := 23) (t := 28) (b := false) (by kernel_rfl) (by kernel_rfl) (by kernel_rfl)) (by kernel_rfl) (q_load1 b1 2 0 (by kernel_rfl) (by kernel_rfl) (by kernel_rfl)) ?_
              refine wpr_val 29 33 (.binOp .geq 3 (.tmp 30) (.tmp 32) 3) 4 (Value.bool (decide (p.index ≥ p.count))) (Runs.guarded (j := 23) (t := 28) (b := false) (by kernel_rfl) (by kernel_rfl) (by kernel_rfl)) (by kernel_rfl) (y_pure (by kernel_rfl) (fun _ => by kernel_rfl)) ?_
              refine wpr_val 30 34 (.pick (.tmp 28) (.const (Value.bool (true))) (.tmp 33)) 4 (Value.bool (decide (p.index ≥ p.count))) (Runs.plain (by kernel_rfl)) (by kernel_rfl) (y_pickF (by kernel_rfl) (by kernel_rfl)) ?_
              refine wpq_re 34 (v := Value.bool (decide (p.index ≥ p.count))) (Value.bool ((((((decide (p.base < 1) || decide (p.base > 2305843009213693952)) || decide (p.count < 1)) || decide (p.count > 874)) || decide (p.index < 0)) || decide (p.index ≥ p.count)))) (by kernel_rfl) (re_or0 q6) ?_
              exact wpq_sub _ (by kernel_rfl) hk23
          · refine wpr_val 31 35 (.move (.tmp 34)) 4 (Value.bool ((((((decide (p.base < 1) || decide (p.base > 2305843009213693952)) || decide (p.count < 1)) || decide (p.count > 874)) || decide (p.index < 0)) || decide (p.index ≥ p.count)))) (Runs.plain (by kernel_rfl)) (by kernel_rfl) (y_move (by kernel_rfl)) ?_
            refine wpr_grp 36 [(1, Value.pointer (some ⟨b1, 0, none⟩)), (40, Value.bool (((((((decide (p.base < 1) || decide (p.base > 2305843009213693952)) || decide (p.count < 1)) || decide (p.count > 874)) || decide (p.index < 0)) || decide (p.index ≥ p.count)) || decide ((((p.data).length : Nat) : Int) > 600))))] (fun hk30 => ?_) ?_
            · refine wpq_split 35 (b := (((((decide (p.base < 1) || decide (p.base > 2305843009213693952)) || decide (p.count < 1)) || decide (p.count > 874)) || decide (p.index < 0)) || decide (p.index ≥ p.count))) (by kernel_rfl) (fun q7 => ?_) (fun q7 => ?_)
              · refine wpr_skip 32 36 (Skips.mk' (j := 30) (t := 35) (b := false) (by kernel_rfl) (by kernel_rfl) (by kernel_rfl)) (by kernel_rfl) ?_
                refine wpr_skip 33 37 (Skips.mk' (j := 30) (t := 35) (b := false) (by kernel_rfl) (by kernel_rfl) (by kernel_rfl)) (by kernel_rfl) ?_
                refine wpr_skip 34 38 (Skips.mk' (j := 30) (t := 35) (b := false) (by kernel_rfl) (by kernel_rfl) (by kernel_rfl)) (by kernel_rfl) ?_
                refine wpr_skip 35 39 (Skips.mk' (j := 30) (t := 35) (b := false) (by kernel_rfl) (by kernel_rfl) (by kernel_rfl)) (by kernel_rfl) ?_
                refine wpr_val 36 40 (.pick (.tmp 35) (.const (Value.bool (true))) (.tmp 39)) 4 (Value.bool (true)) (Runs.plain (by kernel_rfl)) (by kernel_rfl) (y_pickT (by kernel_rfl) (by kernel_rfl)) ?_
                refine wpq_re 40 (v := Value.bool (true)) (Value.bool (((((((decide (p.base < 1) || decide (p.base > 2305843009213693952)) || decide (p.count < 1)) || decide (p.count > 874)) || decide (p.index < 0)) || decide (p.index ≥ p.count)) || decide ((((p.data).length : Nat) : Int) > 600)))) (by kernel_rfl) (re_or1 q7) ?_
                exact wpq_sub _ (by kernel_rfl) hk30
              · have q7l := (or_false_ q7).1
                have q7r := (or_false_ q7).2
                have q7ll := (or_false_ q7l).1
                have q7lr := (or_false_ q7l).2
                have q7lll := (or_false_ q7ll).1
                have q7llr := (or_false_ q7ll).2
                have q7llll := (or_false_ q7lll).1
                have q7lllr := (or_false_ q7lll).2
                have q7lllll := (or_false_ q7llll).1
                have q7llllr := (or_false_ q7llll).2
                have q7lllllp := of_decide_eq_false q7lllll
                have q7llllrp := of_decide_eq_false q7llllr
                have q7lllrp := of_decide_eq_false q7lllr
                have q7llrp := of_decide_eq_false q7llr
                have q7lrp := of_decide_eq_false q7lr
                have q7rp := of_decide_eq_false q7r
                refine wpr_val 32 36 (.fieldAddr 35 (.tmp 1) 3) 0 (Value.pointer (some ⟨b1, 3, none⟩)) (Runs.guarded (j := 30) (t := 35) (b := false) (by kernel_rfl) (by kernel_rfl) (by kernel_rfl)) (by kernel_rfl) (y_pure (by kernel_rfl) (fun _ => by kernel_rfl)) ?_
                refine wpr_val 33 37 (.load 22 (.tmp 36)) 22 (Value.slice Ap_data (p.data).length cp_data) (Runs.guarded (j := 30) (t := 35) (b := false) (by kernel_rfl) (by kernel_rfl) (by kernel_rfl)) (by kernel_rfl) (q_load1 b1 3 0 (by kernel_rfl) (by kernel_rfl) (by kernel_rfl)) ?_
                refine wpr_val 34 38 (.call { callee := .builtin .len, args := #[(.tmp 37)], argTypes := #[22] }) 3 (Value.int .i64 ((((p.data).length : Nat) : Int))) (Runs.guarded (j := 30) (t := 35) (b := false) (by kernel_rfl) (by kernel_rfl) (by kernel_rfl)) (by kernel_rfl) (y_pure (by kernel_rfl) (fun _ => by kernel_rfl)) ?_
                refine wpr_val 35 39 (.binOp .gtr 3 (.tmp 38) (.const (Value.int .i64 (600))) 3) 4 (Value.bool (decide ((((p.data).length : Nat) : Int) > 600))) (Runs.guarded (j := 30) (t := 35) (b := false) (by kernel_rfl) (by kernel_rfl) (by kernel_rfl)) (by kernel_rfl) (y_pure (by kernel_rfl) (fun _ => by kernel_rfl)) ?_
                refine wpr_val 36 40 (.pick (.tmp 35) (.const (Value.bool (true))) (.tmp 39)) 4 (Value.bool (decide ((((p.data).length : Nat) : Int) > 600))) (Runs.plain (by kernel_rfl)) (by kernel_rfl) (y_pickF (by kernel_rfl) (by kernel_rfl)) ?_
                refine wpq_re 40 (v := Value.bool (decide ((((p.data).length : Nat) : Int) > 600))) (Value.bool (((((((decide (p.base < 1) || decide (p.base > 2305843009213693952)) || decide (p.count < 1)) || decide (p.count > 874)) || decide (p.index < 0)) || decide (p.index ≥ p.count)) || decide ((((p.data).length : Nat) : Int) > 600)))) (by kernel_rfl) (re_or0 q7) ?_
                exact wpq_sub _ (by kernel_rfl) hk30
            · refine wpr_end (by kernel_rfl) ?_
              refine wpq_then ?_
              -- condition 0
              refine wpc_cond (x := F25_9) (y := F25_10) (o := (.tmp 40)) (b := ((((((decide (p.base < 1) || decide (p.base > 2305843009213693952)) || decide (p.count < 1)) || decide (p.count > 874)) || decide (p.index < 0)) || decide (p.index ≥ p.count)) || decide ((((p.data).length : Nat) : Int) > 600))) (by kernel_rfl) (by kernel_rfl) (fun h0 => ?_) (fun h0 => ?_)
              · refine wpc_seq (x := F25_11) (y := F25_12) (by kernel_rfl) ?_
                refine wpc_region (ops := R25_11) (id := 2) (by kernel_rfl) ?_
                refine wpr_val 1 2 (.assign (.const (Value.slice none 0 0))) 22 (Value.slice none 0 0) (Runs.plain (by kernel_rfl)) (by kernel_rfl) (y_assign (by kernel_rfl)) ?_
                refine wpr_val 2 3 (.assign (.const (Value.int .i64 (1)))) 27 (Value.int .i64 (1)) (Runs.plain (by kernel_rfl)) (by kernel_rfl) (y_assign (by kernel_rfl)) ?_
                refine wpr_end (by kernel_rfl) ?_
                refine wpq_then ?_
                refine wpc_ret (rs := [.tmp 2, .tmp 3]) [Value.slice none 0 0, Value.int .i64 (1)] [] (by kernel_rfl) (fun _ _ h => h) (by kernel_rfl) (res_tmp (by kernel_rfl) (res_tmp (by kernel_rfl) res_nil)) L0 keep0 ?_
                have eS : (rencS p) = (([] : List UInt8), (1 : Int)) := by
                  unfold rencS
                  rw [h0]
                  rfl
                rw [eS]
                exact ⟨rfl, none, 0, rfl, Arr.nil⟩
              · have h0l := (or_false_ h0).1
                have h0r := (or_false_ h0).2
                have h0ll := (or_false_ h0l).1
                have h0lr := (or_false_ h0l).2
                have h0lll := (or_false_ h0ll).1
                have h0llr := (or_false_ h0ll).2
                have h0llll := (or_false_ h0lll).1
                have h0lllr := (or_false_ h0lll).2
                have h0lllll := (or_false_ h0llll).1
                have h0llllr := (or_false_ h0llll).2
                have h0llllll := (or_false_ h0lllll).1
                have h0lllllr := (or_false_ h0lllll).2
                have h0llllllp := of_decide_eq_false h0llllll
                have h0lllllrp := of_decide_eq_false h0lllllr
                have h0llllrp := of_decide_eq_false h0llllr
                have h0lllrp := of_decide_eq_false h0lllr
                have h0llrp := of_decide_eq_false h0llr
                have h0lrp := of_decide_eq_false h0lr
                have h0rp := of_decide_eq_false h0r
                refine wpc_skip (by kernel_rfl) ?_
                refine wpq_then ?_
                refine wpc_seq (x := F25_14) (y := F25_15) (by kernel_rfl) ?_
                refine wpc_region (ops := R25_14) (id := 3) (by kernel_rfl) ?_
                refine wpr_val 1 41 (.fieldAddr 35 (.tmp 1) 0) 0 (Value.pointer (some ⟨b1, 0, none⟩)) (Runs.plain (by kernel_rfl)) (by kernel_rfl) (y_pure (by kernel_rfl) (fun _ => by kernel_rfl)) ?_
                refine wpr_val 2 42 (.load 2 (.tmp 41)) 2 (Value.int .i64 (p.base)) (Runs.plain (by kernel_rfl)) (by kernel_rfl) (q_load1 b1 0 0 (by kernel_rfl) (by kernel_rfl) (by kernel_rfl)) ?_
                refine wpr_eff 3 43 (.call { callee := .value (.func 47), args := #[(.tmp 42), (.const (Value.int .i64 (8)))], argTypes := #[2, 3] }) 22 (Runs.plain (by kernel_rfl)) (by kernel_rfl) (e_callM (sel := []) [Value.int .i64 (p.base), Value.int .i64 (8)] [] (by kernel_rfl) (by kernel_rfl) (by kernel_rfl) (fun g' lr eb ln => c47 g' (p.base : Int) (8 : Int) (by omega))) ?_
                rintro _ g9 _ le10 ⟨_, rfl, A8_0, c8_0, k8_0, rfl, rfl, h8_0⟩
                have fp_data := fp_data.mono le10.r
                have L0 := L0.trans le10
                refine wpq_own [k8_0, some ⟨b1, 35, [Value.int .i64 (p.base), Value.int .i64 (p.index), Value.int .i64 (p.count), Value.slice Ap_data (p.data).length cp_data]⟩] (by kernel_rfl) ?_
                have nh8_0 := h8_0.len
                have ly8 := lowS_len (p.base : Int) (8 : Int)
                refine wpr_val 4 4 (.assign (.tmp 43)) 22 (Value.slice A8_0 ((lowS (p.base : Int) (8 : Int))).length c8_0) (Runs.plain (by kernel_rfl)) (by kernel_rfl) (y_assign (by kernel_rfl)) ?_
                refine wpr_end (by kernel_rfl) ?_
                refine wpq_then ?_
                refine wpc_seq (x := F25_17) (y := F25_18) (by kernel_rfl) ?_
                refine wpc_region (ops := R25_17) (id := 4) (by kernel_rfl) ?_
                refine wpr_val 1 44 (.move (.tmp 4)) 22 (Value.slice A8_0 ((lowS (p.base : Int) (8 : Int))).length c8_0) (Runs.plain (by kernel_rfl)) (by kernel_rfl) (y_move (by kernel_rfl)) ?_
                refine wpr_val 2 45 (.fieldAddr 35 (.tmp 1) 1) 0 (Value.pointer (some ⟨b1, 1, none⟩)) (Runs.plain (by kernel_rfl)) (by kernel_rfl) (y_pure (by kernel_rfl) (fun _ => by kernel_rfl)) ?_
                refine wpr_val 3 46 (.load 3 (.tmp 45)) 3 (Value.int .i64 (p.index)) (Runs.plain (by kernel_rfl)) (by kernel_rfl) (q_load1 b1 1 1 (by kernel_rfl) (by kernel_rfl) (by kernel_rfl)) ?_
                refine wpr_eff 4 47 (.call { callee := .value (.func 47), args := #[(.tmp 46), (.const (Value.int .i64 (2)))], argTypes := #[2, 3] }) 22 (Runs.plain (by kernel_rfl)) (by kernel_rfl) (e_callM (sel := []) [Value.int .i64 (p.index), Value.int .i64 (2)] [] (by kernel_rfl) (by kernel_rfl) (by kernel_rfl) (fun g' lr eb ln => c47 g' (p.index : Int) (2 : Int) (by omega))) ?_
                rintro _ g12 _ le13 ⟨_, rfl, A11_0, c11_0, k11_0, rfl, rfl, h11_0⟩
                have fp_data := fp_data.mono le13.r
                have h8_0 := h8_0.mono le13.b
                have L0 := L0.trans le13
                refine wpq_own [k11_0, k8_0, some ⟨b1, 35, [Value.int .i64 (p.base), Value.int .i64 (p.index), Value.int .i64 (p.count), Value.slice Ap_data (p.data).length cp_data]⟩] (by kernel_rfl) ?_
                have nh11_0 := h11_0.len
                have ly11 := lowS_len (p.index : Int) (2 : Int)
                obtain ⟨nw14, hp14, hs14⟩ := h11_0.srcO (g := g12)
                have hz14 : ((lowS (p.base : Int) (8 : Int)) ++ (lowS (p.index : Int) (2 : Int)) : List UInt8).length = ((lowS (p.base : Int) (8 : Int)) : List UInt8).length + ((lowS (p.index : Int) (2 : Int))).length := List.length_append
                refine wpr_eff 5 48 (.call { callee := .builtin .append, args := #[(.tmp 44), (.tmp 47)], argTypes := #[22, 22] }) 22 (Runs.plain (by kernel_rfl)) (by kernel_rfl) (e_appendQ (T := tyU8) (p := g12.b) (et := 5) (bytes := 1) 1 (Value.slice A8_0 ((lowS (p.base : Int) (8 : Int))).length c8_0) (k8_0) ((lowS (p.base : Int) (8 : Int))) A11_0 ((lowS (p.index : Int) (2 : Int))).length c11_0 ((lowS (p.index : Int) (2 : Int))) (by kernel_rfl) (by kernel_rfl) (by kernel_rfl) (by kernel_rfl) h8_0 rfl (fun w hs => hs14 0 w _ hs (by kernel_rfl)) hp14 (by first | omega | (simp only [List.length_nil, List.length_cons, List.length_append] <;> omega)) (by first | omega | (simp only [List.length_nil, List.length_cons, List.length_append] <;> omega))) ?_
                rintro _ _ _ - ⟨A14, c14, k14, rfl, rfl, rfl, hb14⟩
                have nhb14 := hb14.len
                refine wpr_val 6 4 (.assign (.tmp 48)) 22 (Value.slice A14 (((lowS (p.base : Int) (8 : Int)) ++ (lowS (p.index : Int) (2 : Int))) : List UInt8).length c14) (Runs.plain (by kernel_rfl)) (by kernel_rfl) (y_assign (by kernel_rfl)) ?_
                refine wpr_end (by kernel_rfl) ?_
                refine wpq_then ?_
                refine wpq_sub [(1, Value.pointer (some ⟨b1, 0, none⟩)), (4, Value.slice A14 (((lowS (p.base : Int) (8 : Int)) ++ (lowS (p.index : Int) (2 : Int))) : List UInt8).length c14)] (by kernel_rfl) ?_
                refine wpc_seq (x := F25_20) (y := F25_21) (by kernel_rfl) ?_
                refine wpc_region (ops := R25_20) (id := 5) (by kernel_rfl) ?_
                refine wpr_val 1 49 (.move (.tmp 4)) 22 (Value.slice A14 (((lowS (p.base : Int) (8 : Int)) ++ (lowS (p.index : Int) (2 : Int))) : List UInt8).length c14) (Runs.plain (by kernel_rfl)) (by kernel_rfl) (y_move (by kernel_rfl)) ?_
                refine wpr_val 2 50 (.fieldAddr 35 (.tmp 1) 2) 0 (Value.pointer (some ⟨b1, 2, none⟩)) (Runs.plain (by kernel_rfl)) (by kernel_rfl) (y_pure (by kernel_rfl) (fun _ => by kernel_rfl)) ?_
                refine wpr_val 3 51 (.load 3 (.tmp 50)) 3 (Value.int .i64 (p.count)) (Runs.plain (by kernel_rfl)) (by kernel_rfl) (q_load1 b1 2 2 (by kernel_rfl) (by kernel_rfl) (by kernel_rfl)) ?_
                refine wpr_eff 4 52 (.call { callee := .value (.func 47), args := #[(.tmp 51), (.const (Value.int .i64 (2)))], argTypes := #[2, 3] }) 22 (Runs.plain (by kernel_rfl)) (by kernel_rfl) (e_callM (sel := []) [Value.int .i64 (p.count), Value.int .i64 (2)] [] (by kernel_rfl) (by kernel_rfl) (by kernel_rfl) (fun g' lr eb ln => c47 g' (p.count : Int) (2 : Int) (by omega))) ?_
                rintro _ g16 _ le17 ⟨_, rfl, A15_0, c15_0, k15_0, rfl, rfl, h15_0⟩
                have fp_data := fp_data.mono le17.r
                have h11_0 := h11_0.mono le17.b
                have hb14 := hb14.mono le17.b
                have L0 := L0.trans le17
                refine wpq_own [k15_0, k11_0, k14, some ⟨b1, 35, [Value.int .i64 (p.base), Value.int .i64 (p.index), Value.int .i64 (p.count), Value.slice Ap_data (p.data).length cp_data]⟩] (by kernel_rfl) ?_
                have nh15_0 := h15_0.len
                have ly15 := lowS_len (p.count : Int) (2 : Int)
                obtain ⟨nw18, hp18, hs18⟩ := h15_0.srcO (g := g16)
                have hz18 : (((lowS (p.base : Int) (8 : Int)) ++ (lowS (p.index : Int) (2 : Int))) ++ (lowS (p.count : Int) (2 : Int)) : List UInt8).length = (((lowS (p.base : Int) (8 : Int)) ++ (lowS (p.index : Int) (2 : Int))) : List UInt8).length + ((lowS (p.count : Int) (2 : Int))).length := List.length_append
                refine wpr_eff 5 53 (.call { callee := .builtin .append, args := #[(.tmp 49), (.tmp 52)], argTypes := #[22, 22] }) 22 (Runs.plain (by kernel_rfl)) (by kernel_rfl) (e_appendQ (T := tyU8) (p := g16.b) (et := 5) (bytes := 1) 2 (Value.slice A14 (((lowS (p.base : Int) (8 : Int)) ++ (lowS (p.index : Int) (2 : Int))) : List UInt8).length c14) (k14) (((lowS (p.base : Int) (8 : Int)) ++ (lowS (p.index : Int) (2 : Int)))) A15_0 ((lowS (p.count : Int) (2 : Int))).length c15_0 ((lowS (p.count : Int) (2 : Int))) (by kernel_rfl) (by kernel_rfl) (by kernel_rfl) (by kernel_rfl) hb14 rfl (fun w hs => hs18 0 w _ hs (by kernel_rfl)) hp18 (by first | omega | (simp only [List.length_nil, List.length_cons, List.length_append] <;> omega)) (by first | omega | (simp only [List.length_nil, List.length_cons, List.length_append] <;> omega))) ?_
                rintro _ _ _ - ⟨A18, c18, k18, rfl, rfl, rfl, hb18⟩
                have nhb18 := hb18.len
                refine wpr_val 6 4 (.assign (.tmp 53)) 22 (Value.slice A18 ((((lowS (p.base : Int) (8 : Int)) ++ (lowS (p.index : Int) (2 : Int))) ++ (lowS (p.count : Int) (2 : Int))) : List UInt8).length c18) (Runs.plain (by kernel_rfl)) (by kernel_rfl) (y_assign (by kernel_rfl)) ?_
                refine wpr_end (by kernel_rfl) ?_
                refine wpq_then ?_
                refine wpq_sub [(1, Value.pointer (some ⟨b1, 0, none⟩)), (4, Value.slice A18 ((((lowS (p.base : Int) (8 : Int)) ++ (lowS (p.index : Int) (2 : Int))) ++ (lowS (p.count : Int) (2 : Int))) : List UInt8).length c18)] (by kernel_rfl) ?_
                refine wpc_seq (x := F25_23) (y := F25_24) (by kernel_rfl) ?_
                refine wpc_region (ops := R25_23) (id := 6) (by kernel_rfl) ?_
                refine wpr_val 1 54 (.move (.tmp 4)) 22 (Value.slice A18 ((((lowS (p.base : Int) (8 : Int)) ++ (lowS (p.index : Int) (2 : Int))) ++ (lowS (p.count : Int) (2 : Int))) : List UInt8).length c18) (Runs.plain (by kernel_rfl)) (by kernel_rfl) (y_move (by kernel_rfl)) ?_
                refine wpr_val 2 55 (.fieldAddr 35 (.tmp 1) 3) 0 (Value.pointer (some ⟨b1, 3, none⟩)) (Runs.plain (by kernel_rfl)) (by kernel_rfl) (y_pure (by kernel_rfl) (fun _ => by kernel_rfl)) ?_
                refine wpr_val 3 56 (.load 22 (.tmp 55)) 22 (Value.slice Ap_data (p.data).length cp_data) (Runs.plain (by kernel_rfl)) (by kernel_rfl) (q_load1 b1 3 3 (by kernel_rfl) (by kernel_rfl) (by kernel_rfl)) ?_
                obtain ⟨nw19, hp19, hs19⟩ := fp_data.srcR
                have hz19 : ((((lowS (p.base : Int) (8 : Int)) ++ (lowS (p.index : Int) (2 : Int))) ++ (lowS (p.count : Int) (2 : Int))) ++ p.data : List UInt8).length = ((((lowS (p.base : Int) (8 : Int)) ++ (lowS (p.index : Int) (2 : Int))) ++ (lowS (p.count : Int) (2 : Int))) : List UInt8).length + (p.data).length := List.length_append
                refine wpr_eff 4 57 (.call { callee := .builtin .append, args := #[(.tmp 54), (.tmp 56)], argTypes := #[22, 22] }) 22 (Runs.plain (by kernel_rfl)) (by kernel_rfl) (e_appendQ (T := tyU8) (p := g16.b) (et := 5) (bytes := 1) 2 (Value.slice A18 ((((lowS (p.base : Int) (8 : Int)) ++ (lowS (p.index : Int) (2 : Int))) ++ (lowS (p.count : Int) (2 : Int))) : List UInt8).length c18) (k18) ((((lowS (p.base : Int) (8 : Int)) ++ (lowS (p.index : Int) (2 : Int))) ++ (lowS (p.count : Int) (2 : Int)))) Ap_data (p.data).length cp_data (p.data) (by kernel_rfl) (by kernel_rfl) (by kernel_rfl) (by kernel_rfl) hb18 rfl (fun w hs => hs19 w _ hs) (flatU8.reps hp19) (by first | omega | (simp only [List.length_nil, List.length_cons, List.length_append] <;> omega)) (by first | omega | (simp only [List.length_nil, List.length_cons, List.length_append] <;> omega))) ?_
                rintro _ _ _ - ⟨A19, c19, k19, rfl, rfl, rfl, hb19⟩
                have nhb19 := hb19.len
                refine wpr_val 5 2 (.assign (.tmp 57)) 22 (Value.slice A19 (((((lowS (p.base : Int) (8 : Int)) ++ (lowS (p.index : Int) (2 : Int))) ++ (lowS (p.count : Int) (2 : Int))) ++ p.data) : List UInt8).length c19) (Runs.plain (by kernel_rfl)) (by kernel_rfl) (y_assign (by kernel_rfl)) ?_
                refine wpr_val 6 3 (.assign (.const (Value.int .i64 (0)))) 27 (Value.int .i64 (0)) (Runs.plain (by kernel_rfl)) (by kernel_rfl) (y_assign (by kernel_rfl)) ?_
                refine wpr_end (by kernel_rfl) ?_
                refine wpq_then ?_
                refine wpq_sub [(2, Value.slice A19 (((((lowS (p.base : Int) (8 : Int)) ++ (lowS (p.index : Int) (2 : Int))) ++ (lowS (p.count : Int) (2 : Int))) ++ p.data) : List UInt8).length c19), (3, Value.int .i64 (0))] (by kernel_rfl) ?_
                refine wpq_freeze 2 (by kernel_rfl) hb19 (fun g20 le21 f22 => ?_)
                have fp_data := fp_data.mono le21.r
                have h11_0 := h11_0.mono le21.b
                have h15_0 := h15_0.mono le21.b
                have L0 := L0.trans le21
                refine wpc_ret (rs := [.tmp 2, .tmp 3]) [Value.slice A19 (((((lowS (p.base : Int) (8 : Int)) ++ (lowS (p.index : Int) (2 : Int))) ++ (lowS (p.count : Int) (2 : Int))) ++ p.data) : List UInt8).length c19, Value.int .i64 (0)] [] (by kernel_rfl) (fun _ _ h => h) (by kernel_rfl) (res_tmp (by kernel_rfl) (res_tmp (by kernel_rfl) res_nil)) L0 keep0 ?_
                have eS : (rencS p) = ((((((lowS (p.base : Int) (8 : Int)) ++ (lowS (p.index : Int) (2 : Int))) ++ (lowS (p.count : Int) (2 : Int))) ++ p.data) : List UInt8), (0 : Int)) := by
                  unfold rencS
                  rw [h0]
                  rfl
                rw [eS]
                exact ⟨rfl, A19, c19, rfl, f22⟩

noncomputable def F37_0 : Code := sub (Try.f37.body.getD .skip) []
noncomputable def F37_1 : Code := sub (Try.f37.body.getD .skip) [0]
noncomputable def F37_2 : Code := sub (Try.f37.body.getD .skip) [1]
noncomputable def R37_1 : Array Oper := regOf F37_1
noncomputable def F37_4 : Code := sub (Try.f37.body.getD .skip) [1, 0]
noncomputable def F37_5 : Code := sub (Try.f37.body.getD .skip) [1, 1]
noncomputable def R37_4 : Array Oper := regOf F37_4
def rasksS (c : Coll) : Want :=
  (⟨(c.base : Int), ((((c.parts).length : Nat) : Int) : Int)⟩ : Want)
set_option maxRecDepth 100000 in
theorem c37 (g : Gh) (c : Coll) (Ac_parts : Option Addr) (cc_parts : Nat) (Ac_sets : Option Addr) (cc_sets : Nat) (fc_parts : Arr g.r (tyArr tyU8) Ac_parts cc_parts c.parts) (fc_sets : Arr g.r tySett Ac_sets cc_sets c.sets) :
    Ctr0 Try.prog 37 [Value.agg #[Value.int .i64 (c.base), Value.int .i64 (c.count), Value.slice Ac_parts (c.parts).length cc_parts, Value.slice Ac_sets (c.sets).length cc_sets]] g (fun v ψ => v = Value.agg #[Value.int .i64 ((rasksS c).base), Value.int .i64 ((rasksS c).have_)]) := by
  refine ctr_of Try.f37 F37_0 9 [Value.agg #[Value.int .i64 (c.base), Value.int .i64 (c.count), Value.slice Ac_parts (c.parts).length cc_parts, Value.slice Ac_sets (c.sets).length cc_sets]] (by kernel_rfl) (by kernel_rfl) (by kernel_rfl) (by kernel_rfl) ?_
  have L0 := Gh.le.refl g
  have nfc_parts := fc_parts.len
  have nfc_sets := fc_sets.len
  refine wpc_seq (x := F37_1) (y := F37_2) (by kernel_rfl) ?_
  refine wpc_region (ops := R37_1) (id := 0) (by kernel_rfl) ?_
  refine wpr_eff 1 1 (.box 77 (.tmp 0)) 0 (Runs.plain (by kernel_rfl)) (by kernel_rfl) (e_box (v := Value.agg #[Value.int .i64 (c.base), Value.int .i64 (c.count), Value.slice Ac_parts (c.parts).length cc_parts, Value.slice Ac_sets (c.sets).length cc_sets]) (cs := [Value.int .i64 (c.base), Value.int .i64 (c.count), Value.slice Ac_parts (c.parts).length cc_parts, Value.slice Ac_sets (c.sets).length cc_sets]) (by kernel_rfl) (by kernel_rfl)) ?_
  rintro _ _ _ - ⟨b1, rfl, rfl, rfl⟩
  refine wpr_eff 2 2 (.alloc 62) 0 (Runs.plain (by kernel_rfl)) (by kernel_rfl) (e_alloc (cs := [Value.int .i64 (0), Value.int .i64 (0)]) (by kernel_rfl)) ?_
  rintro _ _ _ - ⟨b2, rfl, rfl, rfl⟩
  refine wpr_end (by kernel_rfl) ?_
  refine wpq_then ?_
  refine wpc_seq (x := F37_4) (y := F37_5) (by kernel_rfl) ?_
  refine wpc_region (ops := R37_4) (id := 1) (by kernel_rfl) ?_
  refine wpr_val 1 3 (.fieldAddr 77 (.tmp 1) 0) 0 (Value.pointer (some ⟨b1, 0, none⟩)) (Runs.plain (by kernel_rfl)) (by kernel_rfl) (y_pure (by kernel_rfl) (fun _ => by kernel_rfl)) ?_
  refine wpr_val 2 4 (.load 2 (.tmp 3)) 2 (Value.int .i64 (c.base)) (Runs.plain (by kernel_rfl)) (by kernel_rfl) (q_load1 b1 0 1 (by kernel_rfl) (by kernel_rfl) (by kernel_rfl)) ?_
  refine wpr_val 3 5 (.fieldAddr 77 (.tmp 1) 2) 0 (Value.pointer (some ⟨b1, 2, none⟩)) (Runs.plain (by kernel_rfl)) (by kernel_rfl) (y_pure (by kernel_rfl) (fun _ => by kernel_rfl)) ?_
  refine wpr_val 4 6 (.load 74 (.tmp 5)) 74 (Value.slice Ac_parts (c.parts).length cc_parts) (Runs.plain (by kernel_rfl)) (by kernel_rfl) (q_load1 b1 2 1 (by kernel_rfl) (by kernel_rfl) (by kernel_rfl)) ?_
  refine wpr_val 5 7 (.call { callee := .builtin .len, args := #[(.tmp 6)], argTypes := #[74] }) 3 (Value.int .i64 ((((c.parts).length : Nat) : Int))) (Runs.plain (by kernel_rfl)) (by kernel_rfl) (y_pure (by kernel_rfl) (fun _ => by kernel_rfl)) ?_
  refine wpr_val 6 8 (.build 62 #[(0, (.tmp 4)), (1, (.tmp 7))]) 62 (Value.agg #[Value.int .i64 (c.base), Value.int .i64 ((((c.parts).length : Nat) : Int))]) (Runs.plain (by kernel_rfl)) (by kernel_rfl) (y_pure (by kernel_rfl) (fun _ => by kernel_rfl)) ?_
  refine wpr_do 7 (.store 62 (.tmp 2) (.tmp 8)) 0 (Runs.plain (by kernel_rfl)) (by kernel_rfl) (q_store b2 0 0 (Value.agg #[Value.int .i64 (c.base), Value.int .i64 ((((c.parts).length : Nat) : Int))]) [Value.int .i64 (c.base), Value.int .i64 ((((c.parts).length : Nat) : Int))] 62 [Value.int .i64 (0), Value.int .i64 (0)] [Value.int .i64 (c.base), Value.int .i64 ((((c.parts).length : Nat) : Int))] (by kernel_rfl) (by kernel_rfl) (by kernel_rfl) (by kernel_rfl) (by kernel_rfl) (by kernel_rfl) (by kernel_rfl)) ?_
  rintro _ _ _ - ⟨rfl, rfl⟩
  refine wpr_end (by kernel_rfl) ?_
  refine wpq_then ?_
  refine wpq_sub [(2, Value.pointer (some ⟨b2, 0, none⟩))] (by kernel_rfl) ?_
  refine wpc_ret (rs := [.cell 2 62]) [Value.agg #[Value.int .i64 (c.base), Value.int .i64 ((((c.parts).length : Nat) : Int))]] [] (by kernel_rfl) (fun _ _ h => h) (by kernel_rfl) (rq_cellA b2 0 0 [Value.int .i64 (c.base), Value.int .i64 ((((c.parts).length : Nat) : Int))] (by kernel_rfl) (by kernel_rfl) (by kernel_rfl) res_nil) L0 keep0 ?_
  have eS : (rasksS c) = (⟨(c.base : Int), ((((c.parts).length : Nat) : Int) : Int)⟩ : Want) := by
    unfold rasksS
    rfl
  rw [eS]
  exact ⟨rfl, rfl⟩

noncomputable def F38_0 : Code := sub (Try.f38.body.getD .skip) []
noncomputable def F38_1 : Code := sub (Try.f38.body.getD .skip) [0]
noncomputable def F38_2 : Code := sub (Try.f38.body.getD .skip) [1]
noncomputable def R38_1 : Array Oper := regOf F38_1
noncomputable def F38_4 : Code := sub (Try.f38.body.getD .skip) [1, 0]
noncomputable def F38_5 : Code := sub (Try.f38.body.getD .skip) [1, 1]
noncomputable def F38_6 : Code := sub (Try.f38.body.getD .skip) [1, 0, 0]
noncomputable def F38_7 : Code := sub (Try.f38.body.getD .skip) [1, 0, 1]
noncomputable def R38_6 : Array Oper := regOf F38_6
noncomputable def F38_9 : Code := sub (Try.f38.body.getD .skip) [1, 0, 1, 0]
noncomputable def F38_10 : Code := sub (Try.f38.body.getD .skip) [1, 0, 1, 1]
noncomputable def F38_11 : Code := sub (Try.f38.body.getD .skip) [1, 1, 0]
noncomputable def F38_12 : Code := sub (Try.f38.body.getD .skip) [1, 1, 1]
noncomputable def R38_11 : Array Oper := regOf F38_11
def wantS (c : Coll) : Want :=
  (⟨(c.base : Int), ((((c.parts).length : Nat) : Int) : Int)⟩ : Want)
set_option maxRecDepth 100000 in
theorem c38 (g : Gh) (a_c : Addr) (c : Coll) (Ac_parts : Option Addr) (cc_parts : Nat) (Ac_sets : Option Addr) (cc_sets : Nat) (hc_c : Cells g.r a_c [Value.int .i64 (c.base), Value.int .i64 (c.count), Value.slice Ac_parts (c.parts).length cc_parts, Value.slice Ac_sets (c.sets).length cc_sets]) (fc_parts : ArrM g.r g.b (tyArr tyU8) Ac_parts cc_parts c.parts) (fc_sets : ArrM g.r g.b tySett Ac_sets cc_sets c.sets) :
    Ctr0 Try.prog 38 [Value.pointer (some a_c)] g (fun v ψ => v = Value.agg #[Value.int .i64 ((wantS c).base), Value.int .i64 ((wantS c).have_)]) := by
  refine ctr_of Try.f38 F38_0 16 [Value.pointer (some a_c)] (by kernel_rfl) (by kernel_rfl) (by kernel_rfl) (by kernel_rfl) ?_
  have L0 := Gh.le.refl g
  have nfc_parts := fc_parts.len
  have nfc_sets := fc_sets.len
  refine wpc_seq (x := F38_1) (y := F38_2) (by kernel_rfl) ?_
  refine wpc_region (ops := R38_1) (id := 0) (by kernel_rfl) ?_
  refine wpr_eff 1 2 (.alloc 55) 0 (Runs.plain (by kernel_rfl)) (by kernel_rfl) (e_alloc (cs := [Value.int .i64 (0), Value.int .i64 (0)]) (by kernel_rfl)) ?_
  rintro _ _ _ - ⟨b1, rfl, rfl, rfl⟩
  refine wpr_end (by kernel_rfl) ?_
  refine wpq_then ?_
  refine wpc_seq (x := F38_4) (y := F38_5) (by kernel_rfl) ?_
  refine wpc_seq (x := F38_6) (y := F38_7) (by kernel_rfl) ?_
  refine wpc_region (ops := R38_6) (id := 1) (by kernel_rfl) ?_
  refine wpr_val 1 3 (.move (.tmp 0)) 72 (Value.pointer (some a_c)) (Runs.plain (by kernel_rfl)) (by kernel_rfl) (y_move (by kernel_rfl)) ?_
  refine wpr_val 2 4 (.binOp .eql 72 (.tmp 3) (.const (Value.pointer none)) 72) 4 (Value.bool (false)) (Runs.plain (by kernel_rfl)) (by kernel_rfl) (y_pure (by kernel_rfl) (fun _ => by kernel_rfl)) ?_
  refine wpr_end (by kernel_rfl) ?_
  refine wpq_then ?_
  refine wpc_false (x := F38_9) (y := F38_10) (o := (.tmp 4)) (by kernel_rfl) (by kernel_rfl) ?_
  refine wpc_skip (by kernel_rfl) ?_
  refine wpq_then ?_
  refine wpc_seq (x := F38_11) (y := F38_12) (by kernel_rfl) ?_
  refine wpa_start (ops := R38_11) (id := 3) (by kernel_rfl) (by kernel_rfl) [3, 7] [10] [] (by kernel_rfl) (by kernel_rfl) (fun _ _ _ _ _ h => h) 11 (by kernel_rfl) (fun RG => ?_)
  have lp := Psi.le.refl g.r
  refine wpa_take0 0 [true, false, false, false, false, false, false, false, false, false, false] 6 (.move (.tmp 0)) 72 (Value.pointer (some a_c)) RG (Runs.plain (by kernel_rfl)) (by kernel_rfl) (by kernel_rfl) (fun _ => (y_move (by kernel_rfl))) ?_
  refine wpa_take0 1 [true, true, false, false, false, false, false, false, false, false, false] 7 (.nilCheck (.tmp 6)) 0 (Value.pointer (some a_c)) RG (Runs.plain (by kernel_rfl)) (by kernel_rfl) (by kernel_rfl) (fun _ => (y_pure (by kernel_rfl) (fun _ => by kernel_rfl))) ?_
  refine wpa_take0 2 [true, true, true, false, false, false, false, false, false, false, false] 8 (.fieldAddr 114 (.tmp 7) 0) 0 (Value.pointer (some a_c)) RG (Runs.plain (by kernel_rfl)) (by kernel_rfl) (by kernel_rfl) (fun _ => (y_pure (by kernel_rfl) (fun _ => by kernel_rfl))) ?_
  refine wpa_take 3 [true, true, true, true, false, false, false, false, false, false, false] 9 (.load 2 (.tmp 8)) 2 (Value.int .i64 (c.base)) RG (Runs.plain (by kernel_rfl)) (by kernel_rfl) (by kernel_rfl) lp (keepK_P [] (by kernel_rfl)) (q_loadP1 a_c 0 (by kernel_rfl) hc_c (by kernel_rfl) (by kernel_rfl)) ?_
  refine wpa_take0 4 [true, true, true, true, true, false, false, false, false, false, false] 10 (.move (.tmp 0)) 72 (Value.pointer (some a_c)) RG (Runs.plain (by kernel_rfl)) (by kernel_rfl) (by kernel_rfl) (fun _ => (y_move (by kernel_rfl))) ?_
  refine wpa_take0 5 [true, true, true, true, true, true, false, false, false, false, false] 11 (.nilCheck (.tmp 10)) 0 (Value.pointer (some a_c)) RG (Runs.plain (by kernel_rfl)) (by kernel_rfl) (by kernel_rfl) (fun _ => (y_pure (by kernel_rfl) (fun _ => by kernel_rfl))) ?_
  refine wpa_take0 6 [true, true, true, true, true, true, true, false, false, false, false] 12 (.fieldAddr 114 (.tmp 11) 2) 0 (Value.pointer (some (Addr.add a_c 2))) RG (Runs.plain (by kernel_rfl)) (by kernel_rfl) (by kernel_rfl) (fun _ => (y_pure (by kernel_rfl) (fun _ => by kernel_rfl))) ?_
  refine wpa_take 7 [true, true, true, true, true, true, true, true, false, false, false] 13 (.load 74 (.tmp 12)) 74 (Value.slice Ac_parts (c.parts).length cc_parts) RG (Runs.plain (by kernel_rfl)) (by kernel_rfl) (by kernel_rfl) lp (keepK_P [] (by kernel_rfl)) (q_loadP1 a_c 2 (by kernel_rfl) hc_c (by kernel_rfl) (by kernel_rfl)) ?_
  refine wpa_take0 8 [true, true, true, true, true, true, true, true, true, false, false] 14 (.call { callee := .builtin .len, args := #[(.tmp 13)], argTypes := #[74] }) 3 (Value.int .i64 ((((c.parts).length : Nat) : Int))) RG (Runs.plain (by kernel_rfl)) (by kernel_rfl) (by kernel_rfl) (fun _ => (y_pure (by kernel_rfl) (fun _ => by kernel_rfl))) ?_
  refine wpa_take0 9 [true, true, true, true, true, true, true, true, true, true, false] 15 (.build 55 #[(0, (.tmp 9)), (1, (.tmp 14))]) 55 (Value.agg #[Value.int .i64 (c.base), Value.int .i64 ((((c.parts).length : Nat) : Int))]) RG (Runs.plain (by kernel_rfl)) (by kernel_rfl) (by kernel_rfl) (fun _ => (y_pure (by kernel_rfl) (fun _ => by kernel_rfl))) ?_
  refine wpa_one 10 (by kernel_rfl) ?_
  refine wpi_do [true, true, true, true, true, true, true, true, true, true, true] (.store 55 (.tmp 2) (.tmp 15)) 0 (Runs.plain (by kernel_rfl)) lp (q_store b1 0 0 (Value.agg #[Value.int .i64 (c.base), Value.int .i64 ((((c.parts).length : Nat) : Int))]) [Value.int .i64 (c.base), Value.int .i64 ((((c.parts).length : Nat) : Int))] 55 [Value.int .i64 (0), Value.int .i64 (0)] [Value.int .i64 (c.base), Value.int .i64 ((((c.parts).length : Nat) : Int))] (by kernel_rfl) (by kernel_rfl) (by kernel_rfl) (by kernel_rfl) (by kernel_rfl) (by kernel_rfl) (by kernel_rfl)) (by kernel_rfl) ?_
  rintro _ _ _ - ⟨rfl, rfl⟩
  refine ⟨.inl (by kernel_rfl), ?_⟩
  refine wpa_done (by kernel_rfl) ?_
  refine wpq_then ?_
  refine wpq_sub [(2, Value.pointer (some ⟨b1, 0, none⟩))] (by kernel_rfl) ?_
  refine wpc_ret (rs := [.cell 2 55]) [Value.agg #[Value.int .i64 (c.base), Value.int .i64 ((((c.parts).length : Nat) : Int))]] [] (by kernel_rfl) (fun _ _ h => h) (by kernel_rfl) (rq_cellA b1 0 0 [Value.int .i64 (c.base), Value.int .i64 ((((c.parts).length : Nat) : Int))] (by kernel_rfl) (by kernel_rfl) (by kernel_rfl) res_nil) L0 keep0 ?_
  have eS : (wantS c) = (⟨(c.base : Int), ((((c.parts).length : Nat) : Int) : Int)⟩ : Want) := by
    unfold wantS
    rfl
  rw [eS]
  exact ⟨rfl, rfl⟩

noncomputable def F51_0 : Code := sub (Try.f51.body.getD .skip) []
noncomputable def F51_1 : Code := sub (Try.f51.body.getD .skip) [0]
noncomputable def F51_2 : Code := sub (Try.f51.body.getD .skip) [1]
noncomputable def R51_1 : Array Oper := regOf F51_1
noncomputable def F51_4 : Code := sub (Try.f51.body.getD .skip) [1, 0]
noncomputable def F51_5 : Code := sub (Try.f51.body.getD .skip) [1, 1]
noncomputable def R51_4 : Array Oper := regOf F51_4
def sameSetS (a : Sett) (b : Sett) : Bool :=
  (((((a.steps == b.steps) && (a.cycle == b.cycle)) && (a.fresh == b.fresh)) && (a.in_ == b.in_)))
set_option maxRecDepth 100000 in
theorem c51 (g : Gh) (a : Sett) (Aa_in_ : Option Addr) (ca_in_ : Nat) (b : Sett) (Ab_in_ : Option Addr) (cb_in_ : Nat) (fa_in_ : Arr g.r tyU8 Aa_in_ ca_in_ a.in_) (fb_in_ : Arr g.r tyU8 Ab_in_ cb_in_ b.in_) :
    Ctr0 Try.prog 51 [Value.agg #[Value.int .i64 (a.steps), Value.int .i64 (a.cycle), Value.bool (a.fresh), Value.slice Aa_in_ (a.in_).length ca_in_], Value.agg #[Value.int .i64 (b.steps), Value.int .i64 (b.cycle), Value.bool (b.fresh), Value.slice Ab_in_ (b.in_).length cb_in_]] g (fun v ψ => v = Value.bool ((sameSetS a b))) := by
  refine ctr_of Try.f51 F51_0 33 [Value.agg #[Value.int .i64 (a.steps), Value.int .i64 (a.cycle), Value.bool (a.fresh), Value.slice Aa_in_ (a.in_).length ca_in_], Value.agg #[Value.int .i64 (b.steps), Value.int .i64 (b.cycle), Value.bool (b.fresh), Value.slice Ab_in_ (b.in_).length cb_in_]] (by kernel_rfl) (by kernel_rfl) (by kernel_rfl) (by kernel_rfl) ?_
  have L0 := Gh.le.refl g
  have nfa_in_ := fa_in_.len
  have nfb_in_ := fb_in_.len
  refine wpc_seq (x := F51_1) (y := F51_2) (by kernel_rfl) ?_
  refine wpc_region (ops := R51_1) (id := 0) (by kernel_rfl) ?_
  refine wpr_eff 1 2 (.box 86 (.tmp 0)) 0 (Runs.plain (by kernel_rfl)) (by kernel_rfl) (e_box (v := Value.agg #[Value.int .i64 (a.steps), Value.int .i64 (a.cycle), Value.bool (a.fresh), Value.slice Aa_in_ (a.in_).length ca_in_]) (cs := [Value.int .i64 (a.steps), Value.int .i64 (a.cycle), Value.bool (a.fresh), Value.slice Aa_in_ (a.in_).length ca_in_]) (by kernel_rfl) (by kernel_rfl)) ?_
  rintro _ _ _ - ⟨b1, rfl, rfl, rfl⟩
  refine wpr_eff 2 3 (.box 86 (.tmp 1)) 0 (Runs.plain (by kernel_rfl)) (by kernel_rfl) (e_box (v := Value.agg #[Value.int .i64 (b.steps), Value.int .i64 (b.cycle), Value.bool (b.fresh), Value.slice Ab_in_ (b.in_).length cb_in_]) (cs := [Value.int .i64 (b.steps), Value.int .i64 (b.cycle), Value.bool (b.fresh), Value.slice Ab_in_ (b.in_).length cb_in_]) (by kernel_rfl) (by kernel_rfl)) ?_
  rintro _ _ _ - ⟨b2, rfl, rfl, rfl⟩
  refine wpr_val 3 4 (.assign (.const (Value.bool (false)))) 4 (Value.bool (false)) (Runs.plain (by kernel_rfl)) (by kernel_rfl) (y_assign (by kernel_rfl)) ?_
  refine wpr_end (by kernel_rfl) ?_
  refine wpq_then ?_
  refine wpc_seq (x := F51_4) (y := F51_5) (by kernel_rfl) ?_
  refine wpc_region (ops := R51_4) (id := 1) (by kernel_rfl) ?_
  refine wpr_val 1 5 (.fieldAddr 86 (.tmp 2) 0) 0 (Value.pointer (some ⟨b1, 0, none⟩)) (Runs.plain (by kernel_rfl)) (by kernel_rfl) (y_pure (by kernel_rfl) (fun _ => by kernel_rfl)) ?_
  refine wpr_val 2 6 (.load 2 (.tmp 5)) 2 (Value.int .i64 (a.steps)) (Runs.plain (by kernel_rfl)) (by kernel_rfl) (q_load1 b1 0 1 (by kernel_rfl) (by kernel_rfl) (by kernel_rfl)) ?_
  refine wpr_val 3 7 (.fieldAddr 86 (.tmp 3) 0) 0 (Value.pointer (some ⟨b2, 0, none⟩)) (Runs.plain (by kernel_rfl)) (by kernel_rfl) (y_pure (by kernel_rfl) (fun _ => by kernel_rfl)) ?_
  refine wpr_val 4 8 (.load 2 (.tmp 7)) 2 (Value.int .i64 (b.steps)) (Runs.plain (by kernel_rfl)) (by kernel_rfl) (q_load1 b2 0 0 (by kernel_rfl) (by kernel_rfl) (by kernel_rfl)) ?_
  refine wpr_val 5 9 (.binOp .eql 2 (.tmp 6) (.tmp 8) 2) 4 (Value.bool ((a.steps == b.steps))) (Runs.plain (by kernel_rfl)) (by kernel_rfl) (y_pure (by kernel_rfl) (fun _ => by kernel_rfl)) ?_
  refine wpr_val 6 10 (.move (.tmp 9)) 4 (Value.bool ((a.steps == b.steps))) (Runs.plain (by kernel_rfl)) (by kernel_rfl) (y_move (by kernel_rfl)) ?_
  refine wpr_grp 12 [(2, Value.pointer (some ⟨b1, 0, none⟩)), (3, Value.pointer (some ⟨b2, 0, none⟩)), (4, Value.bool (false)), (16, Value.bool (((a.steps == b.steps) && (a.cycle == b.cycle))))] (fun hk5 => ?_) ?_
  · refine wpq_split 10 (b := (a.steps == b.steps)) (by kernel_rfl) (fun q3 => ?_) (fun q3 => ?_)
    · have q3p : a.steps = b.steps := eq_of_beq q3
      refine wpr_val 7 11 (.fieldAddr 86 (.tmp 2) 1) 0 (Value.pointer (some ⟨b1, 1, none⟩)) (Runs.guarded (j := 5) (t := 10) (b := true) (by kernel_rfl) (by kernel_rfl) (by kernel_rfl)) (by kernel_rfl) (y_pure (by kernel_rfl) (fun _ => by kernel_rfl)) ?_
      refine wpr_val 8 12 (.load 2 (.tmp 11)) 2 (Value.int .i64 (a.cycle)) (Runs.guarded (j := 5) (t := 10) (b := true) (by kernel_rfl) (by kernel_rfl) (by kernel_rfl)) (by kernel_rfl) (q_load1 b1 1 1 (by kernel_rfl) (by kernel_rfl) (by kernel_rfl)) ?_
      refine wpr_val 9 13 (.fieldAddr 86 (.tmp 3) 1) 0 (Value.pointer (some ⟨b2, 1, none⟩)) (Runs.guarded (j := 5) (t := 10) (b := true) (by kernel_rfl) (by kernel_rfl) (by kernel_rfl)) (by kernel_rfl) (y_pure (by kernel_rfl) (fun _ => by kernel_rfl)) ?_
      refine wpr_val 10 14 (.load 2 (.tmp 13)) 2 (Value.int .i64 (b.cycle)) (Runs.guarded (j := 5) (t := 10) (b := true) (by kernel_rfl) (by kernel_rfl) (by kernel_rfl)) (by kernel_rfl) (q_load1 b2 1 0 (by kernel_rfl) (by kernel_rfl) (by kernel_rfl)) ?_
      refine wpr_val 11 15 (.binOp .eql 2 (.tmp 12) (.tmp 14) 2) 4 (Value.bool ((a.cycle == b.cycle))) (Runs.guarded (j := 5) (t := 10) (b := true) (by kernel_rfl) (by kernel_rfl) (by kernel_rfl)) (by kernel_rfl) (y_pure (by kernel_rfl) (fun _ => by kernel_rfl)) ?_
      refine wpr_val 12 16 (.pick (.tmp 10) (.tmp 15) (.const (Value.bool (false)))) 4 (Value.bool ((a.cycle == b.cycle))) (Runs.plain (by kernel_rfl)) (by kernel_rfl) (y_pickT (by kernel_rfl) (by kernel_rfl)) ?_
      refine wpq_re 16 (v := Value.bool ((a.cycle == b.cycle))) (Value.bool (((a.steps == b.steps) && (a.cycle == b.cycle)))) (by kernel_rfl) (re_and1 q3) ?_
      exact wpq_sub _ (by kernel_rfl) hk5
    · have q3p : ¬ (a.steps = b.steps) := ne_of_beq_false_ q3
      refine wpr_skip 7 11 (Skips.mk' (j := 5) (t := 10) (b := true) (by kernel_rfl) (by kernel_rfl) (by kernel_rfl)) (by kernel_rfl) ?_
      refine wpr_skip 8 12 (Skips.mk' (j := 5) (t := 10) (b := true) (by kernel_rfl) (by kernel_rfl) (by kernel_rfl)) (by kernel_rfl) ?_
      refine wpr_skip 9 13 (Skips.mk' (j := 5) (t := 10) (b := true) (by kernel_rfl) (by kernel_rfl) (by kernel_rfl)) (by kernel_rfl) ?_
      refine wpr_skip 10 14 (Skips.mk' (j := 5) (t := 10) (b := true) (by kernel_rfl) (by kernel_rfl) (by kernel_rfl)) (by kernel_rfl) ?_
      refine wpr_skip 11 15 (Skips.mk' (j := 5) (t := 10) (b := true) (by kernel_rfl) (by kernel_rfl) (by kernel_rfl)) (by kernel_rfl) ?_
      refine wpr_val 12 16 (.pick (.tmp 10) (.tmp 15) (.const (Value.bool (false)))) 4 (Value.bool (false)) (Runs.plain (by kernel_rfl)) (by kernel_rfl) (y_pickF (by kernel_rfl) (by kernel_rfl)) ?_
      refine wpq_re 16 (v := Value.bool (false)) (Value.bool (((a.steps == b.steps) && (a.cycle == b.cycle)))) (by kernel_rfl) (re_and0 q3) ?_
      exact wpq_sub _ (by kernel_rfl) hk5
  · refine wpr_val 13 17 (.move (.tmp 16)) 4 (Value.bool (((a.steps == b.steps) && (a.cycle == b.cycle)))) (Runs.plain (by kernel_rfl)) (by kernel_rfl) (y_move (by kernel_rfl)) ?_
    refine wpr_grp 19 [(2, Value.pointer (some ⟨b1, 0, none⟩)), (3, Value.pointer (some ⟨b2, 0, none⟩)), (4, Value.bool (false)), (23, Value.bool ((((a.steps == b.steps) && (a.cycle == b.cycle)) && (a.fresh == b.fresh))))] (fun hk12 => ?_) ?_
    · refine wpq_split 17 (b := ((a.steps == b.steps) && (a.cycle == b.cycle))) (by kernel_rfl) (fun q4 => ?_) (fun q4 => ?_)
      · have q4l := (and_true_ q4).1
        have q4r := (and_true_ q4).2
        have q4lp : a.steps = b.steps := eq_of_beq q4l
        have q4rp : a.cycle = b.cycle := eq_of_beq q4r
        refine wpr_val 14 18 (.fieldAddr 86 (.tmp 2) 2) 0 (Value.pointer (some ⟨b1, 2, none⟩)) (Runs.guarded (j := 12) (t := 17) (b := true) (by kernel_rfl) (by kernel_rfl) (by kernel_rfl)) (by kernel_rfl) (y_pure (by kernel_rfl) (fun _ => by kernel_rfl)) ?_
        refine wpr_val 15 19 (.load 4 (.tmp 18)) 4 (Value.bool (a.fresh)) (Runs.guarded (j := 12) (t := 17) (b := true) (by kernel_rfl) (by kernel_rfl) (by kernel_rfl)) (by kernel_rfl) (q_load1 b1 2 1 (by kernel_rfl) (by kernel_rfl) (by kernel_rfl)) ?_
        refine wpr_val 16 20 (.fieldAddr 86 (.tmp 3) 2) 0 (Value.pointer (some ⟨b2, 2, none⟩)) (Runs.guarded (j := 12) (t := 17) (b := true) (by kernel_rfl) (by kernel_rfl) (by kernel_rfl)) (by kernel_rfl) (y_pure (by kernel_rfl) (fun _ => by kernel_rfl)) ?_
        refine wpr_val 17 21 (.load 4 (.tmp 20)) 4 (Value.bool (b.fresh)) (Runs.guarded (j := 12) (t := 17) (b := true) (by kernel_rfl) (by kernel_rfl) (by kernel_rfl)) (by kernel_rfl) (q_load1 b2 2 0 (by kernel_rfl) (by kernel_rfl) (by kernel_rfl)) ?_
        refine wpr_val 18 22 (.binOp .eql 4 (.tmp 19) (.tmp 21) 4) 4 (Value.bool ((a.fresh == b.fresh))) (Runs.guarded (j := 12) (t := 17) (b := true) (by kernel_rfl) (by kernel_rfl) (by kernel_rfl)) (by kernel_rfl) (y_pure (by kernel_rfl) (fun _ => by kernel_rfl)) ?_
        refine wpr_val 19 23 (.pick (.tmp 17) (.tmp 22) (.const (Value.bool (false)))) 4 (Value.bool ((a.fresh == b.fresh))) (Runs.plain (by kernel_rfl)) (by kernel_rfl) (y_pickT (by kernel_rfl) (by kernel_rfl)) ?_
        refine wpq_re 23 (v := Value.bool ((a.fresh == b.fresh))) (Value.bool ((((a.steps == b.steps) && (a.cycle == b.cycle)) && (a.fresh == b.fresh)))) (by kernel_rfl) (re_and1 q4) ?_
        exact wpq_sub _ (by kernel_rfl) hk12
      · refine wpr_skip 14 18 (Skips.mk' (j := 12) (t := 17) (b := true) (by kernel_rfl) (by kernel_rfl) (by kernel_rfl)) (by kernel_rfl) ?_
        refine wpr_skip 15 19 (Skips.mk' (j := 12) (t := 17) (b := true) (by kernel_rfl) (by kernel_rfl) (by kernel_rfl)) (by kernel_rfl) ?_
        refine wpr_skip 16 20 (Skips.mk' (j := 12) (t := 17) (b := true) (by kernel_rfl) (by kernel_rfl) (by kernel_rfl)) (by kernel_rfl) ?_
        refine wpr_skip 17 21 (Skips.mk' (j := 12) (t := 17) (b := true) (by kernel_rfl) (by kernel_rfl) (by kernel_rfl)) (by kernel_rfl) ?_
        refine wpr_skip 18 22 (Skips.mk' (j := 12) (t := 17) (b := true) (by kernel_rfl) (by kernel_rfl) (by kernel_rfl)) (by kernel_rfl) ?_
        refine wpr_val 19 23 (.pick (.tmp 17) (.tmp 22) (.const (Value.bool (false)))) 4 (Value.bool (false)) (Runs.plain (by kernel_rfl)) (by kernel_rfl) (y_pickF (by kernel_rfl) (by kernel_rfl)) ?_
        refine wpq_re 23 (v := Value.bool (false)) (Value.bool ((((a.steps == b.steps) && (a.cycle == b.cycle)) && (a.fresh == b.fresh)))) (by kernel_rfl) (re_and0 q4) ?_
        exact wpq_sub _ (by kernel_rfl) hk12
    · refine wpr_val 20 24 (.move (.tmp 23)) 4 (Value.bool ((((a.steps == b.steps) && (a.cycle == b.cycle)) && (a.fresh == b.fresh)))) (Runs.plain (by kernel_rfl)) (by kernel_rfl) (y_move (by kernel_rfl)) ?_
      refine wpr_grp 28 [(4, Value.bool (false)), (32, Value.bool (((((a.steps == b.steps) && (a.cycle == b.cycle)) && (a.fresh == b.fresh)) && (a.in_ == b.in_))))] (fun hk19 => ?_) ?_
      · refine wpq_split 24 (b := (((a.steps == b.steps) && (a.cycle == b.cycle)) && (a.fresh == b.fresh))) (by kernel_rfl) (fun q5 => ?_) (fun q5 => ?_)
        · have q5l := (and_true_ q5).1
          have q5r := (and_true_ q5).2
          have q5ll := (and_true_ q5l).1
          have q5lr := (and_true_ q5l).2
          have q5llp : a.steps = b.steps := eq_of_beq q5ll
          have q5lrp : a.cycle = b.cycle := eq_of_beq q5lr
          have q5rp : a.fresh = b.fresh := eq_of_beq q5r
          refine wpr_val 21 25 (.fieldAddr 86 (.tmp 2) 3) 0 (Value.pointer (some ⟨b1, 3, none⟩)) (Runs.guarded (j := 19) (t := 24) (b := true) (by kernel_rfl) (by kernel_rfl) (by kernel_rfl)) (by kernel_rfl) (y_pure (by kernel_rfl) (fun _ => by kernel_rfl)) ?_
          refine wpr_val 22 26 (.load 22 (.tmp 25)) 22 (Value.slice Aa_in_ (a.in_).length ca_in_) (Runs.guarded (j := 19) (t := 24) (b := true) (by kernel_rfl) (by kernel_rfl) (by kernel_rfl)) (by kernel_rfl) (q_load1 b1 3 1 (by kernel_rfl) (by kernel_rfl) (by kernel_rfl)) ?_
          refine wpr_val 23 27 (.convert 22 9 (.tmp 26)) 9 (Value.string (mkS (a.in_))) (Runs.guarded (j := 19) (t := 24) (b := true) (by kernel_rfl) (by kernel_rfl) (by kernel_rfl)) (by kernel_rfl) (y_str (e := 5) (by kernel_rfl) fa_in_ (by kernel_rfl) (by kernel_rfl) (by kernel_rfl)) ?_
          refine wpr_val 24 28 (.fieldAddr 86 (.tmp 3) 3) 0 (Value.pointer (some ⟨b2, 3, none⟩)) (Runs.guarded (j := 19) (t := 24) (b := true) (by kernel_rfl) (by kernel_rfl) (by kernel_rfl)) (by kernel_rfl) (y_pure (by kernel_rfl) (fun _ => by kernel_rfl)) ?_
          refine wpr_val 25 29 (.load 22 (.tmp 28)) 22 (Value.slice Ab_in_ (b.in_).length cb_in_) (Runs.guarded (j := 19) (t := 24) (b := true) (by kernel_rfl) (by kernel_rfl) (by kernel_rfl)) (by kernel_rfl) (q_load1 b2 3 0 (by kernel_rfl) (by kernel_rfl) (by kernel_rfl)) ?_
          refine wpr_val 26 30 (.convert 22 9 (.tmp 29)) 9 (Value.string (mkS (b.in_))) (Runs.guarded (j := 19) (t := 24) (b := true) (by kernel_rfl) (by kernel_rfl) (by kernel_rfl)) (by kernel_rfl) (y_str (e := 5) (by kernel_rfl) fb_in_ (by kernel_rfl) (by kernel_rfl) (by kernel_rfl)) ?_
          refine wpr_val 27 31 (.binOp .eql 9 (.tmp 27) (.tmp 30) 9) 4 (Value.bool ((a.in_ == b.in_))) (Runs.guarded (j := 19) (t := 24) (b := true) (by kernel_rfl) (by kernel_rfl) (by kernel_rfl)) (by kernel_rfl) (y_eqS (by kernel_rfl) (by kernel_rfl)) ?_
          refine wpr_val 28 32 (.pick (.tmp 24) (.tmp 31) (.const (Value.bool (false)))) 4 (Value.bool ((a.in_ == b.in_))) (Runs.plain (by kernel_rfl)) (by kernel_rfl) (y_pickT (by kernel_rfl) (by kernel_rfl)) ?_
          refine wpq_re 32 (v := Value.bool ((a.in_ == b.in_))) (Value.bool (((((a.steps == b.steps) && (a.cycle == b.cycle)) && (a.fresh == b.fresh)) && (a.in_ == b.in_)))) (by kernel_rfl) (re_and1 q5) ?_
          exact wpq_sub _ (by kernel_rfl) hk19
        · refine wpr_skip 21 25 (Skips.mk' (j := 19) (t := 24) (b := true) (by kernel_rfl) (by kernel_rfl) (by kernel_rfl)) (by kernel_rfl) ?_
          refine wpr_skip 22 26 (Skips.mk' (j := 19) (t := 24) (b := true) (by kernel_rfl) (by kernel_rfl) (by kernel_rfl)) (by kernel_rfl) ?_
          refine wpr_skip 23 27 (Skips.mk' (j := 19) (t := 24) (b := true) (by kernel_rfl) (by kernel_rfl) (by kernel_rfl)) (by kernel_rfl) ?_
          refine wpr_skip 24 28 (Skips.mk' (j := 19) (t := 24) (b := true) (by kernel_rfl) (by kernel_rfl) (by kernel_rfl)) (by kernel_rfl) ?_
          refine wpr_skip 25 29 (Skips.mk' (j := 19) (t := 24) (b := true) (by kernel_rfl) (by kernel_rfl) (by kernel_rfl)) (by kernel_rfl) ?_
          refine wpr_skip 26 30 (Skips.mk' (j := 19) (t := 24) (b := true) (by kernel_rfl) (by kernel_rfl) (by kernel_rfl)) (by kernel_rfl) ?_
          refine wpr_skip 27 31 (Skips.mk' (j := 19) (t := 24) (b := true) (by kernel_rfl) (by kernel_rfl) (by kernel_rfl)) (by kernel_rfl) ?_
          refine wpr_val 28 32 (.pick (.tmp 24) (.tmp 31) (.const (Value.bool (false)))) 4 (Value.bool (false)) (Runs.plain (by kernel_rfl)) (by kernel_rfl) (y_pickF (by kernel_rfl) (by kernel_rfl)) ?_
          refine wpq_re 32 (v := Value.bool (false)) (Value.bool (((((a.steps == b.steps) && (a.cycle == b.cycle)) && (a.fresh == b.fresh)) && (a.in_ == b.in_)))) (by kernel_rfl) (re_and0 q5) ?_
          exact wpq_sub _ (by kernel_rfl) hk19
      · refine wpr_val 29 4 (.assign (.tmp 32)) 4 (Value.bool (((((a.steps == b.steps) && (a.cycle == b.cycle)) && (a.fresh == b.fresh)) && (a.in_ == b.in_)))) (Runs.plain (by kernel_rfl)) (by kernel_rfl) (y_assign (by kernel_rfl)) ?_
        refine wpr_end (by kernel_rfl) ?_
        refine wpq_then ?_
        refine wpc_ret (rs := [.tmp 4]) [Value.bool (((((a.steps == b.steps) && (a.cycle == b.cycle)) && (a.fresh == b.fresh)) && (a.in_ == b.in_)))] [] (by kernel_rfl) (fun _ _ h => h) (by kernel_rfl) (res_tmp (by kernel_rfl) res_nil) L0 keep0 ?_
        have eS : (sameSetS a b) = (((((a.steps == b.steps) && (a.cycle == b.cycle)) && (a.fresh == b.fresh)) && (a.in_ == b.in_))) := by
          unfold sameSetS
          rfl
        rw [eS]
        exact ⟨rfl, rfl⟩
theorem sameSetS_refl (x : Sett) : sameSetS x x = true := by simp [sameSetS]

noncomputable def F54_0 : Code := sub (Try.f54.body.getD .skip) []
noncomputable def F54_1 : Code := sub (Try.f54.body.getD .skip) [0]
noncomputable def F54_2 : Code := sub (Try.f54.body.getD .skip) [1]
noncomputable def R54_1 : Array Oper := regOf F54_1
noncomputable def F54_4 : Code := sub (Try.f54.body.getD .skip) [1, 0]
noncomputable def F54_5 : Code := sub (Try.f54.body.getD .skip) [1, 1]
noncomputable def F54_6 : Code := sub (Try.f54.body.getD .skip) [1, 0, 0]
noncomputable def F54_7 : Code := sub (Try.f54.body.getD .skip) [1, 0, 1]
noncomputable def R54_6 : Array Oper := regOf F54_6
noncomputable def F54_9 : Code := sub (Try.f54.body.getD .skip) [1, 0, 1, 0]
noncomputable def F54_10 : Code := sub (Try.f54.body.getD .skip) [1, 0, 1, 1]
noncomputable def F54_11 : Code := sub (Try.f54.body.getD .skip) [1, 1, 0]
noncomputable def F54_12 : Code := sub (Try.f54.body.getD .skip) [1, 1, 1]
noncomputable def F54_13 : Code := sub (Try.f54.body.getD .skip) [1, 1, 0, 0]
noncomputable def F54_14 : Code := sub (Try.f54.body.getD .skip) [1, 1, 0, 1]
noncomputable def R54_13 : Array Oper := regOf F54_13
noncomputable def F54_16 : Code := sub (Try.f54.body.getD .skip) [1, 1, 0, 1, 0]
noncomputable def F54_17 : Code := sub (Try.f54.body.getD .skip) [1, 1, 0, 1, 1]
noncomputable def R54_16 : Array Oper := regOf F54_16
noncomputable def F54_19 : Code := sub (Try.f54.body.getD .skip) [1, 1, 0, 1, 1, 0]
noncomputable def F54_20 : Code := sub (Try.f54.body.getD .skip) [1, 1, 0, 1, 1, 1]
noncomputable def R54_19 : Array Oper := regOf F54_19
noncomputable def F54_22 : Code := sub (Try.f54.body.getD .skip) [1, 1, 1, 0]
noncomputable def F54_23 : Code := sub (Try.f54.body.getD .skip) [1, 1, 1, 1]
noncomputable def R54_22 : Array Oper := regOf F54_22
set_option maxRecDepth 100000 in
theorem c54 (g : Gh) (n : Int) (hn : 0 ≤ n ∧ n ≤ 1000000000) :
    Ctr Try.prog 54 [Value.slice none 0 0, Value.int .i64 (n)] g [] (fun v ψ o => ∃ (Ar : Option Addr) (cr : Nat) (kr : Option Bk), v = Value.slice Ar ((growS n)).length cr ∧ o = [kr] ∧ Buf ψ tyU8 5 (.slice Ar ((growS n)).length cr) kr (growS n)) := by
  refine ctr_of Try.f54 F54_0 27 [Value.slice none 0 0, Value.int .i64 (n)] (by kernel_rfl) (by kernel_rfl) (by kernel_rfl) (by kernel_rfl) ?_
  have L0 := Gh.le.refl g
  refine wpc_seq (x := F54_1) (y := F54_2) (by kernel_rfl) ?_
  refine wpc_region (ops := R54_1) (id := 0) (by kernel_rfl) ?_
  refine wpr_val 1 4 (.assign (.const (Value.slice none 0 0))) 22 (Value.slice none 0 0) (Runs.plain (by kernel_rfl)) (by kernel_rfl) (y_assign (by kernel_rfl)) ?_
  refine wpr_end (by kernel_rfl) ?_
  refine wpq_then ?_
  refine wpc_seq (x := F54_4) (y := F54_5) (by kernel_rfl) ?_
  refine wpc_seq (x := F54_6) (y := F54_7) (by kernel_rfl) ?_
  refine wpc_region (ops := R54_6) (id := 1) (by kernel_rfl) ?_
  refine wpr_val 1 5 (.move (.tmp 1)) 3 (Value.int .i64 (n)) (Runs.plain (by kernel_rfl)) (by kernel_rfl) (y_move (by kernel_rfl)) ?_
  refine wpr_val 2 6 (.binOp .lss 3 (.tmp 5) (.const (Value.int .i64 (0))) 3) 4 (Value.bool (decide (n < 0))) (Runs.plain (by kernel_rfl)) (by kernel_rfl) (y_pure (by kernel_rfl) (fun _ => by kernel_rfl)) ?_
  refine wpr_end (by kernel_rfl) ?_
  refine wpq_then ?_
  -- condition 0
  refine wpc_cond (x := F54_9) (y := F54_10) (o := (.tmp 6)) (b := decide (n < 0)) (by kernel_rfl) (by kernel_rfl) (fun h0 => ?_) (fun h0 => ?_)
  · have h0p := of_decide_eq_true h0
    omega
  · have h0p := of_decide_eq_false h0
    refine wpc_skip (by kernel_rfl) ?_
    refine wpq_then ?_
    refine wpc_seq (x := F54_11) (y := F54_12) (by kernel_rfl) ?_
    refine wpc_seq (x := F54_13) (y := F54_14) (by kernel_rfl) ?_
    refine wpc_region (ops := R54_13) (id := 3) (by kernel_rfl) ?_
    refine wpr_val 1 8 (.move (.tmp 1)) 3 (Value.int .i64 (n)) (Runs.plain (by kernel_rfl)) (by kernel_rfl) (y_move (by kernel_rfl)) ?_
    refine wpr_val 2 9 (.move (.tmp 0)) 22 (Value.slice none 0 0) (Runs.plain (by kernel_rfl)) (by kernel_rfl) (y_move (by kernel_rfl)) ?_
    refine wpr_val 3 10 (.call { callee := .builtin .cap, args := #[(.tmp 9)], argTypes := #[22] }) 3 (Value.int .i64 (0)) (Runs.plain (by kernel_rfl)) (by kernel_rfl) (y_pure (by kernel_rfl) (fun _ => by kernel_rfl)) ?_
    refine wpr_val 4 11 (.move (.tmp 0)) 22 (Value.slice none 0 0) (Runs.plain (by kernel_rfl)) (by kernel_rfl) (y_move (by kernel_rfl)) ?_
    refine wpr_val 5 12 (.call { callee := .builtin .len, args := #[(.tmp 11)], argTypes := #[22] }) 3 (Value.int .i64 (0)) (Runs.plain (by kernel_rfl)) (by kernel_rfl) (y_pure (by kernel_rfl) (fun _ => by kernel_rfl)) ?_
    refine wpr_val 6 13 (.binOp .sub 3 (.tmp 10) (.tmp 12) 3) 3 (Value.int .i64 (0)) (Runs.plain (by kernel_rfl)) (by kernel_rfl) (y_pure (by kernel_rfl) (fun _ => by kernel_rfl)) ?_
    refine wpr_val 7 14 (.binOp .sub 3 (.tmp 8) (.tmp 13) 3) 3 (Value.int .i64 ((n - 0))) (Runs.plain (by kernel_rfl)) (by kernel_rfl) (y_sub (by kernel_rfl) (by kernel_rfl) (wr64 (by omega))) ?_
    refine wpr_val 8 1 (.assign (.tmp 14)) 3 (Value.int .i64 ((n - 0))) (Runs.plain (by kernel_rfl)) (by kernel_rfl) (y_assign (by kernel_rfl)) ?_
    refine wpr_end (by kernel_rfl) ?_
    refine wpq_then ?_
    refine wpq_sub [(0, Value.slice none 0 0), (1, Value.int .i64 ((n - 0)))] (by kernel_rfl) ?_
    refine wpc_seq (x := F54_16) (y := F54_17) (by kernel_rfl) ?_
    refine wpc_region (ops := R54_16) (id := 4) (by kernel_rfl) ?_
    refine wpr_val 1 15 (.move (.tmp 1)) 3 (Value.int .i64 ((n - 0))) (Runs.plain (by kernel_rfl)) (by kernel_rfl) (y_move (by kernel_rfl)) ?_
    refine wpr_val 2 16 (.binOp .gtr 3 (.tmp 15) (.const (Value.int .i64 (0))) 3) 4 (Value.bool (decide ((n - 0) > 0))) (Runs.plain (by kernel_rfl)) (by kernel_rfl) (y_pure (by kernel_rfl) (fun _ => by kernel_rfl)) ?_
    refine wpr_end (by kernel_rfl) ?_
    refine wpq_then ?_
    -- condition 1
    refine wpc_cond (x := F54_19) (y := F54_20) (o := (.tmp 16)) (b := decide ((n - 0) > 0)) (by kernel_rfl) (by kernel_rfl) (fun h1 => ?_) (fun h1 => ?_)
    · have h1p := of_decide_eq_true h1
      refine wpc_region (ops := R54_19) (id := 5) (by kernel_rfl) ?_
      refine wpr_val 1 17 (.move (.tmp 0)) 22 (Value.slice none 0 0) (Runs.plain (by kernel_rfl)) (by kernel_rfl) (y_move (by kernel_rfl)) ?_
      refine wpr_val 2 18 (.move (.tmp 0)) 22 (Value.slice none 0 0) (Runs.plain (by kernel_rfl)) (by kernel_rfl) (y_move (by kernel_rfl)) ?_
      refine wpr_val 3 19 (.call { callee := .builtin .cap, args := #[(.tmp 18)], argTypes := #[22] }) 3 (Value.int .i64 (0)) (Runs.plain (by kernel_rfl)) (by kernel_rfl) (y_pure (by kernel_rfl) (fun _ => by kernel_rfl)) ?_
      refine wpr_val 4 20 (.slice 22 (.tmp 17) none (some (.tmp 19)) none) 22 (Value.slice none 0 0) (Runs.plain (by kernel_rfl)) (by kernel_rfl) (y_cut0 (e := 5) (sz := 1) (len := 0) (k := .i64) (by kernel_rfl) (by kernel_rfl) (by kernel_rfl) (by kernel_rfl)) ?_
      refine wpr_val 5 21 (.move (.tmp 1)) 3 (Value.int .i64 ((n - 0))) (Runs.plain (by kernel_rfl)) (by kernel_rfl) (y_move (by kernel_rfl)) ?_
      refine wpr_eff 6 22 (.call { callee := .builtin .append, args := #[(.tmp 20), (.tmp 21)], argTypes := #[22, 3] }) 22 (Runs.plain (by kernel_rfl)) (by kernel_rfl) (e_zeros (T := tyU8) (p := g.b) (et := 5) (kx := .i64) (kn := .i64) (bytes := 1) ((n - 0)).toNat (by kernel_rfl) (by kernel_rfl) (by kernel_rfl) (ev_toNat (by kernel_rfl) (by omega)) (by omega) (by omega) (by omega)) ?_
      rintro _ _ _ - ⟨b1, c1, k1, rfl, rfl, rfl, hc1, hb1⟩
      refine wpr_val 7 23 (.move (.tmp 0)) 22 (Value.slice none 0 0) (Runs.plain (by kernel_rfl)) (by kernel_rfl) (y_move (by kernel_rfl)) ?_
      refine wpr_val 8 24 (.call { callee := .builtin .len, args := #[(.tmp 23)], argTypes := #[22] }) 3 (Value.int .i64 (0)) (Runs.plain (by kernel_rfl)) (by kernel_rfl) (y_pure (by kernel_rfl) (fun _ => by kernel_rfl)) ?_
      refine wpr_val 9 25 (.slice 22 (.tmp 22) none (some (.tmp 24)) none) 22 (Value.slice (some ⟨b1, 0, none⟩) 0 c1) (Runs.plain (by kernel_rfl)) (by kernel_rfl) (y_cut0 (e := 5) (sz := 1) (len := ((n - 0)).toNat) (k := .i64) (by kernel_rfl) (by kernel_rfl) (by kernel_rfl) (by kernel_rfl)) ?_
      refine wpr_val 10 0 (.assign (.tmp 25)) 22 (Value.slice (some ⟨b1, 0, none⟩) 0 c1) (Runs.plain (by kernel_rfl)) (by kernel_rfl) (y_assign (by kernel_rfl)) ?_
      refine wpr_end (by kernel_rfl) ?_
      refine wpq_then ?_
      refine wpq_sub [(0, Value.slice (some ⟨b1, 0, none⟩) 0 c1)] (by kernel_rfl) ?_
      refine wpc_seq (x := F54_22) (y := F54_23) (by kernel_rfl) ?_
      refine wpc_region (ops := R54_22) (id := 6) (by kernel_rfl) ?_
      refine wpr_val 1 26 (.move (.tmp 0)) 22 (Value.slice (some ⟨b1, 0, none⟩) 0 c1) (Runs.plain (by kernel_rfl)) (by kernel_rfl) (y_move (by kernel_rfl)) ?_
      refine wpr_val 2 4 (.assign (.tmp 26)) 22 (Value.slice (some ⟨b1, 0, none⟩) 0 c1) (Runs.plain (by kernel_rfl)) (by kernel_rfl) (y_assign (by kernel_rfl)) ?_
      refine wpr_end (by kernel_rfl) ?_
      refine wpq_then ?_
      refine wpc_ret (rs := [.tmp 4]) [Value.slice (some ⟨b1, 0, none⟩) 0 c1] [k1] (by kernel_rfl) (fun _ _ h => h) (by kernel_rfl) (res_tmp (by kernel_rfl) res_nil) L0 (keepP [some 0] (by kernel_rfl) (by kernel_rfl)) ?_
      have eS : (growS n) = (([] : List UInt8) : List UInt8) := by
        rfl
      rw [eS]
      exact ⟨(some ⟨b1, 0, none⟩), c1, k1, rfl, rfl, hb1⟩
    · have h1p := of_decide_eq_false h1
      refine wpc_skip (by kernel_rfl) ?_
      refine wpq_then ?_
      refine wpc_seq (x := F54_22) (y := F54_23) (by kernel_rfl) ?_
      refine wpc_region (ops := R54_22) (id := 6) (by kernel_rfl) ?_
      refine wpr_val 1 26 (.move (.tmp 0)) 22 (Value.slice none 0 0) (Runs.plain (by kernel_rfl)) (by kernel_rfl) (y_move (by kernel_rfl)) ?_
      refine wpr_val 2 4 (.assign (.tmp 26)) 22 (Value.slice none 0 0) (Runs.plain (by kernel_rfl)) (by kernel_rfl) (y_assign (by kernel_rfl)) ?_
      refine wpr_end (by kernel_rfl) ?_
      refine wpq_then ?_
      refine wpq_sub [(4, Value.slice none 0 0)] (by kernel_rfl) ?_
      refine wpc_ret (rs := [.tmp 4]) [Value.slice none 0 0] [none] (by kernel_rfl) (fun _ _ h => h) (by kernel_rfl) (res_tmp (by kernel_rfl) res_nil) L0 (keepP [none] (by kernel_rfl) (by kernel_rfl)) ?_
      have eS : (growS n) = ([] : List UInt8) := by
        rfl
      rw [eS]
      exact ⟨none, 0, none, rfl, rfl, Buf.nil⟩

noncomputable def F50_0 : Code := sub (Try.f50.body.getD .skip) []
noncomputable def F50_1 : Code := sub (Try.f50.body.getD .skip) [0]
noncomputable def F50_2 : Code := sub (Try.f50.body.getD .skip) [1]
noncomputable def R50_1 : Array Oper := regOf F50_1
noncomputable def F50_4 : Code := sub (Try.f50.body.getD .skip) [1, 0]
noncomputable def F50_5 : Code := sub (Try.f50.body.getD .skip) [1, 1]
noncomputable def R50_4 : Array Oper := regOf F50_4
noncomputable def F50_7 : Code := sub (Try.f50.body.getD .skip) [1, 1, 0]
noncomputable def F50_8 : Code := sub (Try.f50.body.getD .skip) [1, 1, 1]
noncomputable def F50_9 : Code := sub (Try.f50.body.getD .skip) [1, 1, 0, 0]
noncomputable def F50_10 : Code := sub (Try.f50.body.getD .skip) [1, 1, 0, 1]
noncomputable def R50_9 : Array Oper := regOf F50_9
noncomputable def F50_12 : Code := sub (Try.f50.body.getD .skip) [1, 1, 0, 1, 0]
noncomputable def F50_13 : Code := sub (Try.f50.body.getD .skip) [1, 1, 0, 1, 0, 0]
noncomputable def F50_14 : Code := sub (Try.f50.body.getD .skip) [1, 1, 0, 1, 0, 0, 0]
noncomputable def F50_15 : Code := sub (Try.f50.body.getD .skip) [1, 1, 0, 1, 0, 0, 1]
noncomputable def R50_14 : Array Oper := regOf F50_14
noncomputable def F50_17 : Code := sub (Try.f50.body.getD .skip) [1, 1, 0, 1, 0, 0, 1, 0]
noncomputable def F50_18 : Code := sub (Try.f50.body.getD .skip) [1, 1, 0, 1, 0, 0, 1, 1]
noncomputable def F50_19 : Code := sub (Try.f50.body.getD .skip) [1, 1, 0, 1, 0, 0, 1, 0, 0]
noncomputable def F50_20 : Code := sub (Try.f50.body.getD .skip) [1, 1, 0, 1, 0, 0, 1, 0, 1]
noncomputable def F50_21 : Code := sub (Try.f50.body.getD .skip) [1, 1, 0, 1, 0, 0, 1, 1, 0]
noncomputable def F50_22 : Code := sub (Try.f50.body.getD .skip) [1, 1, 0, 1, 0, 0, 1, 1, 1]
noncomputable def F50_23 : Code := sub (Try.f50.body.getD .skip) [1, 1, 0, 1, 0, 0, 1, 1, 0, 0]
noncomputable def F50_24 : Code := sub (Try.f50.body.getD .skip) [1, 1, 0, 1, 0, 0, 1, 1, 0, 0, 0]
noncomputable def F50_25 : Code := sub (Try.f50.body.getD .skip) [1, 1, 0, 1, 0, 0, 1, 1, 0, 0, 1]
noncomputable def R50_24 : Array Oper := regOf F50_24
noncomputable def F50_27 : Code := sub (Try.f50.body.getD .skip) [1, 1, 0, 1, 0, 0, 1, 1, 0, 0, 1, 0]
noncomputable def F50_28 : Code := sub (Try.f50.body.getD .skip) [1, 1, 0, 1, 0, 0, 1, 1, 0, 0, 1, 1]
noncomputable def R50_27 : Array Oper := regOf F50_27
noncomputable def F50_30 : Code := sub (Try.f50.body.getD .skip) [1, 1, 0, 1, 0, 0, 1, 1, 0, 0, 1, 1, 0]
noncomputable def F50_31 : Code := sub (Try.f50.body.getD .skip) [1, 1, 0, 1, 0, 0, 1, 1, 0, 0, 1, 1, 1]
noncomputable def R50_30 : Array Oper := regOf F50_30
noncomputable def F50_33 : Code := sub (Try.f50.body.getD .skip) [1, 1, 0, 1, 0, 0, 1, 1, 0, 0, 1, 1, 1, 0]
noncomputable def F50_34 : Code := sub (Try.f50.body.getD .skip) [1, 1, 0, 1, 0, 0, 1, 1, 0, 0, 1, 1, 1, 1]
noncomputable def R50_22 : Array Oper := regOf F50_22
noncomputable def F50_36 : Code := sub (Try.f50.body.getD .skip) [1, 1, 1, 0]
noncomputable def F50_37 : Code := sub (Try.f50.body.getD .skip) [1, 1, 1, 1]
noncomputable def R50_36 : Array Oper := regOf F50_36
noncomputable def F50_39 : Code := sub (Try.f50.body.getD .skip) [1, 1, 1, 1, 0]
noncomputable def F50_40 : Code := sub (Try.f50.body.getD .skip) [1, 1, 1, 1, 1]
noncomputable def F50_41 : Code := sub (Try.f50.body.getD .skip) [1, 1, 1, 1, 0, 0]
noncomputable def F50_42 : Code := sub (Try.f50.body.getD .skip) [1, 1, 1, 1, 0, 1]
noncomputable def R50_41 : Array Oper := regOf F50_41
noncomputable def F50_44 : Code := sub (Try.f50.body.getD .skip) [1, 1, 1, 1, 0, 1, 0]
noncomputable def F50_45 : Code := sub (Try.f50.body.getD .skip) [1, 1, 1, 1, 0, 1, 0, 0]
noncomputable def F50_46 : Code := sub (Try.f50.body.getD .skip) [1, 1, 1, 1, 0, 1, 0, 0, 0]
noncomputable def F50_47 : Code := sub (Try.f50.body.getD .skip) [1, 1, 1, 1, 0, 1, 0, 0, 1]
noncomputable def R50_46 : Array Oper := regOf F50_46
noncomputable def F50_49 : Code := sub (Try.f50.body.getD .skip) [1, 1, 1, 1, 0, 1, 0, 0, 1, 0]
noncomputable def F50_50 : Code := sub (Try.f50.body.getD .skip) [1, 1, 1, 1, 0, 1, 0, 0, 1, 1]
noncomputable def F50_51 : Code := sub (Try.f50.body.getD .skip) [1, 1, 1, 1, 0, 1, 0, 0, 1, 0, 0]
noncomputable def F50_52 : Code := sub (Try.f50.body.getD .skip) [1, 1, 1, 1, 0, 1, 0, 0, 1, 0, 1]
noncomputable def F50_53 : Code := sub (Try.f50.body.getD .skip) [1, 1, 1, 1, 0, 1, 0, 0, 1, 1, 0]
noncomputable def F50_54 : Code := sub (Try.f50.body.getD .skip) [1, 1, 1, 1, 0, 1, 0, 0, 1, 1, 1]
noncomputable def F50_55 : Code := sub (Try.f50.body.getD .skip) [1, 1, 1, 1, 0, 1, 0, 0, 1, 1, 0, 0]
noncomputable def F50_56 : Code := sub (Try.f50.body.getD .skip) [1, 1, 1, 1, 0, 1, 0, 0, 1, 1, 0, 0, 0]
noncomputable def F50_57 : Code := sub (Try.f50.body.getD .skip) [1, 1, 1, 1, 0, 1, 0, 0, 1, 1, 0, 0, 1]
noncomputable def R50_56 : Array Oper := regOf F50_56
noncomputable def R50_57 : Array Oper := regOf F50_57
noncomputable def R50_54 : Array Oper := regOf F50_54
noncomputable def F50_61 : Code := sub (Try.f50.body.getD .skip) [1, 1, 1, 1, 1, 0]
noncomputable def F50_62 : Code := sub (Try.f50.body.getD .skip) [1, 1, 1, 1, 1, 1]
noncomputable def R50_61 : Array Oper := regOf F50_61
set_option maxRecDepth 100000 in
theorem c50 (g : Gh) (l : List (List UInt8)) (Al : Option Addr) (cl : Nat) (fl : Arr g.r (tyArr tyU8) Al cl l) (hF : l.flatten.length ≤ 1000000000) :
    Ctr0 Try.prog 50 [Value.slice Al (l).length cl] g (fun v ψ => ∃ (Ar : Option Addr) (cr : Nat), v = Value.slice Ar ((concatS l)).length cr ∧ Arr ψ tyU8 Ar cr (concatS l)) := by
  refine ctr_of Try.f50 F50_0 36 [Value.slice Al (l).length cl] (by kernel_rfl) (by kernel_rfl) (by kernel_rfl) (by kernel_rfl) ?_
  have L0 := Gh.le.refl g
  have nfl := fl.len
  refine wpc_seq (x := F50_1) (y := F50_2) (by kernel_rfl) ?_
  refine wpc_region (ops := R50_1) (id := 0) (by kernel_rfl) ?_
  refine wpr_val 1 2 (.assign (.const (Value.slice none 0 0))) 22 (Value.slice none 0 0) (Runs.plain (by kernel_rfl)) (by kernel_rfl) (y_assign (by kernel_rfl)) ?_
  refine wpr_end (by kernel_rfl) ?_
  refine wpq_then ?_
  refine wpc_seq (x := F50_4) (y := F50_5) (by kernel_rfl) ?_
  refine wpc_region (ops := R50_4) (id := 1) (by kernel_rfl) ?_
  refine wpr_val 1 3 (.assign (.const (Value.int .i64 (0)))) 3 (Value.int .i64 (0)) (Runs.plain (by kernel_rfl)) (by kernel_rfl) (y_assign (by kernel_rfl)) ?_
  refine wpr_end (by kernel_rfl) ?_
  refine wpq_then ?_
  refine wpc_seq (x := F50_7) (y := F50_8) (by kernel_rfl) ?_
  refine wpc_seq (x := F50_9) (y := F50_10) (by kernel_rfl) ?_
  refine wpc_region (ops := R50_9) (id := 2) (by kernel_rfl) ?_
  refine wpr_val 1 9 (.move (.tmp 0)) 74 (Value.slice Al (l).length cl) (Runs.plain (by kernel_rfl)) (by kernel_rfl) (y_move (by kernel_rfl)) ?_
  refine wpr_val 2 10 (.call { callee := .builtin .len, args := #[(.tmp 9)], argTypes := #[74] }) 3 (Value.int .i64 ((((l).length : Nat) : Int))) (Runs.plain (by kernel_rfl)) (by kernel_rfl) (y_pure (by kernel_rfl) (fun _ => by kernel_rfl)) ?_
  refine wpr_val 3 11 (.move (.const (Value.int .i64 (0)))) 3 (Value.int .i64 (0)) (Runs.plain (by kernel_rfl)) (by kernel_rfl) (y_move (by kernel_rfl)) ?_
  refine wpr_end (by kernel_rfl) ?_
  refine wpq_then ?_
  refine wpc_block (x := F50_12) (id := 0) (by kernel_rfl) ?_
  refine wpq_sub [(0, Value.slice Al (l).length cl), (3, Value.int .i64 (0)), (9, Value.slice Al (l).length cl), (10, Value.int .i64 ((((l).length : Nat) : Int))), (11, Value.int .i64 (0))] (by kernel_rfl) ?_
  -- loop 0
  refine wpc_loop (x := F50_13) (by kernel_rfl) (fun g own sl m => ∃ (k : Nat) (z : Int), own = [] ∧ sl = [(0, Value.slice Al (l).length cl), (3, Value.int .i64 (z)), (9, Value.slice Al (l).length cl), (10, Value.int .i64 ((((l).length : Nat) : Int))), (11, Value.int .i64 ((k : Int)))] ∧ m = l.length - k ∧ (k ≤ l.length) ∧ (z = ((l.take k).flatten.length : Int))) _ ⟨0, 0, rfl, rfl, rfl, by omega, rfl⟩ ?_
  rintro g1 _ _ _ le2 ⟨k, z, rfl, rfl, rfl, hk, hz⟩ QrL0 hQL0
  have fl := fl.mono le2.r
  have L0 := L0.trans le2
  have LHL0 := Gh.le.refl g1
  refine wpc_seq (x := F50_14) (y := F50_15) (by kernel_rfl) ?_
  refine wpc_region (ops := R50_14) (id := 3) (by kernel_rfl) ?_
  refine wpr_val 1 12 (.binOp .lss 3 (.tmp 11) (.tmp 10) 3) 0 (Value.bool (decide ((k : Int) < (((l).length : Nat) : Int)))) (Runs.plain (by kernel_rfl)) (by kernel_rfl) (y_pure (by kernel_rfl) (fun _ => by kernel_rfl)) ?_
  refine wpr_end (by kernel_rfl) ?_
  refine wpq_then ?_
  refine wpc_seq (x := F50_17) (y := F50_18) (by kernel_rfl) ?_
  -- condition 0
  refine wpc_cond (x := F50_19) (y := F50_20) (o := (.tmp 12)) (b := decide ((k : Int) < (((l).length : Nat) : Int))) (by kernel_rfl) (by kernel_rfl) (fun h0 => ?_) (fun h0 => ?_)
  · have h0p := of_decide_eq_true h0
    refine wpc_skip (by kernel_rfl) ?_
    refine wpq_then ?_
    refine wpc_seq (x := F50_21) (y := F50_22) (by kernel_rfl) ?_
    refine wpc_block (x := F50_23) (id := 1) (by kernel_rfl) ?_
    refine wpc_seq (x := F50_24) (y := F50_25) (by kernel_rfl) ?_
    refine wpc_region (ops := R50_24) (id := 4) (by kernel_rfl) ?_
    have hi3 : k < (l).length := by omega
    obtain ⟨ad3, cs3, hA3, hr3, hc3⟩ := fl.at_ (get_getD (d := []) hi3)
    obtain ⟨A3, c3, rfl, f3⟩ := hr3
    have nf3 := f3.len
    have fl3 := flat_le l (k + 1)
    rw [flat_succ hi3, List.length_append] at fl3
    refine wpr_val 1 13 (.indexAddr 74 (.tmp 9) (.tmp 11)) 0 (Value.pointer (some (Addr.add ad3 (k * 1)))) (Runs.plain (by kernel_rfl)) (by kernel_rfl) (q_index (e := 22) (sz := 1) (len := (l).length) (c := cl) k (A := ad3) (k := .i64) (z := (k : Int)) hA3 (by kernel_rfl) (by kernel_rfl) rfl hi3 (by kernel_rfl) (by kernel_rfl)) ?_
    refine wpr_val 2 14 (.load 22 (.tmp 13)) 22 (Value.slice A3 ((List.getD l k [])).length c3) (Runs.plain (by kernel_rfl)) (by kernel_rfl) (q_loadP1 (Addr.add ad3 (k * 1)) 0 (by kernel_rfl) hc3 (by kernel_rfl) (by kernel_rfl)) ?_
    refine wpr_val 3 5 (.assign (.tmp 14)) 22 (Value.slice A3 ((List.getD l k [])).length c3) (Runs.plain (by kernel_rfl)) (by kernel_rfl) (y_assign (by kernel_rfl)) ?_
    refine wpr_end (by kernel_rfl) ?_
    refine wpq_then ?_
    refine wpc_seq (x := F50_27) (y := F50_28) (by kernel_rfl) ?_
    refine wpc_region (ops := R50_27) (id := 5) (by kernel_rfl) ?_
    refine wpr_val 1 15 (.move (.tmp 3)) 3 (Value.int .i64 (z)) (Runs.plain (by kernel_rfl)) (by kernel_rfl) (y_move (by kernel_rfl)) ?_
    refine wpr_val 2 16 (.move (.tmp 5)) 22 (Value.slice A3 ((List.getD l k [])).length c3) (Runs.plain (by kernel_rfl)) (by kernel_rfl) (y_move (by kernel_rfl)) ?_
    refine wpr_val 3 17 (.call { callee := .builtin .len, args := #[(.tmp 16)], argTypes := #[22] }) 3 (Value.int .i64 (((((List.getD l k [])).length : Nat) : Int))) (Runs.plain (by kernel_rfl)) (by kernel_rfl) (y_pure (by kernel_rfl) (fun _ => by kernel_rfl)) ?_
    refine wpr_val 4 18 (.binOp .add 3 (.tmp 15) (.tmp 17) 3) 3 (Value.int .i64 ((z + ((((List.getD l k [])).length : Nat) : Int)))) (Runs.plain (by kernel_rfl)) (by kernel_rfl) (y_add (by kernel_rfl) (by kernel_rfl) (wr64 (by omega))) ?_
    refine wpr_val 5 3 (.assign (.tmp 18)) 3 (Value.int .i64 ((z + ((((List.getD l k [])).length : Nat) : Int)))) (Runs.plain (by kernel_rfl)) (by kernel_rfl) (y_assign (by kernel_rfl)) ?_
    refine wpr_end (by kernel_rfl) ?_
    refine wpq_then ?_
    refine wpq_sub [(0, Value.slice Al (l).length cl), (3, Value.int .i64 ((z + ((((List.getD l k [])).length : Nat) : Int)))), (9, Value.slice Al (l).length cl), (10, Value.int .i64 ((((l).length : Nat) : Int))), (11, Value.int .i64 ((k : Int)))] (by kernel_rfl) ?_
    refine wpc_seq (x := F50_30) (y := F50_31) (by kernel_rfl) ?_
    refine wpc_region (ops := R50_30) (id := 6) (by kernel_rfl) ?_
    refine wpr_val 1 19 (.move (.tmp 3)) 3 (Value.int .i64 ((z + ((((List.getD l k [])).length : Nat) : Int)))) (Runs.plain (by kernel_rfl)) (by kernel_rfl) (y_move (by kernel_rfl)) ?_
    refine wpr_val 2 20 (.binOp .lss 3 (.tmp 19) (.const (Value.int .i64 (0))) 3) 4 (Value.bool (decide ((z + ((((List.getD l k [])).length : Nat) : Int)) < 0))) (Runs.plain (by kernel_rfl)) (by kernel_rfl) (y_pure (by kernel_rfl) (fun _ => by kernel_rfl)) ?_
    refine wpr_end (by kernel_rfl) ?_
    refine wpq_then ?_
    -- condition 1
    refine wpc_cond (x := F50_33) (y := F50_34) (o := (.tmp 20)) (b := decide ((z + ((((List.getD l k [])).length : Nat) : Int)) < 0)) (by kernel_rfl) (by kernel_rfl) (fun h1 => ?_) (fun h1 => ?_)
    · have h1p := of_decide_eq_true h1
      omega
    · have h1p := of_decide_eq_false h1
      refine wpc_skip (by kernel_rfl) ?_
      refine wpq_blockN ?_
      refine wpq_then ?_
      refine wpc_region (ops := R50_22) (id := 8) (by kernel_rfl) ?_
      refine wpr_val 1 22 (.binOp .add 3 (.tmp 11) (.const (Value.int .i64 (1))) 3) 3 (Value.int .i64 (((k : Int) + 1))) (Runs.plain (by kernel_rfl)) (by kernel_rfl) (y_add (by kernel_rfl) (by kernel_rfl) (wr64 (by omega))) ?_
      refine wpr_val 2 11 (.move (.tmp 22)) 3 (Value.int .i64 (((k : Int) + 1))) (Runs.plain (by kernel_rfl)) (by kernel_rfl) (y_move (by kernel_rfl)) ?_
      refine wpr_end (by kernel_rfl) ?_
      refine wpq_thenN ?_
      refine wpq_re 11 (v := Value.int .i64 (((k : Int) + 1))) (Value.int .i64 ((((k + 1) : Nat) : Int))) (by kernel_rfl) (congrArg (Value.int .i64) (by omega)) ?_
      refine wpq_sub [(0, Value.slice Al (l).length cl), (3, Value.int .i64 ((z + ((((List.getD l k [])).length : Nat) : Int)))), (9, Value.slice Al (l).length cl), (10, Value.int .i64 ((((l).length : Nat) : Int))), (11, Value.int .i64 ((((k + 1) : Nat) : Int)))] (by kernel_rfl) ?_
      exact hQL0 _ _ _ (l.length - ((k + 1))) LHL0 (by omega) ⟨(k + 1), (z + ((((List.getD l k [])).length : Nat) : Int)), rfl, rfl, rfl, by omega, by rw [flat_succ (by omega), List.length_append]; omega⟩
  · have h0p := of_decide_eq_false h0
    have flx := flat_le l k
    refine wpc_exit (id := 0) (by kernel_rfl) ?_
    refine wpq_thenX ?_
    refine wpq_thenX ?_
    refine wpq_blockE ?_
    refine wpq_then ?_
    refine wpc_seq (x := F50_36) (y := F50_37) (by kernel_rfl) ?_
    refine wpc_region (ops := R50_36) (id := 9) (by kernel_rfl) ?_
    refine wpr_val 1 23 (.move (.tmp 3)) 3 (Value.int .i64 (z)) (Runs.plain (by kernel_rfl)) (by kernel_rfl) (y_move (by kernel_rfl)) ?_
    refine wpr_eff 2 24 (.call { callee := .value (.func 54), args := #[(.const (Value.slice none 0 0)), (.tmp 23)], argTypes := #[22, 3] }) 22 (Runs.plain (by kernel_rfl)) (by kernel_rfl) (e_callM (sel := []) [Value.slice none 0 0, Value.int .i64 (z)] [] (by kernel_rfl) (by kernel_rfl) (by kernel_rfl) (fun g' lr eb ln => c54 g' (z : Int) (by omega))) ?_
    rintro _ g5 _ le6 ⟨_, rfl, A4_0, c4_0, k4_0, rfl, rfl, h4_0⟩
    have fl := fl.mono le6.r
    have L0 := L0.trans le6
    have LHL0 := LHL0.trans le6
    refine wpq_own [k4_0] (by kernel_rfl) ?_
    have nh4_0 := h4_0.len
    refine wpr_val 3 6 (.assign (.tmp 24)) 22 (Value.slice A4_0 ((growS (z : Int))).length c4_0) (Runs.plain (by kernel_rfl)) (by kernel_rfl) (y_assign (by kernel_rfl)) ?_
    refine wpr_end (by kernel_rfl) ?_
    refine wpq_then ?_
    refine wpq_sub [(0, Value.slice Al (l).length cl), (6, Value.slice A4_0 ((growS (z : Int))).length c4_0)] (by kernel_rfl) ?_
    refine wpc_seq (x := F50_39) (y := F50_40) (by kernel_rfl) ?_
    refine wpc_seq (x := F50_41) (y := F50_42) (by kernel_rfl) ?_
    refine wpc_region (ops := R50_41) (id := 10) (by kernel_rfl) ?_
    refine wpr_val 1 25 (.move (.tmp 0)) 74 (Value.slice Al (l).length cl) (Runs.plain (by kernel_rfl)) (by kernel_rfl) (y_move (by kernel_rfl)) ?_
    refine wpr_val 2 26 (.call { callee := .builtin .len, args := #[(.tmp 25)], argTypes := #[74] }) 3 (Value.int .i64 ((((l).length : Nat) : Int))) (Runs.plain (by kernel_rfl)) (by kernel_rfl) (y_pure (by kernel_rfl) (fun _ => by kernel_rfl)) ?_
    refine wpr_val 3 27 (.move (.const (Value.int .i64 (0)))) 3 (Value.int .i64 (0)) (Runs.plain (by kernel_rfl)) (by kernel_rfl) (y_move (by kernel_rfl)) ?_
    refine wpr_end (by kernel_rfl) ?_
    refine wpq_then ?_
    refine wpc_block (x := F50_44) (id := 2) (by kernel_rfl) ?_
    refine wpq_sub [(6, Value.slice A4_0 ((growS (z : Int))).length c4_0), (25, Value.slice Al (l).length cl), (26, Value.int .i64 ((((l).length : Nat) : Int))), (27, Value.int .i64 (0))] (by kernel_rfl) ?_
    -- loop 1
    refine wpc_loop (x := F50_45) (by kernel_rfl) (fun g own sl m => ∃ (j : Nat) (out : List UInt8) (Aout : Option Addr) (cout : Nat) (kout : Option Bk), own = [kout] ∧ sl = [(6, Value.slice Aout (out).length cout), (25, Value.slice Al (l).length cl), (26, Value.int .i64 ((((l).length : Nat) : Int))), (27, Value.int .i64 ((j : Int)))] ∧ m = l.length - j ∧ Buf g.b tyU8 5 (.slice Aout out.length cout) kout out ∧ (j ≤ l.length) ∧ (out = (l.take j).flatten)) _ ⟨0, (growS (z : Int)), A4_0, c4_0, k4_0, rfl, rfl, rfl, h4_0, by omega, rfl⟩ ?_
    rintro g7 _ _ _ le8 ⟨j, out, Aout, cout, kout, rfl, rfl, rfl, hout, hj, ho⟩ QrL1 hQL1
    have fl := fl.mono le8.r
    have h4_0 := h4_0.mono le8.b
    have L0 := L0.trans le8
    have LHL0 := LHL0.trans le8
    have nhout := hout.len
    have LHL1 := Gh.le.refl g7
    refine wpc_seq (x := F50_46) (y := F50_47) (by kernel_rfl) ?_
    refine wpc_region (ops := R50_46) (id := 11) (by kernel_rfl) ?_
    refine wpr_val 1 28 (.binOp .lss 3 (.tmp 27) (.tmp 26) 3) 0 (Value.bool (decide ((j : Int) < (((l).length : Nat) : Int)))) (Runs.plain (by kernel_rfl)) (by kernel_rfl) (y_pure (by kernel_rfl) (fun _ => by kernel_rfl)) ?_
    refine wpr_end (by kernel_rfl) ?_
    refine wpq_then ?_
    refine wpc_seq (x := F50_49) (y := F50_50) (by kernel_rfl) ?_
    -- condition 2
    refine wpc_cond (x := F50_51) (y := F50_52) (o := (.tmp 28)) (b := decide ((j : Int) < (((l).length : Nat) : Int))) (by kernel_rfl) (by kernel_rfl) (fun h2 => ?_) (fun h2 => ?_)
    · have h2p := of_decide_eq_true h2
      refine wpc_skip (by kernel_rfl) ?_
      refine wpq_then ?_
      refine wpc_seq (x := F50_53) (y := F50_54) (by kernel_rfl) ?_
      refine wpc_block (x := F50_55) (id := 3) (by kernel_rfl) ?_
      refine wpc_seq (x := F50_56) (y := F50_57) (by kernel_rfl) ?_
      refine wpc_region (ops := R50_56) (id := 12) (by kernel_rfl) ?_
      have hi9 : j < (l).length := by omega
      obtain ⟨ad9, cs9, hA9, hr9, hc9⟩ := fl.at_ (get_getD (d := []) hi9)
      obtain ⟨A9, c9, rfl, f9⟩ := hr9
      have nf9 := f9.len
      have fl9 := flat_le l (j + 1)
      rw [flat_succ hi9, List.length_append] at fl9
      have hq9 := congrArg List.length ho
      refine wpr_val 1 29 (.indexAddr 74 (.tmp 25) (.tmp 27)) 0 (Value.pointer (some (Addr.add ad9 (j * 1)))) (Runs.plain (by kernel_rfl)) (by kernel_rfl) (q_index (e := 22) (sz := 1) (len := (l).length) (c := cl) j (A := ad9) (k := .i64) (z := (j : Int)) hA9 (by kernel_rfl) (by kernel_rfl) rfl hi9 (by kernel_rfl) (by kernel_rfl)) ?_
      refine wpr_val 2 30 (.load 22 (.tmp 29)) 22 (Value.slice A9 ((List.getD l j [])).length c9) (Runs.plain (by kernel_rfl)) (by kernel_rfl) (q_loadP1 (Addr.add ad9 (j * 1)) 0 (by kernel_rfl) hc9 (by kernel_rfl) (by kernel_rfl)) ?_
      refine wpr_val 3 8 (.assign (.tmp 30)) 22 (Value.slice A9 ((List.getD l j [])).length c9) (Runs.plain (by kernel_rfl)) (by kernel_rfl) (y_assign (by kernel_rfl)) ?_
      refine wpr_end (by kernel_rfl) ?_
      refine wpq_then ?_
      refine wpc_region (ops := R50_57) (id := 13) (by kernel_rfl) ?_
      refine wpr_val 1 31 (.move (.tmp 6)) 22 (Value.slice Aout (out).length cout) (Runs.plain (by kernel_rfl)) (by kernel_rfl) (y_move (by kernel_rfl)) ?_
      refine wpr_val 2 32 (.move (.tmp 8)) 22 (Value.slice A9 ((List.getD l j [])).length c9) (Runs.plain (by kernel_rfl)) (by kernel_rfl) (y_move (by kernel_rfl)) ?_
      obtain ⟨nw10, hp10, hs10⟩ := f9.srcR
      have hz10 : (out ++ (List.getD l j []) : List UInt8).length = (out : List UInt8).length + ((List.getD l j [])).length := List.length_append
      refine wpr_eff 3 33 (.call { callee := .builtin .append, args := #[(.tmp 31), (.tmp 32)], argTypes := #[22, 22] }) 22 (Runs.plain (by kernel_rfl)) (by kernel_rfl) (e_appendQ (T := tyU8) (p := g7.b) (et := 5) (bytes := 1) 0 (Value.slice Aout (out).length cout) (kout) (out) A9 ((List.getD l j [])).length c9 ((List.getD l j [])) (by kernel_rfl) (by kernel_rfl) (by kernel_rfl) (by kernel_rfl) hout rfl (fun w hs => hs10 w _ hs) (flatU8.reps hp10) (by first | omega | (simp only [List.length_nil, List.length_cons, List.length_append] <;> omega)) (by first | omega | (simp only [List.length_nil, List.length_cons, List.length_append] <;> omega))) ?_
      rintro _ _ _ - ⟨A10, c10, k10, rfl, rfl, rfl, hb10⟩
      have nhb10 := hb10.len
      refine wpr_val 4 6 (.assign (.tmp 33)) 22 (Value.slice A10 ((out ++ (List.getD l j [])) : List UInt8).length c10) (Runs.plain (by kernel_rfl)) (by kernel_rfl) (y_assign (by kernel_rfl)) ?_
      refine wpr_end (by kernel_rfl) ?_
      refine wpq_blockN ?_
      refine wpq_then ?_
      refine wpq_sub [(6, Value.slice A10 ((out ++ (List.getD l j [])) : List UInt8).length c10), (25, Value.slice Al (l).length cl), (26, Value.int .i64 ((((l).length : Nat) : Int))), (27, Value.int .i64 ((j : Int)))] (by kernel_rfl) ?_
      refine wpc_region (ops := R50_54) (id := 14) (by kernel_rfl) ?_
      refine wpr_val 1 34 (.binOp .add 3 (.tmp 27) (.const (Value.int .i64 (1))) 3) 3 (Value.int .i64 (((j : Int) + 1))) (Runs.plain (by kernel_rfl)) (by kernel_rfl) (y_add (by kernel_rfl) (by kernel_rfl) (wr64 (by omega))) ?_
      refine wpr_val 2 27 (.move (.tmp 34)) 3 (Value.int .i64 (((j : Int) + 1))) (Runs.plain (by kernel_rfl)) (by kernel_rfl) (y_move (by kernel_rfl)) ?_
      refine wpr_end (by kernel_rfl) ?_
      refine wpq_thenN ?_
      refine wpq_re 27 (v := Value.int .i64 (((j : Int) + 1))) (Value.int .i64 ((((j + 1) : Nat) : Int))) (by kernel_rfl) (congrArg (Value.int .i64) (by omega)) ?_
      refine wpq_sub [(6, Value.slice A10 ((out ++ (List.getD l j [])) : List UInt8).length c10), (25, Value.slice Al (l).length cl), (26, Value.int .i64 ((((l).length : Nat) : Int))), (27, Value.int .i64 ((((j + 1) : Nat) : Int)))] (by kernel_rfl) ?_
      exact hQL1 _ _ _ (l.length - ((j + 1))) LHL1 (by omega) ⟨(j + 1), (out ++ (List.getD l j [])), A10, c10, k10, rfl, rfl, rfl, hb10, by omega, by rw [flat_succ (by omega), ho]⟩
    · have h2p := of_decide_eq_false h2
      refine wpc_exit (id := 2) (by kernel_rfl) ?_
      refine wpq_thenX ?_
      refine wpq_thenX ?_
      refine wpq_blockE ?_
      refine wpq_then ?_
      refine wpc_seq (x := F50_61) (y := F50_62) (by kernel_rfl) ?_
      refine wpc_region (ops := R50_61) (id := 15) (by kernel_rfl) ?_
      refine wpr_val 1 35 (.move (.tmp 6)) 22 (Value.slice Aout (out).length cout) (Runs.plain (by kernel_rfl)) (by kernel_rfl) (y_move (by kernel_rfl)) ?_
      refine wpr_val 2 2 (.assign (.tmp 35)) 22 (Value.slice Aout (out).length cout) (Runs.plain (by kernel_rfl)) (by kernel_rfl) (y_assign (by kernel_rfl)) ?_
      refine wpr_end (by kernel_rfl) ?_
      refine wpq_then ?_
      refine wpq_sub [(2, Value.slice Aout (out).length cout)] (by kernel_rfl) ?_
      refine wpq_freeze 0 (by kernel_rfl) hout (fun g11 le12 f13 => ?_)
      have fl := fl.mono le12.r
      have h4_0 := h4_0.mono le12.b
      have L0 := L0.trans le12
      have LHL0 := LHL0.trans le12
      have LHL1 := LHL1.trans le12
      refine wpc_ret (rs := [.tmp 2]) [Value.slice Aout (out).length cout] [] (by kernel_rfl) (fun _ _ h => h) (by kernel_rfl) (res_tmp (by kernel_rfl) res_nil) L0 keep0 ?_
      have eS : (concatS l) = (out : List UInt8) := by
        unfold concatS; rw [ho, List.take_of_length_le (by omega)]
      rw [eS]
      exact ⟨rfl, Aout, cout, rfl, f13⟩

noncomputable def F49_0 : Code := sub (Try.f49.body.getD .skip) []
noncomputable def F49_1 : Code := sub (Try.f49.body.getD .skip) [0]
noncomputable def F49_2 : Code := sub (Try.f49.body.getD .skip) [1]
noncomputable def R49_1 : Array Oper := regOf F49_1
noncomputable def F49_4 : Code := sub (Try.f49.body.getD .skip) [1, 0]
noncomputable def F49_5 : Code := sub (Try.f49.body.getD .skip) [1, 1]
noncomputable def F49_6 : Code := sub (Try.f49.body.getD .skip) [1, 0, 0]
noncomputable def F49_7 : Code := sub (Try.f49.body.getD .skip) [1, 0, 1]
noncomputable def R49_6 : Array Oper := regOf F49_6
noncomputable def F49_9 : Code := sub (Try.f49.body.getD .skip) [1, 0, 1, 0]
noncomputable def F49_10 : Code := sub (Try.f49.body.getD .skip) [1, 0, 1, 1]
noncomputable def F49_11 : Code := sub (Try.f49.body.getD .skip) [1, 0, 1, 0, 0]
noncomputable def F49_12 : Code := sub (Try.f49.body.getD .skip) [1, 0, 1, 0, 1]
noncomputable def R49_11 : Array Oper := regOf F49_11
noncomputable def F49_14 : Code := sub (Try.f49.body.getD .skip) [1, 1, 0]
noncomputable def F49_15 : Code := sub (Try.f49.body.getD .skip) [1, 1, 1]
noncomputable def R49_14 : Array Oper := regOf F49_14
set_option maxRecDepth 100000 in
theorem c49 (g : Gh) (s : List Sett) (As : Option Addr) (cs : Nat) (fs : ArrM g.r g.b tySett As cs s) (hl : s.length ≤ 1000000) :
    Ctr Try.prog 49 [Value.slice As (s).length cs] g [] (fun v ψ o => ∃ (Ar : Option Addr) (cr : Nat) (kr : Option Bk), v = Value.slice Ar (( s)).length cr ∧ o = [kr] ∧ Buf ψ tySett 79 (.slice Ar (( s)).length cr) kr ( s)) := by
  refine ctr_of Try.f49 F49_0 8 [Value.slice As (s).length cs] (by kernel_rfl) (by kernel_rfl) (by kernel_rfl) (by kernel_rfl) ?_
  have L0 := Gh.le.refl g
  have nfs := fs.len
  refine wpc_seq (x := F49_1) (y := F49_2) (by kernel_rfl) ?_
  refine wpc_region (ops := R49_1) (id := 0) (by kernel_rfl) ?_
  refine wpr_val 1 2 (.assign (.const (Value.slice none 0 0))) 88 (Value.slice none 0 0) (Runs.plain (by kernel_rfl)) (by kernel_rfl) (y_assign (by kernel_rfl)) ?_
  refine wpr_end (by kernel_rfl) ?_
  refine wpq_then ?_
  refine wpc_seq (x := F49_4) (y := F49_5) (by kernel_rfl) ?_
  refine wpc_seq (x := F49_6) (y := F49_7) (by kernel_rfl) ?_
  refine wpc_region (ops := R49_6) (id := 1) (by kernel_rfl) ?_
  refine wpr_val 1 3 (.move (.tmp 0)) 88 (Value.slice As (s).length cs) (Runs.plain (by kernel_rfl)) (by kernel_rfl) (y_move (by kernel_rfl)) ?_
  refine wpr_val 2 4 (.binOp .eql 88 (.tmp 3) (.const (Value.slice none 0 0)) 88) 4 (Value.bool ((Option.isNone As))) (Runs.plain (by kernel_rfl)) (by kernel_rfl) (y_isnil (e := 79) (l := (s).length) (c := cs) (l2 := 0) (c2 := 0) (by kernel_rfl) (by kernel_rfl) (by kernel_rfl)) ?_
  refine wpr_end (by kernel_rfl) ?_
  refine wpq_then ?_
  -- condition 0
  refine wpc_cond (x := F49_9) (y := F49_10) (o := (.tmp 4)) (b := (Option.isNone As)) (by kernel_rfl) (by kernel_rfl) (fun h0 => ?_) (fun h0 => ?_)
  · have hs := fs.nil_of h0
    refine wpc_seq (x := F49_11) (y := F49_12) (by kernel_rfl) ?_
    refine wpc_region (ops := R49_11) (id := 2) (by kernel_rfl) ?_
    refine wpr_val 1 2 (.assign (.const (Value.slice none 0 0))) 88 (Value.slice none 0 0) (Runs.plain (by kernel_rfl)) (by kernel_rfl) (y_assign (by kernel_rfl)) ?_
    refine wpr_end (by kernel_rfl) ?_
    refine wpq_then ?_
    refine wpc_ret (rs := [.tmp 2]) [Value.slice none 0 0] [none] (by kernel_rfl) (fun _ _ h => h) (by kernel_rfl) (res_tmp (by kernel_rfl) res_nil) L0 (keepP [none] (by kernel_rfl) (by kernel_rfl)) ?_
    have eS : ( s) = ([] : List Sett) := by
      rw [hs]
    rw [eS]
    exact ⟨none, 0, none, rfl, rfl, Buf.nil⟩
  · refine wpc_skip (by kernel_rfl) ?_
    refine wpq_then ?_
    refine wpc_seq (x := F49_14) (y := F49_15) (by kernel_rfl) ?_
    refine wpc_region (ops := R49_14) (id := 3) (by kernel_rfl) ?_
    refine wpr_eff 1 5 (.buildSlice 88 0 #[]) 88 (Runs.plain (by kernel_rfl)) (by kernel_rfl) (e_buildSlice (et := 79) [] [] (by kernel_rfl) (by kernel_rfl)) ?_
    rintro _ _ _ - ⟨b1, rfl, rfl, rfl⟩
    refine wpr_val 2 6 (.move (.tmp 0)) 88 (Value.slice As (s).length cs) (Runs.plain (by kernel_rfl)) (by kernel_rfl) (y_move (by kernel_rfl)) ?_
    obtain ⟨nw2, hp2, hs2⟩ := fs.srcM
    refine wpr_eff 3 7 (.call { callee := .builtin .append, args := #[(.tmp 5), (.tmp 6)], argTypes := #[88, 88] }) 88 (Runs.plain (by kernel_rfl)) (by kernel_rfl) (e_appendQ (T := tySett) (p := g.b) (et := 79) (bytes := 48) 0 (Value.slice (some ⟨b1, 0, none⟩) 0 0) (some ⟨b1, 79, []⟩) ([]) As (s).length cs (s) (by kernel_rfl) (by kernel_rfl) (by kernel_rfl) (by kernel_rfl) (buf_lit reps_nil rfl (by omega)) rfl (fun w hs => hs2 w _ hs) hp2 (by first | omega | (simp only [List.length_nil, List.length_cons, List.length_append] <;> omega)) (by first | omega | (simp only [List.length_nil, List.length_cons, List.length_append] <;> omega))) ?_
    rintro _ _ _ - ⟨A2, c2, k2, rfl, rfl, rfl, hb2⟩
    have hb2 : Buf g.b tySett 79 (.slice A2 (s : List Sett).length c2) k2 s := hb2
    have nhb2 := hb2.len
    refine wpr_val 4 2 (.assign (.tmp 7)) 88 (Value.slice A2 (s : List Sett).length c2) (Runs.plain (by kernel_rfl)) (by kernel_rfl) (y_assign (by kernel_rfl)) ?_
    refine wpr_end (by kernel_rfl) ?_
    refine wpq_then ?_
    refine wpq_sub [(2, Value.slice A2 (s : List Sett).length c2)] (by kernel_rfl) ?_
    refine wpc_ret (rs := [.tmp 2]) [Value.slice A2 (s : List Sett).length c2] [k2] (by kernel_rfl) (fun _ _ h => h) (by kernel_rfl) (res_tmp (by kernel_rfl) res_nil) L0 (keepP [some 0] (by kernel_rfl) (by kernel_rfl)) ?_
    have eS : ( s) = (s : List Sett) := by
      rfl
    rw [eS]
    exact ⟨A2, c2, k2, rfl, rfl, hb2⟩

end Go.Proofs.Ytolppdcaaoghgaa
