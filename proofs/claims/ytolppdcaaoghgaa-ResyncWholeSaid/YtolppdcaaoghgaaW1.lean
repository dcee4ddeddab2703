/-
Walks, printed by wip/eng/eng.py. Conditions: each theorem's own.
-/
import Derived.Test.YtolppdcaaoghgaaP54
namespace Go.Proofs.Ytolppdcaaoghgaa
set_option linter.unusedVariables false
set_option linter.unusedSimpArgs false
open Go.RowKit
noncomputable def F42_0 : Code := sub (Try.f42.body.getD .skip) []
noncomputable def F42_1 : Code := sub (Try.f42.body.getD .skip) [0]
noncomputable def F42_2 : Code := sub (Try.f42.body.getD .skip) [1]
noncomputable def R42_1 : Array Oper := regOf F42_1
noncomputable def F42_4 : Code := sub (Try.f42.body.getD .skip) [1, 0]
noncomputable def F42_5 : Code := sub (Try.f42.body.getD .skip) [1, 1]
noncomputable def F42_6 : Code := sub (Try.f42.body.getD .skip) [1, 0, 0]
noncomputable def F42_7 : Code := sub (Try.f42.body.getD .skip) [1, 0, 1]
noncomputable def R42_6 : Array Oper := regOf F42_6
noncomputable def F42_9 : Code := sub (Try.f42.body.getD .skip) [1, 0, 1, 0]
noncomputable def F42_10 : Code := sub (Try.f42.body.getD .skip) [1, 0, 1, 1]
noncomputable def F42_11 : Code := sub (Try.f42.body.getD .skip) [1, 0, 1, 0, 0]
noncomputable def F42_12 : Code := sub (Try.f42.body.getD .skip) [1, 0, 1, 0, 1]
noncomputable def R42_11 : Array Oper := regOf F42_11
noncomputable def F42_14 : Code := sub (Try.f42.body.getD .skip) [1, 1, 0]
noncomputable def F42_15 : Code := sub (Try.f42.body.getD .skip) [1, 1, 1]
noncomputable def R42_14 : Array Oper := regOf F42_14
set_option maxRecDepth 100000 in
theorem c42 (g : Gh) (s : List UInt8) (As : Option Addr) (cs : Nat) (fs : Arr g.r tyU8 As cs s) :
    Ctr0 Try.prog 42 [Value.slice As (s).length cs] g (fun v ψ => ∃ (Ar : Option Addr) (cr : Nat), v = Value.slice Ar ((idL s)).length cr ∧ Arr ψ tyU8 Ar cr (idL s)) := by
  refine ctr_of Try.f42 F42_0 8 [Value.slice As (s).length cs] (by kernel_rfl) (by kernel_rfl) (by kernel_rfl) (by kernel_rfl) ?_
  have L0 := Gh.le.refl g
  have nfs := fs.len
  refine wpc_seq (x := F42_1) (y := F42_2) (by kernel_rfl) ?_
  refine wpc_region (ops := R42_1) (id := 0) (by kernel_rfl) ?_
  refine wpr_val 1 2 (.assign (.const (Value.slice none 0 0))) 22 (Value.slice none 0 0) (Runs.plain (by kernel_rfl)) (by kernel_rfl) (y_assign (by kernel_rfl)) ?_
  refine wpr_end (by kernel_rfl) ?_
  refine wpq_then ?_
  refine wpc_seq (x := F42_4) (y := F42_5) (by kernel_rfl) ?_
  refine wpc_seq (x := F42_6) (y := F42_7) (by kernel_rfl) ?_
  refine wpc_region (ops := R42_6) (id := 1) (by kernel_rfl) ?_
  refine wpr_val 1 3 (.move (.tmp 0)) 22 (Value.slice As (s).length cs) (Runs.plain (by kernel_rfl)) (by kernel_rfl) (y_move (by kernel_rfl)) ?_
  refine wpr_val 2 4 (.binOp .eql 22 (.tmp 3) (.const (Value.slice none 0 0)) 22) 4 (Value.bool ((Option.isNone As))) (Runs.plain (by kernel_rfl)) (by kernel_rfl) (y_isnil (e := 5) (l := (s).length) (c := cs) (l2 := 0) (c2 := 0) (by kernel_rfl) (by kernel_rfl) (by kernel_rfl)) ?_
  refine wpr_end (by kernel_rfl) ?_
  refine wpq_then ?_
  -- condition 0
  refine wpc_cond (x := F42_9) (y := F42_10) (o := (.tmp 4)) (b := (Option.isNone As)) (by kernel_rfl) (by kernel_rfl) (fun h0 => ?_) (fun h0 => ?_)
  · have hs := fs.nil_of h0
    refine wpc_seq (x := F42_11) (y := F42_12) (by kernel_rfl) ?_
    refine wpc_region (ops := R42_11) (id := 2) (by kernel_rfl) ?_
    refine wpr_val 1 2 (.assign (.const (Value.slice none 0 0))) 22 (Value.slice none 0 0) (Runs.plain (by kernel_rfl)) (by kernel_rfl) (y_assign (by kernel_rfl)) ?_
    refine wpr_end (by kernel_rfl) ?_
    refine wpq_then ?_
    refine wpc_ret (rs := [.tmp 2]) [Value.slice none 0 0] [] (by kernel_rfl) (fun _ _ h => h) (by kernel_rfl) (res_tmp (by kernel_rfl) res_nil) L0 keep0 ?_
    have eS : (idL s) = ([] : List UInt8) := by
      rw [hs]; rfl
    rw [eS]
    exact ⟨rfl, none, 0, rfl, Arr.nil⟩
  · refine wpc_skip (by kernel_rfl) ?_
    refine wpq_then ?_
    refine wpc_seq (x := F42_14) (y := F42_15) (by kernel_rfl) ?_
    refine wpc_region (ops := R42_14) (id := 3) (by kernel_rfl) ?_
    refine wpr_eff 1 5 (.buildSlice 22 0 #[]) 22 (Runs.plain (by kernel_rfl)) (by kernel_rfl) (e_buildSlice (et := 5) [] [] (by kernel_rfl) (by kernel_rfl)) ?_
    rintro _ _ _ - ⟨b1, rfl, rfl, rfl⟩
    refine wpr_val 2 6 (.move (.tmp 0)) 22 (Value.slice As (s).length cs) (Runs.plain (by kernel_rfl)) (by kernel_rfl) (y_move (by kernel_rfl)) ?_
    obtain ⟨nw2, hp2, hs2⟩ := fs.srcR
    refine wpr_eff 3 7 (.call { callee := .builtin .append, args := #[(.tmp 5), (.tmp 6)], argTypes := #[22, 22] }) 22 (Runs.plain (by kernel_rfl)) (by kernel_rfl) (e_appendQ (T := tyU8) (p := g.b) (et := 5) (bytes := 1) 0 (Value.slice (some ⟨b1, 0, none⟩) 0 0) (some ⟨b1, 5, []⟩) ([]) As (s).length cs (s) (by kernel_rfl) (by kernel_rfl) (by kernel_rfl) (by kernel_rfl) (buf_lit reps_nil rfl (by omega)) rfl (fun w hs => hs2 w _ hs) (flatU8.reps hp2) (by first | omega | (simp only [List.length_nil, List.length_cons, List.length_append] <;> omega)) (by first | omega | (simp only [List.length_nil, List.length_cons, List.length_append] <;> omega))) ?_
    rintro _ _ _ - ⟨A2, c2, k2, rfl, rfl, rfl, hb2⟩
    have hb2 : Buf g.b tyU8 5 (.slice A2 (s : List UInt8).length c2) k2 s := hb2
    have nhb2 := hb2.len
    refine wpr_val 4 2 (.assign (.tmp 7)) 22 (Value.slice A2 (s : List UInt8).length c2) (Runs.plain (by kernel_rfl)) (by kernel_rfl) (y_assign (by kernel_rfl)) ?_
    refine wpr_end (by kernel_rfl) ?_
    refine wpq_then ?_
    refine wpq_sub [(2, Value.slice A2 (s : List UInt8).length c2)] (by kernel_rfl) ?_
    refine wpq_freeze 0 (by kernel_rfl) hb2 (fun g3 le4 f5 => ?_)
    have fs := fs.mono le4.r
    have L0 := L0.trans le4
    refine wpc_ret (rs := [.tmp 2]) [Value.slice A2 (s : List UInt8).length c2] [] (by kernel_rfl) (fun _ _ h => h) (by kernel_rfl) (res_tmp (by kernel_rfl) res_nil) L0 keep0 ?_
    have eS : (idL s) = (s : List UInt8) := by
      rfl
    rw [eS]
    exact ⟨rfl, A2, c2, rfl, f5⟩

noncomputable def F45_0 : Code := sub (Try.f45.body.getD .skip) []
noncomputable def F45_1 : Code := sub (Try.f45.body.getD .skip) [0]
noncomputable def F45_2 : Code := sub (Try.f45.body.getD .skip) [1]
noncomputable def R45_1 : Array Oper := regOf F45_1
noncomputable def F45_4 : Code := sub (Try.f45.body.getD .skip) [1, 0]
noncomputable def F45_5 : Code := sub (Try.f45.body.getD .skip) [1, 1]
noncomputable def R45_4 : Array Oper := regOf F45_4
noncomputable def F45_7 : Code := sub (Try.f45.body.getD .skip) [1, 1, 0]
noncomputable def F45_8 : Code := sub (Try.f45.body.getD .skip) [1, 1, 1]
noncomputable def R45_7 : Array Oper := regOf F45_7
def copiedS (p : Piece) : Piece :=
  (⟨(p.base : Int), (p.index : Int), (p.count : Int), ((idL (p.data : List UInt8)) : List UInt8)⟩ : Piece)
set_option maxRecDepth 100000 in
theorem c45 (g : Gh) (p : Piece) (Ap_data : Option Addr) (cp_data : Nat) (fp_data : Arr g.r tyU8 Ap_data cp_data p.data) :
    Ctr0 Try.prog 45 [Value.agg #[Value.int .i64 (p.base), Value.int .i64 (p.index), Value.int .i64 (p.count), Value.slice Ap_data (p.data).length cp_data]] g (fun v ψ => ∃ (Ar_data : Option Addr) (cr_data : Nat), v = Value.agg #[Value.int .i64 ((copiedS p).base), Value.int .i64 ((copiedS p).index), Value.int .i64 ((copiedS p).count), Value.slice Ar_data ((copiedS p).data).length cr_data] ∧ Arr ψ tyU8 Ar_data cr_data (copiedS p).data) := by
  refine ctr_of Try.f45 F45_0 8 [Value.agg #[Value.int .i64 (p.base), Value.int .i64 (p.index), Value.int .i64 (p.count), Value.slice Ap_data (p.data).length cp_data]] (by kernel_rfl) (by kernel_rfl) (by kernel_rfl) (by kernel_rfl) ?_
  have L0 := Gh.le.refl g
  have nfp_data := fp_data.len
  refine wpc_seq (x := F45_1) (y := F45_2) (by kernel_rfl) ?_
  refine wpc_region (ops := R45_1) (id := 0) (by kernel_rfl) ?_
  refine wpr_eff 1 1 (.box 37 (.tmp 0)) 0 (Runs.plain (by kernel_rfl)) (by kernel_rfl) (e_box (v := Value.agg #[Value.int .i64 (p.base), Value.int .i64 (p.index), Value.int .i64 (p.count), Value.slice Ap_data (p.data).length cp_data]) (cs := [Value.int .i64 (p.base), Value.int .i64 (p.index), Value.int .i64 (p.count), Value.slice Ap_data (p.data).length cp_data]) (by kernel_rfl) (by kernel_rfl)) ?_
  rintro _ _ _ - ⟨b1, rfl, rfl, rfl⟩
  refine wpr_eff 2 2 (.alloc 37) 0 (Runs.plain (by kernel_rfl)) (by kernel_rfl) (e_alloc (cs := [Value.int .i64 (0), Value.int .i64 (0), Value.int .i64 (0), Value.slice none 0 0]) (by kernel_rfl)) ?_
  rintro _ _ _ - ⟨b2, rfl, rfl, rfl⟩
  refine wpr_end (by kernel_rfl) ?_
  refine wpq_then ?_
  refine wpc_seq (x := F45_4) (y := F45_5) (by kernel_rfl) ?_
  refine wpc_region (ops := R45_4) (id := 1) (by kernel_rfl) ?_
  refine wpr_val 1 3 (.fieldAddr 37 (.tmp 1) 3) 0 (Value.pointer (some ⟨b1, 3, none⟩)) (Runs.plain (by kernel_rfl)) (by kernel_rfl) (y_pure (by kernel_rfl) (fun _ => by kernel_rfl)) ?_
  refine wpr_val 2 4 (.load 22 (.tmp 3)) 22 (Value.slice Ap_data (p.data).length cp_data) (Runs.plain (by kernel_rfl)) (by kernel_rfl) (q_load1 b1 3 1 (by kernel_rfl) (by kernel_rfl) (by kernel_rfl)) ?_
  refine wpr_eff 3 5 (.call { callee := .value (.func 42), args := #[(.tmp 4)], argTypes := #[22] }) 22 (Runs.plain (by kernel_rfl)) (by kernel_rfl) (e_call [Value.slice Ap_data (p.data).length cp_data] (by kernel_rfl) (by kernel_rfl) (fun g' lr eb ln => c42 g' (p.data : List UInt8) Ap_data cp_data (fp_data.mono lr))) ?_
  rintro _ g4 _ le5 ⟨rfl, A3_0, c3_0, rfl, f3_0⟩
  have fp_data := fp_data.mono le5.r
  have L0 := L0.trans le5
  have nf3_0 := f3_0.len
  refine wpr_val 4 6 (.fieldAddr 37 (.tmp 1) 3) 0 (Value.pointer (some ⟨b1, 3, none⟩)) (Runs.plain (by kernel_rfl)) (by kernel_rfl) (y_pure (by kernel_rfl) (fun _ => by kernel_rfl)) ?_
  refine wpr_do 5 (.store 22 (.tmp 6) (.tmp 5)) 0 (Runs.plain (by kernel_rfl)) (by kernel_rfl) (q_store b1 3 1 (Value.slice A3_0 ((idL (p.data : List UInt8))).length c3_0) [Value.slice A3_0 ((idL (p.data : List UInt8))).length c3_0] 37 [Value.int .i64 (p.base), Value.int .i64 (p.index), Value.int .i64 (p.count), Value.slice Ap_data (p.data).length cp_data] [Value.int .i64 (p.base), Value.int .i64 (p.index), Value.int .i64 (p.count), Value.slice A3_0 ((idL (p.data : List UInt8))).length c3_0] (by kernel_rfl) (by kernel_rfl) (by kernel_rfl) (by kernel_rfl) (by kernel_rfl) (by kernel_rfl) (by kernel_rfl)) ?_
  rintro _ _ _ - ⟨rfl, rfl⟩
  refine wpr_end (by kernel_rfl) ?_
  refine wpq_then ?_
  refine wpq_sub [(1, Value.pointer (some ⟨b1, 0, none⟩)), (2, Value.pointer (some ⟨b2, 0, none⟩))] (by kernel_rfl) ?_
  refine wpc_seq (x := F45_7) (y := F45_8) (by kernel_rfl) ?_
  refine wpc_region (ops := R45_7) (id := 2) (by kernel_rfl) ?_
  refine wpr_val 1 7 (.load 37 (.tmp 1)) 37 (Value.agg #[Value.int .i64 (p.base), Value.int .i64 (p.index), Value.int .i64 (p.count), Value.slice A3_0 ((idL (p.data : List UInt8))).length c3_0]) (Runs.plain (by kernel_rfl)) (by kernel_rfl) (q_loadA b1 0 1 [Value.int .i64 (p.base), Value.int .i64 (p.index), Value.int .i64 (p.count), Value.slice A3_0 ((idL (p.data : List UInt8))).length c3_0] (by kernel_rfl) (by kernel_rfl) (by kernel_rfl)) ?_
  refine wpr_do 2 (.store 37 (.tmp 2) (.tmp 7)) 0 (Runs.plain (by kernel_rfl)) (by kernel_rfl) (q_store b2 0 0 (Value.agg #[Value.int .i64 (p.base), Value.int .i64 (p.index), Value.int .i64 (p.count), Value.slice A3_0 ((idL (p.data : List UInt8))).length c3_0]) [Value.int .i64 (p.base), Value.int .i64 (p.index), Value.int .i64 (p.count), Value.slice A3_0 ((idL (p.data : List UInt8))).length c3_0] 37 [Value.int .i64 (0), Value.int .i64 (0), Value.int .i64 (0), Value.slice none 0 0] [Value.int .i64 (p.base), Value.int .i64 (p.index), Value.int .i64 (p.count), Value.slice A3_0 ((idL (p.data : List UInt8))).length c3_0] (by kernel_rfl) (by kernel_rfl) (by kernel_rfl) (by kernel_rfl) (by kernel_rfl) (by kernel_rfl) (by kernel_rfl)) ?_
  rintro _ _ _ - ⟨rfl, rfl⟩
  refine wpr_end (by kernel_rfl) ?_
  refine wpq_then ?_
  refine wpc_ret (rs := [.cell 2 37]) [Value.agg #[Value.int .i64 (p.base), Value.int .i64 (p.index), Value.int .i64 (p.count), Value.slice A3_0 ((idL (p.data : List UInt8))).length c3_0]] [] (by kernel_rfl) (fun _ _ h => h) (by kernel_rfl) (rq_cellA b2 0 0 [Value.int .i64 (p.base), Value.int .i64 (p.index), Value.int .i64 (p.count), Value.slice A3_0 ((idL (p.data : List UInt8))).length c3_0] (by kernel_rfl) (by kernel_rfl) (by kernel_rfl) res_nil) L0 keep0 ?_
  have eS : (copiedS p) = (⟨(p.base : Int), (p.index : Int), (p.count : Int), ((idL (p.data : List UInt8)) : List UInt8)⟩ : Piece) := by
    unfold copiedS
    rfl
  rw [eS]
  exact ⟨rfl, A3_0, c3_0, rfl, f3_0⟩

noncomputable def F46_0 : Code := sub (Try.f46.body.getD .skip) []
noncomputable def F46_1 : Code := sub (Try.f46.body.getD .skip) [0]
noncomputable def F46_2 : Code := sub (Try.f46.body.getD .skip) [1]
noncomputable def R46_1 : Array Oper := regOf F46_1
noncomputable def F46_4 : Code := sub (Try.f46.body.getD .skip) [1, 0]
noncomputable def F46_5 : Code := sub (Try.f46.body.getD .skip) [1, 1]
noncomputable def R46_4 : Array Oper := regOf F46_4
def validS (p : Piece) : Bool :=
  (((((((decide (p.base ≥ 1) && decide (p.base ≤ 2305843009213693952)) && decide (p.count ≥ 1)) && decide (p.count ≤ 874)) && decide (p.index ≥ 0)) && decide (p.index < p.count)) && decide ((((p.data).length : Nat) : Int) ≤ 600)))
set_option maxRecDepth 100000 in
theorem c46 (g : Gh) (p : Piece) (Ap_data : Option Addr) (cp_data : Nat) (fp_data : Arr g.r tyU8 Ap_data cp_data p.data) :
    Ctr0 Try.prog 46 [Value.agg #[Value.int .i64 (p.base), Value.int .i64 (p.index), Value.int .i64 (p.count), Value.slice Ap_data (p.data).length cp_data]] g (fun v ψ => v = Value.bool ((validS p))) := by
  refine ctr_of Try.f46 F46_0 39 [Value.agg #[Value.int .i64 (p.base), Value.int .i64 (p.index), Value.int .i64 (p.count), Value.slice Ap_data (p.data).length cp_data]] (by kernel_rfl) (by kernel_rfl) (by kernel_rfl) (by kernel_rfl) ?_
  have L0 := Gh.le.refl g
  have nfp_data := fp_data.len
  refine wpc_seq (x := F46_1) (y := F46_2) (by kernel_rfl) ?_
  refine wpc_region (ops := R46_1) (id := 0) (by kernel_rfl) ?_
  refine wpr_eff 1 1 (.box 37 (.tmp 0)) 0 (Runs.plain (by kernel_rfl)) (by kernel_rfl) (e_box (v := Value.agg #[Value.int .i64 (p.base), Value.int .i64 (p.index), Value.int .i64 (p.count), Value.slice Ap_data (p.data).length cp_data]) (cs := [Value.int .i64 (p.base), Value.int .i64 (p.index), Value.int .i64 (p.count), Value.slice Ap_data (p.data).length cp_data]) (by kernel_rfl) (by kernel_rfl)) ?_
  rintro _ _ _ - ⟨b1, rfl, rfl, rfl⟩
  refine wpr_val 2 2 (.assign (.const (Value.bool (false)))) 4 (Value.bool (false)) (Runs.plain (by kernel_rfl)) (by kernel_rfl) (y_assign (by kernel_rfl)) ?_
  refine wpr_end (by kernel_rfl) ?_
  refine wpq_then ?_
  refine wpc_seq (x := F46_4) (y := F46_5) (by kernel_rfl) ?_
  refine wpc_region (ops := R46_4) (id := 1) (by kernel_rfl) ?_
  refine wpr_val 1 3 (.fieldAddr 37 (.tmp 1) 0) 0 (Value.pointer (some ⟨b1, 0, none⟩)) (Runs.plain (by kernel_rfl)) (by kernel_rfl) (y_pure (by kernel_rfl) (fun _ => by kernel_rfl)) ?_
  refine wpr_val 2 4 (.load 2 (.tmp 3)) 2 (Value.int .i64 (p.base)) (Runs.plain (by kernel_rfl)) (by kernel_rfl) (q_load1 b1 0 0 (by kernel_rfl) (by kernel_rfl) (by kernel_rfl)) ?_
  refine wpr_val 3 5 (.binOp .geq 2 (.tmp 4) (.const (Value.int .i64 (1))) 2) 4 (Value.bool (decide (p.base ≥ 1))) (Runs.plain (by kernel_rfl)) (by kernel_rfl) (y_pure (by kernel_rfl) (fun _ => by kernel_rfl)) ?_
  refine wpr_val 4 6 (.move (.tmp 5)) 4 (Value.bool (decide (p.base ≥ 1))) (Runs.plain (by kernel_rfl)) (by kernel_rfl) (y_move (by kernel_rfl)) ?_
  refine wpr_grp 8 [(1, Value.pointer (some ⟨b1, 0, none⟩)), (2, Value.bool (false)), (10, Value.bool ((decide (p.base ≥ 1) && decide (p.base ≤ 2305843009213693952))))] (fun hk3 => ?_) ?_
  · refine wpq_split 6 (b := decide (p.base ≥ 1)) (by kernel_rfl) (fun q2 => ?_) (fun q2 => ?_)
    · have q2p := of_decide_eq_true q2
      refine wpr_val 5 7 (.fieldAddr 37 (.tmp 1) 0) 0 (Value.pointer (some ⟨b1, 0, none⟩)) (Runs.guarded (j := 3) (t := 6) (b := true) (by kernel_rfl) (by kernel_rfl) (by kernel_rfl)) (by kernel_rfl) (y_pure (by kernel_rfl) (fun _ => by kernel_rfl)) ?_
      refine wpr_val 6 8 (.load 2 (.tmp 7)) 2 (Value.int .i64 (p.base)) (Runs.guarded (j := 3) (t := 6) (b := true) (by kernel_rfl) (by kernel_rfl) (by kernel_rfl)) (by kernel_rfl) (q_load1 b1 0 0 (by kernel_rfl) (by kernel_rfl) (by kernel_rfl)) ?_
      refine wpr_val 7 9 (.binOp .leq 2 (.tmp 8) (.const (Value.int .i64 (2305843009213693952))) 2) 4 (Value.bool (decide (p.base ≤ 2305843009213693952))) (Runs.guarded (j := 3) (t := 6) (b := true) (by kernel_rfl) (by kernel_rfl) (by kernel_rfl)) (by kernel_rfl) (y_pure (by kernel_rfl) (fun _ => by kernel_rfl)) ?_
      refine wpr_val 8 10 (.pick (.tmp 6) (.tmp 9) (.const (Value.bool (false)))) 4 (Value.bool (decide (p.base ≤ 2305843009213693952))) (Runs.plain (by kernel_rfl)) (by kernel_rfl) (y_pickT (by kernel_rfl) (by kernel_rfl)) ?_
      refine wpq_re 10 (v := Value.bool (decide (p.base ≤ 2305843009213693952))) (Value.bool ((decide (p.base ≥ 1) && decide (p.base ≤ 2305843009213693952)))) (by kernel_rfl) (re_and1 q2) ?_
      exact wpq_sub _ (by kernel_rfl) hk3
    · have q2p := of_decide_eq_false q2
      refine wpr_skip 5 7 (Skips.mk' (j := 3) (t := 6) (b := true) (by kernel_rfl) (by kernel_rfl) (by kernel_rfl)) (by kernel_rfl) ?_
      refine wpr_skip 6 8 (Skips.mk' (j := 3) (t := 6) (b := true) (by kernel_rfl) (by kernel_rfl) (by kernel_rfl)) (by kernel_rfl) ?_
      refine wpr_skip 7 9 (Skips.mk' (j := 3) (t := 6) (b := true) (by kernel_rfl) (by kernel_rfl) (by kernel_rfl)) (by kernel_rfl) ?_
      refine wpr_val 8 10 (.pick (.tmp 6) (.tmp 9) (.const (Value.bool (false)))) 4 (Value.bool (false)) (Runs.plain (by kernel_rfl)) (by kernel_rfl) (y_pickF (by kernel_rfl) (by kernel_rfl)) ?_
      refine wpq_re 10 (v := Value.bool (false)) (Value.bool ((decide (p.base ≥ 1) && decide (p.base ≤ 2305843009213693952)))) (by kernel_rfl) (re_and0 q2) ?_
      exact wpq_sub _ (by kernel_rfl) hk3
  · refine wpr_val 9 11 (.move (.tmp 10)) 4 (Value.bool ((decide (p.base ≥ 1) && decide (p.base ≤ 2305843009213693952)))) (Runs.plain (by kernel_rfl)) (by kernel_rfl) (y_move (by kernel_rfl)) ?_
    refine wpr_grp 13 [(1, Value.pointer (some ⟨b1, 0, none⟩)), (2, Value.bool (false)), (15, Value.bool (((decide (p.base ≥ 1) && decide (p.base ≤ 2305843009213693952)) && decide (p.count ≥ 1))))] (fun hk8 => ?_) ?_
    · refine wpq_split 11 (b := (decide (p.base ≥ 1) && decide (p.base ≤ 2305843009213693952))) (by kernel_rfl) (fun q3 => ?_) (fun q3 => ?_)
      · have q3l := (and_true_ q3).1
        have q3r := (and_true_ q3).2
        have q3lp := of_decide_eq_true q3l
        have q3rp := of_decide_eq_true q3r
        refine wpr_val 10 12 (.fieldAddr 37 (.tmp 1) 2) 0 (Value.pointer (some ⟨b1, 2, none⟩)) (Runs.guarded (j := 8) (t := 11) (b := true) (by kernel_rfl) (by kernel_rfl) (by kernel_rfl)) (by kernel_rfl) (y_pure (by kernel_rfl) (fun _ => by kernel_rfl)) ?_
        refine wpr_val 11 13 (.load 3 (.tmp 12)) 3 (Value.int .i64 (p.count)) (Runs.guarded (j := 8) (t := 11) (b := true) (by kernel_rfl) (by kernel_rfl) (by kernel_rfl)) (by kernel_rfl) (q_load1 b1 2 0 (by kernel_rfl) (by kernel_rfl) (by kernel_rfl)) ?_
        refine wpr_val 12 14 (.binOp .geq 3 (.tmp 13) (.const (Value.int .i64 (1))) 3) 4 (Value.bool (decide (p.count ≥ 1))) (Runs.guarded (j := 8) (t := 11) (b := true) (by kernel_rfl) (by kernel_rfl) (by kernel_rfl)) (by kernel_rfl) (y_pure (by kernel_rfl) (fun _ => by kernel_rfl)) ?_
        refine wpr_val 13 15 (.pick (.tmp 11) (.tmp 14) (.const (Value.bool (false)))) 4 (Value.bool (decide (p.count ≥ 1))) (Runs.plain (by kernel_rfl)) (by kernel_rfl) (y_pickT (by kernel_rfl) (by kernel_rfl)) ?_
        refine wpq_re 15 (v := Value.bool (decide (p.count ≥ 1))) (Value.bool (((decide (p.base ≥ 1) && decide (p.base ≤ 2305843009213693952)) && decide (p.count ≥ 1)))) (by kernel_rfl) (re_and1 q3) ?_
        exact wpq_sub _ (by kernel_rfl) hk8
      · refine wpr_skip 10 12 (Skips.mk' (j := 8) (t := 11) (b := true) (by kernel_rfl) (by kernel_rfl) (by kernel_rfl)) (by kernel_rfl) ?_
        refine wpr_skip 11 13 (Skips.mk' (j := 8) (t := 11) (b := true) (by kernel_rfl) (by kernel_rfl) (by kernel_rfl)) (by kernel_rfl) ?_
        refine wpr_skip 12 14 (Skips.mk' (j := 8) (t := 11) (b := true) (by kernel_rfl) (by kernel_rfl) (by kernel_rfl)) (by kernel_rfl) ?_
        refine wpr_val 13 15 (.pick (.tmp 11) (.tmp 14) (.const (Value.bool (false)))) 4 (Value.bool (false)) (Runs.plain (by kernel_rfl)) (by kernel_rfl) (y_pickF (by kernel_rfl) (by kernel_rfl)) ?_
        refine wpq_re 15 (v := Value.bool (false)) (Value.bool (((decide (p.base ≥ 1) && decide (p.base ≤ 2305843009213693952)) && decide (p.count ≥ 1)))) (by kernel_rfl) (re_and0 q3) ?_
        exact wpq_sub _ (by kernel_rfl) hk8
    · refine wpr_val 14 16 (.move (.tmp 15)) 4 (Value.bool (((decide (p.base ≥ 1) && decide (p.base ≤ 2305843009213693952)) && decide (p.count ≥ 1)))) (Runs.plain (by kernel_rfl)) (by kernel_rfl) (y_move (by kernel_rfl)) ?_
      refine wpr_grp 18 [(1, Value.pointer (some ⟨b1, 0, none⟩)), (2, Value.bool (false)), (20, Value.bool ((((decide (p.base ≥ 1) && decide (p.base ≤ 2305843009213693952)) && decide (p.count ≥ 1)) && decide (p.count ≤ 874))))] (fun hk13 => ?_) ?_
      · refine wpq_split 16 (b := ((decide (p.base ≥ 1) && decide (p.base ≤ 2305843009213693952)) && decide (p.count ≥ 1))) (by kernel_rfl) (fun q4 => ?_) (fun q4 => ?_)
        · have q4l := (and_true_ q4).1
          have q4r := (and_true_ q4).2
          have q4ll := (and_true_ q4l).1
          have q4lr := (and_true_ q4l).2
          have q4llp := of_decide_eq_true q4ll
          have q4lrp := of_decide_eq_true q4lr
          have q4rp := of_decide_eq_true q4r
          refine wpr_val 15 17 (.fieldAddr 37 (.tmp 1) 2) 0 (Value.pointer (some ⟨b1, 2, none⟩)) (Runs.guarded (j := 13) (t := 16) (b := true) (by kernel_rfl) (by kernel_rfl) (by kernel_rfl)) (by kernel_rfl) (y_pure (by kernel_rfl) (fun _ => by kernel_rfl)) ?_
          refine wpr_val 16 18 (.load 3 (.tmp 17)) 3 (Value.int .i64 (p.count)) (Runs.guarded (j := 13) (t := 16) (b := true) (by kernel_rfl) (by kernel_rfl) (by kernel_rfl)) (by kernel_rfl) (q_load1 b1 2 0 (by kernel_rfl) (by kernel_rfl) (by kernel_rfl)) ?_
          refine wpr_val 17 19 (.binOp .leq 3 (.tmp 18) (.const (Value.int .i64 (874))) 3) 4 (Value.bool (decide (p.count ≤ 874))) (Runs.guarded (j := 13) (t := 16) (b := true) (by kernel_rfl) (by kernel_rfl) (by kernel_rfl)) (by kernel_rfl) (y_pure (by kernel_rfl) (fun _ => by kernel_rfl)) ?_
          refine wpr_val 18 20 (.pick (.tmp 16) (.tmp 19) (.const (Value.bool (false)))) 4 (Value.bool (decide (p.count ≤ 874))) (Runs.plain (by kernel_rfl)) (by kernel_rfl) (y_pickT (by kernel_rfl) (by kernel_rfl)) ?_
          refine wpq_re 20 (v := Value.bool (decide (p.count ≤ 874))) (Value.bool ((((decide (p.base ≥ 1) && decide (p.base ≤ 2305843009213693952)) && decide (p.count ≥ 1)) && decide (p.count ≤ 874)))) (by kernel_rfl) (re_and1 q4) ?_
          exact wpq_sub _ (by kernel_rfl) hk13
        · refine wpr_skip 15 17 (Skips.mk' (j := 13) (t := 16) (b := true) (by kernel_rfl) (by kernel_rfl) (by kernel_rfl)) (by kernel_rfl) ?_
          refine wpr_skip 16 18 (Skips.mk' (j := 13) (t := 16) (b := true) (by kernel_rfl) (by kernel_rfl) (by kernel_rfl)) (by kernel_rfl) ?_
          refine wpr_skip 17 19 (Skips.mk' (j := 13) (t := 16) (b := true) (by kernel_rfl) (by kernel_rfl) (by kernel_rfl)) (by kernel_rfl) ?_
          refine wpr_val 18 20 (.pick (.tmp 16) (.tmp 19) (.const (Value.bool (false)))) 4 (Value.bool (false)) (Runs.plain (by kernel_rfl)) (by kernel_rfl) (y_pickF (by kernel_rfl) (by kernel_rfl)) ?_
          refine wpq_re 20 (v := Value.bool (false)) (Value.bool ((((decide (p.base ≥ 1) && decide (p.base ≤ 2305843009213693952)) && decide (p.count ≥ 1)) && decide (p.count ≤ 874)))) (by kernel_rfl) (re_and0 q4) ?_
          exact wpq_sub _ (by kernel_rfl) hk13
      · refine wpr_val 19 21 (.move (.tmp 20)) 4 (Value.bool ((((decide (p.base ≥ 1) && decide (p.base ≤ 2305843009213693952)) && decide (p.count ≥ 1)) && decide (p.count ≤ 874)))) (Runs.plain (by kernel_rfl)) (by kernel_rfl) (y_move (by kernel_rfl)) ?_
        refine wpr_grp 23 [(1, Value.pointer (some ⟨b1, 0, none⟩)), (2, Value.bool (false)), (25, Value.bool (((((decide (p.base ≥ 1) && decide (p.base ≤ 2305843009213693952)) && decide (p.count ≥ 1)) && decide (p.count ≤ 874)) && decide (p.index ≥ 0))))] (fun hk18 => ?_) ?_
        · refine wpq_split 21 (b := (((decide (p.base ≥ 1) && decide (p.base ≤ 2305843009213693952)) && decide (p.count ≥ 1)) && decide (p.count ≤ 874))) (by kernel_rfl) (fun q5 => ?_) (fun q5 => ?_)
          · have q5l := (and_true_ q5).1
            have q5r := (and_true_ q5).2
            have q5ll := (and_true_ q5l).1
            have q5lr := (and_true_ q5l).2
            have q5lll := (and_true_ q5ll).1
            have q5llr := (and_true_ q5ll).2
            have q5lllp := of_decide_eq_true q5lll
            have q5llrp := of_decide_eq_true q5llr
            have q5lrp := of_decide_eq_true q5lr
            have q5rp := of_decide_eq_true q5r
            refine wpr_val 20 22 (.fieldAddr 37 (.tmp 1) 1) 0 (Value.pointer (some ⟨b1, 1, none⟩)) (Runs.guarded (j := 18) (t := 21) (b := true) (by kernel_rfl) (by kernel_rfl) (by kernel_rfl)) (by kernel_rfl) (y_pure (by kernel_rfl) (fun _ => by kernel_rfl)) ?_
            refine wpr_val 21 23 (.load 3 (.tmp 22)) 3 (Value.int .i64 (p.index)) (Runs.guarded (j := 18) (t := 21) (b := true) (by kernel_rfl) (by kernel_rfl) (by kernel_rfl)) (by kernel_rfl) (q_load1 b1 1 0 (by kernel_rfl) (by kernel_rfl) (by kernel_rfl)) ?_
            refine wpr_val 22 24 (.binOp .geq 3 (.tmp 23) (.const (Value.int .i64 (0))) 3) 4 (Value.bool (decide (p.index ≥ 0))) (Runs.guarded (j := 18) (t := 21) (b := true) (by kernel_rfl) (by kernel_rfl) (by kernel_rfl)) (by kernel_rfl) (y_pure (by kernel_rfl) (fun _ => by kernel_rfl)) ?_
            refine wpr_val 23 25 (.pick (.tmp 21) (.tmp 24) (.const (Value.bool (false)))) 4 (Value.bool (decide (p.index ≥ 0))) (Runs.plain (by kernel_rfl)) (by kernel_rfl) (y_pickT (by kernel_rfl) (by kernel_rfl)) ?_
            refine wpq_re 25 (v := Value.bool (decide (p.index ≥ 0))) (Value.bool (((((decide (p.base ≥ 1) && decide (p.base ≤ 2305843009213693952)) && decide (p.count ≥ 1)) && decide (p.count ≤ 874)) && decide (p.index ≥ 0)))) (by kernel_rfl) (re_and1 q5) ?_
            exact wpq_sub _ (by kernel_rfl) hk18
          · refine wpr_skip 20 22 (Skips.mk' (j := 18) (t := 21) (b := true) (by kernel_rfl) (by kernel_rfl) (by kernel_rfl)) (by kernel_rfl) ?_
            refine wpr_skip 21 23 (Skips.mk' (j := 18) (t := 21) (b := true) (by kernel_rfl) (by kernel_rfl) (by kernel_rfl)) (by kernel_rfl) ?_
            refine wpr_skip 22 24 (Skips.mk' (j := 18) (t := 21) (b := true) (by kernel_rfl) (by kernel_rfl) (by kernel_rfl)) (by kernel_rfl) ?_
            refine wpr_val 23 25 (.pick (.tmp 21) (.tmp 24) (.const (Value.bool (false)))) 4 (Value.bool (false)) (Runs.plain (by kernel_rfl)) (by kernel_rfl) (y_pickF (by kernel_rfl) (by kernel_rfl)) ?_
            refine wpq_re 25 (v := Value.bool (false)) (Value.bool (((((decide (p.base ≥ 1) && decide (p.base ≤ 2305843009213693952)) && decide (p.count ≥ 1)) && decide (p.count ≤ 874)) && decide (p.index ≥ 0)))) (by kernel_rfl) (re_and0 q5) ?_
            exact wpq_sub _ (by kernel_rfl) hk18
        · refine wpr_val 24 26 (.move (.tmp 25)) 4 (Value.bool (((((decide (p.base ≥ 1) && decide (p.base ≤ 2305843009213693952)) && decide (p.count ≥ 1)) && decide (p.count ≤ 874)) && decide (p.index ≥ 0)))) (Runs.plain (by kernel_rfl)) (by kernel_rfl) (y_move (by kernel_rfl)) ?_
          refine wpr_grp 30 [(1, Value.pointer (some ⟨b1, 0, none⟩)), (2, Value.bool (false)), (32, Value.bool ((((((decide (p.base ≥ 1) && decide (p.base ≤ 2305843009213693952)) && decide (p.count ≥ 1)) && decide (p.count ≤ 874)) && decide (p.index ≥ 0)) && decide (p.index < p.count))))] (fun hk23 => ?_) ?_
          · refine wpq_split 26 (b := ((((decide (p.base ≥ 1) && decide (p.base ≤ 2305843009213693952)) && decide (p.count ≥ 1)) && decide (p.count ≤ 874)) && decide (p.index ≥ 0))) (by kernel_rfl) (fun q6 => ?_) (fun q6 => ?_)
            · have q6l := (and_true_ q6).1
              have q6r := (and_true_ q6).2
              have q6ll := (and_true_ q6l).1
              have q6lr := (and_true_ q6l).2
              have q6lll := (and_true_ q6ll).1
              have q6llr := (and_true_ q6ll).2
              have q6llll := (and_true_ q6lll).1
              have q6lllr := (and_true_ q6lll).2
              have q6llllp := of_decide_eq_true q6llll
              have q6lllrp := of_decide_eq_true q6lllr
              have q6llrp := of_decide_eq_true q6llr
              have q6lrp := of_decide_eq_true q6lr
              have q6rp := of_decide_eq_true q6r
              refine wpr_val 25 27 (.fieldAddr 37 (.tmp 1) 1) 0 (Value.pointer (some ⟨b1, 1, none⟩)) (Runs.guarded (j := 23) (t := 26) (b := true) (by kernel_rfl) (by kernel_rfl) (by kernel_rfl)) (by kernel_rfl) (y_pure (by kernel_rfl) (fun _ => by kernel_rfl)) ?_
              refine wpr_val 26 28 (.load 3 (.tmp 27)) 3 (Value.int .i64 (p.index)) (Runs.guarded (j := 23) (t := 26) (b := true) (by kernel_rfl) (by kernel_rfl) (by kernel_rfl)) (by kernel_rfl) (q_load1 b1 1 0 (by kernel_rfl) (by kernel_rfl) (by kernel_rfl)) ?_
              refine wpr_val 27 29 (.fieldAddr 37 (.tmp 1) 2) 0 (Value.pointer (some ⟨b1, 2, none⟩)) (Runs.guarded (j := 23) (t := 26) (b := true) (by kernel_rfl) (by kernel_rfl) (by kernel_rfl)) (by kernel_rfl) (y_pure (by kernel_rfl) (fun _ => by kernel_rfl)) ?_
              refine wpr_val 28 30 (.load 3 (.tmp 29)) 3 (Value.int .i64 (p.count)) (Runs.guarded (j := 23) (t := 26) (b := true) (by kernel_rfl) (by kernel_rfl) (by kernel_rfl)) (by kernel_rfl) (q_load1 b1 2 0 (by kernel_rfl) (by kernel_rfl) (by kernel_rfl)) ?_
              refine wpr_val 29 31 (.binOp .lss 3 (.tmp 28) (.tmp 30) 3) 4 (Value.bool (decide (p.index < p.count))) (Runs.guarded (j := 23) (t := 26) (b := true) (by kernel_rfl) (by kernel_rfl) (by kernel_rfl)) (by kernel_rfl) (y_pure (by kernel_rfl) (fun _ => by kernel_rfl)) ?_
              refine wpr_val 30 32 (.pick (.tmp 26) (.tmp 31) (.const (Value.bool (false)))) 4 (Value.bool (decide (p.index < p.count))) (Runs.plain (by kernel_rfl)) (by kernel_rfl) (y_pickT (by kernel_rfl) (by kernel_rfl)) ?_
              refine wpq_re 32 (v := Value.bool (decide (p.index < p.count))) (Value.bool ((((((decide (p.base ≥ 1) && decide (p.base ≤ 2305843009213693952)) && decide (p.count ≥ 1)) && decide (p.count ≤ 874)) && decide (p.index ≥ 0)) && decide (p.index < p.count)))) (by kernel_rfl) (re_and1 q6) ?_
              exact wpq_sub _ (by kernel_rfl) hk23
            · refine wpr_skip 25 27 (Skips.mk' (j := 23) (t := 26) (b := true) (by kernel_rfl) (by kernel_rfl) (by kernel_rfl)) (by kernel_rfl) ?_
              refine wpr_skip 26 28 (Skips.mk' (j := 23) (t := 26) (b := true) (by kernel_rfl) (by kernel_rfl) (by kernel_rfl)) (by kernel_rfl) ?_
              refine wpr_skip 27 29 (Skips.mk' (j := 23) (t := 26) (b := true) (by kernel_rfl) (by kernel_rfl) (by kernel_rfl)) (by kernel_rfl) ?_
              refine wpr_skip 28 30 (Skips.mk' (j := 23) (t := 26) (b := true) (by kernel_rfl) (by kernel_rfl) (by kernel_rfl)) (by kernel_rfl) ?_
              refine wpr_skip 29 31 (Skips.mk' (j := 23) (t := 26) (b := true) (by kernel_rfl) (by kernel_rfl) (by kernel_rfl)) (by kernel_rfl) ?_
              refine wpr_val 30 32 (.pick (.tmp 26) (.tmp 31) (.const (Value.bool (false)))) 4 (Value.bool (false)) (Runs.plain (by kernel_rfl)) (by kernel_rfl) (y_pickF (by kernel_rfl) (by kernel_rfl)) ?_
              refine wpq_re 32 (v := Value.bool (false)) (Value.bool ((((((decide (p.base ≥ 1) && decide (p.base ≤ 2305843009213693952)) && decide (p.count ≥ 1)) && decide (p.count ≤ 874)) && decide (p.index ≥ 0)) && decide (p.index < p.count)))) (by kernel_rfl) (re_and0 q6) ?_
              exact wpq_sub _ (by kernel_rfl) hk23
          · refine wpr_val 31 33 (.move (.tmp 32)) 4 (Value.bool ((((((decide (p.base ≥ 1) && decide (p.base ≤ 2305843009213693952)) && decide (p.count ≥ 1)) && decide (p.count ≤ 874)) && decide (p.index ≥ 0)) && decide (p.index < p.count)))) (Runs.plain (by kernel_rfl)) (by kernel_rfl) (y_move (by kernel_rfl)) ?_
            refine wpr_grp 36 [(2, Value.bool (false)), (38, Value.bool (((((((decide (p.base ≥ 1) && decide (p.base ≤ 2305843009213693952)) && decide (p.count ≥ 1)) && decide (p.count ≤ 874)) && decide (p.index ≥ 0)) && decide (p.index < p.count)) && decide ((((p.data).length : Nat) : Int) ≤ 600))))] (fun hk30 => ?_) ?_
            · refine wpq_split 33 (b := (((((decide (p.base ≥ 1) && decide (p.base ≤ 2305843009213693952)) && decide (p.count ≥ 1)) && decide (p.count ≤ 874)) && decide (p.index ≥ 0)) && decide (p.index < p.count))) (by kernel_rfl) (fun q7 => ?_) (fun q7 => ?_)
              · have q7l := (and_true_ q7).1
                have q7r := (and_true_ q7).2
                have q7ll := (and_true_ q7l).1
                have q7lr := (and_true_ q7l).2
                have q7lll := (and_true_ q7ll).1
                have q7llr := (and_true_ q7ll).2
                have q7llll := (and_true_ q7lll).1
                have q7lllr := (and_true_ q7lll).2
                have q7lllll := (and_true_ q7llll).1
                have q7llllr := (and_true_ q7llll).2
                have q7lllllp := of_decide_eq_true q7lllll
                have q7llllrp := of_decide_eq_true q7llllr
                have q7lllrp := of_decide_eq_true q7lllr
                have q7llrp := of_decide_eq_true q7llr
                have q7lrp := of_decide_eq_true q7lr
                have q7rp := of_decide_eq_true q7r
                refine wpr_val 32 34 (.fieldAddr 37 (.tmp 1) 3) 0 (Value.pointer (some ⟨b1, 3, none⟩)) (Runs.guarded (j := 30) (t := 33) (b := true) (by kernel_rfl) (by kernel_rfl) (by kernel_rfl)) (by kernel_rfl) (y_pure (by kernel_rfl) (fun _ => by kernel_rfl)) ?_
                refine wpr_val 33 35 (.load 22 (.tmp 34)) 22 (Value.slice Ap_data (p.data).length cp_data) (Runs.guarded (j := 30) (t := 33) (b := true) (by kernel_rfl) (by kernel_rfl) (by kernel_rfl)) (by kernel_rfl) (q_load1 b1 3 0 (by kernel_rfl) (by kernel_rfl) (by kernel_rfl)) ?_
                refine wpr_val 34 36 (.call { callee := .builtin .len, args := #[(.tmp 35)], argTypes := #[22] }) 3 (Value.int .i64 ((((p.data).length : Nat) : Int))) (Runs.guarded (j := 30) (t := 33) (b := true) (by kernel_rfl) (by kernel_rfl) (by kernel_rfl)) (by kernel_rfl) (y_pure (by kernel_rfl) (fun _ => by kernel_rfl)) ?_
                refine wpr_val 35 37 (.binOp .leq 3 (.tmp 36) (.const (Value.int .i64 (600))) 3) 4 (Value.bool (decide ((((p.data).length : Nat) : Int) ≤ 600))) (Runs.guarded (j := 30) (t := 33) (b := true) (by kernel_rfl) (by kernel_rfl) (by kernel_rfl)) (by kernel_rfl) (y_pure (by kernel_rfl) (fun _ => by kernel_rfl)) ?_
                refine wpr_val 36 38 (.pick (.tmp 33) (.tmp 37) (.const (Value.bool (false)))) 4 (Value.bool (decide ((((p.data).length : Nat) : Int) ≤ 600))) (Runs.plain (by kernel_rfl)) (by kernel_rfl) (y_pickT (by kernel_rfl) (by kernel_rfl)) ?_
                refine wpq_re 38 (v := Value.bool (decide ((((p.data).length : Nat) : Int) ≤ 600))) (Value.bool (((((((decide (p.base ≥ 1) && decide (p.base ≤ 2305843009213693952)) && decide (p.count ≥ 1)) && decide (p.count ≤ 874)) && decide (p.index ≥ 0)) && decide (p.index < p.count)) && decide ((((p.data).length : Nat) : Int) ≤ 600)))) (by kernel_rfl) (re_and1 q7) ?_
                exact wpq_sub _ (by kernel_rfl) hk30
              · refine wpr_skip 32 34 (Skips.mk' (j := 30) (t := 33) (b := true) (by kernel_rfl) (by kernel_rfl) (by kernel_rfl)) (by kernel_rfl) ?_
                refine wpr_skip 33 35 (Skips.mk' (j := 30) (t := 33) (b := true) (by kernel_rfl) (by kernel_rfl) (by kernel_rfl)) (by kernel_rfl) ?_
                refine wpr_skip 34 36 (Skips.mk' (j := 30) (t := 33) (b := true) (by kernel_rfl) (by kernel_rfl) (by kernel_rfl)) (by kernel_rfl) ?_
                refine wpr_skip 35 37 (Skips.mk' (j := 30) (t := 33) (b := true) (by kernel_rfl) (by kernel_rfl) (by kernel_rfl)) (by kernel_rfl) ?_
                refine wpr_val 36 38 (.pick (.tmp 33) (.tmp 37) (.const (Value.bool (false)))) 4 (Value.bool (false)) (Runs.plain (by kernel_rfl)) (by kernel_rfl) (y_pickF (by kernel_rfl) (by kernel_rfl)) ?_
                refine wpq_re 38 (v := Value.bool (false)) (Value.bool (((((((decide (p.base ≥ 1) && decide (p.base ≤ 2305843009213693952)) && decide (p.count ≥ 1)) && decide (p.count ≤ 874)) && decide (p.index ≥ 0)) && decide (p.index < p.count)) && decide ((((p.data).length : Nat) : Int) ≤ 600)))) (by kernel_rfl) (re_and0 q7) ?_
                exact wpq_sub _ (by kernel_rfl) hk30
            · refine wpr_val 37 2 (.assign (.tmp 38)) 4 (Value.bool (((((((decide (p.base ≥ 1) && decide (p.base ≤ 2305843009213693952)) && decide (p.count ≥ 1)) && decide (p.count ≤ 874)) && decide (p.index ≥ 0)) && decide (p.index < p.count)) && decide ((((p.data).length : Nat) : Int) ≤ 600)))) (Runs.plain (by kernel_rfl)) (by kernel_rfl) (y_assign (by kernel_rfl)) ?_
              refine wpr_end (by kernel_rfl) ?_
              refine wpq_then ?_
              refine wpc_ret (rs := [.tmp 2]) [Value.bool (((((((decide (p.base ≥ 1) && decide (p.base ≤ 2305843009213693952)) && decide (p.count ≥ 1)) && decide (p.count ≤ 874)) && decide (p.index ≥ 0)) && decide (p.index < p.count)) && decide ((((p.data).length : Nat) : Int) ≤ 600)))] [] (by kernel_rfl) (fun _ _ h => h) (by kernel_rfl) (res_tmp (by kernel_rfl) res_nil) L0 keep0 ?_
              have eS : (validS p) = (((((((decide (p.base ≥ 1) && decide (p.base ≤ 2305843009213693952)) && decide (p.count ≥ 1)) && decide (p.count ≤ 874)) && decide (p.index ≥ 0)) && decide (p.index < p.count)) && decide ((((p.data).length : Nat) : Int) ≤ 600))) := by
                unfold validS
                rfl
              rw [eS]
              exact ⟨rfl, rfl⟩

noncomputable def F15_0 : Code := sub (Try.f15.body.getD .skip) []
noncomputable def F15_1 : Code := sub (Try.f15.body.getD .skip) [0]
noncomputable def F15_2 : Code := sub (Try.f15.body.getD .skip) [1]
noncomputable def R15_1 : Array Oper := regOf F15_1
noncomputable def F15_4 : Code := sub (Try.f15.body.getD .skip) [1, 0]
noncomputable def F15_5 : Code := sub (Try.f15.body.getD .skip) [1, 1]
noncomputable def R15_4 : Array Oper := regOf F15_4
set_option maxRecDepth 100000 in
theorem c15 (g : Gh) (p : Piece) (Ap_data : Option Addr) (cp_data : Nat) (fp_data : Arr g.r tyU8 Ap_data cp_data p.data) :
    Ctr0 Try.prog 15 [Value.agg #[Value.int .i64 (p.base), Value.int .i64 (p.index), Value.int .i64 (p.count), Value.slice Ap_data (p.data).length cp_data]] g (fun v ψ => v = Value.agg #[Value.int .i64 (p.base), Value.int .i64 (p.index), Value.int .i64 (p.count), Value.slice Ap_data (p.data).length cp_data]) := by
  refine ctr_of Try.f15 F15_0 12 [Value.agg #[Value.int .i64 (p.base), Value.int .i64 (p.index), Value.int .i64 (p.count), Value.slice Ap_data (p.data).length cp_data]] (by kernel_rfl) (by kernel_rfl) (by kernel_rfl) (by kernel_rfl) ?_
  have L0 := Gh.le.refl g
  have nfp_data := fp_data.len
  refine wpc_seq (x := F15_1) (y := F15_2) (by kernel_rfl) ?_
  refine wpc_region (ops := R15_1) (id := 0) (by kernel_rfl) ?_
  refine wpr_eff 1 1 (.box 37 (.tmp 0)) 0 (Runs.plain (by kernel_rfl)) (by kernel_rfl) (e_box (v := Value.agg #[Value.int .i64 (p.base), Value.int .i64 (p.index), Value.int .i64 (p.count), Value.slice Ap_data (p.data).length cp_data]) (cs := [Value.int .i64 (p.base), Value.int .i64 (p.index), Value.int .i64 (p.count), Value.slice Ap_data (p.data).length cp_data]) (by kernel_rfl) (by kernel_rfl)) ?_
  rintro _ _ _ - ⟨b1, rfl, rfl, rfl⟩
  refine wpr_eff 2 2 (.alloc 35) 0 (Runs.plain (by kernel_rfl)) (by kernel_rfl) (e_alloc (cs := [Value.int .i64 (0), Value.int .i64 (0), Value.int .i64 (0), Value.slice none 0 0]) (by kernel_rfl)) ?_
  rintro _ _ _ - ⟨b2, rfl, rfl, rfl⟩
  refine wpr_end (by kernel_rfl) ?_
  refine wpq_then ?_
  refine wpc_seq (x := F15_4) (y := F15_5) (by kernel_rfl) ?_
  refine wpc_region (ops := R15_4) (id := 1) (by kernel_rfl) ?_
  refine wpr_val 1 3 (.fieldAddr 37 (.tmp 1) 0) 0 (Value.pointer (some ⟨b1, 0, none⟩)) (Runs.plain (by kernel_rfl)) (by kernel_rfl) (y_pure (by kernel_rfl) (fun _ => by kernel_rfl)) ?_
  refine wpr_val 2 4 (.load 2 (.tmp 3)) 2 (Value.int .i64 (p.base)) (Runs.plain (by kernel_rfl)) (by kernel_rfl) (q_load1 b1 0 1 (by kernel_rfl) (by kernel_rfl) (by kernel_rfl)) ?_
  refine wpr_val 3 5 (.fieldAddr 37 (.tmp 1) 1) 0 (Value.pointer (some ⟨b1, 1, none⟩)) (Runs.plain (by kernel_rfl)) (by kernel_rfl) (y_pure (by kernel_rfl) (fun _ => by kernel_rfl)) ?_
  refine wpr_val 4 6 (.load 3 (.tmp 5)) 3 (Value.int .i64 (p.index)) (Runs.plain (by kernel_rfl)) (by kernel_rfl) (q_load1 b1 1 1 (by kernel_rfl) (by kernel_rfl) (by kernel_rfl)) ?_
  refine wpr_val 5 7 (.fieldAddr 37 (.tmp 1) 2) 0 (Value.pointer (some ⟨b1, 2, none⟩)) (Runs.plain (by kernel_rfl)) (by kernel_rfl) (y_pure (by kernel_rfl) (fun _ => by kernel_rfl)) ?_
  refine wpr_val 6 8 (.load 3 (.tmp 7)) 3 (Value.int .i64 (p.count)) (Runs.plain (by kernel_rfl)) (by kernel_rfl) (q_load1 b1 2 1 (by kernel_rfl) (by kernel_rfl) (by kernel_rfl)) ?_
  refine wpr_val 7 9 (.fieldAddr 37 (.tmp 1) 3) 0 (Value.pointer (some ⟨b1, 3, none⟩)) (Runs.plain (by kernel_rfl)) (by kernel_rfl) (y_pure (by kernel_rfl) (fun _ => by kernel_rfl)) ?_
  refine wpr_val 8 10 (.load 22 (.tmp 9)) 22 (Value.slice Ap_data (p.data).length cp_data) (Runs.plain (by kernel_rfl)) (by kernel_rfl) (q_load1 b1 3 1 (by kernel_rfl) (by kernel_rfl) (by kernel_rfl)) ?_
  refine wpr_val 9 11 (.build 35 #[(0, (.tmp 4)), (1, (.tmp 6)), (2, (.tmp 8)), (3, (.tmp 10))]) 35 (Value.agg #[Value.int .i64 (p.base), Value.int .i64 (p.index), Value.int .i64 (p.count), Value.slice Ap_data (p.data).length cp_data]) (Runs.plain (by kernel_rfl)) (by kernel_rfl) (y_pure (by kernel_rfl) (fun _ => by kernel_rfl)) ?_
  refine wpr_do 10 (.store 35 (.tmp 2) (.tmp 11)) 0 (Runs.plain (by kernel_rfl)) (by kernel_rfl) (q_store b2 0 0 (Value.agg #[Value.int .i64 (p.base), Value.int .i64 (p.index), Value.int .i64 (p.count), Value.slice Ap_data (p.data).length cp_data]) [Value.int .i64 (p.base), Value.int .i64 (p.index), Value.int .i64 (p.count), Value.slice Ap_data (p.data).length cp_data] 35 [Value.int .i64 (0), Value.int .i64 (0), Value.int .i64 (0), Value.slice none 0 0] [Value.int .i64 (p.base), Value.int .i64 (p.index), Value.int .i64 (p.count), Value.slice Ap_data (p.data).length cp_data] (by kernel_rfl) (by kernel_rfl) (by kernel_rfl) (by kernel_rfl) (by kernel_rfl) (by kernel_rfl) (by kernel_rfl)) ?_
  rintro _ _ _ - ⟨rfl, rfl⟩
  refine wpr_end (by kernel_rfl) ?_
  refine wpq_then ?_
  refine wpq_sub [(2, Value.pointer (some ⟨b2, 0, none⟩))] (by kernel_rfl) ?_
  refine wpc_ret (rs := [.cell 2 35]) [Value.agg #[Value.int .i64 (p.base), Value.int .i64 (p.index), Value.int .i64 (p.count), Value.slice Ap_data (p.data).length cp_data]] [] (by kernel_rfl) (fun _ _ h => h) (by kernel_rfl) (rq_cellA b2 0 0 [Value.int .i64 (p.base), Value.int .i64 (p.index), Value.int .i64 (p.count), Value.slice Ap_data (p.data).length cp_data] (by kernel_rfl) (by kernel_rfl) (by kernel_rfl) res_nil) L0 keep0 ?_
  exact ⟨rfl, rfl⟩

noncomputable def F11_0 : Code := sub (Try.f11.body.getD .skip) []
noncomputable def F11_1 : Code := sub (Try.f11.body.getD .skip) [0]
noncomputable def F11_2 : Code := sub (Try.f11.body.getD .skip) [1]
noncomputable def R11_1 : Array Oper := regOf F11_1
noncomputable def F11_4 : Code := sub (Try.f11.body.getD .skip) [1, 0]
noncomputable def F11_5 : Code := sub (Try.f11.body.getD .skip) [1, 1]
noncomputable def R11_4 : Array Oper := regOf F11_4
set_option maxRecDepth 100000 in
theorem c11 (g : Gh) (p : List UInt8) (Ap : Option Addr) (cp : Nat) (n : Int) (fp : Arr g.r tyU8 Ap cp p) (hn : 0 ≤ n) :
    Ctr0 Try.prog 11 [Value.slice Ap (p).length cp, Value.int .i64 (n)] g (fun v ψ => v = Value.slice (offA Ap cp 0 1) ((cutS p n)).length (cp - 0)) := by
  refine ctr_of Try.f11 F11_0 11 [Value.slice Ap (p).length cp, Value.int .i64 (n)] (by kernel_rfl) (by kernel_rfl) (by kernel_rfl) (by kernel_rfl) ?_
  have L0 := Gh.le.refl g
  have nfp := fp.len
  refine wpc_seq (x := F11_1) (y := F11_2) (by kernel_rfl) ?_
  refine wpc_region (ops := R11_1) (id := 0) (by kernel_rfl) ?_
  refine wpr_val 1 4 (.assign (.const (Value.slice none 0 0))) 22 (Value.slice none 0 0) (Runs.plain (by kernel_rfl)) (by kernel_rfl) (y_assign (by kernel_rfl)) ?_
  refine wpr_end (by kernel_rfl) ?_
  refine wpq_then ?_
  refine wpc_seq (x := F11_4) (y := F11_5) (by kernel_rfl) ?_
  refine wpc_region (ops := R11_4) (id := 1) (by kernel_rfl) ?_
  refine wpr_val 1 5 (.move (.tmp 0)) 22 (Value.slice Ap (p).length cp) (Runs.plain (by kernel_rfl)) (by kernel_rfl) (y_move (by kernel_rfl)) ?_
  refine wpr_val 2 6 (.move (.tmp 0)) 22 (Value.slice Ap (p).length cp) (Runs.plain (by kernel_rfl)) (by kernel_rfl) (y_move (by kernel_rfl)) ?_
  refine wpr_val 3 7 (.call { callee := .builtin .len, args := #[(.tmp 6)], argTypes := #[22] }) 3 (Value.int .i64 ((((p).length : Nat) : Int))) (Runs.plain (by kernel_rfl)) (by kernel_rfl) (y_pure (by kernel_rfl) (fun _ => by kernel_rfl)) ?_
  refine wpr_val 4 8 (.move (.tmp 1)) 3 (Value.int .i64 (n)) (Runs.plain (by kernel_rfl)) (by kernel_rfl) (y_move (by kernel_rfl)) ?_
  have z1 := minI_spec (((p).length : Nat) : Int) n
  refine wpr_val 5 9 (.call { callee := .builtin .min, args := #[(.tmp 7), (.tmp 8)], argTypes := #[3, 3] }) 3 (Value.int .i64 ((minI (((p).length : Nat) : Int) n))) (Runs.plain (by kernel_rfl)) (by kernel_rfl) (y_pure (by kernel_rfl) (fun _ => by kernel_rfl)) ?_
  have ncapf1 := fp.cap
  have f1 : Arr g.r tyU8 (offA Ap cp 0 1) (cp - 0) (List.take ((minI (((p).length : Nat) : Int) n)).toNat p) := fp.cut_to ((minI (((p).length : Nat) : Int) n)).toNat (by omega)
  have nf1 := f1.len
  have hlf1 : ((minI (((p).length : Nat) : Int) n)).toNat - 0 = ((List.take ((minI (((p).length : Nat) : Int) n)).toNat p)).length := by simp only [List.length_take, List.length_drop]; omega
  refine wpr_val 6 10 (.slice 22 (.tmp 5) none (some (.tmp 9)) none) 22 (Value.slice (offA Ap cp 0 1) ((List.take ((minI (((p).length : Nat) : Int) n)).toNat p)).length (cp - 0)) (Runs.plain (by kernel_rfl)) (by kernel_rfl) (y_slice (e := 5) (sz := 1) 0 ((minI (((p).length : Nat) : Int) n)).toNat ((List.take ((minI (((p).length : Nat) : Int) n)).toNat p)).length (A := Ap) (len := (p).length) (c := cp) (by kernel_rfl) (by kernel_rfl) (by kernel_rfl) (.inl ⟨rfl, rfl⟩) (.inr ⟨.i64, _, rfl, (ev_toNat (by kernel_rfl) (by omega))⟩) (by omega) (by omega) hlf1) ?_
  refine wpr_val 7 4 (.assign (.tmp 10)) 22 (Value.slice (offA Ap cp 0 1) ((List.take ((minI (((p).length : Nat) : Int) n)).toNat p)).length (cp - 0)) (Runs.plain (by kernel_rfl)) (by kernel_rfl) (y_assign (by kernel_rfl)) ?_
  refine wpr_end (by kernel_rfl) ?_
  refine wpq_then ?_
  refine wpq_sub [(4, Value.slice (offA Ap cp 0 1) ((List.take ((minI (((p).length : Nat) : Int) n)).toNat p)).length (cp - 0))] (by kernel_rfl) ?_
  refine wpc_ret (rs := [.tmp 4]) [Value.slice (offA Ap cp 0 1) ((List.take ((minI (((p).length : Nat) : Int) n)).toNat p)).length (cp - 0)] [] (by kernel_rfl) (fun _ _ h => h) (by kernel_rfl) (res_tmp (by kernel_rfl) res_nil) L0 keep0 ?_
  exact ⟨rfl, rfl⟩

noncomputable def F14_0 : Code := sub (Try.f14.body.getD .skip) []
noncomputable def F14_1 : Code := sub (Try.f14.body.getD .skip) [0]
noncomputable def F14_2 : Code := sub (Try.f14.body.getD .skip) [1]
noncomputable def R14_1 : Array Oper := regOf F14_1
noncomputable def F14_4 : Code := sub (Try.f14.body.getD .skip) [1, 0]
noncomputable def F14_5 : Code := sub (Try.f14.body.getD .skip) [1, 1]
noncomputable def R14_4 : Array Oper := regOf F14_4
def samePieceS (a : Piece) (b : Piece) : Bool :=
  (((((a.base == b.base) && (a.index == b.index)) && (a.count == b.count)) && (a.data == b.data)))
set_option maxRecDepth 100000 in
theorem c14 (g : Gh) (a : Piece) (Aa_data : Option Addr) (ca_data : Nat) (b : Piece) (Ab_data : Option Addr) (cb_data : Nat) (fa_data : Arr g.r tyU8 Aa_data ca_data a.data) (fb_data : Arr g.r tyU8 Ab_data cb_data b.data) :
    Ctr0 Try.prog 14 [Value.agg #[Value.int .i64 (a.base), Value.int .i64 (a.index), Value.int .i64 (a.count), Value.slice Aa_data (a.data).length ca_data], Value.agg #[Value.int .i64 (b.base), Value.int .i64 (b.index), Value.int .i64 (b.count), Value.slice Ab_data (b.data).length cb_data]] g (fun v ψ => v = Value.bool ((samePieceS a b))) := by
  refine ctr_of Try.f14 F14_0 33 [Value.agg #[Value.int .i64 (a.base), Value.int .i64 (a.index), Value.int .i64 (a.count), Value.slice Aa_data (a.data).length ca_data], Value.agg #[Value.int .i64 (b.base), Value.int .i64 (b.index), Value.int .i64 (b.count), Value.slice Ab_data (b.data).length cb_data]] (by kernel_rfl) (by kernel_rfl) (by kernel_rfl) (by kernel_rfl) ?_
  have L0 := Gh.le.refl g
  have nfa_data := fa_data.len
  have nfb_data := fb_data.len
  refine wpc_seq (x := F14_1) (y := F14_2) (by kernel_rfl) ?_
  refine wpc_region (ops := R14_1) (id := 0) (by kernel_rfl) ?_
  refine wpr_eff 1 2 (.box 35 (.tmp 0)) 0 (Runs.plain (by kernel_rfl)) (by kernel_rfl) (e_box (v := Value.agg #[Value.int .i64 (a.base), Value.int .i64 (a.index), Value.int .i64 (a.count), Value.slice Aa_data (a.data).length ca_data]) (cs := [Value.int .i64 (a.base), Value.int .i64 (a.index), Value.int .i64 (a.count), Value.slice Aa_data (a.data).length ca_data]) (by kernel_rfl) (by kernel_rfl)) ?_
  rintro _ _ _ - ⟨b1, rfl, rfl, rfl⟩
  refine wpr_eff 2 3 (.box 35 (.tmp 1)) 0 (Runs.plain (by kernel_rfl)) (by kernel_rfl) (e_box (v := Value.agg #[Value.int .i64 (b.base), Value.int .i64 (b.index), Value.int .i64 (b.count), Value.slice Ab_data (b.data).length cb_data]) (cs := [Value.int .i64 (b.base), Value.int .i64 (b.index), Value.int .i64 (b.count), Value.slice Ab_data (b.data).length cb_data]) (by kernel_rfl) (by kernel_rfl)) ?_
  rintro _ _ _ - ⟨b2, rfl, rfl, rfl⟩
  refine wpr_val 3 4 (.assign (.const (Value.bool (false)))) 4 (Value.bool (false)) (Runs.plain (by kernel_rfl)) (by kernel_rfl) (y_assign (by kernel_rfl)) ?_
  refine wpr_end (by kernel_rfl) ?_
  refine wpq_then ?_
  refine wpc_seq (x := F14_4) (y := F14_5) (by kernel_rfl) ?_
  refine wpc_region (ops := R14_4) (id := 1) (by kernel_rfl) ?_
  refine wpr_val 1 5 (.fieldAddr 35 (.tmp 2) 0) 0 (Value.pointer (some ⟨b1, 0, none⟩)) (Runs.plain (by kernel_rfl)) (by kernel_rfl) (y_pure (by kernel_rfl) (fun _ => by kernel_rfl)) ?_
  refine wpr_val 2 6 (.load 2 (.tmp 5)) 2 (Value.int .i64 (a.base)) (Runs.plain (by kernel_rfl)) (by kernel_rfl) (q_load1 b1 0 1 (by kernel_rfl) (by kernel_rfl) (by kernel_rfl)) ?_
  refine wpr_val 3 7 (.fieldAddr 35 (.tmp 3) 0) 0 (Value.pointer (some ⟨b2, 0, none⟩)) (Runs.plain (by kernel_rfl)) (by kernel_rfl) (y_pure (by kernel_rfl) (fun _ => by kernel_rfl)) ?_
  refine wpr_val 4 8 (.load 2 (.tmp 7)) 2 (Value.int .i64 (b.base)) (Runs.plain (by kernel_rfl)) (by kernel_rfl) (q_load1 b2 0 0 (by kernel_rfl) (by kernel_rfl) (by kernel_rfl)) ?_
  refine wpr_val 5 9 (.binOp .eql 2 (.tmp 6) (.tmp 8) 2) 4 (Value.bool ((a.base == b.base))) (Runs.plain (by kernel_rfl)) (by kernel_rfl) (y_pure (by kernel_rfl) (fun _ => by kernel_rfl)) ?_
  refine wpr_val 6 10 (.move (.tmp 9)) 4 (Value.bool ((a.base == b.base))) (Runs.plain (by kernel_rfl)) (by kernel_rfl) (y_move (by kernel_rfl)) ?_
  refine wpr_grp 12 [(2, Value.pointer (some ⟨b1, 0, none⟩)), (3, Value.pointer (some ⟨b2, 0, none⟩)), (4, Value.bool (false)), (16, Value.bool (((a.base == b.base) && (a.index == b.index))))] (fun hk5 => ?_) ?_
  · refine wpq_split 10 (b := (a.base == b.base)) (by kernel_rfl) (fun q3 => ?_) (fun q3 => ?_)
    · have q3p : a.base = b.base := eq_of_beq q3
      refine wpr_val 7 11 (.fieldAddr 35 (.tmp 2) 1) 0 (Value.pointer (some ⟨b1, 1, none⟩)) (Runs.guarded (j := 5) (t := 10) (b := true) (by kernel_rfl) (by kernel_rfl) (by kernel_rfl)) (by kernel_rfl) (y_pure (by kernel_rfl) (fun _ => by kernel_rfl)) ?_
      refine wpr_val 8 12 (.load 3 (.tmp 11)) 3 (Value.int .i64 (a.index)) (Runs.guarded (j := 5) (t := 10) (b := true) (by kernel_rfl) (by kernel_rfl) (by kernel_rfl)) (by kernel_rfl) (q_load1 b1 1 1 (by kernel_rfl) (by kernel_rfl) (by kernel_rfl)) ?_
      refine wpr_val 9 13 (.fieldAddr 35 (.tmp 3) 1) 0 (Value.pointer (some ⟨b2, 1, none⟩)) (Runs.guarded (j := 5) (t := 10) (b := true) (by kernel_rfl) (by kernel_rfl) (by kernel_rfl)) (by kernel_rfl) (y_pure (by kernel_rfl) (fun _ => by kernel_rfl)) ?_
      refine wpr_val 10 14 (.load 3 (.tmp 13)) 3 (Value.int .i64 (b.index)) (Runs.guarded (j := 5) (t := 10) (b := true) (by kernel_rfl) (by kernel_rfl) (by kernel_rfl)) (by kernel_rfl) (q_load1 b2 1 0 (by kernel_rfl) (by kernel_rfl) (by kernel_rfl)) ?_
      refine wpr_val 11 15 (.binOp .eql 3 (.tmp 12) (.tmp 14) 3) 4 (Value.bool ((a.index == b.index))) (Runs.guarded (j := 5) (t := 10) (b := true) (by kernel_rfl) (by kernel_rfl) (by kernel_rfl)) (by kernel_rfl) (y_pure (by kernel_rfl) (fun _ => by kernel_rfl)) ?_
      refine wpr_val 12 16 (.pick (.tmp 10) (.tmp 15) (.const (Value.bool (false)))) 4 (Value.bool ((a.index == b.index))) (Runs.plain (by kernel_rfl)) (by kernel_rfl) (y_pickT (by kernel_rfl) (by kernel_rfl)) ?_
      refine wpq_re 16 (v := Value.bool ((a.index == b.index))) (Value.bool (((a.base == b.base) && (a.index == b.index)))) (by kernel_rfl) (re_and1 q3) ?_
      exact wpq_sub _ (by kernel_rfl) hk5
    · have q3p : ¬ (a.base = b.base) := ne_of_beq_false_ q3
      refine wpr_skip 7 11 (Skips.mk' (j := 5) (t := 10) (b := true) (by kernel_rfl) (by kernel_rfl) (by kernel_rfl)) (by kernel_rfl) ?_
      refine wpr_skip 8 12 (Skips.mk' (j := 5) (t := 10) (b := true) (by kernel_rfl) (by kernel_rfl) (by kernel_rfl)) (by kernel_rfl) ?_
      refine wpr_skip 9 13 (Skips.mk' (j := 5) (t := 10) (b := true) (by kernel_rfl) (by kernel_rfl) (by kernel_rfl)) (by kernel_rfl) ?_
      refine wpr_skip 10 14 (Skips.mk' (j := 5) (t := 10) (b := true) (by kernel_rfl) (by kernel_rfl) (by kernel_rfl)) (by kernel_rfl) ?_
      refine wpr_skip 11 15 (Skips.mk' (j := 5) (t := 10) (b := true) (by kernel_rfl) (by kernel_rfl) (by kernel_rfl)) (by kernel_rfl) ?_
      refine wpr_val 12 16 (.pick (.tmp 10) (.tmp 15) (.const (Value.bool (false)))) 4 (Value.bool (false)) (Runs.plain (by kernel_rfl)) (by kernel_rfl) (y_pickF (by kernel_rfl) (by kernel_rfl)) ?_
      refine wpq_re 16 (v := Value.bool (false)) (Value.bool (((a.base == b.base) && (a.index == b.index)))) (by kernel_rfl) (re_and0 q3) ?_
      exact wpq_sub _ (by kernel_rfl) hk5
  · refine wpr_val 13 17 (.move (.tmp 16)) 4 (Value.bool (((a.base == b.base) && (a.index == b.index)))) (Runs.plain (by kernel_rfl)) (by kernel_rfl) (y_move (by kernel_rfl)) ?_
    refine wpr_grp 19 [(2, Value.pointer (some ⟨b1, 0, none⟩)), (3, Value.pointer (some ⟨b2, 0, none⟩)), (4, Value.bool (false)), (23, Value.bool ((((a.base == b.base) && (a.index == b.index)) && (a.count == b.count))))] (fun hk12 => ?_) ?_
    · refine wpq_split 17 (b := ((a.base == b.base) && (a.index == b.index))) (by kernel_rfl) (fun q4 => ?_) (fun q4 => ?_)
      · have q4l := (and_true_ q4).1
        have q4r := (and_true_ q4).2
        have q4lp : a.base = b.base := eq_of_beq q4l
        have q4rp : a.index = b.index := eq_of_beq q4r
        refine wpr_val 14 18 (.fieldAddr 35 (.tmp 2) 2) 0 (Value.pointer (some ⟨b1, 2, none⟩)) (Runs.guarded (j := 12) (t := 17) (b := true) (by kernel_rfl) (by kernel_rfl) (by kernel_rfl)) (by kernel_rfl) (y_pure (by kernel_rfl) (fun _ => by kernel_rfl)) ?_
        refine wpr_val 15 19 (.load 3 (.tmp 18)) 3 (Value.int .i64 (a.count)) (Runs.guarded (j := 12) (t := 17) (b := true) (by kernel_rfl) (by kernel_rfl) (by kernel_rfl)) (by kernel_rfl) (q_load1 b1 2 1 (by kernel_rfl) (by kernel_rfl) (by kernel_rfl)) ?_
        refine wpr_val 16 20 (.fieldAddr 35 (.tmp 3) 2) 0 (Value.pointer (some ⟨b2, 2, none⟩)) (Runs.guarded (j := 12) (t := 17) (b := true) (by kernel_rfl) (by kernel_rfl) (by kernel_rfl)) (by kernel_rfl) (y_pure (by kernel_rfl) (fun _ => by kernel_rfl)) ?_
        refine wpr_val 17 21 (.load 3 (.tmp 20)) 3 (Value.int .i64 (b.count)) (Runs.guarded (j := 12) (t := 17) (b := true) (by kernel_rfl) (by kernel_rfl) (by kernel_rfl)) (by kernel_rfl) (q_load1 b2 2 0 (by kernel_rfl) (by kernel_rfl) (by kernel_rfl)) ?_
        refine wpr_val 18 22 (.binOp .eql 3 (.tmp 19) (.tmp 21) 3) 4 (Value.bool ((a.count == b.count))) (Runs.guarded (j := 12) (t := 17) (b := true) (by kernel_rfl) (by kernel_rfl) (by kernel_rfl)) (by kernel_rfl) (y_pure (by kernel_rfl) (fun _ => by kernel_rfl)) ?_
        refine wpr_val 19 23 (.pick (.tmp 17) (.tmp 22) (.const (Value.bool (false)))) 4 (Value.bool ((a.count == b.count))) (Runs.plain (by kernel_rfl)) (by kernel_rfl) (y_pickT (by kernel_rfl) (by kernel_rfl)) ?_
        refine wpq_re 23 (v := Value.bool ((a.count == b.count))) (Value.bool ((((a.base == b.base) && (a.index == b.index)) && (a.count == b.count)))) (by kernel_rfl) (re_and1 q4) ?_
        exact wpq_sub _ (by kernel_rfl) hk12
      · refine wpr_skip 14 18 (Skips.mk' (j := 12) (t := 17) (b := true) (by kernel_rfl) (by kernel_rfl) (by kernel_rfl)) (by kernel_rfl) ?_
        refine wpr_skip 15 19 (Skips.mk' (j := 12) (t := 17) (b := true) (by kernel_rfl) (by kernel_rfl) (by kernel_rfl)) (by kernel_rfl) ?_
        refine wpr_skip 16 20 (Skips.mk' (j := 12) (t := 17) (b := true) (by kernel_rfl) (by kernel_rfl) (by kernel_rfl)) (by kernel_rfl) ?_
        refine wpr_skip 17 21 (Skips.mk' (j := 12) (t := 17) (b := true) (by kernel_rfl) (by kernel_rfl) (by kernel_rfl)) (by kernel_rfl) ?_
        refine wpr_skip 18 22 (Skips.mk' (j := 12) (t := 17) (b := true) (by kernel_rfl) (by kernel_rfl) (by kernel_rfl)) (by kernel_rfl) ?_
        refine wpr_val 19 23 (.pick (.tmp 17) (.tmp 22) (.const (Value.bool (false)))) 4 (Value.bool (false)) (Runs.plain (by kernel_rfl)) (by kernel_rfl) (y_pickF (by kernel_rfl) (by kernel_rfl)) ?_
        refine wpq_re 23 (v := Value.bool (false)) (Value.bool ((((a.base == b.base) && (a.index == b.index)) && (a.count == b.count)))) (by kernel_rfl) (re_and0 q4) ?_
        exact wpq_sub _ (by kernel_rfl) hk12
    · refine wpr_val 20 24 (.move (.tmp 23)) 4 (Value.bool ((((a.base == b.base) && (a.index == b.index)) && (a.count == b.count)))) (Runs.plain (by kernel_rfl)) (by kernel_rfl) (y_move (by kernel_rfl)) ?_
      refine wpr_grp 28 [(4, Value.bool (false)), (32, Value.bool (((((a.base == b.base) && (a.index == b.index)) && (a.count == b.count)) && (a.data == b.data))))] (fun hk19 => ?_) ?_
      · refine wpq_split 24 (b := (((a.base == b.base) && (a.index == b.index)) && (a.count == b.count))) (by kernel_rfl) (fun q5 => ?_) (fun q5 => ?_)
        · have q5l := (and_true_ q5).1
          have q5r := (and_true_ q5).2
          have q5ll := (and_true_ q5l).1
          have q5lr := (and_true_ q5l).2
          have q5llp : a.base = b.base := eq_of_beq q5ll
          have q5lrp : a.index = b.index := eq_of_beq q5lr
          have q5rp : a.count = b.count := eq_of_beq q5r
          refine wpr_val 21 25 (.fieldAddr 35 (.tmp 2) 3) 0 (Value.pointer (some ⟨b1, 3, none⟩)) (Runs.guarded (j := 19) (t := 24) (b := true) (by kernel_rfl) (by kernel_rfl) (by kernel_rfl)) (by kernel_rfl) (y_pure (by kernel_rfl) (fun _ => by kernel_rfl)) ?_
          refine wpr_val 22 26 (.load 22 (.tmp 25)) 22 (Value.slice Aa_data (a.data).length ca_data) (Runs.guarded (j := 19) (t := 24) (b := true) (by kernel_rfl) (by kernel_rfl) (by kernel_rfl)) (by kernel_rfl) (q_load1 b1 3 1 (by kernel_rfl) (by kernel_rfl) (by kernel_rfl)) ?_
          refine wpr_val 23 27 (.convert 22 9 (.tmp 26)) 9 (Value.string (mkS (a.data))) (Runs.guarded (j := 19) (t := 24) (b := true) (by kernel_rfl) (by kernel_rfl) (by kernel_rfl)) (by kernel_rfl) (y_str (e := 5) (by kernel_rfl) fa_data (by kernel_rfl) (by kernel_rfl) (by kernel_rfl)) ?_
          refine wpr_val 24 28 (.fieldAddr 35 (.tmp 3) 3) 0 (Value.pointer (some ⟨b2, 3, none⟩)) (Runs.guarded (j := 19) (t := 24) (b := true) (by kernel_rfl) (by kernel_rfl) (by kernel_rfl)) (by kernel_rfl) (y_pure (by kernel_rfl) (fun _ => by kernel_rfl)) ?_
          refine wpr_val 25 29 (.load 22 (.tmp 28)) 22 (Value.slice Ab_data (b.data).length cb_data) (Runs.guarded (j := 19) (t := 24) (b := true) (by kernel_rfl) (by kernel_rfl) (by kernel_rfl)) (by kernel_rfl) (q_load1 b2 3 0 (by kernel_rfl) (by kernel_rfl) (by kernel_rfl)) ?_
          refine wpr_val 26 30 (.convert 22 9 (.tmp 29)) 9 (Value.string (mkS (b.data))) (Runs.guarded (j := 19) (t := 24) (b := true) (by kernel_rfl) (by kernel_rfl) (by kernel_rfl)) (by kernel_rfl) (y_str (e := 5) (by kernel_rfl) fb_data (by kernel_rfl) (by kernel_rfl) (by kernel_rfl)) ?_
          refine wpr_val 27 31 (.binOp .eql 9 (.tmp 27) (.tmp 30) 9) 4 (Value.bool ((a.data == b.data))) (Runs.guarded (j := 19) (t := 24) (b := true) (by kernel_rfl) (by kernel_rfl) (by kernel_rfl)) (by kernel_rfl) (y_eqS (by kernel_rfl) (by kernel_rfl)) ?_
          refine wpr_val 28 32 (.pick (.tmp 24) (.tmp 31) (.const (Value.bool (false)))) 4 (Value.bool ((a.data == b.data))) (Runs.plain (by kernel_rfl)) (by kernel_rfl) (y_pickT (by kernel_rfl) (by kernel_rfl)) ?_
          refine wpq_re 32 (v := Value.bool ((a.data == b.data))) (Value.bool (((((a.base == b.base) && (a.index == b.index)) && (a.count == b.count)) && (a.data == b.data)))) (by kernel_rfl) (re_and1 q5) ?_
          exact wpq_sub _ (by kernel_rfl) hk19
        · refine wpr_skip 21 25 (Skips.mk' (j := 19) (t := 24) (b := true) (by kernel_rfl) (by kernel_rfl) (by kernel_rfl)) (by kernel_rfl) ?_
          refine wpr_skip 22 26 (Skips.mk' (j := 19) (t := 24) (b := true) (by kernel_rfl) (by kernel_rfl) (by kernel_rfl)) (by kernel_rfl) ?_
          refine wpr_skip 23 27 (Skips.mk' (j := 19) (t := 24) (b := true) (by kernel_rfl) (by kernel_rfl) (by kernel_rfl)) (by kernel_rfl) ?_
          refine wpr_skip 24 28 (Skips.mk' (j := 19) (t := 24) (b := true) (by kernel_rfl) (by kernel_rfl) (by kernel_rfl)) (by kernel_rfl) ?_
          refine wpr_skip 25 29 (Skips.mk' (j := 19) (t := 24) (b := true) (by kernel_rfl) (by kernel_rfl) (by kernel_rfl)) (by kernel_rfl) ?_
          refine wpr_skip 26 30 (Skips.mk' (j := 19) (t := 24) (b := true) (by kernel_rfl) (by kernel_rfl) (by kernel_rfl)) (by kernel_rfl) ?_
          refine wpr_skip 27 31 (Skips.mk' (j := 19) (t := 24) (b := true) (by kernel_rfl) (by kernel_rfl) (by kernel_rfl)) (by kernel_rfl) ?_
          refine wpr_val 28 32 (.pick (.tmp 24) (.tmp 31) (.const (Value.bool (false)))) 4 (Value.bool (false)) (Runs.plain (by kernel_rfl)) (by kernel_rfl) (y_pickF (by kernel_rfl) (by kernel_rfl)) ?_
          refine wpq_re 32 (v := Value.bool (false)) (Value.bool (((((a.base == b.base) && (a.index == b.index)) && (a.count == b.count)) && (a.data == b.data)))) (by kernel_rfl) (re_and0 q5) ?_
          exact wpq_sub _ (by kernel_rfl) hk19
      · refine wpr_val 29 4 (.assign (.tmp 32)) 4 (Value.bool (((((a.base == b.base) && (a.index == b.index)) && (a.count == b.count)) && (a.data == b.data)))) (Runs.plain (by kernel_rfl)) (by kernel_rfl) (y_assign (by kernel_rfl)) ?_
        refine wpr_end (by kernel_rfl) ?_
        refine wpq_then ?_
        refine wpc_ret (rs := [.tmp 4]) [Value.bool (((((a.base == b.base) && (a.index == b.index)) && (a.count == b.count)) && (a.data == b.data)))] [] (by kernel_rfl) (fun _ _ h => h) (by kernel_rfl) (res_tmp (by kernel_rfl) res_nil) L0 keep0 ?_
        have eS : (samePieceS a b) = (((((a.base == b.base) && (a.index == b.index)) && (a.count == b.count)) && (a.data == b.data))) := by
          unfold samePieceS
          rfl
        rw [eS]
        exact ⟨rfl, rfl⟩

end Go.Proofs.Ytolppdcaaoghgaa
