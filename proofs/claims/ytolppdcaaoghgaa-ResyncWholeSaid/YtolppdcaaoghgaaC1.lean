/-
Walks, printed by wip/eng/eng.py. Conditions: each theorem's own.
-/
import Derived.Test.YtolppdcaaoghgaaW1
namespace Go.Proofs.Ytolppdcaaoghgaa
set_option linter.unusedVariables false
set_option linter.unusedSimpArgs false
open Go.RowKit
noncomputable def F28_0 : Code := sub (Try.f28.body.getD .skip) []
noncomputable def F28_1 : Code := sub (Try.f28.body.getD .skip) [0]
noncomputable def F28_2 : Code := sub (Try.f28.body.getD .skip) [1]
noncomputable def R28_1 : Array Oper := regOf F28_1
noncomputable def F28_4 : Code := sub (Try.f28.body.getD .skip) [1, 0]
noncomputable def F28_5 : Code := sub (Try.f28.body.getD .skip) [1, 1]
noncomputable def R28_4 : Array Oper := regOf F28_4
def newCollS  : Coll :=
  (⟨(0 : Int), (0 : Int), ([] : List (List UInt8)), ([] : List Sett)⟩ : Coll)
set_option maxRecDepth 100000 in
theorem c28 (g : Gh)  :
    Ctr Try.prog 28 [] g [] (fun v ψ o => ∃ (b_r : Nat) (Ar_parts : Option Addr) (cr_parts : Nat) (kr_parts : Option Bk) (Ar_sets : Option Addr) (cr_sets : Nat) (kr_sets : Option Bk), v = Value.pointer (some ⟨b_r, 0, none⟩) ∧ o = [some ⟨b_r, 114, [Value.int .i64 ((newCollS).base), Value.int .i64 ((newCollS).count), Value.slice Ar_parts ((newCollS).parts).length cr_parts, Value.slice Ar_sets ((newCollS).sets).length cr_sets]⟩, kr_parts, kr_sets] ∧ Buf ψ (tyArr tyU8) 22 (.slice Ar_parts ((newCollS).parts).length cr_parts) kr_parts (newCollS).parts ∧ Buf ψ tySett 79 (.slice Ar_sets ((newCollS).sets).length cr_sets) kr_sets (newCollS).sets) := by
  refine ctr_of Try.f28 F28_0 3 [] (by kernel_rfl) (by kernel_rfl) (by kernel_rfl) (by kernel_rfl) ?_
  have L0 := Gh.le.refl g
  refine wpc_seq (x := F28_1) (y := F28_2) (by kernel_rfl) ?_
  refine wpc_region (ops := R28_1) (id := 0) (by kernel_rfl) ?_
  refine wpr_val 1 0 (.assign (.const (Value.pointer none))) 72 (Value.pointer none) (Runs.plain (by kernel_rfl)) (by kernel_rfl) (y_assign (by kernel_rfl)) ?_
  refine wpr_end (by kernel_rfl) ?_
  refine wpq_then ?_
  refine wpc_seq (x := F28_4) (y := F28_5) (by kernel_rfl) ?_
  refine wpc_region (ops := R28_4) (id := 1) (by kernel_rfl) ?_
  refine wpr_val 1 1 (.build 114 #[]) 114 (Value.agg #[Value.int .i64 (0), Value.int .i64 (0), Value.slice none 0 0, Value.slice none 0 0]) (Runs.plain (by kernel_rfl)) (by kernel_rfl) (y_pure (by kernel_rfl) (fun _ => by kernel_rfl)) ?_
  refine wpr_eff 2 2 (.box 114 (.tmp 1)) 72 (Runs.plain (by kernel_rfl)) (by kernel_rfl) (e_box (v := Value.agg #[Value.int .i64 (0), Value.int .i64 (0), Value.slice none 0 0, Value.slice none 0 0]) (cs := [Value.int .i64 (0), Value.int .i64 (0), Value.slice none 0 0, Value.slice none 0 0]) (by kernel_rfl) (by kernel_rfl)) ?_
  rintro _ _ _ - ⟨b1, rfl, rfl, rfl⟩
  refine wpr_val 3 0 (.assign (.tmp 2)) 72 (Value.pointer (some ⟨b1, 0, none⟩)) (Runs.plain (by kernel_rfl)) (by kernel_rfl) (y_assign (by kernel_rfl)) ?_
  refine wpr_end (by kernel_rfl) ?_
  refine wpq_then ?_
  refine wpc_ret (rs := [.tmp 0]) [Value.pointer (some ⟨b1, 0, none⟩)] [some ⟨b1, 114, [Value.int .i64 (0), Value.int .i64 (0), Value.slice none 0 0, Value.slice none 0 0]⟩, none, none] (by kernel_rfl) (fun _ _ h => h) (by kernel_rfl) (res_tmp (by kernel_rfl) res_nil) L0 (keepP [some 0, none, none] (by kernel_rfl) (by kernel_rfl)) ?_
  have eS : (newCollS) = (⟨(0 : Int), (0 : Int), ([] : List (List UInt8)), ([] : List Sett)⟩ : Coll) := by
    unfold newCollS
    rfl
  rw [eS]
  exact ⟨b1, none, 0, none, none, 0, none, rfl, rfl, Buf.nil, Buf.nil⟩

noncomputable def F34_0 : Code := sub (Try.f34.body.getD .skip) []
noncomputable def F34_1 : Code := sub (Try.f34.body.getD .skip) [0]
noncomputable def F34_2 : Code := sub (Try.f34.body.getD .skip) [1]
noncomputable def R34_1 : Array Oper := regOf F34_1
noncomputable def F34_4 : Code := sub (Try.f34.body.getD .skip) [1, 0]
noncomputable def F34_5 : Code := sub (Try.f34.body.getD .skip) [1, 1]
noncomputable def R34_4 : Array Oper := regOf F34_4
def resetC (c : Coll) : Coll :=
  (⟨(0 : Int), (0 : Int), ([] : List (List UInt8)), ([] : List Sett)⟩ : Coll)
set_option maxRecDepth 100000 in
theorem c34 (g : Gh) (b_c : Nat) (c : Coll) (Ac_parts : Option Addr) (cc_parts : Nat) (kc_parts : Option Bk) (Ac_sets : Option Addr) (cc_sets : Nat) (kc_sets : Option Bk) (hc_parts : Buf g.b (tyArr tyU8) 22 (.slice Ac_parts (c.parts).length cc_parts) kc_parts c.parts) (hc_sets : Buf g.b tySett 79 (.slice Ac_sets (c.sets).length cc_sets) kc_sets c.sets) :
    Ctr Try.prog 34 [Value.pointer (some ⟨b_c, 0, none⟩)] g [some ⟨b_c, 114, [Value.int .i64 (c.base), Value.int .i64 (c.count), Value.slice Ac_parts (c.parts).length cc_parts, Value.slice Ac_sets (c.sets).length cc_sets]⟩, kc_parts, kc_sets] (fun v ψ o => ∃ (Ao_c_parts : Option Addr) (co_c_parts : Nat) (ko_c_parts : Option Bk) (Ao_c_sets : Option Addr) (co_c_sets : Nat) (ko_c_sets : Option Bk), v = Value.tuple #[] ∧ o = [some ⟨b_c, 114, [Value.int .i64 ((resetC c).base), Value.int .i64 ((resetC c).count), Value.slice Ao_c_parts ((resetC c).parts).length co_c_parts, Value.slice Ao_c_sets ((resetC c).sets).length co_c_sets]⟩, ko_c_parts, ko_c_sets] ∧ Buf ψ (tyArr tyU8) 22 (.slice Ao_c_parts ((resetC c).parts).length co_c_parts) ko_c_parts (resetC c).parts ∧ Buf ψ tySett 79 (.slice Ao_c_sets ((resetC c).sets).length co_c_sets) ko_c_sets (resetC c).sets) := by
  refine ctr_of Try.f34 F34_0 7 [Value.pointer (some ⟨b_c, 0, none⟩)] (by kernel_rfl) (by kernel_rfl) (by kernel_rfl) (by kernel_rfl) ?_
  have L0 := Gh.le.refl g
  have nhc_parts := hc_parts.len
  have nhc_sets := hc_sets.len
  refine wpc_seq (x := F34_1) (y := F34_2) (by kernel_rfl) ?_
  refine wpc_region (ops := R34_1) (id := 0) (by kernel_rfl) ?_
  refine wpr_val 1 2 (.move (.tmp 0)) 72 (Value.pointer (some ⟨b_c, 0, none⟩)) (Runs.plain (by kernel_rfl)) (by kernel_rfl) (y_move (by kernel_rfl)) ?_
  refine wpr_val 2 3 (.binOp .neq 72 (.tmp 2) (.const (Value.pointer none)) 72) 4 (Value.bool (true)) (Runs.plain (by kernel_rfl)) (by kernel_rfl) (y_pure (by kernel_rfl) (fun _ => by kernel_rfl)) ?_
  refine wpr_end (by kernel_rfl) ?_
  refine wpq_then ?_
  refine wpc_true (x := F34_4) (y := F34_5) (o := (.tmp 3)) (by kernel_rfl) (by kernel_rfl) ?_
  refine wpc_region (ops := R34_4) (id := 1) (by kernel_rfl) ?_
  refine wpr_val 1 4 (.move (.tmp 0)) 72 (Value.pointer (some ⟨b_c, 0, none⟩)) (Runs.plain (by kernel_rfl)) (by kernel_rfl) (y_move (by kernel_rfl)) ?_
  refine wpr_val 2 5 (.build 114 #[]) 114 (Value.agg #[Value.int .i64 (0), Value.int .i64 (0), Value.slice none 0 0, Value.slice none 0 0]) (Runs.plain (by kernel_rfl)) (by kernel_rfl) (y_pure (by kernel_rfl) (fun _ => by kernel_rfl)) ?_
  refine wpr_val 3 6 (.nilCheck (.tmp 4)) 0 (Value.pointer (some ⟨b_c, 0, none⟩)) (Runs.plain (by kernel_rfl)) (by kernel_rfl) (y_pure (by kernel_rfl) (fun _ => by kernel_rfl)) ?_
  refine wpr_do 4 (.store 114 (.tmp 6) (.tmp 5)) 0 (Runs.plain (by kernel_rfl)) (by kernel_rfl) (q_store b_c 0 0 (Value.agg #[Value.int .i64 (0), Value.int .i64 (0), Value.slice none 0 0, Value.slice none 0 0]) [Value.int .i64 (0), Value.int .i64 (0), Value.slice none 0 0, Value.slice none 0 0] 114 [Value.int .i64 (c.base), Value.int .i64 (c.count), Value.slice Ac_parts (c.parts).length cc_parts, Value.slice Ac_sets (c.sets).length cc_sets] [Value.int .i64 (0), Value.int .i64 (0), Value.slice none 0 0, Value.slice none 0 0] (by kernel_rfl) (by kernel_rfl) (by kernel_rfl) (by kernel_rfl) (by kernel_rfl) (by kernel_rfl) (by kernel_rfl)) ?_
  rintro _ _ _ - ⟨rfl, rfl⟩
  refine wpr_end (by kernel_rfl) ?_
  refine wpq_fin (rs := []) [] [some ⟨b_c, 114, [Value.int .i64 (0), Value.int .i64 (0), Value.slice none 0 0, Value.slice none 0 0]⟩, none, none] (by kernel_rfl) res_nil L0 (keepP [some 0, none, none] (by kernel_rfl) (by kernel_rfl)) ?_
  have eS : (resetC c) = (⟨(0 : Int), (0 : Int), ([] : List (List UInt8)), ([] : List Sett)⟩ : Coll) := by
    unfold resetC
    rfl
  rw [eS]
  exact ⟨none, 0, none, none, 0, none, rfl, rfl, Buf.nil, Buf.nil⟩

noncomputable def F33_0 : Code := sub (Try.f33.body.getD .skip) []
noncomputable def F33_1 : Code := sub (Try.f33.body.getD .skip) [0]
noncomputable def F33_2 : Code := sub (Try.f33.body.getD .skip) [1]
noncomputable def R33_1 : Array Oper := regOf F33_1
noncomputable def F33_4 : Code := sub (Try.f33.body.getD .skip) [1, 0]
noncomputable def F33_5 : Code := sub (Try.f33.body.getD .skip) [1, 1]
noncomputable def R33_4 : Array Oper := regOf F33_4
def ownSetS (x : Sett) : Sett :=
  x
set_option maxRecDepth 100000 in
theorem c33 (g : Gh) (x : Sett) (Ax_in_ : Option Addr) (cx_in_ : Nat) (fx_in_ : Arr g.b tyU8 Ax_in_ cx_in_ x.in_) :
    Ctr0 Try.prog 33 [Value.agg #[Value.int .i64 (x.steps), Value.int .i64 (x.cycle), Value.bool (x.fresh), Value.slice Ax_in_ (x.in_).length cx_in_]] g (fun v ψ => ∃ (Ar_in_ : Option Addr) (cr_in_ : Nat), v = Value.agg #[Value.int .i64 ((ownSetS x).steps), Value.int .i64 ((ownSetS x).cycle), Value.bool ((ownSetS x).fresh), Value.slice Ar_in_ ((ownSetS x).in_).length cr_in_] ∧ Arr ψ tyU8 Ar_in_ cr_in_ (ownSetS x).in_) := by
  refine ctr_of Try.f33 F33_0 12 [Value.agg #[Value.int .i64 (x.steps), Value.int .i64 (x.cycle), Value.bool (x.fresh), Value.slice Ax_in_ (x.in_).length cx_in_]] (by kernel_rfl) (by kernel_rfl) (by kernel_rfl) (by kernel_rfl) ?_
  have L0 := Gh.le.refl g
  have nfx_in_ := fx_in_.len
  refine wpc_seq (x := F33_1) (y := F33_2) (by kernel_rfl) ?_
  refine wpc_region (ops := R33_1) (id := 0) (by kernel_rfl) ?_
  refine wpr_eff 1 1 (.box 79 (.tmp 0)) 0 (Runs.plain (by kernel_rfl)) (by kernel_rfl) (e_box (v := Value.agg #[Value.int .i64 (x.steps), Value.int .i64 (x.cycle), Value.bool (x.fresh), Value.slice Ax_in_ (x.in_).length cx_in_]) (cs := [Value.int .i64 (x.steps), Value.int .i64 (x.cycle), Value.bool (x.fresh), Value.slice Ax_in_ (x.in_).length cx_in_]) (by kernel_rfl) (by kernel_rfl)) ?_
  rintro _ _ _ - ⟨b1, rfl, rfl, rfl⟩
  refine wpr_eff 2 2 (.alloc 86) 0 (Runs.plain (by kernel_rfl)) (by kernel_rfl) (e_alloc (cs := [Value.int .i64 (0), Value.int .i64 (0), Value.bool (false), Value.slice none 0 0]) (by kernel_rfl)) ?_
  rintro _ _ _ - ⟨b2, rfl, rfl, rfl⟩
  refine wpr_end (by kernel_rfl) ?_
  refine wpq_then ?_
  refine wpc_seq (x := F33_4) (y := F33_5) (by kernel_rfl) ?_
  refine wpc_region (ops := R33_4) (id := 1) (by kernel_rfl) ?_
  refine wpr_val 1 3 (.fieldAddr 79 (.tmp 1) 0) 0 (Value.pointer (some ⟨b1, 0, none⟩)) (Runs.plain (by kernel_rfl)) (by kernel_rfl) (y_pure (by kernel_rfl) (fun _ => by kernel_rfl)) ?_
  refine wpr_val 2 4 (.load 2 (.tmp 3)) 2 (Value.int .i64 (x.steps)) (Runs.plain (by kernel_rfl)) (by kernel_rfl) (q_load1 b1 0 1 (by kernel_rfl) (by kernel_rfl) (by kernel_rfl)) ?_
  refine wpr_val 3 5 (.fieldAddr 79 (.tmp 1) 1) 0 (Value.pointer (some ⟨b1, 1, none⟩)) (Runs.plain (by kernel_rfl)) (by kernel_rfl) (y_pure (by kernel_rfl) (fun _ => by kernel_rfl)) ?_
  refine wpr_val 4 6 (.load 2 (.tmp 5)) 2 (Value.int .i64 (x.cycle)) (Runs.plain (by kernel_rfl)) (by kernel_rfl) (q_load1 b1 1 1 (by kernel_rfl) (by kernel_rfl) (by kernel_rfl)) ?_
  refine wpr_val 5 7 (.fieldAddr 79 (.tmp 1) 2) 0 (Value.pointer (some ⟨b1, 2, none⟩)) (Runs.plain (by kernel_rfl)) (by kernel_rfl) (y_pure (by kernel_rfl) (fun _ => by kernel_rfl)) ?_
  refine wpr_val 6 8 (.load 4 (.tmp 7)) 4 (Value.bool (x.fresh)) (Runs.plain (by kernel_rfl)) (by kernel_rfl) (q_load1 b1 2 1 (by kernel_rfl) (by kernel_rfl) (by kernel_rfl)) ?_
  refine wpr_val 7 9 (.fieldAddr 79 (.tmp 1) 3) 0 (Value.pointer (some ⟨b1, 3, none⟩)) (Runs.plain (by kernel_rfl)) (by kernel_rfl) (y_pure (by kernel_rfl) (fun _ => by kernel_rfl)) ?_
  refine wpr_val 8 10 (.load 22 (.tmp 9)) 22 (Value.slice Ax_in_ (x.in_).length cx_in_) (Runs.plain (by kernel_rfl)) (by kernel_rfl) (q_load1 b1 3 1 (by kernel_rfl) (by kernel_rfl) (by kernel_rfl)) ?_
  refine wpr_val 9 11 (.build 86 #[(0, (.tmp 4)), (1, (.tmp 6)), (2, (.tmp 8)), (3, (.tmp 10))]) 86 (Value.agg #[Value.int .i64 (x.steps), Value.int .i64 (x.cycle), Value.bool (x.fresh), Value.slice Ax_in_ (x.in_).length cx_in_]) (Runs.plain (by kernel_rfl)) (by kernel_rfl) (y_pure (by kernel_rfl) (fun _ => by kernel_rfl)) ?_
  refine wpr_do 10 (.store 86 (.tmp 2) (.tmp 11)) 0 (Runs.plain (by kernel_rfl)) (by kernel_rfl) (q_store b2 0 0 (Value.agg #[Value.int .i64 (x.steps), Value.int .i64 (x.cycle), Value.bool (x.fresh), Value.slice Ax_in_ (x.in_).length cx_in_]) [Value.int .i64 (x.steps), Value.int .i64 (x.cycle), Value.bool (x.fresh), Value.slice Ax_in_ (x.in_).length cx_in_] 86 [Value.int .i64 (0), Value.int .i64 (0), Value.bool (false), Value.slice none 0 0] [Value.int .i64 (x.steps), Value.int .i64 (x.cycle), Value.bool (x.fresh), Value.slice Ax_in_ (x.in_).length cx_in_] (by kernel_rfl) (by kernel_rfl) (by kernel_rfl) (by kernel_rfl) (by kernel_rfl) (by kernel_rfl) (by kernel_rfl)) ?_
  rintro _ _ _ - ⟨rfl, rfl⟩
  refine wpr_end (by kernel_rfl) ?_
  refine wpq_then ?_
  refine wpq_sub [(2, Value.pointer (some ⟨b2, 0, none⟩))] (by kernel_rfl) ?_
  refine wpc_ret (rs := [.cell 2 86]) [Value.agg #[Value.int .i64 (x.steps), Value.int .i64 (x.cycle), Value.bool (x.fresh), Value.slice Ax_in_ (x.in_).length cx_in_]] [] (by kernel_rfl) (fun _ _ h => h) (by kernel_rfl) (rq_cellA b2 0 0 [Value.int .i64 (x.steps), Value.int .i64 (x.cycle), Value.bool (x.fresh), Value.slice Ax_in_ (x.in_).length cx_in_] (by kernel_rfl) (by kernel_rfl) (by kernel_rfl) res_nil) L0 keep0 ?_
  have eS : (ownSetS x) = x := by
    unfold ownSetS
    rfl
  rw [eS]
  exact ⟨rfl, Ax_in_, cx_in_, rfl, fx_in_⟩

noncomputable def F29_0 : Code := sub (Try.f29.body.getD .skip) []
noncomputable def F29_1 : Code := sub (Try.f29.body.getD .skip) [0]
noncomputable def F29_2 : Code := sub (Try.f29.body.getD .skip) [1]
noncomputable def R29_1 : Array Oper := regOf F29_1
noncomputable def F29_4 : Code := sub (Try.f29.body.getD .skip) [1, 0]
noncomputable def F29_5 : Code := sub (Try.f29.body.getD .skip) [1, 1]
noncomputable def F29_6 : Code := sub (Try.f29.body.getD .skip) [1, 0, 0]
noncomputable def F29_7 : Code := sub (Try.f29.body.getD .skip) [1, 0, 1]
noncomputable def R29_6 : Array Oper := regOf F29_6
noncomputable def F29_9 : Code := sub (Try.f29.body.getD .skip) [1, 0, 1, 0]
noncomputable def F29_10 : Code := sub (Try.f29.body.getD .skip) [1, 0, 1, 1]
noncomputable def F29_11 : Code := sub (Try.f29.body.getD .skip) [1, 1, 0]
noncomputable def F29_12 : Code := sub (Try.f29.body.getD .skip) [1, 1, 1]
noncomputable def F29_13 : Code := sub (Try.f29.body.getD .skip) [1, 1, 0, 0]
noncomputable def F29_14 : Code := sub (Try.f29.body.getD .skip) [1, 1, 0, 1]
noncomputable def R29_13 : Array Oper := regOf F29_13
noncomputable def F29_16 : Code := sub (Try.f29.body.getD .skip) [1, 1, 0, 1, 0]
noncomputable def F29_17 : Code := sub (Try.f29.body.getD .skip) [1, 1, 0, 1, 1]
noncomputable def F29_18 : Code := sub (Try.f29.body.getD .skip) [1, 1, 0, 1, 0, 0]
noncomputable def F29_19 : Code := sub (Try.f29.body.getD .skip) [1, 1, 0, 1, 0, 1]
noncomputable def R29_18 : Array Oper := regOf F29_18
noncomputable def F29_21 : Code := sub (Try.f29.body.getD .skip) [1, 1, 1, 0]
noncomputable def F29_22 : Code := sub (Try.f29.body.getD .skip) [1, 1, 1, 1]
noncomputable def R29_21 : Array Oper := regOf F29_21
noncomputable def F29_24 : Code := sub (Try.f29.body.getD .skip) [1, 1, 1, 1, 0]
noncomputable def F29_25 : Code := sub (Try.f29.body.getD .skip) [1, 1, 1, 1, 1]
noncomputable def R29_24 : Array Oper := regOf F29_24
def takeS (c : Coll) (p : Piece) : Coll :=
  (cond ((!(validS p))) c (cond ((((decide ((((c.parts).length : Nat) : Int) > 0) && (p.base == c.base)) && (p.count == c.count)) && (p.index == (((c.parts).length : Nat) : Int)))) (⟨(c.base : Int), (c.count : Int), ((c.parts ++ [(idL (p.data : List UInt8))]) : List (List UInt8)), (c.sets : List Sett)⟩ : Coll) (cond ((p.index == 0)) (⟨(p.base : Int), (p.count : Int), (([(idL (p.data : List UInt8))] : List (List UInt8)) : List (List UInt8)), ([] : List Sett)⟩ : Coll) c)))
set_option maxRecDepth 100000 in
theorem c29 (g : Gh) (b_c : Nat) (c : Coll) (Ac_parts : Option Addr) (cc_parts : Nat) (kc_parts : Option Bk) (Ac_sets : Option Addr) (cc_sets : Nat) (kc_sets : Option Bk) (p : Piece) (Ap_data : Option Addr) (cp_data : Nat) (hc_parts : Buf g.b (tyArr tyU8) 22 (.slice Ac_parts (c.parts).length cc_parts) kc_parts c.parts) (hc_sets : Buf g.b tySett 79 (.slice Ac_sets (c.sets).length cc_sets) kc_sets c.sets) (fp_data : Arr g.r tyU8 Ap_data cp_data p.data) (hl : c.parts.length ≤ 1000000) :
    Ctr Try.prog 29 [Value.pointer (some ⟨b_c, 0, none⟩), Value.agg #[Value.int .i64 (p.base), Value.int .i64 (p.index), Value.int .i64 (p.count), Value.slice Ap_data (p.data).length cp_data]] g [some ⟨b_c, 114, [Value.int .i64 (c.base), Value.int .i64 (c.count), Value.slice Ac_parts (c.parts).length cc_parts, Value.slice Ac_sets (c.sets).length cc_sets]⟩, kc_parts, kc_sets] (fun v ψ o => ∃ (Ao_c_parts : Option Addr) (co_c_parts : Nat) (ko_c_parts : Option Bk) (Ao_c_sets : Option Addr) (co_c_sets : Nat) (ko_c_sets : Option Bk), v = Value.tuple #[] ∧ o = [some ⟨b_c, 114, [Value.int .i64 ((takeS c p).base), Value.int .i64 ((takeS c p).count), Value.slice Ao_c_parts ((takeS c p).parts).length co_c_parts, Value.slice Ao_c_sets ((takeS c p).sets).length co_c_sets]⟩, ko_c_parts, ko_c_sets] ∧ Buf ψ (tyArr tyU8) 22 (.slice Ao_c_parts ((takeS c p).parts).length co_c_parts) ko_c_parts (takeS c p).parts ∧ Buf ψ tySett 79 (.slice Ao_c_sets ((takeS c p).sets).length co_c_sets) ko_c_sets (takeS c p).sets) := by
  refine ctr_of Try.f29 F29_0 71 [Value.pointer (some ⟨b_c, 0, none⟩), Value.agg #[Value.int .i64 (p.base), Value.int .i64 (p.index), Value.int .i64 (p.count), Value.slice Ap_data (p.data).length cp_data]] (by kernel_rfl) (by kernel_rfl) (by kernel_rfl) (by kernel_rfl) ?_
  have L0 := Gh.le.refl g
  have nhc_parts := hc_parts.len
  have nhc_sets := hc_sets.len
  have nfp_data := fp_data.len
  refine wpc_seq (x := F29_1) (y := F29_2) (by kernel_rfl) ?_
  refine wpc_region (ops := R29_1) (id := 0) (by kernel_rfl) ?_
  refine wpr_eff 1 3 (.box 37 (.tmp 1)) 0 (Runs.plain (by kernel_rfl)) (by kernel_rfl) (e_box (v := Value.agg #[Value.int .i64 (p.base), Value.int .i64 (p.index), Value.int .i64 (p.count), Value.slice Ap_data (p.data).length cp_data]) (cs := [Value.int .i64 (p.base), Value.int .i64 (p.index), Value.int .i64 (p.count), Value.slice Ap_data (p.data).length cp_data]) (by kernel_rfl) (by kernel_rfl)) ?_
  rintro _ _ _ - ⟨b1, rfl, rfl, rfl⟩
  refine wpr_end (by kernel_rfl) ?_
  refine wpq_then ?_
  refine wpc_seq (x := F29_4) (y := F29_5) (by kernel_rfl) ?_
  refine wpc_seq (x := F29_6) (y := F29_7) (by kernel_rfl) ?_
  refine wpc_region (ops := R29_6) (id := 1) (by kernel_rfl) ?_
  refine wpr_val 1 4 (.move (.tmp 0)) 72 (Value.pointer (some ⟨b_c, 0, none⟩)) (Runs.plain (by kernel_rfl)) (by kernel_rfl) (y_move (by kernel_rfl)) ?_
  refine wpr_val 2 5 (.binOp .eql 72 (.tmp 4) (.const (Value.pointer none)) 72) 4 (Value.bool (false)) (Runs.plain (by kernel_rfl)) (by kernel_rfl) (y_pure (by kernel_rfl) (fun _ => by kernel_rfl)) ?_
  refine wpr_val 3 6 (.move (.tmp 5)) 4 (Value.bool (false)) (Runs.plain (by kernel_rfl)) (by kernel_rfl) (y_move (by kernel_rfl)) ?_
  refine wpr_val 4 7 (.load 37 (.tmp 3)) 37 (Value.agg #[Value.int .i64 (p.base), Value.int .i64 (p.index), Value.int .i64 (p.count), Value.slice Ap_data (p.data).length cp_data]) (Runs.guarded (j := 2) (t := 6) (b := false) (by kernel_rfl) (by kernel_rfl) (by kernel_rfl)) (by kernel_rfl) (q_loadA b1 0 0 [Value.int .i64 (p.base), Value.int .i64 (p.index), Value.int .i64 (p.count), Value.slice Ap_data (p.data).length cp_data] (by kernel_rfl) (by kernel_rfl) (by kernel_rfl)) ?_
  refine wpr_eff 5 8 (.call { callee := .value (.func 46), args := #[(.tmp 7)], argTypes := #[37] }) 4 (Runs.guarded (j := 2) (t := 6) (b := false) (by kernel_rfl) (by kernel_rfl) (by kernel_rfl)) (by kernel_rfl) (e_call [Value.agg #[Value.int .i64 (p.base), Value.int .i64 (p.index), Value.int .i64 (p.count), Value.slice Ap_data (p.data).length cp_data]] (by kernel_rfl) (by kernel_rfl) (fun g' lr eb ln => c46 g' p Ap_data cp_data (fp_data.mono lr))) ?_
  rintro _ g3 _ le4 ⟨rfl, rfl⟩
  have hc_parts := hc_parts.mono le4.b
  have hc_sets := hc_sets.mono le4.b
  have fp_data := fp_data.mono le4.r
  have L0 := L0.trans le4
  refine wpr_val 6 9 (.unOp .not 4 (.tmp 8)) 4 (Value.bool ((!(validS p)))) (Runs.guarded (j := 2) (t := 6) (b := false) (by kernel_rfl) (by kernel_rfl) (by kernel_rfl)) (by kernel_rfl) (y_pure (by kernel_rfl) (fun _ => by kernel_rfl)) ?_
  refine wpr_val 7 10 (.pick (.tmp 6) (.const (Value.bool (true))) (.tmp 9)) 4 (Value.bool ((!(validS p)))) (Runs.plain (by kernel_rfl)) (by kernel_rfl) (y_pickF (by kernel_rfl) (by kernel_rfl)) ?_
  refine wpr_end (by kernel_rfl) ?_
  refine wpq_then ?_
  refine wpq_sub [(0, Value.pointer (some ⟨b_c, 0, none⟩)), (3, Value.pointer (some ⟨b1, 0, none⟩)), (10, Value.bool ((!(validS p))))] (by kernel_rfl) ?_
  -- condition 0
  refine wpc_cond (x := F29_9) (y := F29_10) (o := (.tmp 10)) (b := (!(validS p))) (by kernel_rfl) (by kernel_rfl) (fun h0 => ?_) (fun h0 => ?_)
  · have h0n := not_eq_true_ h0
    refine wpc_ret (rs := []) [] [some ⟨b_c, 114, [Value.int .i64 (c.base), Value.int .i64 (c.count), Value.slice Ac_parts (c.parts).length cc_parts, Value.slice Ac_sets (c.sets).length cc_sets]⟩, kc_parts, kc_sets] (by kernel_rfl) (fun _ _ h => h) (by kernel_rfl) res_nil L0 (keepP [some 1, some 2, some 3] (by kernel_rfl) (by kernel_rfl)) ?_
    have eS : (takeS c p) = c := by
      unfold takeS
      rw [h0]
      rfl
    rw [eS]
    exact ⟨Ac_parts, cc_parts, kc_parts, Ac_sets, cc_sets, kc_sets, rfl, rfl, hc_parts, hc_sets⟩
  · have h0n := not_eq_false_ h0
    refine wpc_skip (by kernel_rfl) ?_
    refine wpq_then ?_
    refine wpc_seq (x := F29_11) (y := F29_12) (by kernel_rfl) ?_
    refine wpc_seq (x := F29_13) (y := F29_14) (by kernel_rfl) ?_
    refine wpa_start (ops := R29_13) (id := 2) (by kernel_rfl) (by kernel_rfl) [3, 8, 12, 17, 21, 26, 30] [] [some ⟨b1, 37, [Value.int .i64 (p.base), Value.int .i64 (p.index), Value.int .i64 (p.count), Value.slice Ap_data (p.data).length cp_data]⟩, some ⟨b_c, 114, [Value.int .i64 (c.base), Value.int .i64 (c.count), Value.slice Ac_parts (c.parts).length cc_parts, Value.slice Ac_sets (c.sets).length cc_sets]⟩] (by kernel_rfl) (by kernel_rfl) (fun _ _ _ _ _ h => h) 34 (by kernel_rfl) (fun RG => ?_)
    have lp := Psi.le.refl g3.r
    refine wpa_take0 0 [true, false, false, false, false, false, false, false, false, false, false, false, false, false, false, false, false, false, false, false, false, false, false, false, false, false, false, false, false, false, false, false, false, false] 11 (.move (.tmp 0)) 72 (Value.pointer (some ⟨b_c, 0, none⟩)) RG (Runs.plain (by kernel_rfl)) (by kernel_rfl) (by kernel_rfl) (fun _ => (y_move (by kernel_rfl))) ?_
    refine wpa_take0 1 [true, true, false, false, false, false, false, false, false, false, false, false, false, false, false, false, false, false, false, false, false, false, false, false, false, false, false, false, false, false, false, false, false, false] 12 (.nilCheck (.tmp 11)) 0 (Value.pointer (some ⟨b_c, 0, none⟩)) RG (Runs.plain (by kernel_rfl)) (by kernel_rfl) (by kernel_rfl) (fun _ => (y_pure (by kernel_rfl) (fun _ => by kernel_rfl))) ?_
    refine wpa_take0 2 [true, true, true, false, false, false, false, false, false, false, false, false, false, false, false, false, false, false, false, false, false, false, false, false, false, false, false, false, false, false, false, false, false, false] 13 (.fieldAddr 114 (.tmp 12) 2) 0 (Value.pointer (some ⟨b_c, 2, none⟩)) RG (Runs.plain (by kernel_rfl)) (by kernel_rfl) (by kernel_rfl) (fun _ => (y_pure (by kernel_rfl) (fun _ => by kernel_rfl))) ?_
    refine wpa_take 3 [true, true, true, true, false, false, false, false, false, false, false, false, false, false, false, false, false, false, false, false, false, false, false, false, false, false, false, false, false, false, false, false, false, false] 14 (.load 74 (.tmp 13)) 74 (Value.slice Ac_parts (c.parts).length cc_parts) RG (Runs.plain (by kernel_rfl)) (by kernel_rfl) (by kernel_rfl) lp (keepK_P [some 0, some 1] (by kernel_rfl)) (q_load1 b_c 2 1 (by kernel_rfl) (by kernel_rfl) (by kernel_rfl)) ?_
    refine wpa_take0 4 [true, true, true, true, true, false, false, false, false, false, false, false, false, false, false, false, false, false, false, false, false, false, false, false, false, false, false, false, false, false, false, false, false, false] 15 (.call { callee := .builtin .len, args := #[(.tmp 14)], argTypes := #[74] }) 3 (Value.int .i64 ((((c.parts).length : Nat) : Int))) RG (Runs.plain (by kernel_rfl)) (by kernel_rfl) (by kernel_rfl) (fun _ => (y_pure (by kernel_rfl) (fun _ => by kernel_rfl))) ?_
    refine wpa_take0 5 [true, true, true, true, true, true, false, false, false, false, false, false, false, false, false, false, false, false, false, false, false, false, false, false, false, false, false, false, false, false, false, false, false, false] 16 (.binOp .gtr 3 (.tmp 15) (.const (Value.int .i64 (0))) 3) 4 (Value.bool (decide ((((c.parts).length : Nat) : Int) > 0))) RG (Runs.plain (by kernel_rfl)) (by kernel_rfl) (by kernel_rfl) (fun _ => (y_pure (by kernel_rfl) (fun _ => by kernel_rfl))) ?_
    refine wpa_take0 6 [true, true, true, true, true, true, true, false, false, false, false, false, false, false, false, false, false, false, false, false, false, false, false, false, false, false, false, false, false, false, false, false, false, false] 17 (.move (.tmp 16)) 4 (Value.bool (decide ((((c.parts).length : Nat) : Int) > 0))) RG (Runs.plain (by kernel_rfl)) (by kernel_rfl) (by kernel_rfl) (fun _ => (y_move (by kernel_rfl))) ?_
    refine wpa_grp 19 [true, true, true, true, true, true, true, true, true, true, true, true, true, true, true, false, false, false, false, false, false, false, false, false, false, false, false, false, false, false, false, false, false, false] [(0, Value.pointer (some ⟨b_c, 0, none⟩)), (3, Value.pointer (some ⟨b1, 0, none⟩)), (25, Value.bool ((decide ((((c.parts).length : Nat) : Int) > 0) && (p.base == c.base))))] (fun hk6 => ?_) ?_
    · refine wpq_split 17 (b := decide ((((c.parts).length : Nat) : Int) > 0)) (by kernel_rfl) (fun q5 => ?_) (fun q5 => ?_)
      · have q5p := of_decide_eq_true q5
        refine wpa_take0 7 [true, true, true, true, true, true, true, true, false, false, false, false, false, false, false, false, false, false, false, false, false, false, false, false, false, false, false, false, false, false, false, false, false, false] 18 (.fieldAddr 37 (.tmp 3) 0) 0 (Value.pointer (some ⟨b1, 0, none⟩)) RG (Runs.guarded (j := 6) (t := 17) (b := true) (by kernel_rfl) (by kernel_rfl) (by kernel_rfl)) (by kernel_rfl) (by kernel_rfl) (fun _ => (y_pure (by kernel_rfl) (fun _ => by kernel_rfl))) ?_
        refine wpa_take 8 [true, true, true, true, true, true, true, true, true, false, false, false, false, false, false, false, false, false, false, false, false, false, false, false, false, false, false, false, false, false, false, false, false, false] 19 (.load 2 (.tmp 18)) 2 (Value.int .i64 (p.base)) RG (Runs.guarded (j := 6) (t := 17) (b := true) (by kernel_rfl) (by kernel_rfl) (by kernel_rfl)) (by kernel_rfl) (by kernel_rfl) lp (keepK_P [some 0, some 1] (by kernel_rfl)) (q_load1 b1 0 0 (by kernel_rfl) (by kernel_rfl) (by kernel_rfl)) ?_
        refine wpa_take0 9 [true, true, true, true, true, true, true, true, true, true, false, false, false, false, false, false, false, false, false, false, false, false, false, false, false, false, false, false, false, false, false, false, false, false] 20 (.move (.tmp 0)) 72 (Value.pointer (some ⟨b_c, 0, none⟩)) RG (Runs.guarded (j := 6) (t := 17) (b := true) (by kernel_rfl) (by kernel_rfl) (by kernel_rfl)) (by kernel_rfl) (by kernel_rfl) (fun _ => (y_move (by kernel_rfl))) ?_
        refine wpa_take0 10 [true, true, true, true, true, true, true, true, true, true, true, false, false, false, false, false, false, false, false, false, false, false, false, false, false, false, false, false, false, false, false, false, false, false] 21 (.nilCheck (.tmp 20)) 0 (Value.pointer (some ⟨b_c, 0, none⟩)) RG (Runs.guarded (j := 6) (t := 17) (b := true) (by kernel_rfl) (by kernel_rfl) (by kernel_rfl)) (by kernel_rfl) (by kernel_rfl) (fun _ => (y_pure (by kernel_rfl) (fun _ => by kernel_rfl))) ?_
        refine wpa_take0 11 [true, true, true, true, true, true, true, true, true, true, true, true, false, false, false, false, false, false, false, false, false, false, false, false, false, false, false, false, false, false, false, false, false, false] 22 (.fieldAddr 114 (.tmp 21) 0) 0 (Value.pointer (some ⟨b_c, 0, none⟩)) RG (Runs.guarded (j := 6) (t := 17) (b := true) (by kernel_rfl) (by kernel_rfl) (by kernel_rfl)) (by kernel_rfl) (by kernel_rfl) (fun _ => (y_pure (by kernel_rfl) (fun _ => by kernel_rfl))) ?_
        refine wpa_take 12 [true, true, true, true, true, true, true, true, true, true, true, true, true, false, false, false, false, false, false, false, false, false, false, false, false, false, false, false, false, false, false, false, false, false] 23 (.load 2 (.tmp 22)) 2 (Value.int .i64 (c.base)) RG (Runs.guarded (j := 6) (t := 17) (b := true) (by kernel_rfl) (by kernel_rfl) (by kernel_rfl)) (by kernel_rfl) (by kernel_rfl) lp (keepK_P [some 0, some 1] (by kernel_rfl)) (q_load1 b_c 0 1 (by kernel_rfl) (by kernel_rfl) (by kernel_rfl)) ?_
        refine wpa_take0 13 [true, true, true, true, true, true, true, true, true, true, true, true, true, true, false, false, false, false, false, false, false, false, false, false, false, false, false, false, false, false, false, false, false, false] 24 (.binOp .eql 2 (.tmp 19) (.tmp 23) 2) 4 (Value.bool ((p.base == c.base))) RG (Runs.guarded (j := 6) (t := 17) (b := true) (by kernel_rfl) (by kernel_rfl) (by kernel_rfl)) (by kernel_rfl) (by kernel_rfl) (fun _ => (y_pure (by kernel_rfl) (fun _ => by kernel_rfl))) ?_
        refine wpa_take0 14 [true, true, true, true, true, true, true, true, true, true, true, true, true, true, true, false, false, false, false, false, false, false, false, false, false, false, false, false, false, false, false, false, false, false] 25 (.pick (.tmp 17) (.tmp 24) (.const (Value.bool (false)))) 4 (Value.bool ((p.base == c.base))) RG (Runs.plain (by kernel_rfl)) (by kernel_rfl) (by kernel_rfl) (fun _ => (y_pickT (by kernel_rfl) (by kernel_rfl))) ?_
        refine wpq_re 25 (v := Value.bool ((p.base == c.base))) (Value.bool ((decide ((((c.parts).length : Nat) : Int) > 0) && (p.base == c.base)))) (by kernel_rfl) (re_and1 q5) ?_
        exact wpq_sub _ (by kernel_rfl) hk6
      · have q5p := of_decide_eq_false q5
        refine wpa_takeSkip0 7 [true, true, true, true, true, true, true, true, false, false, false, false, false, false, false, false, false, false, false, false, false, false, false, false, false, false, false, false, false, false, false, false, false, false] 18 RG (Skips.mk' (j := 6) (t := 17) (b := true) (by kernel_rfl) (by kernel_rfl) (by kernel_rfl)) (by kernel_rfl) (by kernel_rfl) ?_
        refine wpa_takeSkip0 8 [true, true, true, true, true, true, true, true, true, false, false, false, false, false, false, false, false, false, false, false, false, false, false, false, false, false, false, false, false, false, false, false, false, false] 19 RG (Skips.mk' (j := 6) (t := 17) (b := true) (by kernel_rfl) (by kernel_rfl) (by kernel_rfl)) (by kernel_rfl) (by kernel_rfl) ?_
        refine wpa_takeSkip0 9 [true, true, true, true, true, true, true, true, true, true, false, false, false, false, false, false, false, false, false, false, false, false, false, false, false, false, false, false, false, false, false, false, false, false] 20 RG (Skips.mk' (j := 6) (t := 17) (b := true) (by kernel_rfl) (by kernel_rfl) (by kernel_rfl)) (by kernel_rfl) (by kernel_rfl) ?_
        refine wpa_takeSkip0 10 [true, true, true, true, true, true, true, true, true, true, true, false, false, false, false, false, false, false, false, false, false, false, false, false, false, false, false, false, false, false, false, false, false, false] 21 RG (Skips.mk' (j := 6) (t := 17) (b := true) (by kernel_rfl) (by kernel_rfl) (by kernel_rfl)) (by kernel_rfl) (by kernel_rfl) ?_
        refine wpa_takeSkip0 11 [true, true, true, true, true, true, true, true, true, true, true, true, false, false, false, false, false, false, false, false, false, false, false, false, false, false, false, false, false, false, false, false, false, false] 22 RG (Skips.mk' (j := 6) (t := 17) (b := true) (by kernel_rfl) (by kernel_rfl) (by kernel_rfl)) (by kernel_rfl) (by kernel_rfl) ?_
        refine wpa_takeSkip0 12 [true, true, true, true, true, true, true, true, true, true, true, true, true, false, false, false, false, false, false, false, false, false, false, false, false, false, false, false, false, false, false, false, false, false] 23 RG (Skips.mk' (j := 6) (t := 17) (b := true) (by kernel_rfl) (by kernel_rfl) (by kernel_rfl)) (by kernel_rfl) (by kernel_rfl) ?_
        refine wpa_takeSkip0 13 [true, true, true, true, true, true, true, true, true, true, true, true, true, true, false, false, false, false, false, false, false, false, false, false, false, false, false, false, false, false, false, false, false, false] 24 RG (Skips.mk' (j := 6) (t := 17) (b := true) (by kernel_rfl) (by kernel_rfl) (by kernel_rfl)) (by kernel_rfl) (by kernel_rfl) ?_
        refine wpa_take0 14 [true, true, true, true, true, true, true, true, true, true, true, true, true, true, true, false, false, false, false, false, false, false, false, false, false, false, false, false, false, false, false, false, false, false] 25 (.pick (.tmp 17) (.tmp 24) (.const (Value.bool (false)))) 4 (Value.bool (false)) RG (Runs.plain (by kernel_rfl)) (by kernel_rfl) (by kernel_rfl) (fun _ => (y_pickF (by kernel_rfl) (by kernel_rfl))) ?_
        refine wpq_re 25 (v := Value.bool (false)) (Value.bool ((decide ((((c.parts).length : Nat) : Int) > 0) && (p.base == c.base)))) (by kernel_rfl) (re_and0 q5) ?_
        exact wpq_sub _ (by kernel_rfl) hk6
    · refine wpa_take0 15 [true, true, true, true, true, true, true, true, true, true, true, true, true, true, true, true, false, false, false, false, false, false, false, false, false, false, false, false, false, false, false, false, false, false] 26 (.move (.tmp 25)) 4 (Value.bool ((decide ((((c.parts).length : Nat) : Int) > 0) && (p.base == c.base)))) RG (Runs.plain (by kernel_rfl)) (by kernel_rfl) (by kernel_rfl) (fun _ => (y_move (by kernel_rfl))) ?_
      refine wpa_grp 10 [true, true, true, true, true, true, true, true, true, true, true, true, true, true, true, true, true, true, true, true, true, true, true, true, false, false, false, false, false, false, false, false, false, false] [(0, Value.pointer (some ⟨b_c, 0, none⟩)), (3, Value.pointer (some ⟨b1, 0, none⟩)), (34, Value.bool (((decide ((((c.parts).length : Nat) : Int) > 0) && (p.base == c.base)) && (p.count == c.count))))] (fun hk15 => ?_) ?_
      · refine wpq_split 26 (b := (decide ((((c.parts).length : Nat) : Int) > 0) && (p.base == c.base))) (by kernel_rfl) (fun q6 => ?_) (fun q6 => ?_)
        · have q6l := (and_true_ q6).1
          have q6r := (and_true_ q6).2
          have q6lp := of_decide_eq_true q6l
          have q6rp : p.base = c.base := eq_of_beq q6r
          refine wpa_take0 16 [true, true, true, true, true, true, true, true, true, true, true, true, true, true, true, true, true, false, false, false, false, false, false, false, false, false, false, false, false, false, false, false, false, false] 27 (.fieldAddr 37 (.tmp 3) 2) 0 (Value.pointer (some ⟨b1, 2, none⟩)) RG (Runs.guarded (j := 15) (t := 26) (b := true) (by kernel_rfl) (by kernel_rfl) (by kernel_rfl)) (by kernel_rfl) (by kernel_rfl) (fun _ => (y_pure (by kernel_rfl) (fun _ => by kernel_rfl))) ?_
          refine wpa_take 17 [true, true, true, true, true, true, true, true, true, true, true, true, true, true, true, true, true, true, false, false, false, false, false, false, false, false, false, false, false, false, false, false, false, false] 28 (.load 3 (.tmp 27)) 3 (Value.int .i64 (p.count)) RG (Runs.guarded (j := 15) (t := 26) (b := true) (by kernel_rfl) (by kernel_rfl) (by kernel_rfl)) (by kernel_rfl) (by kernel_rfl) lp (keepK_P [some 0, some 1] (by kernel_rfl)) (q_load1 b1 2 0 (by kernel_rfl) (by kernel_rfl) (by kernel_rfl)) ?_
          refine wpa_take0 18 [true, true, true, true, true, true, true, true, true, true, true, true, true, true, true, true, true, true, true, false, false, false, false, false, false, false, false, false, false, false, false, false, false, false] 29 (.move (.tmp 0)) 72 (Value.pointer (some ⟨b_c, 0, none⟩)) RG (Runs.guarded (j := 15) (t := 26) (b := true) (by kernel_rfl) (by kernel_rfl) (by kernel_rfl)) (by kernel_rfl) (by kernel_rfl) (fun _ => (y_move (by kernel_rfl))) ?_
          refine wpa_take0 19 [true, true, true, true, true, true, true, true, true, true, true, true, true, true, true, true, true, true, true, true, false, false, false, false, false, false, false, false, false, false, false, false, false, false] 30 (.nilCheck (.tmp 29)) 0 (Value.pointer (some ⟨b_c, 0, none⟩)) RG (Runs.guarded (j := 15) (t := 26) (b := true) (by kernel_rfl) (by kernel_rfl) (by kernel_rfl)) (by kernel_rfl) (by kernel_rfl) (fun _ => (y_pure (by kernel_rfl) (fun _ => by kernel_rfl))) ?_
          refine wpa_take0 20 [true, true, true, true, true, true, true, true, true, true, true, true, true, true, true, true, true, true, true, true, true, false, false, false, false, false, false, false, false, false, false, false, false, false] 31 (.fieldAddr 114 (.tmp 30) 1) 0 (Value.pointer (some ⟨b_c, 1, none⟩)) RG (Runs.guarded (j := 15) (t := 26) (b := true) (by kernel_rfl) (by kernel_rfl) (by kernel_rfl)) (by kernel_rfl) (by kernel_rfl) (fun _ => (y_pure (by kernel_rfl) (fun _ => by kernel_rfl))) ?_
          refine wpa_take 21 [true, true, true, true, true, true, true, true, true, true, true, true, true, true, true, true, true, true, true, true, true, true, false, false, false, false, false, false, false, false, false, false, false, false] 32 (.load 2 (.tmp 31)) 2 (Value.int .i64 (c.count)) RG (Runs.guarded (j := 15) (t := 26) (b := true) (by kernel_rfl) (by kernel_rfl) (by kernel_rfl)) (by kernel_rfl) (by kernel_rfl) lp (keepK_P [some 0, some 1] (by kernel_rfl)) (q_load1 b_c 1 1 (by kernel_rfl) (by kernel_rfl) (by kernel_rfl)) ?_
          refine wpa_take0 22 [true, true, true, true, true, true, true, true, true, true, true, true, true, true, true, true, true, true, true, true, true, true, true, false, false, false, false, false, false, false, false, false, false, false] 33 (.binOp .eql 2 (.tmp 28) (.tmp 32) 2) 4 (Value.bool ((p.count == c.count))) RG (Runs.guarded (j := 15) (t := 26) (b := true) (by kernel_rfl) (by kernel_rfl) (by kernel_rfl)) (by kernel_rfl) (by kernel_rfl) (fun _ => (y_pure (by kernel_rfl) (fun _ => by kernel_rfl))) ?_
          refine wpa_take0 23 [true, true, true, true, true, true, true, true, true, true, true, true, true, true, true, true, true, true, true, true, true, true, true, true, false, false, false, false, false, false, false, false, false, false] 34 (.pick (.tmp 26) (.tmp 33) (.const (Value.bool (false)))) 4 (Value.bool ((p.count == c.count))) RG (Runs.plain (by kernel_rfl)) (by kernel_rfl) (by kernel_rfl) (fun _ => (y_pickT (by kernel_rfl) (by kernel_rfl))) ?_
          refine wpq_re 34 (v := Value.bool ((p.count == c.count))) (Value.bool (((decide ((((c.parts).length : Nat) : Int) > 0) && (p.base == c.base)) && (p.count == c.count)))) (by kernel_rfl) (re_and1 q6) ?_
          exact wpq_sub _ (by kernel_rfl) hk15
        · refine wpa_takeSkip0 16 [true, true, true, true, true, true, true, true, true, true, true, true, true, true, true, true, true, false, false, false, false, false, false, false, false, false, false, false, false, false, false, false, false, false] 27 RG (Skips.mk' (j := 15) (t := 26) (b := true) (by kernel_rfl) (by kernel_rfl) (by kernel_rfl)) (by kernel_rfl) (by kernel_rfl) ?_
          refine wpa_takeSkip0 17 [true, true, true, true, true, true, true, true, true, true, true, true, true, true, true, true, true, true, false, false, false, false, false, false, false, false, false, false, false, false, false, false, false, false] 28 RG (Skips.mk' (j := 15) (t := 26) (b := true) (by kernel_rfl) (by kernel_rfl) (by kernel_rfl)) (by kernel_rfl) (by kernel_rfl) ?_
          refine wpa_takeSkip0 18 [true, true, true, true, true, true, true, true, true, true, true, true, true, true, true, true, true, true, true, false, false, false, false, false, false, false, false, false, false, false, false, false, false, false] 29 RG (Skips.mk' (j := 15) (t := 26) (b := true) (by kernel_rfl) (by kernel_rfl) (by kernel_rfl)) (by kernel_rfl) (by kernel_rfl) ?_
          refine wpa_takeSkip0 19 [true, true, true, true, true, true, true, true, true, true, true, true, true, true, true, true, true, true, true, true, false, false, false, false, false, false, false, false, false, false, false, false, false, false] 30 RG (Skips.mk' (j := 15) (t := 26) (b := true) (by kernel_rfl) (by kernel_rfl) (by kernel_rfl)) (by kernel_rfl) (by kernel_rfl) ?_
          refine wpa_takeSkip0 20 [true, true, true, true, true, true, true, true, true, true, true, true, true, true, true, true, true, true, true, true, true, false, false, false, false, false, false, false, false, false, false, false, false, false] 31 RG (Skips.mk' (j := 15) (t := 26) (b := true) (by kernel_rfl) (by kernel_rfl) (by kernel_rfl)) (by kernel_rfl) (by kernel_rfl) ?_
          refine wpa_takeSkip0 21 [true, true, true, true, true, true, true, true, true, true, true, true, true, true, true, true, true, true, true, true, true, true, false, false, false, false, false, false, false, false, false, false, false, false] 32 RG (Skips.mk' (j := 15) (t := 26) (b := true) (by kernel_rfl) (by kernel_rfl) (by kernel_rfl)) (by kernel_rfl) (by kernel_rfl) ?_
          refine wpa_takeSkip0 22 [true, true, true, true, true, true, true, true, true, true, true, true, true, true, true, true, true, true, true, true, true, true, true, false, false, false, false, false, false, false, false, false, false, false] 33 RG (Skips.mk' (j := 15) (t := 26) (b := true) (by kernel_rfl) (by kernel_rfl) (by kernel_rfl)) (by kernel_rfl) (by kernel_rfl) ?_
          refine wpa_take0 23 [true, true, true, true, true, true, true, true, true, true, true, true, true, true, true, true, true, true, true, true, true, true, true, true, false, false, false, false, false, false, false, false, false, false] 34 (.pick (.tmp 26) (.tmp 33) (.const (Value.bool (false)))) 4 (Value.bool (false)) RG (Runs.plain (by kernel_rfl)) (by kernel_rfl) (by kernel_rfl) (fun _ => (y_pickF (by kernel_rfl) (by kernel_rfl))) ?_
          refine wpq_re 34 (v := Value.bool (false)) (Value.bool (((decide ((((c.parts).length : Nat) : Int) > 0) && (p.base == c.base)) && (p.count == c.count)))) (by kernel_rfl) (re_and0 q6) ?_
          exact wpq_sub _ (by kernel_rfl) hk15
      · refine wpa_take0 24 [true, true, true, true, true, true, true, true, true, true, true, true, true, true, true, true, true, true, true, true, true, true, true, true, true, false, false, false, false, false, false, false, false, false] 35 (.move (.tmp 34)) 4 (Value.bool (((decide ((((c.parts).length : Nat) : Int) > 0) && (p.base == c.base)) && (p.count == c.count)))) RG (Runs.plain (by kernel_rfl)) (by kernel_rfl) (by kernel_rfl) (fun _ => (y_move (by kernel_rfl))) ?_
        refine wpa_grp 0 [true, true, true, true, true, true, true, true, true, true, true, true, true, true, true, true, true, true, true, true, true, true, true, true, true, true, true, true, true, true, true, true, true, true] [(0, Value.pointer (some ⟨b_c, 0, none⟩)), (3, Value.pointer (some ⟨b1, 0, none⟩)), (44, Value.bool ((((decide ((((c.parts).length : Nat) : Int) > 0) && (p.base == c.base)) && (p.count == c.count)) && (p.index == (((c.parts).length : Nat) : Int)))))] (fun hk24 => ?_) ?_
        · refine wpq_split 35 (b := ((decide ((((c.parts).length : Nat) : Int) > 0) && (p.base == c.base)) && (p.count == c.count))) (by kernel_rfl) (fun q7 => ?_) (fun q7 => ?_)
          · have q7l := (and_true_ q7).1
            have q7r := (and_true_ q7).2
            have q7ll := (and_true_ q7l).1
            have q7lr := (and_true_ q7l).2
            have q7llp := of_decide_eq_true q7ll
            have q7lrp : p.base = c.base := eq_of_beq q7lr
            have q7rp : p.count = c.count := eq_of_beq q7r
            refine wpa_take0 25 [true, true, true, true, true, true, true, true, true, true, true, true, true, true, true, true, true, true, true, true, true, true, true, true, true, true, false, false, false, false, false, false, false, false] 36 (.fieldAddr 37 (.tmp 3) 1) 0 (Value.pointer (some ⟨b1, 1, none⟩)) RG (Runs.guarded (j := 24) (t := 35) (b := true) (by kernel_rfl) (by kernel_rfl) (by kernel_rfl)) (by kernel_rfl) (by kernel_rfl) (fun _ => (y_pure (by kernel_rfl) (fun _ => by kernel_rfl))) ?_
            refine wpa_take 26 [true, true, true, true, true, true, true, true, true, true, true, true, true, true, true, true, true, true, true, true, true, true, true, true, true, true, true, false, false, false, false, false, false, false] 37 (.load 3 (.tmp 36)) 3 (Value.int .i64 (p.index)) RG (Runs.guarded (j := 24) (t := 35) (b := true) (by kernel_rfl) (by kernel_rfl) (by kernel_rfl)) (by kernel_rfl) (by kernel_rfl) lp (keepK_P [some 0, some 1] (by kernel_rfl)) (q_load1 b1 1 0 (by kernel_rfl) (by kernel_rfl) (by kernel_rfl)) ?_
            refine wpa_take0 27 [true, true, true, true, true, true, true, true, true, true, true, true, true, true, true, true, true, true, true, true, true, true, true, true, true, true, true, true, false, false, false, false, false, false] 38 (.move (.tmp 0)) 72 (Value.pointer (some ⟨b_c, 0, none⟩)) RG (Runs.guarded (j := 24) (t := 35) (b := true) (by kernel_rfl) (by kernel_rfl) (by kernel_rfl)) (by kernel_rfl) (by kernel_rfl) (fun _ => (y_move (by kernel_rfl))) ?_
            refine wpa_take0 28 [true, true, true, true, true, true, true, true, true, true, true, true, true, true, true, true, true, true, true, true, true, true, true, true, true, true, true, true, true, false, false, false, false, false] 39 (.nilCheck (.tmp 38)) 0 (Value.pointer (some ⟨b_c, 0, none⟩)) RG (Runs.guarded (j := 24) (t := 35) (b := true) (by kernel_rfl) (by kernel_rfl) (by kernel_rfl)) (by kernel_rfl) (by kernel_rfl) (fun _ => (y_pure (by kernel_rfl) (fun _ => by kernel_rfl))) ?_
            refine wpa_take0 29 [true, true, true, true, true, true, true, true, true, true, true, true, true, true, true, true, true, true, true, true, true, true, true, true, true, true, true, true, true, true, false, false, false, false] 40 (.fieldAddr 114 (.tmp 39) 2) 0 (Value.pointer (some ⟨b_c, 2, none⟩)) RG (Runs.guarded (j := 24) (t := 35) (b := true) (by kernel_rfl) (by kernel_rfl) (by kernel_rfl)) (by kernel_rfl) (by kernel_rfl) (fun _ => (y_pure (by kernel_rfl) (fun _ => by kernel_rfl))) ?_
            refine wpa_take 30 [true, true, true, true, true, true, true, true, true, true, true, true, true, true, true, true, true, true, true, true, true, true, true, true, true, true, true, true, true, true, true, false, false, false] 41 (.load 74 (.tmp 40)) 74 (Value.slice Ac_parts (c.parts).length cc_parts) RG (Runs.guarded (j := 24) (t := 35) (b := true) (by kernel_rfl) (by kernel_rfl) (by kernel_rfl)) (by kernel_rfl) (by kernel_rfl) lp (keepK_P [some 0, some 1] (by kernel_rfl)) (q_load1 b_c 2 1 (by kernel_rfl) (by kernel_rfl) (by kernel_rfl)) ?_
            refine wpa_take0 31 [true, true, true, true, true, true, true, true, true, true, true, true, true, true, true, true, true, true, true, true, true, true, true, true, true, true, true, true, true, true, true, true, false, false] 42 (.call { callee := .builtin .len, args := #[(.tmp 41)], argTypes := #[74] }) 3 (Value.int .i64 ((((c.parts).length : Nat) : Int))) RG (Runs.guarded (j := 24) (t := 35) (b := true) (by kernel_rfl) (by kernel_rfl) (by kernel_rfl)) (by kernel_rfl) (by kernel_rfl) (fun _ => (y_pure (by kernel_rfl) (fun _ => by kernel_rfl))) ?_
            refine wpa_take0 32 [true, true, true, true, true, true, true, true, true, true, true, true, true, true, true, true, true, true, true, true, true, true, true, true, true, true, true, true, true, true, true, true, true, false] 43 (.binOp .eql 3 (.tmp 37) (.tmp 42) 3) 4 (Value.bool ((p.index == (((c.parts).length : Nat) : Int)))) RG (Runs.guarded (j := 24) (t := 35) (b := true) (by kernel_rfl) (by kernel_rfl) (by kernel_rfl)) (by kernel_rfl) (by kernel_rfl) (fun _ => (y_pure (by kernel_rfl) (fun _ => by kernel_rfl))) ?_
            refine wpa_take0 33 [true, true, true, true, true, true, true, true, true, true, true, true, true, true, true, true, true, true, true, true, true, true, true, true, true, true, true, true, true, true, true, true, true, true] 44 (.pick (.tmp 35) (.tmp 43) (.const (Value.bool (false)))) 4 (Value.bool ((p.index == (((c.parts).length : Nat) : Int)))) RG (Runs.plain (by kernel_rfl)) (by kernel_rfl) (by kernel_rfl) (fun _ => (y_pickT (by kernel_rfl) (by kernel_rfl))) ?_
            refine wpq_re 44 (v := Value.bool ((p.index == (((c.parts).length : Nat) : Int)))) (Value.bool ((((decide ((((c.parts).length : Nat) : Int) > 0) && (p.base == c.base)) && (p.count == c.count)) && (p.index == (((c.parts).length : Nat) : Int))))) (by kernel_rfl) (re_and1 q7) ?_
            exact wpq_sub _ (by kernel_rfl) hk24
          · refine wpa_takeSkip0 25 [true, true, true, true, true, true, true, true, true, true, true, true, true, true, true, true, true, true, true, true, true, true, true, true, true, true, false, false, false, false, false, false, false, false] 36 RG (Skips.mk' (j := 24) (t := 35) (b := true) (by kernel_rfl) (by kernel_rfl) (by kernel_rfl)) (by kernel_rfl) (by kernel_rfl) ?_
            refine wpa_takeSkip0 26 [true, true, true, true, true, true, true, true, true, true, true, true, true, true, true, true, true, true, true, true, true, true, true, true, true, true, true, false, false, false, false, false, false, false] 37 RG (Skips.mk' (j := 24) (t := 35) (b := true) (by kernel_rfl) (by kernel_rfl) (by kernel_rfl)) (by kernel_rfl) (by kernel_rfl) ?_
            refine wpa_takeSkip0 27 [true, true, true, true, true, true, true, true, true, true, true, true, true, true, true, true, true, true, true, true, true, true, true, true, true, true, true, true, false, false, false, false, false, false] 38 RG (Skips.mk' (j := 24) (t := 35) (b := true) (by kernel_rfl) (by kernel_rfl) (by kernel_rfl)) (by kernel_rfl) (by kernel_rfl) ?_
            refine wpa_takeSkip0 28 [true, true, true, true, true, true, true, true, true, true, true, true, true, true, true, true, true, true, true, true, true, true, true, true, true, true, true, true, true, false, false, false, false, false] 39 RG (Skips.mk' (j := 24) (t := 35) (b := true) (by kernel_rfl) (by kernel_rfl) (by kernel_rfl)) (by kernel_rfl) (by kernel_rfl) ?_
            refine wpa_takeSkip0 29 [true, true, true, true, true, true, true, true, true, true, true, true, true, true, true, true, true, true, true, true, true, true, true, true, true, true, true, true, true, true, false, false, false, false] 40 RG (Skips.mk' (j := 24) (t := 35) (b := true) (by kernel_rfl) (by kernel_rfl) (by kernel_rfl)) (by kernel_rfl) (by kernel_rfl) ?_
            refine wpa_takeSkip0 30 [true, true, true, true, true, true, true, true, true, true, true, true, true, true, true, true, true, true, true, true, true, true, true, true, true, true, true, true, true, true, true, false, false, false] 41 RG (Skips.mk' (j := 24) (t := 35) (b := true) (by kernel_rfl) (by kernel_rfl) (by kernel_rfl)) (by kernel_rfl) (by kernel_rfl) ?_
            refine wpa_takeSkip0 31 [true, true, true, true, true, true, true, true, true, true, true, true, true, true, true, true, true, true, true, true, true, true, true, true, true, true, true, true, true, true, true, true, false, false] 42 RG (Skips.mk' (j := 24) (t := 35) (b := true) (by kernel_rfl) (by kernel_rfl) (by kernel_rfl)) (by kernel_rfl) (by kernel_rfl) ?_
            refine wpa_takeSkip0 32 [true, true, true, true, true, true, true, true, true, true, true, true, true, true, true, true, true, true, true, true, true, true, true, true, true, true, true, true, true, true, true, true, true, false] 43 RG (Skips.mk' (j := 24) (t := 35) (b := true) (by kernel_rfl) (by kernel_rfl) (by kernel_rfl)) (by kernel_rfl) (by kernel_rfl) ?_
            refine wpa_take0 33 [true, true, true, true, true, true, true, true, true, true, true, true, true, true, true, true, true, true, true, true, true, true, true, true, true, true, true, true, true, true, true, true, true, true] 44 (.pick (.tmp 35) (.tmp 43) (.const (Value.bool (false)))) 4 (Value.bool (false)) RG (Runs.plain (by kernel_rfl)) (by kernel_rfl) (by kernel_rfl) (fun _ => (y_pickF (by kernel_rfl) (by kernel_rfl))) ?_
            refine wpq_re 44 (v := Value.bool (false)) (Value.bool ((((decide ((((c.parts).length : Nat) : Int) > 0) && (p.base == c.base)) && (p.count == c.count)) && (p.index == (((c.parts).length : Nat) : Int))))) (by kernel_rfl) (re_and0 q7) ?_
            exact wpq_sub _ (by kernel_rfl) hk24
        · refine wpa_done (by kernel_rfl) ?_
          refine wpq_then ?_
          -- condition 1
          refine wpc_cond (x := F29_16) (y := F29_17) (o := (.tmp 44)) (b := (((decide ((((c.parts).length : Nat) : Int) > 0) && (p.base == c.base)) && (p.count == c.count)) && (p.index == (((c.parts).length : Nat) : Int)))) (by kernel_rfl) (by kernel_rfl) (fun h1 => ?_) (fun h1 => ?_)
          · have h1l := (and_true_ h1).1
            have h1r := (and_true_ h1).2
            have h1ll := (and_true_ h1l).1
            have h1lr := (and_true_ h1l).2
            have h1lll := (and_true_ h1ll).1
            have h1llr := (and_true_ h1ll).2
            have h1lllp := of_decide_eq_true h1lll
            have h1llrp : p.base = c.base := eq_of_beq h1llr
            have h1lrp : p.count = c.count := eq_of_beq h1lr
            have h1rp : p.index = (((c.parts).length : Nat) : Int) := eq_of_beq h1r
            refine wpc_seq (x := F29_18) (y := F29_19) (by kernel_rfl) ?_
            refine wpa_start (ops := R29_18) (id := 3) (by kernel_rfl) (by kernel_rfl) [4, 6] [12, 10, 11] [some ⟨b1, 37, [Value.int .i64 (p.base), Value.int .i64 (p.index), Value.int .i64 (p.count), Value.slice Ap_data (p.data).length cp_data]⟩, some ⟨b_c, 114, [Value.int .i64 (c.base), Value.int .i64 (c.count), Value.slice Ac_parts (c.parts).length cc_parts, Value.slice Ac_sets (c.sets).length cc_sets]⟩] (by kernel_rfl) (by kernel_rfl) (fun _ _ _ _ _ h => h) 13 (by kernel_rfl) (fun RG => ?_)
            have lp := Psi.le.refl g3.r
            refine wpa_take0 0 [true, false, false, false, false, false, false, false, false, false, false, false, false] 45 (.move (.tmp 0)) 72 (Value.pointer (some ⟨b_c, 0, none⟩)) RG (Runs.plain (by kernel_rfl)) (by kernel_rfl) (by kernel_rfl) (fun _ => (y_move (by kernel_rfl))) ?_
            refine wpa_take0 1 [true, true, false, false, false, false, false, false, false, false, false, false, false] 46 (.move (.tmp 0)) 72 (Value.pointer (some ⟨b_c, 0, none⟩)) RG (Runs.plain (by kernel_rfl)) (by kernel_rfl) (by kernel_rfl) (fun _ => (y_move (by kernel_rfl))) ?_
            refine wpa_take0 2 [true, true, true, false, false, false, false, false, false, false, false, false, false] 47 (.nilCheck (.tmp 46)) 0 (Value.pointer (some ⟨b_c, 0, none⟩)) RG (Runs.plain (by kernel_rfl)) (by kernel_rfl) (by kernel_rfl) (fun _ => (y_pure (by kernel_rfl) (fun _ => by kernel_rfl))) ?_
            refine wpa_take0 3 [true, true, true, true, false, false, false, false, false, false, false, false, false] 48 (.fieldAddr 114 (.tmp 47) 2) 0 (Value.pointer (some ⟨b_c, 2, none⟩)) RG (Runs.plain (by kernel_rfl)) (by kernel_rfl) (by kernel_rfl) (fun _ => (y_pure (by kernel_rfl) (fun _ => by kernel_rfl))) ?_
            refine wpa_take 4 [true, true, true, true, true, false, false, false, false, false, false, false, false] 49 (.load 74 (.tmp 48)) 74 (Value.slice Ac_parts (c.parts).length cc_parts) RG (Runs.plain (by kernel_rfl)) (by kernel_rfl) (by kernel_rfl) lp (keepK_P [some 0, some 1] (by kernel_rfl)) (q_load1 b_c 2 1 (by kernel_rfl) (by kernel_rfl) (by kernel_rfl)) ?_
            refine wpa_take0 5 [true, true, true, true, true, true, false, false, false, false, false, false, false] 50 (.fieldAddr 37 (.tmp 3) 3) 0 (Value.pointer (some ⟨b1, 3, none⟩)) RG (Runs.plain (by kernel_rfl)) (by kernel_rfl) (by kernel_rfl) (fun _ => (y_pure (by kernel_rfl) (fun _ => by kernel_rfl))) ?_
            refine wpa_take 6 [true, true, true, true, true, true, true, false, false, false, false, false, false] 51 (.load 22 (.tmp 50)) 22 (Value.slice Ap_data (p.data).length cp_data) RG (Runs.plain (by kernel_rfl)) (by kernel_rfl) (by kernel_rfl) lp (keepK_P [some 0, some 1] (by kernel_rfl)) (q_load1 b1 3 0 (by kernel_rfl) (by kernel_rfl) (by kernel_rfl)) ?_
            refine wpa_one 7 (by kernel_rfl) ?_
            refine wpi_eff [true, true, true, true, true, true, true, true, false, false, false, false, false] 52 (.call { callee := .value (.func 42), args := #[(.tmp 51)], argTypes := #[22] }) 22 (Runs.plain (by kernel_rfl)) (by kernel_rfl) lp (e_call [Value.slice Ap_data (p.data).length cp_data] (by kernel_rfl) (by kernel_rfl) (fun g' lr eb ln => c42 g' (p.data : List UInt8) Ap_data cp_data (fp_data.mono lr))) (by kernel_rfl) ?_
            rintro _ g9 _ le10 ⟨rfl, A8_0, c8_0, rfl, f8_0⟩
            refine ⟨.inr (keepK_P [some 0, some 1] (by kernel_rfl)), ?_⟩
            have hc_parts := hc_parts.mono le10.b
            have hc_sets := hc_sets.mono le10.b
            have fp_data := fp_data.mono le10.r
            have L0 := L0.trans le10
            have lp := lp.trans le10.r
            have nf8_0 := f8_0.len
            refine wpa_one 8 (by kernel_rfl) ?_
            refine wpi_eff [true, true, true, true, true, true, true, true, true, false, false, false, false] 53 (.buildSlice 74 1 #[(0, (.tmp 52))]) 74 (Runs.plain (by kernel_rfl)) (by kernel_rfl) lp (e_buildSlice (et := 22) [(0, Value.slice A8_0 ((idL (p.data : List UInt8))).length c8_0)] [Value.slice A8_0 ((idL (p.data : List UInt8))).length c8_0] (by kernel_rfl) (by kernel_rfl)) (by kernel_rfl) ?_
            rintro _ _ _ - ⟨b11, rfl, rfl, rfl⟩
            refine ⟨.inr (keepK_P [some 1, some 2] (by kernel_rfl)), ?_⟩
            refine wpa_one 9 (by kernel_rfl) ?_
            have hz12 : (c.parts ++ [(idL (p.data : List UInt8))] : List (List UInt8)).length = (c.parts : List (List UInt8)).length + 1 := by rw [List.length_append]; rfl
            refine wpi_eff [true, true, true, true, true, true, true, true, true, true, false, false, false] 54 (.call { callee := .builtin .append, args := #[(.tmp 49), (.tmp 53)], argTypes := #[74, 74] }) 74 (Runs.plain (by kernel_rfl)) (by kernel_rfl) lp (e_appendQ (T := (tyArr tyU8)) (p := g9.b) (et := 22) (bytes := 24) 3 (Value.slice Ac_parts (c.parts).length cc_parts) (kc_parts) (c.parts) (some ⟨b11, 0, none⟩) 1 1 ([(idL (p.data : List UInt8))]) (by kernel_rfl) (by kernel_rfl) (by kernel_rfl) (by kernel_rfl) hc_parts rfl (src_lit (i := 0) (t := 22) (cs := [Value.slice A8_0 ((idL (p.data : List UInt8))).length c8_0]) (by kernel_rfl)) (reps_cons (c := [Value.slice A8_0 ((idL (p.data : List UInt8))).length c8_0]) ⟨A8_0, c8_0, rfl, f8_0⟩ reps_nil) (by first | omega | (simp only [List.length_nil, List.length_cons, List.length_append] <;> omega)) (by first | omega | (simp only [List.length_nil, List.length_cons, List.length_append] <;> omega))) (by kernel_rfl) ?_
            rintro _ _ _ - ⟨A12, c12, k12, rfl, rfl, rfl, hb12⟩
            refine ⟨.inr (keepK_P [some 1, some 2] (by kernel_rfl)), ?_⟩
            have nhb12 := hb12.len
            refine wpa_take0 10 [true, true, true, true, true, true, true, true, true, true, true, false, false] 55 (.nilCheck (.tmp 45)) 0 (Value.pointer (some ⟨b_c, 0, none⟩)) RG (Runs.plain (by kernel_rfl)) (by kernel_rfl) (by kernel_rfl) (fun _ => (y_pure (by kernel_rfl) (fun _ => by kernel_rfl))) ?_
            refine wpa_take0 11 [true, true, true, true, true, true, true, true, true, true, true, true, false] 56 (.fieldAddr 114 (.tmp 55) 2) 0 (Value.pointer (some ⟨b_c, 2, none⟩)) RG (Runs.plain (by kernel_rfl)) (by kernel_rfl) (by kernel_rfl) (fun _ => (y_pure (by kernel_rfl) (fun _ => by kernel_rfl))) ?_
            refine wpa_one 12 (by kernel_rfl) ?_
            refine wpi_do [true, true, true, true, true, true, true, true, true, true, true, true, true] (.store 74 (.tmp 56) (.tmp 54)) 0 (Runs.plain (by kernel_rfl)) lp (q_store b_c 2 2 (Value.slice A12 ((c.parts ++ [(idL (p.data : List UInt8))]) : List (List UInt8)).length c12) [Value.slice A12 ((c.parts ++ [(idL (p.data : List UInt8))]) : List (List UInt8)).length c12] 114 [Value.int .i64 (c.base), Value.int .i64 (c.count), Value.slice Ac_parts (c.parts).length cc_parts, Value.slice Ac_sets (c.sets).length cc_sets] [Value.int .i64 (c.base), Value.int .i64 (c.count), Value.slice A12 ((c.parts ++ [(idL (p.data : List UInt8))]) : List (List UInt8)).length c12, Value.slice Ac_sets (c.sets).length cc_sets] (by kernel_rfl) (by kernel_rfl) (by kernel_rfl) (by kernel_rfl) (by kernel_rfl) (by kernel_rfl) (by kernel_rfl)) (by kernel_rfl) ?_
            rintro _ _ _ - ⟨rfl, rfl⟩
            refine ⟨.inl (by kernel_rfl), ?_⟩
            refine wpa_done (by kernel_rfl) ?_
            refine wpq_then ?_
            refine wpq_sub [] (by kernel_rfl) ?_
            refine wpc_ret (rs := []) [] [some ⟨b_c, 114, [Value.int .i64 (c.base), Value.int .i64 (c.count), Value.slice A12 ((c.parts ++ [(idL (p.data : List UInt8))]) : List (List UInt8)).length c12, Value.slice Ac_sets (c.sets).length cc_sets]⟩, k12, kc_sets] (by kernel_rfl) (fun _ _ h => h) (by kernel_rfl) res_nil L0 (keepP [some 2, some 3, some 4] (by kernel_rfl) (by kernel_rfl)) ?_
            have eS : (takeS c p) = (⟨(c.base : Int), (c.count : Int), ((c.parts ++ [(idL (p.data : List UInt8))]) : List (List UInt8)), (c.sets : List Sett)⟩ : Coll) := by
              unfold takeS
              rw [h0]
              rw [h1]
              rfl
            rw [eS]
            exact ⟨A12, c12, k12, Ac_sets, cc_sets, kc_sets, rfl, rfl, hb12, hc_sets⟩
          · refine wpc_skip (by kernel_rfl) ?_
            refine wpq_then ?_
            refine wpc_seq (x := F29_21) (y := F29_22) (by kernel_rfl) ?_
            refine wpc_region (ops := R29_21) (id := 4) (by kernel_rfl) ?_
            refine wpr_val 1 57 (.fieldAddr 37 (.tmp 3) 1) 0 (Value.pointer (some ⟨b1, 1, none⟩)) (Runs.plain (by kernel_rfl)) (by kernel_rfl) (y_pure (by kernel_rfl) (fun _ => by kernel_rfl)) ?_
            refine wpr_val 2 58 (.load 3 (.tmp 57)) 3 (Value.int .i64 (p.index)) (Runs.plain (by kernel_rfl)) (by kernel_rfl) (q_load1 b1 1 0 (by kernel_rfl) (by kernel_rfl) (by kernel_rfl)) ?_
            refine wpr_val 3 59 (.binOp .eql 3 (.tmp 58) (.const (Value.int .i64 (0))) 3) 4 (Value.bool ((p.index == 0))) (Runs.plain (by kernel_rfl)) (by kernel_rfl) (y_pure (by kernel_rfl) (fun _ => by kernel_rfl)) ?_
            refine wpr_end (by kernel_rfl) ?_
            refine wpq_then ?_
            -- condition 2
            refine wpc_cond (x := F29_24) (y := F29_25) (o := (.tmp 59)) (b := (p.index == 0)) (by kernel_rfl) (by kernel_rfl) (fun h2 => ?_) (fun h2 => ?_)
            · have h2p : p.index = 0 := eq_of_beq h2
              refine wpa_start (ops := R29_24) (id := 5) (by kernel_rfl) (by kernel_rfl) [2, 4, 6] [11, 10] [some ⟨b1, 37, [Value.int .i64 (p.base), Value.int .i64 (p.index), Value.int .i64 (p.count), Value.slice Ap_data (p.data).length cp_data]⟩] (by kernel_rfl) (by kernel_rfl) (fun _ _ _ _ _ h => h) 12 (by kernel_rfl) (fun RG => ?_)
              have lp := Psi.le.refl g3.r
              refine wpa_take0 0 [true, false, false, false, false, false, false, false, false, false, false, false] 60 (.move (.tmp 0)) 72 (Value.pointer (some ⟨b_c, 0, none⟩)) RG (Runs.plain (by kernel_rfl)) (by kernel_rfl) (by kernel_rfl) (fun _ => (y_move (by kernel_rfl))) ?_
              refine wpa_take0 1 [true, true, false, false, false, false, false, false, false, false, false, false] 61 (.fieldAddr 37 (.tmp 3) 0) 0 (Value.pointer (some ⟨b1, 0, none⟩)) RG (Runs.plain (by kernel_rfl)) (by kernel_rfl) (by kernel_rfl) (fun _ => (y_pure (by kernel_rfl) (fun _ => by kernel_rfl))) ?_
              refine wpa_take 2 [true, true, true, false, false, false, false, false, false, false, false, false] 62 (.load 2 (.tmp 61)) 2 (Value.int .i64 (p.base)) RG (Runs.plain (by kernel_rfl)) (by kernel_rfl) (by kernel_rfl) lp (keepK_P [some 0] (by kernel_rfl)) (q_load1 b1 0 0 (by kernel_rfl) (by kernel_rfl) (by kernel_rfl)) ?_
              refine wpa_take0 3 [true, true, true, true, false, false, false, false, false, false, false, false] 63 (.fieldAddr 37 (.tmp 3) 2) 0 (Value.pointer (some ⟨b1, 2, none⟩)) RG (Runs.plain (by kernel_rfl)) (by kernel_rfl) (by kernel_rfl) (fun _ => (y_pure (by kernel_rfl) (fun _ => by kernel_rfl))) ?_
              refine wpa_take 4 [true, true, true, true, true, false, false, false, false, false, false, false] 64 (.load 3 (.tmp 63)) 3 (Value.int .i64 (p.count)) RG (Runs.plain (by kernel_rfl)) (by kernel_rfl) (by kernel_rfl) lp (keepK_P [some 0] (by kernel_rfl)) (q_load1 b1 2 0 (by kernel_rfl) (by kernel_rfl) (by kernel_rfl)) ?_
              refine wpa_take0 5 [true, true, true, true, true, true, false, false, false, false, false, false] 65 (.fieldAddr 37 (.tmp 3) 3) 0 (Value.pointer (some ⟨b1, 3, none⟩)) RG (Runs.plain (by kernel_rfl)) (by kernel_rfl) (by kernel_rfl) (fun _ => (y_pure (by kernel_rfl) (fun _ => by kernel_rfl))) ?_
              refine wpa_take 6 [true, true, true, true, true, true, true, false, false, false, false, false] 66 (.load 22 (.tmp 65)) 22 (Value.slice Ap_data (p.data).length cp_data) RG (Runs.plain (by kernel_rfl)) (by kernel_rfl) (by kernel_rfl) lp (keepK_P [some 0] (by kernel_rfl)) (q_load1 b1 3 0 (by kernel_rfl) (by kernel_rfl) (by kernel_rfl)) ?_
              refine wpa_one 7 (by kernel_rfl) ?_
              refine wpi_eff [true, true, true, true, true, true, true, true, false, false, false, false] 67 (.call { callee := .value (.func 42), args := #[(.tmp 66)], argTypes := #[22] }) 22 (Runs.plain (by kernel_rfl)) (by kernel_rfl) lp (e_call [Value.slice Ap_data (p.data).length cp_data] (by kernel_rfl) (by kernel_rfl) (fun g' lr eb ln => c42 g' (p.data : List UInt8) Ap_data cp_data (fp_data.mono lr))) (by kernel_rfl) ?_
              rintro _ g14 _ le15 ⟨rfl, A13_0, c13_0, rfl, f13_0⟩
              refine ⟨.inr (keepK_P [some 0] (by kernel_rfl)), ?_⟩
              have hc_parts := hc_parts.mono le15.b
              have hc_sets := hc_sets.mono le15.b
              have fp_data := fp_data.mono le15.r
              have L0 := L0.trans le15
              have lp := lp.trans le15.r
              have nf13_0 := f13_0.len
              refine wpa_one 8 (by kernel_rfl) ?_
              refine wpi_eff [true, true, true, true, true, true, true, true, true, false, false, false] 68 (.buildSlice 74 1 #[(0, (.tmp 67))]) 74 (Runs.plain (by kernel_rfl)) (by kernel_rfl) lp (e_buildSlice (et := 22) [(0, Value.slice A13_0 ((idL (p.data : List UInt8))).length c13_0)] [Value.slice A13_0 ((idL (p.data : List UInt8))).length c13_0] (by kernel_rfl) (by kernel_rfl)) (by kernel_rfl) ?_
              rintro _ _ _ - ⟨b16, rfl, rfl, rfl⟩
              refine ⟨.inr (keepK_P [some 1] (by kernel_rfl)), ?_⟩
              refine wpa_take0 9 [true, true, true, true, true, true, true, true, true, true, false, false] 69 (.build 114 #[(0, (.tmp 62)), (1, (.tmp 64)), (2, (.tmp 68))]) 114 (Value.agg #[Value.int .i64 (p.base), Value.int .i64 (p.count), Value.slice (some ⟨b16, 0, none⟩) 1 1, Value.slice none 0 0]) RG (Runs.plain (by kernel_rfl)) (by kernel_rfl) (by kernel_rfl) (fun _ => (y_pure (by kernel_rfl) (fun _ => by kernel_rfl))) ?_
              refine wpa_take0 10 [true, true, true, true, true, true, true, true, true, true, true, false] 70 (.nilCheck (.tmp 60)) 0 (Value.pointer (some ⟨b_c, 0, none⟩)) RG (Runs.plain (by kernel_rfl)) (by kernel_rfl) (by kernel_rfl) (fun _ => (y_pure (by kernel_rfl) (fun _ => by kernel_rfl))) ?_
              refine wpa_one 11 (by kernel_rfl) ?_
              refine wpi_do [true, true, true, true, true, true, true, true, true, true, true, true] (.store 114 (.tmp 70) (.tmp 69)) 0 (Runs.plain (by kernel_rfl)) lp (q_store b_c 0 2 (Value.agg #[Value.int .i64 (p.base), Value.int .i64 (p.count), Value.slice (some ⟨b16, 0, none⟩) 1 1, Value.slice none 0 0]) [Value.int .i64 (p.base), Value.int .i64 (p.count), Value.slice (some ⟨b16, 0, none⟩) 1 1, Value.slice none 0 0] 114 [Value.int .i64 (c.base), Value.int .i64 (c.count), Value.slice Ac_parts (c.parts).length cc_parts, Value.slice Ac_sets (c.sets).length cc_sets] [Value.int .i64 (p.base), Value.int .i64 (p.count), Value.slice (some ⟨b16, 0, none⟩) 1 1, Value.slice none 0 0] (by kernel_rfl) (by kernel_rfl) (by kernel_rfl) (by kernel_rfl) (by kernel_rfl) (by kernel_rfl) (by kernel_rfl)) (by kernel_rfl) ?_
              rintro _ _ _ - ⟨rfl, rfl⟩
              refine ⟨.inl (by kernel_rfl), ?_⟩
              refine wpa_done (by kernel_rfl) ?_
              refine wpq_name (T := (tyArr tyU8)) (p := g14.b) (et := 22) (v := Value.slice (some ⟨b16, 0, none⟩) 1 1) (xs := [(idL (p.data : List UInt8))]) 0 (by kernel_rfl) (buf_lit (reps_cons (c := [Value.slice A13_0 ((idL (p.data : List UInt8))).length c13_0]) ⟨A13_0, c13_0, rfl, f13_0⟩ reps_nil) rfl (by omega)) (fun k17 hk17 => ?_)
              refine wpq_fin (rs := []) [] [some ⟨b_c, 114, [Value.int .i64 (p.base), Value.int .i64 (p.count), Value.slice (some ⟨b16, 0, none⟩) 1 1, Value.slice none 0 0]⟩, k17, none] (by kernel_rfl) res_nil L0 (keepP [some 2, some 0, none] (by kernel_rfl) (by kernel_rfl)) ?_
              have eS : (takeS c p) = (⟨(p.base : Int), (p.count : Int), (([(idL (p.data : List UInt8))] : List (List UInt8)) : List (List UInt8)), ([] : List Sett)⟩ : Coll) := by
                unfold takeS
                rw [h0]
                rw [h1]
                rw [h2]
                rfl
              rw [eS]
              exact ⟨(some ⟨b16, 0, none⟩), 1, k17, none, 0, none, rfl, rfl, hk17, Buf.nil⟩
            · have h2p : ¬ (p.index = 0) := ne_of_beq_false_ h2
              refine wpc_skip (by kernel_rfl) ?_
              refine wpq_fin (rs := []) [] [some ⟨b_c, 114, [Value.int .i64 (c.base), Value.int .i64 (c.count), Value.slice Ac_parts (c.parts).length cc_parts, Value.slice Ac_sets (c.sets).length cc_sets]⟩, kc_parts, kc_sets] (by kernel_rfl) res_nil L0 (keepP [some 1, some 2, some 3] (by kernel_rfl) (by kernel_rfl)) ?_
              have eS : (takeS c p) = c := by
                unfold takeS
                rw [h0]
                rw [h1]
                rw [h2]
                rfl
              rw [eS]
              exact ⟨Ac_parts, cc_parts, kc_parts, Ac_sets, cc_sets, kc_sets, rfl, rfl, hc_parts, hc_sets⟩

noncomputable def F31_0 : Code := sub (Try.f31.body.getD .skip) []
noncomputable def F31_1 : Code := sub (Try.f31.body.getD .skip) [0]
noncomputable def F31_2 : Code := sub (Try.f31.body.getD .skip) [1]
noncomputable def R31_1 : Array Oper := regOf F31_1
noncomputable def F31_4 : Code := sub (Try.f31.body.getD .skip) [1, 0]
noncomputable def F31_5 : Code := sub (Try.f31.body.getD .skip) [1, 1]
noncomputable def F31_6 : Code := sub (Try.f31.body.getD .skip) [1, 0, 0]
noncomputable def F31_7 : Code := sub (Try.f31.body.getD .skip) [1, 0, 1]
noncomputable def R31_6 : Array Oper := regOf F31_6
noncomputable def F31_9 : Code := sub (Try.f31.body.getD .skip) [1, 0, 1, 0]
noncomputable def F31_10 : Code := sub (Try.f31.body.getD .skip) [1, 0, 1, 1]
noncomputable def F31_11 : Code := sub (Try.f31.body.getD .skip) [1, 1, 0]
noncomputable def F31_12 : Code := sub (Try.f31.body.getD .skip) [1, 1, 1]
noncomputable def F31_13 : Code := sub (Try.f31.body.getD .skip) [1, 1, 0, 0]
noncomputable def F31_14 : Code := sub (Try.f31.body.getD .skip) [1, 1, 0, 1]
noncomputable def R31_13 : Array Oper := regOf F31_13
noncomputable def F31_16 : Code := sub (Try.f31.body.getD .skip) [1, 1, 0, 1, 0]
noncomputable def F31_17 : Code := sub (Try.f31.body.getD .skip) [1, 1, 0, 1, 1]
noncomputable def F31_18 : Code := sub (Try.f31.body.getD .skip) [1, 1, 0, 1, 0, 0]
noncomputable def F31_19 : Code := sub (Try.f31.body.getD .skip) [1, 1, 0, 1, 0, 1]
noncomputable def R31_18 : Array Oper := regOf F31_18
noncomputable def F31_21 : Code := sub (Try.f31.body.getD .skip) [1, 1, 1, 0]
noncomputable def F31_22 : Code := sub (Try.f31.body.getD .skip) [1, 1, 1, 1]
noncomputable def R31_21 : Array Oper := regOf F31_21
noncomputable def R31_22 : Array Oper := regOf F31_22
def noteS (c : Coll) (x : Sett) (came : Bool) : Coll :=
  (cond (((((c.parts).length : Nat) : Int) == 0)) c (cond (((((!came) || (x.steps != (IntKind.i64.wrap (c.base + (((c.sets).length : Nat) : Int))))) || x.fresh) || decide ((((c.sets).length : Nat) : Int) ≥ (((c.parts).length : Nat) : Int)))) (resetC c) (⟨(c.base : Int), (c.count : Int), (c.parts : List (List UInt8)), ((c.sets ++ [(⟨(x.steps : Int), (x.cycle : Int), (x.fresh), ((idL (x.in_ : List UInt8)) : List UInt8)⟩ : Sett)]) : List Sett)⟩ : Coll)))
set_option maxRecDepth 100000 in
theorem c31 (g : Gh) (b_c : Nat) (c : Coll) (Ac_parts : Option Addr) (cc_parts : Nat) (kc_parts : Option Bk) (Ac_sets : Option Addr) (cc_sets : Nat) (kc_sets : Option Bk) (x : Sett) (Ax_in_ : Option Addr) (cx_in_ : Nat) (came : Bool) (hc_parts : Buf g.b (tyArr tyU8) 22 (.slice Ac_parts (c.parts).length cc_parts) kc_parts c.parts) (hc_sets : Buf g.b tySett 79 (.slice Ac_sets (c.sets).length cc_sets) kc_sets c.sets) (fx_in_ : Arr g.r tyU8 Ax_in_ cx_in_ x.in_) (hl : c.sets.length ≤ 1000000) :
    Ctr Try.prog 31 [Value.pointer (some ⟨b_c, 0, none⟩), Value.agg #[Value.int .i64 (x.steps), Value.int .i64 (x.cycle), Value.bool (x.fresh), Value.slice Ax_in_ (x.in_).length cx_in_], Value.bool (came)] g [some ⟨b_c, 114, [Value.int .i64 (c.base), Value.int .i64 (c.count), Value.slice Ac_parts (c.parts).length cc_parts, Value.slice Ac_sets (c.sets).length cc_sets]⟩, kc_parts, kc_sets] (fun v ψ o => ∃ (Ao_c_parts : Option Addr) (co_c_parts : Nat) (ko_c_parts : Option Bk) (Ao_c_sets : Option Addr) (co_c_sets : Nat) (ko_c_sets : Option Bk), v = Value.tuple #[] ∧ o = [some ⟨b_c, 114, [Value.int .i64 ((noteS c x came).base), Value.int .i64 ((noteS c x came).count), Value.slice Ao_c_parts ((noteS c x came).parts).length co_c_parts, Value.slice Ao_c_sets ((noteS c x came).sets).length co_c_sets]⟩, ko_c_parts, ko_c_sets] ∧ Buf ψ (tyArr tyU8) 22 (.slice Ao_c_parts ((noteS c x came).parts).length co_c_parts) ko_c_parts (noteS c x came).parts ∧ Buf ψ tySett 79 (.slice Ao_c_sets ((noteS c x came).sets).length co_c_sets) ko_c_sets (noteS c x came).sets) := by
  refine ctr_of Try.f31 F31_0 66 [Value.pointer (some ⟨b_c, 0, none⟩), Value.agg #[Value.int .i64 (x.steps), Value.int .i64 (x.cycle), Value.bool (x.fresh), Value.slice Ax_in_ (x.in_).length cx_in_], Value.bool (came)] (by kernel_rfl) (by kernel_rfl) (by kernel_rfl) (by kernel_rfl) ?_
  have L0 := Gh.le.refl g
  have nhc_parts := hc_parts.len
  have nhc_sets := hc_sets.len
  have nfx_in_ := fx_in_.len
  refine wpc_seq (x := F31_1) (y := F31_2) (by kernel_rfl) ?_
  refine wpc_region (ops := R31_1) (id := 0) (by kernel_rfl) ?_
  refine wpr_eff 1 4 (.box 79 (.tmp 1)) 0 (Runs.plain (by kernel_rfl)) (by kernel_rfl) (e_box (v := Value.agg #[Value.int .i64 (x.steps), Value.int .i64 (x.cycle), Value.bool (x.fresh), Value.slice Ax_in_ (x.in_).length cx_in_]) (cs := [Value.int .i64 (x.steps), Value.int .i64 (x.cycle), Value.bool (x.fresh), Value.slice Ax_in_ (x.in_).length cx_in_]) (by kernel_rfl) (by kernel_rfl)) ?_
  rintro _ _ _ - ⟨b1, rfl, rfl, rfl⟩
  refine wpr_end (by kernel_rfl) ?_
  refine wpq_then ?_
  refine wpc_seq (x := F31_4) (y := F31_5) (by kernel_rfl) ?_
  refine wpc_seq (x := F31_6) (y := F31_7) (by kernel_rfl) ?_
  refine wpc_region (ops := R31_6) (id := 1) (by kernel_rfl) ?_
  refine wpr_val 1 6 (.move (.tmp 0)) 72 (Value.pointer (some ⟨b_c, 0, none⟩)) (Runs.plain (by kernel_rfl)) (by kernel_rfl) (y_move (by kernel_rfl)) ?_
  refine wpr_val 2 7 (.binOp .eql 72 (.tmp 6) (.const (Value.pointer none)) 72) 4 (Value.bool (false)) (Runs.plain (by kernel_rfl)) (by kernel_rfl) (y_pure (by kernel_rfl) (fun _ => by kernel_rfl)) ?_
  refine wpr_val 3 8 (.move (.tmp 7)) 4 (Value.bool (false)) (Runs.plain (by kernel_rfl)) (by kernel_rfl) (y_move (by kernel_rfl)) ?_
  refine wpr_val 4 9 (.move (.tmp 0)) 72 (Value.pointer (some ⟨b_c, 0, none⟩)) (Runs.guarded (j := 2) (t := 8) (b := false) (by kernel_rfl) (by kernel_rfl) (by kernel_rfl)) (by kernel_rfl) (y_move (by kernel_rfl)) ?_
  refine wpr_val 5 10 (.nilCheck (.tmp 9)) 0 (Value.pointer (some ⟨b_c, 0, none⟩)) (Runs.guarded (j := 2) (t := 8) (b := false) (by kernel_rfl) (by kernel_rfl) (by kernel_rfl)) (by kernel_rfl) (y_pure (by kernel_rfl) (fun _ => by kernel_rfl)) ?_
  refine wpr_val 6 11 (.fieldAddr 114 (.tmp 10) 2) 0 (Value.pointer (some ⟨b_c, 2, none⟩)) (Runs.guarded (j := 2) (t := 8) (b := false) (by kernel_rfl) (by kernel_rfl) (by kernel_rfl)) (by kernel_rfl) (y_pure (by kernel_rfl) (fun _ => by kernel_rfl)) ?_
  refine wpr_val 7 12 (.load 74 (.tmp 11)) 74 (Value.slice Ac_parts (c.parts).length cc_parts) (Runs.guarded (j := 2) (t := 8) (b := false) (by kernel_rfl) (by kernel_rfl) (by kernel_rfl)) (by kernel_rfl) (q_load1 b_c 2 1 (by kernel_rfl) (by kernel_rfl) (by kernel_rfl)) ?_
  refine wpr_val 8 13 (.call { callee := .builtin .len, args := #[(.tmp 12)], argTypes := #[74] }) 3 (Value.int .i64 ((((c.parts).length : Nat) : Int))) (Runs.guarded (j := 2) (t := 8) (b := false) (by kernel_rfl) (by kernel_rfl) (by kernel_rfl)) (by kernel_rfl) (y_pure (by kernel_rfl) (fun _ => by kernel_rfl)) ?_
  refine wpr_val 9 14 (.binOp .eql 3 (.tmp 13) (.const (Value.int .i64 (0))) 3) 4 (Value.bool (((((c.parts).length : Nat) : Int) == 0))) (Runs.guarded (j := 2) (t := 8) (b := false) (by kernel_rfl) (by kernel_rfl) (by kernel_rfl)) (by kernel_rfl) (y_pure (by kernel_rfl) (fun _ => by kernel_rfl)) ?_
  refine wpr_val 10 15 (.pick (.tmp 8) (.const (Value.bool (true))) (.tmp 14)) 4 (Value.bool (((((c.parts).length : Nat) : Int) == 0))) (Runs.plain (by kernel_rfl)) (by kernel_rfl) (y_pickF (by kernel_rfl) (by kernel_rfl)) ?_
  refine wpr_end (by kernel_rfl) ?_
  refine wpq_then ?_
  refine wpq_sub [(0, Value.pointer (some ⟨b_c, 0, none⟩)), (2, Value.bool (came)), (4, Value.pointer (some ⟨b1, 0, none⟩)), (15, Value.bool (((((c.parts).length : Nat) : Int) == 0)))] (by kernel_rfl) ?_
  -- condition 0
  refine wpc_cond (x := F31_9) (y := F31_10) (o := (.tmp 15)) (b := ((((c.parts).length : Nat) : Int) == 0)) (by kernel_rfl) (by kernel_rfl) (fun h0 => ?_) (fun h0 => ?_)
  · have h0p : (((c.parts).length : Nat) : Int) = 0 := eq_of_beq h0
    refine wpc_ret (rs := []) [] [some ⟨b_c, 114, [Value.int .i64 (c.base), Value.int .i64 (c.count), Value.slice Ac_parts (c.parts).length cc_parts, Value.slice Ac_sets (c.sets).length cc_sets]⟩, kc_parts, kc_sets] (by kernel_rfl) (fun _ _ h => h) (by kernel_rfl) res_nil L0 (keepP [some 1, some 2, some 3] (by kernel_rfl) (by kernel_rfl)) ?_
    have eS : (noteS c x came) = c := by
      unfold noteS
      rw [h0]
      rfl
    rw [eS]
    exact ⟨Ac_parts, cc_parts, kc_parts, Ac_sets, cc_sets, kc_sets, rfl, rfl, hc_parts, hc_sets⟩
  · have h0p : ¬ ((((c.parts).length : Nat) : Int) = 0) := ne_of_beq_false_ h0
    refine wpc_skip (by kernel_rfl) ?_
    refine wpq_then ?_
    refine wpc_seq (x := F31_11) (y := F31_12) (by kernel_rfl) ?_
    refine wpc_seq (x := F31_13) (y := F31_14) (by kernel_rfl) ?_
    refine wpa_start (ops := R31_13) (id := 2) (by kernel_rfl) (by kernel_rfl) [4, 8, 12, 19, 25, 30] [] [some ⟨b1, 79, [Value.int .i64 (x.steps), Value.int .i64 (x.cycle), Value.bool (x.fresh), Value.slice Ax_in_ (x.in_).length cx_in_]⟩, some ⟨b_c, 114, [Value.int .i64 (c.base), Value.int .i64 (c.count), Value.slice Ac_parts (c.parts).length cc_parts, Value.slice Ac_sets (c.sets).length cc_sets]⟩] (by kernel_rfl) (by kernel_rfl) (fun _ _ _ _ _ h => h) 34 (by kernel_rfl) (fun RG => ?_)
    have lp := Psi.le.refl g.r
    refine wpa_take0 0 [true, false, false, false, false, false, false, false, false, false, false, false, false, false, false, false, false, false, false, false, false, false, false, false, false, false, false, false, false, false, false, false, false, false] 16 (.move (.tmp 2)) 4 (Value.bool (came)) RG (Runs.plain (by kernel_rfl)) (by kernel_rfl) (by kernel_rfl) (fun _ => (y_move (by kernel_rfl))) ?_
    refine wpa_take0 1 [true, true, false, false, false, false, false, false, false, false, false, false, false, false, false, false, false, false, false, false, false, false, false, false, false, false, false, false, false, false, false, false, false, false] 17 (.unOp .not 4 (.tmp 16)) 4 (Value.bool ((!came))) RG (Runs.plain (by kernel_rfl)) (by kernel_rfl) (by kernel_rfl) (fun _ => (y_pure (by kernel_rfl) (fun _ => by kernel_rfl))) ?_
    refine wpa_take0 2 [true, true, true, false, false, false, false, false, false, false, false, false, false, false, false, false, false, false, false, false, false, false, false, false, false, false, false, false, false, false, false, false, false, false] 18 (.move (.tmp 17)) 4 (Value.bool ((!came))) RG (Runs.plain (by kernel_rfl)) (by kernel_rfl) (by kernel_rfl) (fun _ => (y_move (by kernel_rfl))) ?_
    refine wpa_grp 17 [true, true, true, true, true, true, true, true, true, true, true, true, true, true, true, true, true, false, false, false, false, false, false, false, false, false, false, false, false, false, false, false, false, false] [(0, Value.pointer (some ⟨b_c, 0, none⟩)), (4, Value.pointer (some ⟨b1, 0, none⟩)), (32, Value.bool (((!came) || (x.steps != (IntKind.i64.wrap (c.base + (((c.sets).length : Nat) : Int)))))))] (fun hk2 => ?_) ?_
    · refine wpq_split 18 (b := (!came)) (by kernel_rfl) (fun q2 => ?_) (fun q2 => ?_)
      · have q2n := not_eq_true_ q2
        refine wpa_takeSkip0 3 [true, true, true, true, false, false, false, false, false, false, false, false, false, false, false, false, false, false, false, false, false, false, false, false, false, false, false, false, false, false, false, false, false, false] 19 RG (Skips.mk' (j := 2) (t := 18) (b := false) (by kernel_rfl) (by kernel_rfl) (by kernel_rfl)) (by kernel_rfl) (by kernel_rfl) ?_
        refine wpa_takeSkip0 4 [true, true, true, true, true, false, false, false, false, false, false, false, false, false, false, false, false, false, false, false, false, false, false, false, false, false, false, false, false, false, false, false, false, false] 20 RG (Skips.mk' (j := 2) (t := 18) (b := false) (by kernel_rfl) (by kernel_rfl) (by kernel_rfl)) (by kernel_rfl) (by kernel_rfl) ?_
        refine wpa_takeSkip0 5 [true, true, true, true, true, true, false, false, false, false, false, false, false, false, false, false, false, false, false, false, false, false, false, false, false, false, false, false, false, false, false, false, false, false] 21 RG (Skips.mk' (j := 2) (t := 18) (b := false) (by kernel_rfl) (by kernel_rfl) (by kernel_rfl)) (by kernel_rfl) (by kernel_rfl) ?_
        refine wpa_takeSkip0 6 [true, true, true, true, true, true, true, false, false, false, false, false, false, false, false, false, false, false, false, false, false, false, false, false, false, false, false, false, false, false, false, false, false, false] 22 RG (Skips.mk' (j := 2) (t := 18) (b := false) (by kernel_rfl) (by kernel_rfl) (by kernel_rfl)) (by kernel_rfl) (by kernel_rfl) ?_
        refine wpa_takeSkip0 7 [true, true, true, true, true, true, true, true, false, false, false, false, false, false, false, false, false, false, false, false, false, false, false, false, false, false, false, false, false, false, false, false, false, false] 23 RG (Skips.mk' (j := 2) (t := 18) (b := false) (by kernel_rfl) (by kernel_rfl) (by kernel_rfl)) (by kernel_rfl) (by kernel_rfl) ?_
        refine wpa_takeSkip0 8 [true, true, true, true, true, true, true, true, true, false, false, false, false, false, false, false, false, false, false, false, false, false, false, false, false, false, false, false, false, false, false, false, false, false] 24 RG (Skips.mk' (j := 2) (t := 18) (b := false) (by kernel_rfl) (by kernel_rfl) (by kernel_rfl)) (by kernel_rfl) (by kernel_rfl) ?_
        refine wpa_takeSkip0 9 [true, true, true, true, true, true, true, true, true, true, false, false, false, false, false, false, false, false, false, false, false, false, false, false, false, false, false, false, false, false, false, false, false, false] 25 RG (Skips.mk' (j := 2) (t := 18) (b := false) (by kernel_rfl) (by kernel_rfl) (by kernel_rfl)) (by kernel_rfl) (by kernel_rfl) ?_
        refine wpa_takeSkip0 10 [true, true, true, true, true, true, true, true, true, true, true, false, false, false, false, false, false, false, false, false, false, false, false, false, false, false, false, false, false, false, false, false, false, false] 26 RG (Skips.mk' (j := 2) (t := 18) (b := false) (by kernel_rfl) (by kernel_rfl) (by kernel_rfl)) (by kernel_rfl) (by kernel_rfl) ?_
        refine wpa_takeSkip0 11 [true, true, true, true, true, true, true, true, true, true, true, true, false, false, false, false, false, false, false, false, false, false, false, false, false, false, false, false, false, false, false, false, false, false] 27 RG (Skips.mk' (j := 2) (t := 18) (b := false) (by kernel_rfl) (by kernel_rfl) (by kernel_rfl)) (by kernel_rfl) (by kernel_rfl) ?_
        refine wpa_takeSkip0 12 [true, true, true, true, true, true, true, true, true, true, true, true, true, false, false, false, false, false, false, false, false, false, false, false, false, false, false, false, false, false, false, false, false, false] 28 RG (Skips.mk' (j := 2) (t := 18) (b := false) (by kernel_rfl) (by kernel_rfl) (by kernel_rfl)) (by kernel_rfl) (by kernel_rfl) ?_
        refine wpa_takeSkip0 13 [true, true, true, true, true, true, true, true, true, true, true, true, true, true, false, false, false, false, false, false, false, false, false, false, false, false, false, false, false, false, false, false, false, false] 29 RG (Skips.mk' (j := 2) (t := 18) (b := false) (by kernel_rfl) (by kernel_rfl) (by kernel_rfl)) (by kernel_rfl) (by kernel_rfl) ?_
        refine wpa_takeSkip0 14 [true, true, true, true, true, true, true, true, true, true, true, true, true, true, true, false, false, false, false, false, false, false, false, false, false, false, false, false, false, false, false, false, false, false] 30 RG (Skips.mk' (j := 2) (t := 18) (b := false) (by kernel_rfl) (by kernel_rfl) (by kernel_rfl)) (by kernel_rfl) (by kernel_rfl) ?_
        refine wpa_takeSkip0 15 [true, true, true, true, true, true, true, true, true, true, true, true, true, true, true, true, false, false, false, false, false, false, false, false, false, false, false, false, false, false, false, false, false, false] 31 RG (Skips.mk' (j := 2) (t := 18) (b := false) (by kernel_rfl) (by kernel_rfl) (by kernel_rfl)) (by kernel_rfl) (by kernel_rfl) ?_
        refine wpa_take0 16 [true, true, true, true, true, true, true, true, true, true, true, true, true, true, true, true, true, false, false, false, false, false, false, false, false, false, false, false, false, false, false, false, false, false] 32 (.pick (.tmp 18) (.const (Value.bool (true))) (.tmp 31)) 4 (Value.bool (true)) RG (Runs.plain (by kernel_rfl)) (by kernel_rfl) (by kernel_rfl) (fun _ => (y_pickT (by kernel_rfl) (by kernel_rfl))) ?_
        refine wpq_re 32 (v := Value.bool (true)) (Value.bool (((!came) || (x.steps != (IntKind.i64.wrap (c.base + (((c.sets).length : Nat) : Int))))))) (by kernel_rfl) (re_or1 q2) ?_
        exact wpq_sub _ (by kernel_rfl) hk2
      · have q2n := not_eq_false_ q2
        refine wpa_take0 3 [true, true, true, true, false, false, false, false, false, false, false, false, false, false, false, false, false, false, false, false, false, false, false, false, false, false, false, false, false, false, false, false, false, false] 19 (.fieldAddr 79 (.tmp 4) 0) 0 (Value.pointer (some ⟨b1, 0, none⟩)) RG (Runs.guarded (j := 2) (t := 18) (b := false) (by kernel_rfl) (by kernel_rfl) (by kernel_rfl)) (by kernel_rfl) (by kernel_rfl) (fun _ => (y_pure (by kernel_rfl) (fun _ => by kernel_rfl))) ?_
        refine wpa_take 4 [true, true, true, true, true, false, false, false, false, false, false, false, false, false, false, false, false, false, false, false, false, false, false, false, false, false, false, false, false, false, false, false, false, false] 20 (.load 2 (.tmp 19)) 2 (Value.int .i64 (x.steps)) RG (Runs.guarded (j := 2) (t := 18) (b := false) (by kernel_rfl) (by kernel_rfl) (by kernel_rfl)) (by kernel_rfl) (by kernel_rfl) lp (keepK_P [some 0, some 1] (by kernel_rfl)) (q_load1 b1 0 0 (by kernel_rfl) (by kernel_rfl) (by kernel_rfl)) ?_
        refine wpa_take0 5 [true, true, true, true, true, true, false, false, false, false, false, false, false, false, false, false, false, false, false, false, false, false, false, false, false, false, false, false, false, false, false, false, false, false] 21 (.move (.tmp 0)) 72 (Value.pointer (some ⟨b_c, 0, none⟩)) RG (Runs.guarded (j := 2) (t := 18) (b := false) (by kernel_rfl) (by kernel_rfl) (by kernel_rfl)) (by kernel_rfl) (by kernel_rfl) (fun _ => (y_move (by kernel_rfl))) ?_
        refine wpa_take0 6 [true, true, true, true, true, true, true, false, false, false, false, false, false, false, false, false, false, false, false, false, false, false, false, false, false, false, false, false, false, false, false, false, false, false] 22 (.nilCheck (.tmp 21)) 0 (Value.pointer (some ⟨b_c, 0, none⟩)) RG (Runs.guarded (j := 2) (t := 18) (b := false) (by kernel_rfl) (by kernel_rfl) (by kernel_rfl)) (by kernel_rfl) (by kernel_rfl) (fun _ => (y_pure (by kernel_rfl) (fun _ => by kernel_rfl))) ?_
        refine wpa_take0 7 [true, true, true, true, true, true, true, true, false, false, false, false, false, false, false, false, false, false, false, false, false, false, false, false, false, false, false, false, false, false, false, false, false, false] 23 (.fieldAddr 114 (.tmp 22) 0) 0 (Value.pointer (some ⟨b_c, 0, none⟩)) RG (Runs.guarded (j := 2) (t := 18) (b := false) (by kernel_rfl) (by kernel_rfl) (by kernel_rfl)) (by kernel_rfl) (by kernel_rfl) (fun _ => (y_pure (by kernel_rfl) (fun _ => by kernel_rfl))) ?_
        refine wpa_take 8 [true, true, true, true, true, true, true, true, true, false, false, false, false, false, false, false, false, false, false, false, false, false, false, false, false, false, false, false, false, false, false, false, false, false] 24 (.load 2 (.tmp 23)) 2 (Value.int .i64 (c.base)) RG (Runs.guarded (j := 2) (t := 18) (b := false) (by kernel_rfl) (by kernel_rfl) (by kernel_rfl)) (by kernel_rfl) (by kernel_rfl) lp (keepK_P [some 0, some 1] (by kernel_rfl)) (q_load1 b_c 0 1 (by kernel_rfl) (by kernel_rfl) (by kernel_rfl)) ?_
        refine wpa_take0 9 [true, true, true, true, true, true, true, true, true, true, false, false, false, false, false, false, false, false, false, false, false, false, false, false, false, false, false, false, false, false, false, false, false, false] 25 (.move (.tmp 0)) 72 (Value.pointer (some ⟨b_c, 0, none⟩)) RG (Runs.guarded (j := 2) (t := 18) (b := false) (by kernel_rfl) (by kernel_rfl) (by kernel_rfl)) (by kernel_rfl) (by kernel_rfl) (fun _ => (y_move (by kernel_rfl))) ?_
        refine wpa_take0 10 [true, true, true, true, true, true, true, true, true, true, true, false, false, false, false, false, false, false, false, false, false, false, false, false, false, false, false, false, false, false, false, false, false, false] 26 (.nilCheck (.tmp 25)) 0 (Value.pointer (some ⟨b_c, 0, none⟩)) RG (Runs.guarded (j := 2) (t := 18) (b := false) (by kernel_rfl) (by kernel_rfl) (by kernel_rfl)) (by kernel_rfl) (by kernel_rfl) (fun _ => (y_pure (by kernel_rfl) (fun _ => by kernel_rfl))) ?_
        refine wpa_take0 11 [true, true, true, true, true, true, true, true, true, true, true, true, false, false, false, false, false, false, false, false, false, false, false, false, false, false, false, false, false, false, false, false, false, false] 27 (.fieldAddr 114 (.tmp 26) 3) 0 (Value.pointer (some ⟨b_c, 3, none⟩)) RG (Runs.guarded (j := 2) (t := 18) (b := false) (by kernel_rfl) (by kernel_rfl) (by kernel_rfl)) (by kernel_rfl) (by kernel_rfl) (fun _ => (y_pure (by kernel_rfl) (fun _ => by kernel_rfl))) ?_
        refine wpa_take 12 [true, true, true, true, true, true, true, true, true, true, true, true, true, false, false, false, false, false, false, false, false, false, false, false, false, false, false, false, false, false, false, false, false, false] 28 (.load 88 (.tmp 27)) 88 (Value.slice Ac_sets (c.sets).length cc_sets) RG (Runs.guarded (j := 2) (t := 18) (b := false) (by kernel_rfl) (by kernel_rfl) (by kernel_rfl)) (by kernel_rfl) (by kernel_rfl) lp (keepK_P [some 0, some 1] (by kernel_rfl)) (q_load1 b_c 3 1 (by kernel_rfl) (by kernel_rfl) (by kernel_rfl)) ?_
        refine wpa_take0 13 [true, true, true, true, true, true, true, true, true, true, true, true, true, true, false, false, false, false, false, false, false, false, false, false, false, false, false, false, false, false, false, false, false, false] 29 (.call { callee := .builtin .len, args := #[(.tmp 28)], argTypes := #[88] }) 3 (Value.int .i64 ((((c.sets).length : Nat) : Int))) RG (Runs.guarded (j := 2) (t := 18) (b := false) (by kernel_rfl) (by kernel_rfl) (by kernel_rfl)) (by kernel_rfl) (by kernel_rfl) (fun _ => (y_pure (by kernel_rfl) (fun _ => by kernel_rfl))) ?_
        refine wpa_take0 14 [true, true, true, true, true, true, true, true, true, true, true, true, true, true, true, false, false, false, false, false, false, false, false, false, false, false, false, false, false, false, false, false, false, false] 30 (.binOp .add 2 (.tmp 24) (.tmp 29) 2) 2 (Value.int .i64 ((IntKind.i64.wrap (c.base + (((c.sets).length : Nat) : Int))))) RG (Runs.guarded (j := 2) (t := 18) (b := false) (by kernel_rfl) (by kernel_rfl) (by kernel_rfl)) (by kernel_rfl) (by kernel_rfl) (fun _ => (y_pure (by kernel_rfl) (fun _ => by kernel_rfl))) ?_
        refine wpa_take0 15 [true, true, true, true, true, true, true, true, true, true, true, true, true, true, true, true, false, false, false, false, false, false, false, false, false, false, false, false, false, false, false, false, false, false] 31 (.binOp .neq 2 (.tmp 20) (.tmp 30) 2) 4 (Value.bool ((x.steps != (IntKind.i64.wrap (c.base + (((c.sets).length : Nat) : Int)))))) RG (Runs.guarded (j := 2) (t := 18) (b := false) (by kernel_rfl) (by kernel_rfl) (by kernel_rfl)) (by kernel_rfl) (by kernel_rfl) (fun _ => (y_pure (by kernel_rfl) (fun _ => by kernel_rfl))) ?_
        refine wpa_take0 16 [true, true, true, true, true, true, true, true, true, true, true, true, true, true, true, true, true, false, false, false, false, false, false, false, false, false, false, false, false, false, false, false, false, false] 32 (.pick (.tmp 18) (.const (Value.bool (true))) (.tmp 31)) 4 (Value.bool ((x.steps != (IntKind.i64.wrap (c.base + (((c.sets).length : Nat) : Int)))))) RG (Runs.plain (by kernel_rfl)) (by kernel_rfl) (by kernel_rfl) (fun _ => (y_pickF (by kernel_rfl) (by kernel_rfl))) ?_
        refine wpq_re 32 (v := Value.bool ((x.steps != (IntKind.i64.wrap (c.base + (((c.sets).length : Nat) : Int)))))) (Value.bool (((!came) || (x.steps != (IntKind.i64.wrap (c.base + (((c.sets).length : Nat) : Int))))))) (by kernel_rfl) (re_or0 q2) ?_
        exact wpq_sub _ (by kernel_rfl) hk2
    · refine wpa_take0 17 [true, true, true, true, true, true, true, true, true, true, true, true, true, true, true, true, true, true, false, false, false, false, false, false, false, false, false, false, false, false, false, false, false, false] 33 (.move (.tmp 32)) 4 (Value.bool (((!came) || (x.steps != (IntKind.i64.wrap (c.base + (((c.sets).length : Nat) : Int))))))) RG (Runs.plain (by kernel_rfl)) (by kernel_rfl) (by kernel_rfl) (fun _ => (y_move (by kernel_rfl))) ?_
      refine wpa_grp 13 [true, true, true, true, true, true, true, true, true, true, true, true, true, true, true, true, true, true, true, true, true, false, false, false, false, false, false, false, false, false, false, false, false, false] [(0, Value.pointer (some ⟨b_c, 0, none⟩)), (4, Value.pointer (some ⟨b1, 0, none⟩)), (36, Value.bool ((((!came) || (x.steps != (IntKind.i64.wrap (c.base + (((c.sets).length : Nat) : Int))))) || x.fresh)))] (fun hk17 => ?_) ?_
      · refine wpq_split 33 (b := ((!came) || (x.steps != (IntKind.i64.wrap (c.base + (((c.sets).length : Nat) : Int)))))) (by kernel_rfl) (fun q3 => ?_) (fun q3 => ?_)
        · refine wpa_takeSkip0 18 [true, true, true, true, true, true, true, true, true, true, true, true, true, true, true, true, true, true, true, false, false, false, false, false, false, false, false, false, false, false, false, false, false, false] 34 RG (Skips.mk' (j := 17) (t := 33) (b := false) (by kernel_rfl) (by kernel_rfl) (by kernel_rfl)) (by kernel_rfl) (by kernel_rfl) ?_
          refine wpa_takeSkip0 19 [true, true, true, true, true, true, true, true, true, true, true, true, true, true, true, true, true, true, true, true, false, false, false, false, false, false, false, false, false, false, false, false, false, false] 35 RG (Skips.mk' (j := 17) (t := 33) (b := false) (by kernel_rfl) (by kernel_rfl) (by kernel_rfl)) (by kernel_rfl) (by kernel_rfl) ?_
          refine wpa_take0 20 [true, true, true, true, true, true, true, true, true, true, true, true, true, true, true, true, true, true, true, true, true, false, false, false, false, false, false, false, false, false, false, false, false, false] 36 (.pick (.tmp 33) (.const (Value.bool (true))) (.tmp 35)) 4 (Value.bool (true)) RG (Runs.plain (by kernel_rfl)) (by kernel_rfl) (by kernel_rfl) (fun _ => (y_pickT (by kernel_rfl) (by kernel_rfl))) ?_
          refine wpq_re 36 (v := Value.bool (true)) (Value.bool ((((!came) || (x.steps != (IntKind.i64.wrap (c.base + (((c.sets).length : Nat) : Int))))) || x.fresh))) (by kernel_rfl) (re_or1 q3) ?_
          exact wpq_sub _ (by kernel_rfl) hk17
        · have q3l := (or_false_ q3).1
          have q3r := (or_false_ q3).2
          have q3ln := not_eq_false_ q3l
          have q3rp : x.steps = (IntKind.i64.wrap (c.base + (((c.sets).length : Nat) : Int))) := eq_of_bne_false_ q3r
          refine wpa_take0 18 [true, true, true, true, true, true, true, true, true, true, true, true, true, true, true, true, true, true, true, false, false, false, false, false, false, false, false, false, false, false, false, false, false, false] 34 (.fieldAddr 79 (.tmp 4) 2) 0 (Value.pointer (some ⟨b1, 2, none⟩)) RG (Runs.guarded (j := 17) (t := 33) (b := false) (by kernel_rfl) (by kernel_rfl) (by kernel_rfl)) (by kernel_rfl) (by kernel_rfl) (fun _ => (y_pure (by kernel_rfl) (fun _ => by kernel_rfl))) ?_
          refine wpa_take 19 [true, true, true, true, true, true, true, true, true, true, true, true, true, true, true, true, true, true, true, true, false, false, false, false, false, false, false, false, false, false, false, false, false, false] 35 (.load 4 (.tmp 34)) 4 (Value.bool (x.fresh)) RG (Runs.guarded (j := 17) (t := 33) (b := false) (by kernel_rfl) (by kernel_rfl) (by kernel_rfl)) (by kernel_rfl) (by kernel_rfl) lp (keepK_P [some 0, some 1] (by kernel_rfl)) (q_load1 b1 2 0 (by kernel_rfl) (by kernel_rfl) (by kernel_rfl)) ?_
          refine wpa_take0 20 [true, true, true, true, true, true, true, true, true, true, true, true, true, true, true, true, true, true, true, true, true, false, false, false, false, false, false, false, false, false, false, false, false, false] 36 (.pick (.tmp 33) (.const (Value.bool (true))) (.tmp 35)) 4 (Value.bool (x.fresh)) RG (Runs.plain (by kernel_rfl)) (by kernel_rfl) (by kernel_rfl) (fun _ => (y_pickF (by kernel_rfl) (by kernel_rfl))) ?_
          refine wpq_re 36 (v := Value.bool (x.fresh)) (Value.bool ((((!came) || (x.steps != (IntKind.i64.wrap (c.base + (((c.sets).length : Nat) : Int))))) || x.fresh))) (by kernel_rfl) (re_or0 q3) ?_
          exact wpq_sub _ (by kernel_rfl) hk17
      · refine wpa_take0 21 [true, true, true, true, true, true, true, true, true, true, true, true, true, true, true, true, true, true, true, true, true, true, false, false, false, false, false, false, false, false, false, false, false, false] 37 (.move (.tmp 36)) 4 (Value.bool ((((!came) || (x.steps != (IntKind.i64.wrap (c.base + (((c.sets).length : Nat) : Int))))) || x.fresh))) RG (Runs.plain (by kernel_rfl)) (by kernel_rfl) (by kernel_rfl) (fun _ => (y_move (by kernel_rfl))) ?_
        refine wpa_grp 0 [true, true, true, true, true, true, true, true, true, true, true, true, true, true, true, true, true, true, true, true, true, true, true, true, true, true, true, true, true, true, true, true, true, true] [(0, Value.pointer (some ⟨b_c, 0, none⟩)), (4, Value.pointer (some ⟨b1, 0, none⟩)), (49, Value.bool (((((!came) || (x.steps != (IntKind.i64.wrap (c.base + (((c.sets).length : Nat) : Int))))) || x.fresh) || decide ((((c.sets).length : Nat) : Int) ≥ (((c.parts).length : Nat) : Int)))))] (fun hk21 => ?_) ?_
        · refine wpq_split 37 (b := (((!came) || (x.steps != (IntKind.i64.wrap (c.base + (((c.sets).length : Nat) : Int))))) || x.fresh)) (by kernel_rfl) (fun q4 => ?_) (fun q4 => ?_)
          · refine wpa_takeSkip0 22 [true, true, true, true, true, true, true, true, true, true, true, true, true, true, true, true, true, true, true, true, true, true, true, false, false, false, false, false, false, false, false, false, false, false] 38 RG (Skips.mk' (j := 21) (t := 37) (b := false) (by kernel_rfl) (by kernel_rfl) (by kernel_rfl)) (by kernel_rfl) (by kernel_rfl) ?_
            refine wpa_takeSkip0 23 [true, true, true, true, true, true, true, true, true, true, true, true, true, true, true, true, true, true, true, true, true, true, true, true, false, false, false, false, false, false, false, false, false, false] 39 RG (Skips.mk' (j := 21) (t := 37) (b := false) (by kernel_rfl) (by kernel_rfl) (by kernel_rfl)) (by kernel_rfl) (by kernel_rfl) ?_
            refine wpa_takeSkip0 24 [true, true, true, true, true, true, true, true, true, true, true, true, true, true, true, true, true, true, true, true, true, true, true, true, true, false, false, false, false, false, false, false, false, false] 40 RG (Skips.mk' (j := 21) (t := 37) (b := false) (by kernel_rfl) (by kernel_rfl) (by kernel_rfl)) (by kernel_rfl) (by kernel_rfl) ?_
            refine wpa_takeSkip0 25 [true, true, true, true, true, true, true, true, true, true, true, true, true, true, true, true, true, true, true, true, true, true, true, true, true, true, false, false, false, false, false, false, false, false] 41 RG (Skips.mk' (j := 21) (t := 37) (b := false) (by kernel_rfl) (by kernel_rfl) (by kernel_rfl)) (by kernel_rfl) (by kernel_rfl) ?_
            refine wpa_takeSkip0 26 [true, true, true, true, true, true, true, true, true, true, true, true, true, true, true, true, true, true, true, true, true, true, true, true, true, true, true, false, false, false, false, false, false, false] 42 RG (Skips.mk' (j := 21) (t := 37) (b := false) (by kernel_rfl) (by kernel_rfl) (by kernel_rfl)) (by kernel_rfl) (by kernel_rfl) ?_
            refine wpa_takeSkip0 27 [true, true, true, true, true, true, true, true, true, true, true, true, true, true, true, true, true, true, true, true, true, true, true, true, true, true, true, true, false, false, false, false, false, false] 43 RG (Skips.mk' (j := 21) (t := 37) (b := false) (by kernel_rfl) (by kernel_rfl) (by kernel_rfl)) (by kernel_rfl) (by kernel_rfl) ?_
            refine wpa_takeSkip0 28 [true, true, true, true, true, true, true, true, true, true, true, true, true, true, true, true, true, true, true, true, true, true, true, true, true, true, true, true, true, false, false, false, false, false] 44 RG (Skips.mk' (j := 21) (t := 37) (b := false) (by kernel_rfl) (by kernel_rfl) (by kernel_rfl)) (by kernel_rfl) (by kernel_rfl) ?_
            refine wpa_takeSkip0 29 [true, true, true, true, true, true, true, true, true, true, true, true, true, true, true, true, true, true, true, true, true, true, true, true, true, true, true, true, true, true, false, false, false, false] 45 RG (Skips.mk' (j := 21) (t := 37) (b := false) (by kernel_rfl) (by kernel_rfl) (by kernel_rfl)) (by kernel_rfl) (by kernel_rfl) ?_
            refine wpa_takeSkip0 30 [true, true, true, true, true, true, true, true, true, true, true, true, true, true, true, true, true, true, true, true, true, true, true, true, true, true, true, true, true, true, true, false, false, false] 46 RG (Skips.mk' (j := 21) (t := 37) (b := false) (by kernel_rfl) (by kernel_rfl) (by kernel_rfl)) (by kernel_rfl) (by kernel_rfl) ?_
            refine wpa_takeSkip0 31 [true, true, true, true, true, true, true, true, true, true, true, true, true, true, true, true, true, true, true, true, true, true, true, true, true, true, true, true, true, true, true, true, false, false] 47 RG (Skips.mk' (j := 21) (t := 37) (b := false) (by kernel_rfl) (by kernel_rfl) (by kernel_rfl)) (by kernel_rfl) (by kernel_rfl) ?_
            refine wpa_takeSkip0 32 [true, true, true, true, true, true, true, true, true, true, true, true, true, true, true, true, true, true, true, true, true, true, true, true, true, true, true, true, true, true, true, true, true, false] 48 RG (Skips.mk' (j := 21) (t := 37) (b := false) (by kernel_rfl) (by kernel_rfl) (by kernel_rfl)) (by kernel_rfl) (by kernel_rfl) ?_
            refine wpa_take0 33 [true, true, true, true, true, true, true, true, true, true, true, true, true, true, true, true, true, true, true, true, true, true, true, true, true, true, true, true, true, true, true, true, true, true] 49 (.pick (.tmp 37) (.const (Value.bool (true))) (.tmp 48)) 4 (Value.bool (true)) RG (Runs.plain (by kernel_rfl)) (by kernel_rfl) (by kernel_rfl) (fun _ => (y_pickT (by kernel_rfl) (by kernel_rfl))) ?_
            refine wpq_re 49 (v := Value.bool (true)) (Value.bool (((((!came) || (x.steps != (IntKind.i64.wrap (c.base + (((c.sets).length : Nat) : Int))))) || x.fresh) || decide ((((c.sets).length : Nat) : Int) ≥ (((c.parts).length : Nat) : Int))))) (by kernel_rfl) (re_or1 q4) ?_
            exact wpq_sub _ (by kernel_rfl) hk21
          · have q4l := (or_false_ q4).1
            have q4r := (or_false_ q4).2
            have q4ll := (or_false_ q4l).1
            have q4lr := (or_false_ q4l).2
            have q4lln := not_eq_false_ q4ll
            have q4lrp : x.steps = (IntKind.i64.wrap (c.base + (((c.sets).length : Nat) : Int))) := eq_of_bne_false_ q4lr
            refine wpa_take0 22 [true, true, true, true, true, true, true, true, true, true, true, true, true, true, true, true, true, true, true, true, true, true, true, false, false, false, false, false, false, false, false, false, false, false] 38 (.move (.tmp 0)) 72 (Value.pointer (some ⟨b_c, 0, none⟩)) RG (Runs.guarded (j := 21) (t := 37) (b := false) (by kernel_rfl) (by kernel_rfl) (by kernel_rfl)) (by kernel_rfl) (by kernel_rfl) (fun _ => (y_move (by kernel_rfl))) ?_
            refine wpa_take0 23 [true, true, true, true, true, true, true, true, true, true, true, true, true, true, true, true, true, true, true, true, true, true, true, true, false, false, false, false, false, false, false, false, false, false] 39 (.nilCheck (.tmp 38)) 0 (Value.pointer (some ⟨b_c, 0, none⟩)) RG (Runs.guarded (j := 21) (t := 37) (b := false) (by kernel_rfl) (by kernel_rfl) (by kernel_rfl)) (by kernel_rfl) (by kernel_rfl) (fun _ => (y_pure (by kernel_rfl) (fun _ => by kernel_rfl))) ?_
            refine wpa_take0 24 [true, true, true, true, true, true, true, true, true, true, true, true, true, true, true, true, true, true, true, true, true, true, true, true, true, false, false, false, false, false, false, false, false, false] 40 (.fieldAddr 114 (.tmp 39) 3) 0 (Value.pointer (some ⟨b_c, 3, none⟩)) RG (Runs.guarded (j := 21) (t := 37) (b := false) (by kernel_rfl) (by kernel_rfl) (by kernel_rfl)) (by kernel_rfl) (by kernel_rfl) (fun _ => (y_pure (by kernel_rfl) (fun _ => by kernel_rfl))) ?_
            refine wpa_take 25 [true, true, true, true, true, true, true, true, true, true, true, true, true, true, true, true, true, true, true, true, true, true, true, true, true, true, false, false, false, false, false, false, false, false] 41 (.load 88 (.tmp 40)) 88 (Value.slice Ac_sets (c.sets).length cc_sets) RG (Runs.guarded (j := 21) (t := 37) (b := false) (by kernel_rfl) (by kernel_rfl) (by kernel_rfl)) (by kernel_rfl) (by kernel_rfl) lp (keepK_P [some 0, some 1] (by kernel_rfl)) (q_load1 b_c 3 1 (by kernel_rfl) (by kernel_rfl) (by kernel_rfl)) ?_
            refine wpa_take0 26 [true, true, true, true, true, true, true, true, true, true, true, true, true, true, true, true, true, true, true, true, true, true, true, true, true, true, true, false, false, false, false, false, false, false] 42 (.call { callee := .builtin .len, args := #[(.tmp 41)], argTypes := #[88] }) 3 (Value.int .i64 ((((c.sets).length : Nat) : Int))) RG (Runs.guarded (j := 21) (t := 37) (b := false) (by kernel_rfl) (by kernel_rfl) (by kernel_rfl)) (by kernel_rfl) (by kernel_rfl) (fun _ => (y_pure (by kernel_rfl) (fun _ => by kernel_rfl))) ?_
            refine wpa_take0 27 [true, true, true, true, true, true, true, true, true, true, true, true, true, true, true, true, true, true, true, true, true, true, true, true, true, true, true, true, false, false, false, false, false, false] 43 (.move (.tmp 0)) 72 (Value.pointer (some ⟨b_c, 0, none⟩)) RG (Runs.guarded (j := 21) (t := 37) (b := false) (by kernel_rfl) (by kernel_rfl) (by kernel_rfl)) (by kernel_rfl) (by kernel_rfl) (fun _ => (y_move (by kernel_rfl))) ?_
            refine wpa_take0 28 [true, true, true, true, true, true, true, true, true, true, true, true, true, true, true, true, true, true, true, true, true, true, true, true, true, true, true, true, true, false, false, false, false, false] 44 (.nilCheck (.tmp 43)) 0 (Value.pointer (some ⟨b_c, 0, none⟩)) RG (Runs.guarded (j := 21) (t := 37) (b := false) (by kernel_rfl) (by kernel_rfl) (by kernel_rfl)) (by kernel_rfl) (by kernel_rfl) (fun _ => (y_pure (by kernel_rfl) (fun _ => by kernel_rfl))) ?_
            refine wpa_take0 29 [true, true, true, true, true, true, true, true, true, true, true, true, true, true, true, true, true, true, true, true, true, true, true, true, true, true, true, true, true, true, false, false, false, false] 45 (.fieldAddr 114 (.tmp 44) 2) 0 (Value.pointer (some ⟨b_c, 2, none⟩)) RG (Runs.guarded (j := 21) (t := 37) (b := false) (by kernel_rfl) (by kernel_rfl) (by kernel_rfl)) (by kernel_rfl) (by kernel_rfl) (fun _ => (y_pure (by kernel_rfl) (fun _ => by kernel_rfl))) ?_
            refine wpa_take 30 [true, true, true, true, true, true, true, true, true, true, true, true, true, true, true, true, true, true, true, true, true, true, true, true, true, true, true, true, true, true, true, false, false, false] 46 (.load 74 (.tmp 45)) 74 (Value.slice Ac_parts (c.parts).length cc_parts) RG (Runs.guarded (j := 21) (t := 37) (b := false) (by kernel_rfl) (by kernel_rfl) (by kernel_rfl)) (by kernel_rfl) (by kernel_rfl) lp (keepK_P [some 0, some 1] (by kernel_rfl)) (q_load1 b_c 2 1 (by kernel_rfl) (by kernel_rfl) (by kernel_rfl)) ?_
            refine wpa_take0 31 [true, true, true, true, true, true, true, true, true, true, true, true, true, true, true, true, true, true, true, true, true, true, true, true, true, true, true, true, true, true, true, true, false, false] 47 (.call { callee := .builtin .len, args := #[(.tmp 46)], argTypes := #[74] }) 3 (Value.int .i64 ((((c.parts).length : Nat) : Int))) RG (Runs.guarded (j := 21) (t := 37) (b := false) (by kernel_rfl) (by kernel_rfl) (by kernel_rfl)) (by kernel_rfl) (by kernel_rfl) (fun _ => (y_pure (by kernel_rfl) (fun _ => by kernel_rfl))) ?_
            refine wpa_take0 32 [true, true, true, true, true, true, true, true, true, true, true, true, true, true, true, true, true, true, true, true, true, true, true, true, true, true, true, true, true, true, true, true, true, false] 48 (.binOp .geq 3 (.tmp 42) (.tmp 47) 3) 4 (Value.bool (decide ((((c.sets).length : Nat) : Int) ≥ (((c.parts).length : Nat) : Int)))) RG (Runs.guarded (j := 21) (t := 37) (b := false) (by kernel_rfl) (by kernel_rfl) (by kernel_rfl)) (by kernel_rfl) (by kernel_rfl) (fun _ => (y_pure (by kernel_rfl) (fun _ => by kernel_rfl))) ?_
            refine wpa_take0 33 [true, true, true, true, true, true, true, true, true, true, true, true, true, true, true, true, true, true, true, true, true, true, true, true, true, true, true, true, true, true, true, true, true, true] 49 (.pick (.tmp 37) (.const (Value.bool (true))) (.tmp 48)) 4 (Value.bool (decide ((((c.sets).length : Nat) : Int) ≥ (((c.parts).length : Nat) : Int)))) RG (Runs.plain (by kernel_rfl)) (by kernel_rfl) (by kernel_rfl) (fun _ => (y_pickF (by kernel_rfl) (by kernel_rfl))) ?_
            refine wpq_re 49 (v := Value.bool (decide ((((c.sets).length : Nat) : Int) ≥ (((c.parts).length : Nat) : Int)))) (Value.bool (((((!came) || (x.steps != (IntKind.i64.wrap (c.base + (((c.sets).length : Nat) : Int))))) || x.fresh) || decide ((((c.sets).length : Nat) : Int) ≥ (((c.parts).length : Nat) : Int))))) (by kernel_rfl) (re_or0 q4) ?_
            exact wpq_sub _ (by kernel_rfl) hk21
        · refine wpa_done (by kernel_rfl) ?_
          refine wpq_then ?_
          -- condition 1
          refine wpc_cond (x := F31_16) (y := F31_17) (o := (.tmp 49)) (b := ((((!came) || (x.steps != (IntKind.i64.wrap (c.base + (((c.sets).length : Nat) : Int))))) || x.fresh) || decide ((((c.sets).length : Nat) : Int) ≥ (((c.parts).length : Nat) : Int)))) (by kernel_rfl) (by kernel_rfl) (fun h1 => ?_) (fun h1 => ?_)
          · refine wpc_seq (x := F31_18) (y := F31_19) (by kernel_rfl) ?_
            refine wpc_region (ops := R31_18) (id := 3) (by kernel_rfl) ?_
            refine wpr_val 1 50 (.move (.tmp 0)) 72 (Value.pointer (some ⟨b_c, 0, none⟩)) (Runs.plain (by kernel_rfl)) (by kernel_rfl) (y_move (by kernel_rfl)) ?_
            refine wpr_eff 2 51 (.call { callee := .value (.func 34), args := #[(.tmp 50)], argTypes := #[72] }) 0 (Runs.plain (by kernel_rfl)) (by kernel_rfl) (e_callM (sel := [some ⟨b_c, 114, [Value.int .i64 (c.base), Value.int .i64 (c.count), Value.slice Ac_parts (c.parts).length cc_parts, Value.slice Ac_sets (c.sets).length cc_sets]⟩, kc_parts, kc_sets]) [Value.pointer (some ⟨b_c, 0, none⟩)] [false, true, true, true] (by kernel_rfl) (by kernel_rfl) (by kernel_rfl) (fun g' lr eb ln => c34 g' b_c c Ac_parts cc_parts kc_parts Ac_sets cc_sets kc_sets (by rw [eb]; exact hc_parts) (by rw [eb]; exact hc_sets))) ?_
            rintro _ g6 _ le7 ⟨_, rfl, A5_c_parts, c5_c_parts, k5_c_parts, A5_c_sets, c5_c_sets, k5_c_sets, rfl, rfl, h5_c_parts, h5_c_sets⟩
            have hc_parts := hc_parts.mono le7.b
            have hc_sets := hc_sets.mono le7.b
            have fx_in_ := fx_in_.mono le7.r
            have L0 := L0.trans le7
            refine wpq_own [some ⟨b1, 79, [Value.int .i64 (x.steps), Value.int .i64 (x.cycle), Value.bool (x.fresh), Value.slice Ax_in_ (x.in_).length cx_in_]⟩, some ⟨b_c, 114, [Value.int .i64 ((resetC c).base), Value.int .i64 ((resetC c).count), Value.slice A5_c_parts ((resetC c).parts).length c5_c_parts, Value.slice A5_c_sets ((resetC c).sets).length c5_c_sets]⟩, k5_c_parts, k5_c_sets] (by kernel_rfl) ?_
            have nh5_c_parts := h5_c_parts.len
            have nh5_c_sets := h5_c_sets.len
            refine wpr_end (by kernel_rfl) ?_
            refine wpq_then ?_
            refine wpq_sub [] (by kernel_rfl) ?_
            refine wpc_ret (rs := []) [] [some ⟨b_c, 114, [Value.int .i64 ((resetC c).base), Value.int .i64 ((resetC c).count), Value.slice A5_c_parts ((resetC c).parts).length c5_c_parts, Value.slice A5_c_sets ((resetC c).sets).length c5_c_sets]⟩, k5_c_parts, k5_c_sets] (by kernel_rfl) (fun _ _ h => h) (by kernel_rfl) res_nil L0 (keepP [some 1, some 2, some 3] (by kernel_rfl) (by kernel_rfl)) ?_
            have eS : (noteS c x came) = (resetC c) := by
              unfold noteS
              rw [h0]
              rw [h1]
              rfl
            rw [eS]
            exact ⟨A5_c_parts, c5_c_parts, k5_c_parts, A5_c_sets, c5_c_sets, k5_c_sets, rfl, rfl, h5_c_parts, h5_c_sets⟩
          · have h1l := (or_false_ h1).1
            have h1r := (or_false_ h1).2
            have h1ll := (or_false_ h1l).1
            have h1lr := (or_false_ h1l).2
            have h1lll := (or_false_ h1ll).1
            have h1llr := (or_false_ h1ll).2
            have h1llln := not_eq_false_ h1lll
            have h1llrp : x.steps = (IntKind.i64.wrap (c.base + (((c.sets).length : Nat) : Int))) := eq_of_bne_false_ h1llr
            have h1rp := of_decide_eq_false h1r
            refine wpc_skip (by kernel_rfl) ?_
            refine wpq_then ?_
            refine wpc_seq (x := F31_21) (y := F31_22) (by kernel_rfl) ?_
            refine wpc_region (ops := R31_21) (id := 4) (by kernel_rfl) ?_
            refine wpr_val 1 52 (.fieldAddr 79 (.tmp 4) 3) 0 (Value.pointer (some ⟨b1, 3, none⟩)) (Runs.plain (by kernel_rfl)) (by kernel_rfl) (y_pure (by kernel_rfl) (fun _ => by kernel_rfl)) ?_
            refine wpr_val 2 53 (.load 22 (.tmp 52)) 22 (Value.slice Ax_in_ (x.in_).length cx_in_) (Runs.plain (by kernel_rfl)) (by kernel_rfl) (q_load1 b1 3 0 (by kernel_rfl) (by kernel_rfl) (by kernel_rfl)) ?_
            refine wpr_eff 3 54 (.call { callee := .value (.func 42), args := #[(.tmp 53)], argTypes := #[22] }) 22 (Runs.plain (by kernel_rfl)) (by kernel_rfl) (e_call [Value.slice Ax_in_ (x.in_).length cx_in_] (by kernel_rfl) (by kernel_rfl) (fun g' lr eb ln => c42 g' (x.in_ : List UInt8) Ax_in_ cx_in_ (fx_in_.mono lr))) ?_
            rintro _ g9 _ le10 ⟨rfl, A8_0, c8_0, rfl, f8_0⟩
            have hc_parts := hc_parts.mono le10.b
            have hc_sets := hc_sets.mono le10.b
            have fx_in_ := fx_in_.mono le10.r
            have L0 := L0.trans le10
            have nf8_0 := f8_0.len
            refine wpr_val 4 55 (.fieldAddr 79 (.tmp 4) 3) 0 (Value.pointer (some ⟨b1, 3, none⟩)) (Runs.plain (by kernel_rfl)) (by kernel_rfl) (y_pure (by kernel_rfl) (fun _ => by kernel_rfl)) ?_
            refine wpr_do 5 (.store 22 (.tmp 55) (.tmp 54)) 0 (Runs.plain (by kernel_rfl)) (by kernel_rfl) (q_store b1 3 0 (Value.slice A8_0 ((idL (x.in_ : List UInt8))).length c8_0) [Value.slice A8_0 ((idL (x.in_ : List UInt8))).length c8_0] 79 [Value.int .i64 (x.steps), Value.int .i64 (x.cycle), Value.bool (x.fresh), Value.slice Ax_in_ (x.in_).length cx_in_] [Value.int .i64 (x.steps), Value.int .i64 (x.cycle), Value.bool (x.fresh), Value.slice A8_0 ((idL (x.in_ : List UInt8))).length c8_0] (by kernel_rfl) (by kernel_rfl) (by kernel_rfl) (by kernel_rfl) (by kernel_rfl) (by kernel_rfl) (by kernel_rfl)) ?_
            rintro _ _ _ - ⟨rfl, rfl⟩
            refine wpr_end (by kernel_rfl) ?_
            refine wpq_then ?_
            refine wpq_sub [(0, Value.pointer (some ⟨b_c, 0, none⟩)), (4, Value.pointer (some ⟨b1, 0, none⟩))] (by kernel_rfl) ?_
            refine wpa_start (ops := R31_22) (id := 5) (by kernel_rfl) (by kernel_rfl) [4, 5] [10, 8, 9] [some ⟨b1, 79, [Value.int .i64 (x.steps), Value.int .i64 (x.cycle), Value.bool (x.fresh), Value.slice A8_0 ((idL (x.in_ : List UInt8))).length c8_0]⟩, some ⟨b_c, 114, [Value.int .i64 (c.base), Value.int .i64 (c.count), Value.slice Ac_parts (c.parts).length cc_parts, Value.slice Ac_sets (c.sets).length cc_sets]⟩] (by kernel_rfl) (by kernel_rfl) (fun _ _ _ _ _ h => h) 11 (by kernel_rfl) (fun RG => ?_)
            have lp := Psi.le.refl g9.r
            refine wpa_take0 0 [true, false, false, false, false, false, false, false, false, false, false] 56 (.move (.tmp 0)) 72 (Value.pointer (some ⟨b_c, 0, none⟩)) RG (Runs.plain (by kernel_rfl)) (by kernel_rfl) (by kernel_rfl) (fun _ => (y_move (by kernel_rfl))) ?_
            refine wpa_take0 1 [true, true, false, false, false, false, false, false, false, false, false] 57 (.move (.tmp 0)) 72 (Value.pointer (some ⟨b_c, 0, none⟩)) RG (Runs.plain (by kernel_rfl)) (by kernel_rfl) (by kernel_rfl) (fun _ => (y_move (by kernel_rfl))) ?_
            refine wpa_take0 2 [true, true, true, false, false, false, false, false, false, false, false] 58 (.nilCheck (.tmp 57)) 0 (Value.pointer (some ⟨b_c, 0, none⟩)) RG (Runs.plain (by kernel_rfl)) (by kernel_rfl) (by kernel_rfl) (fun _ => (y_pure (by kernel_rfl) (fun _ => by kernel_rfl))) ?_
            refine wpa_take0 3 [true, true, true, true, false, false, false, false, false, false, false] 59 (.fieldAddr 114 (.tmp 58) 3) 0 (Value.pointer (some ⟨b_c, 3, none⟩)) RG (Runs.plain (by kernel_rfl)) (by kernel_rfl) (by kernel_rfl) (fun _ => (y_pure (by kernel_rfl) (fun _ => by kernel_rfl))) ?_
            refine wpa_take 4 [true, true, true, true, true, false, false, false, false, false, false] 60 (.load 88 (.tmp 59)) 88 (Value.slice Ac_sets (c.sets).length cc_sets) RG (Runs.plain (by kernel_rfl)) (by kernel_rfl) (by kernel_rfl) lp (keepK_P [some 0, some 1] (by kernel_rfl)) (q_load1 b_c 3 1 (by kernel_rfl) (by kernel_rfl) (by kernel_rfl)) ?_
            refine wpa_take 5 [true, true, true, true, true, true, false, false, false, false, false] 61 (.load 79 (.tmp 4)) 79 (Value.agg #[Value.int .i64 (x.steps), Value.int .i64 (x.cycle), Value.bool (x.fresh), Value.slice A8_0 ((idL (x.in_ : List UInt8))).length c8_0]) RG (Runs.plain (by kernel_rfl)) (by kernel_rfl) (by kernel_rfl) lp (keepK_P [some 0, some 1] (by kernel_rfl)) (q_loadA b1 0 0 [Value.int .i64 (x.steps), Value.int .i64 (x.cycle), Value.bool (x.fresh), Value.slice A8_0 ((idL (x.in_ : List UInt8))).length c8_0] (by kernel_rfl) (by kernel_rfl) (by kernel_rfl)) ?_
            refine wpa_one 6 (by kernel_rfl) ?_
            refine wpi_eff [true, true, true, true, true, true, true, false, false, false, false] 62 (.buildSlice 88 1 #[(0, (.tmp 61))]) 88 (Runs.plain (by kernel_rfl)) (by kernel_rfl) lp (e_buildSlice (et := 79) [(0, Value.agg #[Value.int .i64 (x.steps), Value.int .i64 (x.cycle), Value.bool (x.fresh), Value.slice A8_0 ((idL (x.in_ : List UInt8))).length c8_0])] [Value.int .i64 (x.steps), Value.int .i64 (x.cycle), Value.bool (x.fresh), Value.slice A8_0 ((idL (x.in_ : List UInt8))).length c8_0] (by kernel_rfl) (by kernel_rfl)) (by kernel_rfl) ?_
            rintro _ _ _ - ⟨b11, rfl, rfl, rfl⟩
            refine ⟨.inr (keepK_P [some 1, some 2] (by kernel_rfl)), ?_⟩
            refine wpa_one 7 (by kernel_rfl) ?_
            have hz12 : (c.sets ++ [(⟨(x.steps : Int), (x.cycle : Int), (x.fresh), ((idL (x.in_ : List UInt8)) : List UInt8)⟩ : Sett)] : List Sett).length = (c.sets : List Sett).length + 1 := by rw [List.length_append]; rfl
            refine wpi_eff [true, true, true, true, true, true, true, true, false, false, false] 63 (.call { callee := .builtin .append, args := #[(.tmp 60), (.tmp 62)], argTypes := #[88, 88] }) 88 (Runs.plain (by kernel_rfl)) (by kernel_rfl) lp (e_appendQ (T := tySett) (p := g9.b) (et := 79) (bytes := 48) 4 (Value.slice Ac_sets (c.sets).length cc_sets) (kc_sets) (c.sets) (some ⟨b11, 0, none⟩) 1 1 ([(⟨(x.steps : Int), (x.cycle : Int), (x.fresh), ((idL (x.in_ : List UInt8)) : List UInt8)⟩ : Sett)]) (by kernel_rfl) (by kernel_rfl) (by kernel_rfl) (by kernel_rfl) hc_sets rfl (src_lit (i := 0) (t := 79) (cs := [Value.int .i64 (x.steps), Value.int .i64 (x.cycle), Value.bool (x.fresh), Value.slice A8_0 ((idL (x.in_ : List UInt8))).length c8_0]) (by kernel_rfl)) (reps_cons (c := [Value.int .i64 (x.steps), Value.int .i64 (x.cycle), Value.bool (x.fresh), Value.slice A8_0 ((idL (x.in_ : List UInt8))).length c8_0]) ⟨A8_0, c8_0, rfl, f8_0⟩ reps_nil) (by first | omega | (simp only [List.length_nil, List.length_cons, List.length_append] <;> omega)) (by first | omega | (simp only [List.length_nil, List.length_cons, List.length_append] <;> omega))) (by kernel_rfl) ?_
            rintro _ _ _ - ⟨A12, c12, k12, rfl, rfl, rfl, hb12⟩
            refine ⟨.inr (keepK_P [some 1, some 2] (by kernel_rfl)), ?_⟩
            have nhb12 := hb12.len
            refine wpa_take0 8 [true, true, true, true, true, true, true, true, true, false, false] 64 (.nilCheck (.tmp 56)) 0 (Value.pointer (some ⟨b_c, 0, none⟩)) RG (Runs.plain (by kernel_rfl)) (by kernel_rfl) (by kernel_rfl) (fun _ => (y_pure (by kernel_rfl) (fun _ => by kernel_rfl))) ?_
            refine wpa_take0 9 [true, true, true, true, true, true, true, true, true, true, false] 65 (.fieldAddr 114 (.tmp 64) 3) 0 (Value.pointer (some ⟨b_c, 3, none⟩)) RG (Runs.plain (by kernel_rfl)) (by kernel_rfl) (by kernel_rfl) (fun _ => (y_pure (by kernel_rfl) (fun _ => by kernel_rfl))) ?_
            refine wpa_one 10 (by kernel_rfl) ?_
            refine wpi_do [true, true, true, true, true, true, true, true, true, true, true] (.store 88 (.tmp 65) (.tmp 63)) 0 (Runs.plain (by kernel_rfl)) lp (q_store b_c 3 2 (Value.slice A12 ((c.sets ++ [(⟨(x.steps : Int), (x.cycle : Int), (x.fresh), ((idL (x.in_ : List UInt8)) : List UInt8)⟩ : Sett)]) : List Sett).length c12) [Value.slice A12 ((c.sets ++ [(⟨(x.steps : Int), (x.cycle : Int), (x.fresh), ((idL (x.in_ : List UInt8)) : List UInt8)⟩ : Sett)]) : List Sett).length c12] 114 [Value.int .i64 (c.base), Value.int .i64 (c.count), Value.slice Ac_parts (c.parts).length cc_parts, Value.slice Ac_sets (c.sets).length cc_sets] [Value.int .i64 (c.base), Value.int .i64 (c.count), Value.slice Ac_parts (c.parts).length cc_parts, Value.slice A12 ((c.sets ++ [(⟨(x.steps : Int), (x.cycle : Int), (x.fresh), ((idL (x.in_ : List UInt8)) : List UInt8)⟩ : Sett)]) : List Sett).length c12] (by kernel_rfl) (by kernel_rfl) (by kernel_rfl) (by kernel_rfl) (by kernel_rfl) (by kernel_rfl) (by kernel_rfl)) (by kernel_rfl) ?_
            rintro _ _ _ - ⟨rfl, rfl⟩
            refine ⟨.inl (by kernel_rfl), ?_⟩
            refine wpa_done (by kernel_rfl) ?_
            refine wpq_fin (rs := []) [] [some ⟨b_c, 114, [Value.int .i64 (c.base), Value.int .i64 (c.count), Value.slice Ac_parts (c.parts).length cc_parts, Value.slice A12 ((c.sets ++ [(⟨(x.steps : Int), (x.cycle : Int), (x.fresh), ((idL (x.in_ : List UInt8)) : List UInt8)⟩ : Sett)]) : List Sett).length c12]⟩, kc_parts, k12] (by kernel_rfl) res_nil L0 (keepP [some 2, some 3, some 4] (by kernel_rfl) (by kernel_rfl)) ?_
            have eS : (noteS c x came) = (⟨(c.base : Int), (c.count : Int), (c.parts : List (List UInt8)), ((c.sets ++ [(⟨(x.steps : Int), (x.cycle : Int), (x.fresh), ((idL (x.in_ : List UInt8)) : List UInt8)⟩ : Sett)]) : List Sett)⟩ : Coll) := by
              unfold noteS
              rw [h0]
              rw [h1]
              rfl
            rw [eS]
            exact ⟨Ac_parts, cc_parts, kc_parts, A12, c12, k12, rfl, rfl, hc_parts, hb12⟩

end Go.Proofs.Ytolppdcaaoghgaa
