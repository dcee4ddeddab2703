/-
Walks, printed by wip/eng/eng.py. Conditions: each theorem's own.
-/
import Derived.Test.YtolppdcaaoghgaaC3
namespace Go.Proofs.Ytolppdcaaoghgaa
set_option linter.unusedVariables false
set_option linter.unusedSimpArgs false
open Go.RowKit
noncomputable def F53_0 : Code := sub (Try.f53.body.getD .skip) []
noncomputable def F53_1 : Code := sub (Try.f53.body.getD .skip) [0]
noncomputable def F53_2 : Code := sub (Try.f53.body.getD .skip) [1]
noncomputable def R53_1 : Array Oper := regOf F53_1
noncomputable def F53_4 : Code := sub (Try.f53.body.getD .skip) [1, 0]
noncomputable def F53_5 : Code := sub (Try.f53.body.getD .skip) [1, 1]
noncomputable def F53_6 : Code := sub (Try.f53.body.getD .skip) [1, 0, 0]
noncomputable def F53_7 : Code := sub (Try.f53.body.getD .skip) [1, 0, 1]
noncomputable def R53_6 : Array Oper := regOf F53_6
noncomputable def F53_9 : Code := sub (Try.f53.body.getD .skip) [1, 0, 1, 0]
noncomputable def F53_10 : Code := sub (Try.f53.body.getD .skip) [1, 0, 1, 0, 0]
noncomputable def F53_11 : Code := sub (Try.f53.body.getD .skip) [1, 0, 1, 0, 0, 0]
noncomputable def F53_12 : Code := sub (Try.f53.body.getD .skip) [1, 0, 1, 0, 0, 1]
noncomputable def R53_11 : Array Oper := regOf F53_11
noncomputable def F53_14 : Code := sub (Try.f53.body.getD .skip) [1, 0, 1, 0, 0, 1, 0]
noncomputable def F53_15 : Code := sub (Try.f53.body.getD .skip) [1, 0, 1, 0, 0, 1, 1]
noncomputable def F53_16 : Code := sub (Try.f53.body.getD .skip) [1, 0, 1, 0, 0, 1, 0, 0]
noncomputable def F53_17 : Code := sub (Try.f53.body.getD .skip) [1, 0, 1, 0, 0, 1, 0, 1]
noncomputable def F53_18 : Code := sub (Try.f53.body.getD .skip) [1, 0, 1, 0, 0, 1, 1, 0]
noncomputable def F53_19 : Code := sub (Try.f53.body.getD .skip) [1, 0, 1, 0, 0, 1, 1, 1]
noncomputable def F53_20 : Code := sub (Try.f53.body.getD .skip) [1, 0, 1, 0, 0, 1, 1, 0, 0]
noncomputable def F53_21 : Code := sub (Try.f53.body.getD .skip) [1, 0, 1, 0, 0, 1, 1, 0, 0, 0]
noncomputable def F53_22 : Code := sub (Try.f53.body.getD .skip) [1, 0, 1, 0, 0, 1, 1, 0, 0, 1]
noncomputable def R53_21 : Array Oper := regOf F53_21
noncomputable def R53_22 : Array Oper := regOf F53_22
noncomputable def R53_19 : Array Oper := regOf F53_19
noncomputable def F53_26 : Code := sub (Try.f53.body.getD .skip) [1, 1, 0]
noncomputable def F53_27 : Code := sub (Try.f53.body.getD .skip) [1, 1, 1]
noncomputable def R53_26 : Array Oper := regOf F53_26
set_option maxRecDepth 100000 in
theorem c53 (g : Gh) (out : List UInt8) (Aout : Option Addr) (cout : Nat) (kout : Option Bk) (n : Int) (size : Int) (hout : Buf g.b tyU8 5 (.slice Aout (out).length cout) kout out) (hn : 0 ≤ size ∧ size ≤ 100) (hl : out.length ≤ 1000000) :
    Ctr Try.prog 53 [Value.slice Aout (out).length cout, Value.int .i64 (n), Value.int .i64 (size)] g [kout] (fun v ψ o => ∃ (Ar : Option Addr) (cr : Nat) (kr : Option Bk), v = Value.slice Ar ((putS out n size)).length cr ∧ o = [kr] ∧ Buf ψ tyU8 5 (.slice Ar ((putS out n size)).length cr) kr (putS out n size)) := by
  refine ctr_of Try.f53 F53_0 22 [Value.slice Aout (out).length cout, Value.int .i64 (n), Value.int .i64 (size)] (by kernel_rfl) (by kernel_rfl) (by kernel_rfl) (by kernel_rfl) ?_
  have L0 := Gh.le.refl g
  have nhout := hout.len
  refine wpc_seq (x := F53_1) (y := F53_2) (by kernel_rfl) ?_
  refine wpc_region (ops := R53_1) (id := 0) (by kernel_rfl) ?_
  refine wpr_val 1 6 (.assign (.const (Value.slice none 0 0))) 22 (Value.slice none 0 0) (Runs.plain (by kernel_rfl)) (by kernel_rfl) (y_assign (by kernel_rfl)) ?_
  refine wpr_end (by kernel_rfl) ?_
  refine wpq_then ?_
  refine wpc_seq (x := F53_4) (y := F53_5) (by kernel_rfl) ?_
  refine wpc_seq (x := F53_6) (y := F53_7) (by kernel_rfl) ?_
  refine wpc_region (ops := R53_6) (id := 1) (by kernel_rfl) ?_
  refine wpr_val 1 8 (.move (.tmp 2)) 3 (Value.int .i64 (size)) (Runs.plain (by kernel_rfl)) (by kernel_rfl) (y_move (by kernel_rfl)) ?_
  refine wpr_val 2 9 (.move (.const (Value.int .i64 (0)))) 3 (Value.int .i64 (0)) (Runs.plain (by kernel_rfl)) (by kernel_rfl) (y_move (by kernel_rfl)) ?_
  refine wpr_end (by kernel_rfl) ?_
  refine wpq_then ?_
  refine wpc_block (x := F53_9) (id := 0) (by kernel_rfl) ?_
  refine wpq_sub [(0, Value.slice Aout (out).length cout), (1, Value.int .i64 (n)), (8, Value.int .i64 (size)), (9, Value.int .i64 (0))] (by kernel_rfl) ?_
  -- loop 0
  refine wpc_loop (x := F53_10) (by kernel_rfl) (fun g own sl m => ∃ (k : Nat) (o2 : List UInt8) (Ao2 : Option Addr) (co2 : Nat) (ko2 : Option Bk), own = [ko2] ∧ sl = [(0, Value.slice Ao2 (o2).length co2), (1, Value.int .i64 (n)), (8, Value.int .i64 (size)), (9, Value.int .i64 ((k : Int)))] ∧ m = size.toNat - k ∧ Buf g.b tyU8 5 (.slice Ao2 o2.length co2) ko2 o2 ∧ ((k : Int) ≤ size) ∧ (o2.length = out.length + k) ∧ (o2 = out ++ putK n k)) _ ⟨0, out, Aout, cout, kout, rfl, rfl, rfl, hout, by omega, rfl, putK_nil _ _⟩ ?_
  rintro g1 _ _ _ le2 ⟨k, o2, Ao2, co2, ko2, rfl, rfl, rfl, ho2, hk, hc, ho⟩ QrL0 hQL0
  have hout := hout.mono le2.b
  have L0 := L0.trans le2
  have nho2 := ho2.len
  have LHL0 := Gh.le.refl g1
  refine wpc_seq (x := F53_11) (y := F53_12) (by kernel_rfl) ?_
  refine wpc_region (ops := R53_11) (id := 2) (by kernel_rfl) ?_
  refine wpr_val 1 10 (.binOp .lss 3 (.tmp 9) (.tmp 8) 3) 4 (Value.bool (decide ((k : Int) < size))) (Runs.plain (by kernel_rfl)) (by kernel_rfl) (y_pure (by kernel_rfl) (fun _ => by kernel_rfl)) ?_
  refine wpr_end (by kernel_rfl) ?_
  refine wpq_then ?_
  refine wpc_seq (x := F53_14) (y := F53_15) (by kernel_rfl) ?_
  -- condition 0
  refine wpc_cond (x := F53_16) (y := F53_17) (o := (.tmp 10)) (b := decide ((k : Int) < size)) (by kernel_rfl) (by kernel_rfl) (fun h0 => ?_) (fun h0 => ?_)
  · have h0p := of_decide_eq_true h0
    refine wpc_skip (by kernel_rfl) ?_
    refine wpq_then ?_
    refine wpc_seq (x := F53_18) (y := F53_19) (by kernel_rfl) ?_
    refine wpc_block (x := F53_20) (id := 1) (by kernel_rfl) ?_
    refine wpc_seq (x := F53_21) (y := F53_22) (by kernel_rfl) ?_
    refine wpc_region (ops := R53_21) (id := 3) (by kernel_rfl) ?_
    refine wpr_val 1 11 (.move (.tmp 9)) 3 (Value.int .i64 ((k : Int))) (Runs.plain (by kernel_rfl)) (by kernel_rfl) (y_move (by kernel_rfl)) ?_
    refine wpr_val 2 7 (.assign (.tmp 11)) 3 (Value.int .i64 ((k : Int))) (Runs.plain (by kernel_rfl)) (by kernel_rfl) (y_assign (by kernel_rfl)) ?_
    refine wpr_end (by kernel_rfl) ?_
    refine wpq_then ?_
    refine wpc_region (ops := R53_22) (id := 4) (by kernel_rfl) ?_
    refine wpr_val 1 12 (.move (.tmp 0)) 22 (Value.slice Ao2 (o2).length co2) (Runs.plain (by kernel_rfl)) (by kernel_rfl) (y_move (by kernel_rfl)) ?_
    refine wpr_val 2 13 (.move (.tmp 1)) 2 (Value.int .i64 (n)) (Runs.plain (by kernel_rfl)) (by kernel_rfl) (y_move (by kernel_rfl)) ?_
    refine wpr_val 3 14 (.move (.tmp 7)) 3 (Value.int .i64 ((k : Int))) (Runs.plain (by kernel_rfl)) (by kernel_rfl) (y_move (by kernel_rfl)) ?_
    refine wpr_val 4 15 (.binOp .mul 3 (.const (Value.int .i64 (8))) (.tmp 14) 3) 3 (Value.int .i64 ((8 * (k : Int)))) (Runs.plain (by kernel_rfl)) (by kernel_rfl) (y_mul (by kernel_rfl) (by kernel_rfl) (wr64 (by omega))) ?_
    refine wpr_val 5 16 (.binOp .shr 2 (.tmp 13) (.tmp 15) 3) 2 (Value.int .i64 ((shrK .i64 n (8 * (k : Int))))) (Runs.plain (by kernel_rfl)) (by kernel_rfl) (y_shr (a := n) (b := (8 * (k : Int))) (k2 := .i64) (by kernel_rfl) (by kernel_rfl) (by omega) rfl) ?_
    refine wpr_val 6 17 (.convert 2 5 (.tmp 16)) 5 (Value.int .u8 ((IntKind.u8.wrap (shrK .i64 n (8 * (k : Int)))))) (Runs.plain (by kernel_rfl)) (by kernel_rfl) (y_pure (by kernel_rfl) (fun _ => by kernel_rfl)) ?_
    refine wpr_eff 7 18 (.buildSlice 22 1 #[(0, (.tmp 17))]) 22 (Runs.plain (by kernel_rfl)) (by kernel_rfl) (e_buildSlice (et := 5) [(0, Value.int .u8 ((IntKind.u8.wrap (shrK .i64 n (8 * (k : Int))))))] [Value.int .u8 ((IntKind.u8.wrap (shrK .i64 n (8 * (k : Int)))))] (by kernel_rfl) (by kernel_rfl)) ?_
    rintro _ _ _ - ⟨b3, rfl, rfl, rfl⟩
    have hz4 : (o2 ++ [(u8 (IntKind.u8.wrap (shrK .i64 n (8 * (k : Int)))))] : List UInt8).length = (o2 : List UInt8).length + 1 := by rw [List.length_append]; rfl
    refine wpr_eff 8 19 (.call { callee := .builtin .append, args := #[(.tmp 12), (.tmp 18)], argTypes := #[22, 22] }) 22 (Runs.plain (by kernel_rfl)) (by kernel_rfl) (e_appendQ (T := tyU8) (p := g1.b) (et := 5) (bytes := 1) 1 (Value.slice Ao2 (o2).length co2) (ko2) (o2) (some ⟨b3, 0, none⟩) 1 1 ([(u8 (IntKind.u8.wrap (shrK .i64 n (8 * (k : Int)))))]) (by kernel_rfl) (by kernel_rfl) (by kernel_rfl) (by kernel_rfl) ho2 rfl (src_lit (i := 0) (t := 5) (cs := [Value.int .u8 ((IntKind.u8.wrap (shrK .i64 n (8 * (k : Int)))))]) (by kernel_rfl)) (reps_cons (c := [Value.int .u8 ((IntKind.u8.wrap (shrK .i64 n (8 * (k : Int)))))]) (u8_rep (wrapU8_rng _)) reps_nil) (by first | omega | (simp only [List.length_nil, List.length_cons, List.length_append] <;> omega)) (by first | omega | (simp only [List.length_nil, List.length_cons, List.length_append] <;> omega))) ?_
    rintro _ _ _ - ⟨A4, c4, k4, rfl, rfl, rfl, hb4⟩
    have nhb4 := hb4.len
    refine wpr_val 9 0 (.assign (.tmp 19)) 22 (Value.slice A4 ((o2 ++ [(u8 (IntKind.u8.wrap (shrK .i64 n (8 * (k : Int)))))]) : List UInt8).length c4) (Runs.plain (by kernel_rfl)) (by kernel_rfl) (y_assign (by kernel_rfl)) ?_
    refine wpr_end (by kernel_rfl) ?_
    refine wpq_blockN ?_
    refine wpq_then ?_
    refine wpq_sub [(0, Value.slice A4 ((o2 ++ [(u8 (IntKind.u8.wrap (shrK .i64 n (8 * (k : Int)))))]) : List UInt8).length c4), (1, Value.int .i64 (n)), (8, Value.int .i64 (size)), (9, Value.int .i64 ((k : Int)))] (by kernel_rfl) ?_
    refine wpc_region (ops := R53_19) (id := 5) (by kernel_rfl) ?_
    refine wpr_val 1 20 (.binOp .add 3 (.tmp 9) (.const (Value.int .i64 (1))) 3) 3 (Value.int .i64 (((k : Int) + 1))) (Runs.plain (by kernel_rfl)) (by kernel_rfl) (y_add (by kernel_rfl) (by kernel_rfl) (wr64 (by omega))) ?_
    refine wpr_val 2 9 (.move (.tmp 20)) 3 (Value.int .i64 (((k : Int) + 1))) (Runs.plain (by kernel_rfl)) (by kernel_rfl) (y_move (by kernel_rfl)) ?_
    refine wpr_end (by kernel_rfl) ?_
    refine wpq_thenN ?_
    refine wpq_sel [some 1] [k4] (by kernel_rfl) (by kernel_rfl) ?_
    refine wpq_re 9 (v := Value.int .i64 (((k : Int) + 1))) (Value.int .i64 ((((k + 1) : Nat) : Int))) (by kernel_rfl) (congrArg (Value.int .i64) (by omega)) ?_
    refine wpq_sub [(0, Value.slice A4 ((o2 ++ [(u8 (IntKind.u8.wrap (shrK .i64 n (8 * (k : Int)))))]) : List UInt8).length c4), (1, Value.int .i64 (n)), (8, Value.int .i64 (size)), (9, Value.int .i64 ((((k + 1) : Nat) : Int)))] (by kernel_rfl) ?_
    exact hQL0 _ _ _ (size.toNat - ((k + 1))) LHL0 (by omega) ⟨(k + 1), (o2 ++ [(u8 (IntKind.u8.wrap (shrK .i64 n (8 * (k : Int)))))]), A4, c4, k4, rfl, rfl, rfl, hb4, by omega, by omega, (by rw [putK_succ, ho, List.append_assoc])⟩
  · have h0p := of_decide_eq_false h0
    refine wpc_exit (id := 0) (by kernel_rfl) ?_
    refine wpq_thenX ?_
    refine wpq_thenX ?_
    refine wpq_blockE ?_
    refine wpq_then ?_
    refine wpc_seq (x := F53_26) (y := F53_27) (by kernel_rfl) ?_
    refine wpc_region (ops := R53_26) (id := 6) (by kernel_rfl) ?_
    refine wpr_val 1 21 (.move (.tmp 0)) 22 (Value.slice Ao2 (o2).length co2) (Runs.plain (by kernel_rfl)) (by kernel_rfl) (y_move (by kernel_rfl)) ?_
    refine wpr_val 2 6 (.assign (.tmp 21)) 22 (Value.slice Ao2 (o2).length co2) (Runs.plain (by kernel_rfl)) (by kernel_rfl) (y_assign (by kernel_rfl)) ?_
    refine wpr_end (by kernel_rfl) ?_
    refine wpq_then ?_
    refine wpq_sub [(6, Value.slice Ao2 (o2).length co2)] (by kernel_rfl) ?_
    refine wpc_ret (rs := [.tmp 6]) [Value.slice Ao2 (o2).length co2] [ko2] (by kernel_rfl) (fun _ _ h => h) (by kernel_rfl) (res_tmp (by kernel_rfl) res_nil) L0 (keepP [some 0] (by kernel_rfl) (by kernel_rfl)) ?_
    have eS : (putS out n size) = (o2 : List UInt8) := by
      unfold putS; rw [ho]; congr 2; omega
    rw [eS]
    exact ⟨Ao2, co2, ko2, rfl, rfl, ho2⟩

noncomputable def F52_0 : Code := sub (Try.f52.body.getD .skip) []
noncomputable def F52_1 : Code := sub (Try.f52.body.getD .skip) [0]
noncomputable def F52_2 : Code := sub (Try.f52.body.getD .skip) [1]
noncomputable def R52_1 : Array Oper := regOf F52_1
noncomputable def F52_4 : Code := sub (Try.f52.body.getD .skip) [1, 0]
noncomputable def F52_5 : Code := sub (Try.f52.body.getD .skip) [1, 1]
noncomputable def F52_6 : Code := sub (Try.f52.body.getD .skip) [1, 0, 0]
noncomputable def F52_7 : Code := sub (Try.f52.body.getD .skip) [1, 0, 1]
noncomputable def R52_6 : Array Oper := regOf F52_6
noncomputable def R52_7 : Array Oper := regOf F52_7
def pack1S (p : List UInt8) (is : Bool) (bit : Int) (out : List UInt8) : List UInt8 :=
  (cond (is) (((putS ((List.set out 0 (u8 (lorK .u8 ((List.getD out 0 0).toNat : Int) bit))) : List UInt8) ((((p).length : Nat) : Int) : Int) (2 : Int)) ++ p) : List UInt8) (out : List UInt8))
set_option maxRecDepth 100000 in
theorem c52 (g : Gh) (p : List UInt8) (Ap : Option Addr) (cp : Nat) (is : Bool) (bit : Int) (b_out : Nat) (out : List UInt8) (Aout : Option Addr) (cout : Nat) (kout : Option Bk) (fp : Arr g.r tyU8 Ap cp p) (hout : Buf g.b tyU8 5 (.slice Aout (out).length cout) kout out) (ho : 0 < out.length ∧ out.length ≤ 10000) (hp : is = true → p.length ≤ 400) :
    Ctr Try.prog 52 [Value.slice Ap (p).length cp, Value.bool (is), Value.int .u8 (bit), Value.pointer (some ⟨b_out, 0, none⟩)] g [some ⟨b_out, 22, [Value.slice Aout (out).length cout]⟩, kout] (fun v ψ o => ∃ (Ao_out : Option Addr) (co_out : Nat) (ko_out : Option Bk), v = Value.tuple #[] ∧ o = [some ⟨b_out, 22, [Value.slice Ao_out ((pack1S p is bit out)).length co_out]⟩, ko_out] ∧ Buf ψ tyU8 5 (.slice Ao_out ((pack1S p is bit out)).length co_out) ko_out (pack1S p is bit out)) := by
  refine ctr_of Try.f52 F52_0 20 [Value.slice Ap (p).length cp, Value.bool (is), Value.int .u8 (bit), Value.pointer (some ⟨b_out, 0, none⟩)] (by kernel_rfl) (by kernel_rfl) (by kernel_rfl) (by kernel_rfl) ?_
  have L0 := Gh.le.refl g
  have nfp := fp.len
  have nhout := hout.len
  refine wpc_seq (x := F52_1) (y := F52_2) (by kernel_rfl) ?_
  refine wpc_region (ops := R52_1) (id := 0) (by kernel_rfl) ?_
  refine wpr_val 1 7 (.move (.tmp 1)) 4 (Value.bool (is)) (Runs.plain (by kernel_rfl)) (by kernel_rfl) (y_move (by kernel_rfl)) ?_
  refine wpr_end (by kernel_rfl) ?_
  refine wpq_then ?_
  -- condition 0
  refine wpc_cond (x := F52_4) (y := F52_5) (o := (.tmp 7)) (b := is) (by kernel_rfl) (by kernel_rfl) (fun h0 => ?_) (fun h0 => ?_)
  · have hp0 := hp h0
    refine wpc_seq (x := F52_6) (y := F52_7) (by kernel_rfl) ?_
    refine wpc_region (ops := R52_6) (id := 1) (by kernel_rfl) ?_
    refine wpr_val 1 8 (.load 22 (.tmp 3)) 22 (Value.slice Aout (out).length cout) (Runs.plain (by kernel_rfl)) (by kernel_rfl) (q_load1 b_out 0 0 (by kernel_rfl) (by kernel_rfl) (by kernel_rfl)) ?_
    have hi1 : 0 < (out).length := by omega
    obtain ⟨kb1, cs1, hA1, hk1, hr1, hw1⟩ := hout.open_ hi1 0
    subst hk1
    have hr1 : cs1 = [Value.int .u8 (((List.getD out 0 0).toNat : Int))] := hr1
    subst hr1
    refine wpr_val 2 9 (.indexAddr 22 (.tmp 8) (.const (Value.int .i64 (0)))) 0 (Value.pointer (some ⟨kb1.g, 0 * 1 + 0, none⟩)) (Runs.plain (by kernel_rfl)) (by kernel_rfl) (q_indexB (e := 5) (sz := 1) (len := (out).length) (c := cout) 0 kb1.g (k := .i64) (z := 0) hA1 (by kernel_rfl) (by kernel_rfl) rfl hi1 (by kernel_rfl) (by kernel_rfl)) ?_
    refine wpr_val 3 10 (.load 5 (.tmp 9)) 5 (Value.int .u8 (((List.getD out 0 0).toNat : Int))) (Runs.plain (by kernel_rfl)) (by kernel_rfl) (y_loadB1 (cs := [Value.int .u8 (((List.getD out 0 0).toNat : Int))]) 0 1 0 1 (by kernel_rfl) (by kernel_rfl) hw1 (by kernel_rfl) (by kernel_rfl)) ?_
    refine wpr_val 4 11 (.move (.tmp 2)) 5 (Value.int .u8 (bit)) (Runs.plain (by kernel_rfl)) (by kernel_rfl) (y_move (by kernel_rfl)) ?_
    refine wpr_val 5 12 (.binOp .or 5 (.tmp 10) (.tmp 11) 5) 5 (Value.int .u8 ((lorK .u8 ((List.getD out 0 0).toNat : Int) bit))) (Runs.plain (by kernel_rfl)) (by kernel_rfl) (y_pure (by kernel_rfl) (fun _ => by kernel_rfl)) ?_
    have hi2 : 0 < (out).length := by omega
    obtain ⟨kc2, cs2, hA2, hk2, hr2, hw2⟩ := hout.open_ hi2 0
    cases hk2
    have hr2 : cs2 = [Value.int .u8 (((List.getD out 0 0).toNat : Int))] := hr2
    subst hr2
    refine wpr_val 6 13 (.indexAddr 22 (.tmp 8) (.const (Value.int .i64 (0)))) 0 (Value.pointer (some ⟨kb1.g, 0 * 1 + 0, none⟩)) (Runs.plain (by kernel_rfl)) (by kernel_rfl) (q_indexB (e := 5) (sz := 1) (len := (out).length) (c := cout) 0 kb1.g (k := .i64) (z := 0) hA2 (by kernel_rfl) (by kernel_rfl) rfl hi2 (by kernel_rfl) (by kernel_rfl)) ?_
    refine wpr_do 7 (.store 5 (.tmp 13) (.tmp 12)) 0 (Runs.plain (by kernel_rfl)) (by kernel_rfl) (e_storeB (T := tyU8) (p := g.b) (cs := [Value.int .u8 (((List.getD out 0 0).toNat : Int))]) 0 1 0 1 (Value.int .u8 ((lorK .u8 ((List.getD out 0 0).toNat : Int) bit))) [Value.int .u8 ((lorK .u8 ((List.getD out 0 0).toNat : Int) bit))] out (u8 (lorK .u8 ((List.getD out 0 0).toNat : Int) bit)) (by kernel_rfl) (by kernel_rfl) (by kernel_rfl) (by kernel_rfl) (by kernel_rfl) (by kernel_rfl) hout rfl hw2 (u8_rep (lorU8 _ _)) (by kernel_rfl) hi2) ?_
    rintro _ _ _ - ⟨k3, rfl, rfl, hb3⟩
    have hz3 : ((List.set out 0 (u8 (lorK .u8 ((List.getD out 0 0).toNat : Int) bit)))).length = (out).length := List.length_set
    refine wpr_end (by kernel_rfl) ?_
    refine wpq_then ?_
    refine wpq_sub [(0, Value.slice Ap (p).length cp), (3, Value.pointer (some ⟨b_out, 0, none⟩))] (by kernel_rfl) ?_
    refine wpc_region (ops := R52_7) (id := 2) (by kernel_rfl) ?_
    refine wpr_val 1 14 (.load 22 (.tmp 3)) 22 (Value.slice Aout (out).length cout) (Runs.plain (by kernel_rfl)) (by kernel_rfl) (q_load1 b_out 0 0 (by kernel_rfl) (by kernel_rfl) (by kernel_rfl)) ?_
    refine wpr_val 2 15 (.move (.tmp 0)) 22 (Value.slice Ap (p).length cp) (Runs.plain (by kernel_rfl)) (by kernel_rfl) (y_move (by kernel_rfl)) ?_
    refine wpr_val 3 16 (.call { callee := .builtin .len, args := #[(.tmp 15)], argTypes := #[22] }) 3 (Value.int .i64 ((((p).length : Nat) : Int))) (Runs.plain (by kernel_rfl)) (by kernel_rfl) (y_pure (by kernel_rfl) (fun _ => by kernel_rfl)) ?_
    have hb3s : Buf g.b tyU8 5 (.slice Aout ((List.set out 0 (u8 (lorK .u8 ((List.getD out 0 0).toNat : Int) bit)))).length cout) k3 (List.set out 0 (u8 (lorK .u8 ((List.getD out 0 0).toNat : Int) bit))) := by simp only [List.length_set]; exact hb3
    refine wpq_re 14 (v := Value.slice Aout (out).length cout) (Value.slice Aout ((List.set out 0 (u8 (lorK .u8 ((List.getD out 0 0).toNat : Int) bit)))).length cout) (by kernel_rfl) (congrArg (fun z => Value.slice Aout z cout) (by simp only [List.length_set])) ?_
    refine wpq_sel [some 1, some 0] [k3, some ⟨b_out, 22, [Value.slice Aout (out).length cout]⟩] (by kernel_rfl) (by kernel_rfl) ?_
    refine wpr_eff 4 17 (.call { callee := .value (.func 53), args := #[(.tmp 14), (.tmp 16), (.const (Value.int .i64 (2)))], argTypes := #[22, 2, 3] }) 22 (Runs.plain (by kernel_rfl)) (by kernel_rfl) (e_callM (sel := [k3]) [Value.slice Aout ((List.set out 0 (u8 (lorK .u8 ((List.getD out 0 0).toNat : Int) bit)))).length cout, Value.int .i64 ((((p).length : Nat) : Int)), Value.int .i64 (2)] [true] (by kernel_rfl) (by kernel_rfl) (by kernel_rfl) (fun g' lr eb ln => c53 g' ((List.set out 0 (u8 (lorK .u8 ((List.getD out 0 0).toNat : Int) bit))) : List UInt8) Aout cout k3 ((((p).length : Nat) : Int) : Int) (2 : Int) (by rw [eb]; exact hb3s) (by omega) (by omega))) ?_
    rintro _ g5 _ le6 ⟨_, rfl, A4_0, c4_0, k4_0, rfl, rfl, h4_0⟩
    have fp := fp.mono le6.r
    have hb3 := hb3.mono le6.b
    have hb3s := hb3s.mono le6.b
    have L0 := L0.trans le6
    refine wpq_own [k4_0, some ⟨b_out, 22, [Value.slice Aout (out).length cout]⟩] (by kernel_rfl) ?_
    have nh4_0 := h4_0.len
    have ly4 := putS_len ((List.set out 0 (u8 (lorK .u8 ((List.getD out 0 0).toNat : Int) bit))) : List UInt8) ((((p).length : Nat) : Int) : Int) (2 : Int)
    refine wpr_val 5 18 (.move (.tmp 0)) 22 (Value.slice Ap (p).length cp) (Runs.plain (by kernel_rfl)) (by kernel_rfl) (y_move (by kernel_rfl)) ?_
    obtain ⟨nw7, hp7, hs7⟩ := fp.srcR
    have hz7 : ((putS ((List.set out 0 (u8 (lorK .u8 ((List.getD out 0 0).toNat : Int) bit))) : List UInt8) ((((p).length : Nat) : Int) : Int) (2 : Int)) ++ p : List UInt8).length = ((putS ((List.set out 0 (u8 (lorK .u8 ((List.getD out 0 0).toNat : Int) bit))) : List UInt8) ((((p).length : Nat) : Int) : Int) (2 : Int)) : List UInt8).length + (p).length := List.length_append
    refine wpr_eff 6 19 (.call { callee := .builtin .append, args := #[(.tmp 17), (.tmp 18)], argTypes := #[22, 22] }) 22 (Runs.plain (by kernel_rfl)) (by kernel_rfl) (e_appendQ (T := tyU8) (p := g5.b) (et := 5) (bytes := 1) 0 (Value.slice A4_0 ((putS ((List.set out 0 (u8 (lorK .u8 ((List.getD out 0 0).toNat : Int) bit))) : List UInt8) ((((p).length : Nat) : Int) : Int) (2 : Int))).length c4_0) (k4_0) ((putS ((List.set out 0 (u8 (lorK .u8 ((List.getD out 0 0).toNat : Int) bit))) : List UInt8) ((((p).length : Nat) : Int) : Int) (2 : Int))) Ap (p).length cp (p) (by kernel_rfl) (by kernel_rfl) (by kernel_rfl) (by kernel_rfl) h4_0 rfl (fun w hs => hs7 w _ hs) (flatU8.reps hp7) (by first | omega | (simp only [List.length_nil, List.length_cons, List.length_append] <;> omega)) (by first | omega | (simp only [List.length_nil, List.length_cons, List.length_append] <;> omega))) ?_
    rintro _ _ _ - ⟨A7, c7, k7, rfl, rfl, rfl, hb7⟩
    have nhb7 := hb7.len
    refine wpr_do 7 (.store 22 (.tmp 3) (.tmp 19)) 0 (Runs.plain (by kernel_rfl)) (by kernel_rfl) (q_store b_out 0 1 (Value.slice A7 (((putS ((List.set out 0 (u8 (lorK .u8 ((List.getD out 0 0).toNat : Int) bit))) : List UInt8) ((((p).length : Nat) : Int) : Int) (2 : Int)) ++ p) : List UInt8).length c7) [Value.slice A7 (((putS ((List.set out 0 (u8 (lorK .u8 ((List.getD out 0 0).toNat : Int) bit))) : List UInt8) ((((p).length : Nat) : Int) : Int) (2 : Int)) ++ p) : List UInt8).length c7] 22 [Value.slice Aout (out).length cout] [Value.slice A7 (((putS ((List.set out 0 (u8 (lorK .u8 ((List.getD out 0 0).toNat : Int) bit))) : List UInt8) ((((p).length : Nat) : Int) : Int) (2 : Int)) ++ p) : List UInt8).length c7] (by kernel_rfl) (by kernel_rfl) (by kernel_rfl) (by kernel_rfl) (by kernel_rfl) (by kernel_rfl) (by kernel_rfl)) ?_
    rintro _ _ _ - ⟨rfl, rfl⟩
    refine wpr_end (by kernel_rfl) ?_
    refine wpq_fin (rs := []) [] [some ⟨b_out, 22, [Value.slice A7 (((putS ((List.set out 0 (u8 (lorK .u8 ((List.getD out 0 0).toNat : Int) bit))) : List UInt8) ((((p).length : Nat) : Int) : Int) (2 : Int)) ++ p) : List UInt8).length c7]⟩, k7] (by kernel_rfl) res_nil L0 (keepP [some 1, some 0] (by kernel_rfl) (by kernel_rfl)) ?_
    have eS : (pack1S p is bit out) = (((putS ((List.set out 0 (u8 (lorK .u8 ((List.getD out 0 0).toNat : Int) bit))) : List UInt8) ((((p).length : Nat) : Int) : Int) (2 : Int)) ++ p) : List UInt8) := by
      unfold pack1S
      rw [h0]
      rfl
    rw [eS]
    exact ⟨A7, c7, k7, rfl, rfl, hb7⟩
  · refine wpc_skip (by kernel_rfl) ?_
    refine wpq_fin (rs := []) [] [some ⟨b_out, 22, [Value.slice Aout (out).length cout]⟩, kout] (by kernel_rfl) res_nil L0 (keepP [some 0, some 1] (by kernel_rfl) (by kernel_rfl)) ?_
    have eS : (pack1S p is bit out) = (out : List UInt8) := by
      unfold pack1S
      rw [h0]
      rfl
    rw [eS]
    exact ⟨Aout, cout, kout, rfl, rfl, hout⟩
theorem pack1_len (p : List UInt8) (is : Bool) (bit : Int) (out : List UInt8) : out.length ≤ (pack1S p is bit out).length ∧ (pack1S p is bit out).length ≤ out.length + 2 + p.length := by
  unfold pack1S
  cases is with
  | true => simp only [cond_true, List.length_append, putS_len, List.length_set]; omega
  | false => simp only [cond_false]; omega

noncomputable def F41_0 : Code := sub (Try.f41.body.getD .skip) []
noncomputable def F41_1 : Code := sub (Try.f41.body.getD .skip) [0]
noncomputable def F41_2 : Code := sub (Try.f41.body.getD .skip) [1]
noncomputable def R41_1 : Array Oper := regOf F41_1
noncomputable def F41_4 : Code := sub (Try.f41.body.getD .skip) [1, 0]
noncomputable def F41_5 : Code := sub (Try.f41.body.getD .skip) [1, 1]
noncomputable def F41_6 : Code := sub (Try.f41.body.getD .skip) [1, 0, 0]
noncomputable def F41_7 : Code := sub (Try.f41.body.getD .skip) [1, 0, 1]
noncomputable def R41_6 : Array Oper := regOf F41_6
noncomputable def F41_9 : Code := sub (Try.f41.body.getD .skip) [1, 0, 1, 0]
noncomputable def F41_10 : Code := sub (Try.f41.body.getD .skip) [1, 0, 1, 1]
noncomputable def F41_11 : Code := sub (Try.f41.body.getD .skip) [1, 0, 1, 0, 0]
noncomputable def F41_12 : Code := sub (Try.f41.body.getD .skip) [1, 0, 1, 0, 1]
noncomputable def R41_11 : Array Oper := regOf F41_11
noncomputable def F41_14 : Code := sub (Try.f41.body.getD .skip) [1, 1, 0]
noncomputable def F41_15 : Code := sub (Try.f41.body.getD .skip) [1, 1, 1]
noncomputable def R41_14 : Array Oper := regOf F41_14
noncomputable def F41_17 : Code := sub (Try.f41.body.getD .skip) [1, 1, 1, 0]
noncomputable def F41_18 : Code := sub (Try.f41.body.getD .skip) [1, 1, 1, 1]
noncomputable def R41_17 : Array Oper := regOf F41_17
noncomputable def F41_20 : Code := sub (Try.f41.body.getD .skip) [1, 1, 1, 1, 0]
noncomputable def F41_21 : Code := sub (Try.f41.body.getD .skip) [1, 1, 1, 1, 1]
noncomputable def R41_20 : Array Oper := regOf F41_20
noncomputable def F41_23 : Code := sub (Try.f41.body.getD .skip) [1, 1, 1, 1, 1, 0]
noncomputable def F41_24 : Code := sub (Try.f41.body.getD .skip) [1, 1, 1, 1, 1, 1]
noncomputable def R41_23 : Array Oper := regOf F41_23
noncomputable def F41_26 : Code := sub (Try.f41.body.getD .skip) [1, 1, 1, 1, 1, 1, 0]
noncomputable def F41_27 : Code := sub (Try.f41.body.getD .skip) [1, 1, 1, 1, 1, 1, 1]
noncomputable def R41_26 : Array Oper := regOf F41_26
def packS (one : List UInt8) (isOne : Bool) (two : List UInt8) (isTwo : Bool) : (List UInt8) × Int :=
  (cond (((isOne && decide ((((one).length : Nat) : Int) > 400)) || (isTwo && decide ((((two).length : Nat) : Int) > 400)))) (([] : List UInt8), (3 : Int)) (((pack1S (two : List UInt8) (isTwo) (2 : Int) ((pack1S (one : List UInt8) (isOne) (1 : Int) (([(u8 0)] : List UInt8) : List UInt8)) : List UInt8)) : List UInt8), (0 : Int)))
set_option maxRecDepth 100000 in
theorem c41 (g : Gh) (one : List UInt8) (Aone : Option Addr) (cone : Nat) (isOne : Bool) (two : List UInt8) (Atwo : Option Addr) (ctwo : Nat) (isTwo : Bool) (fone : Arr g.r tyU8 Aone cone one) (ftwo : Arr g.r tyU8 Atwo ctwo two) (h1l : one.length ≤ 400) (h2l : two.length ≤ 400) :
    Ctr0 Try.prog 41 [Value.slice Aone (one).length cone, Value.bool (isOne), Value.slice Atwo (two).length ctwo, Value.bool (isTwo)] g (fun v ψ => ∃ (Ar0 : Option Addr) (cr0 : Nat), v = Value.tuple #[Value.slice Ar0 ((packS one isOne two isTwo).1).length cr0, Value.int .i64 ((packS one isOne two isTwo).2)] ∧ Arr ψ tyU8 Ar0 cr0 (packS one isOne two isTwo).1) := by
  refine ctr_of Try.f41 F41_0 37 [Value.slice Aone (one).length cone, Value.bool (isOne), Value.slice Atwo (two).length ctwo, Value.bool (isTwo)] (by kernel_rfl) (by kernel_rfl) (by kernel_rfl) (by kernel_rfl) ?_
  have L0 := Gh.le.refl g
  have nfone := fone.len
  have nftwo := ftwo.len
  refine wpc_seq (x := F41_1) (y := F41_2) (by kernel_rfl) ?_
  refine wpc_region (ops := R41_1) (id := 0) (by kernel_rfl) ?_
  refine wpr_val 1 8 (.assign (.const (Value.slice none 0 0))) 22 (Value.slice none 0 0) (Runs.plain (by kernel_rfl)) (by kernel_rfl) (y_assign (by kernel_rfl)) ?_
  refine wpr_val 2 9 (.assign (.const (Value.int .i64 (0)))) 27 (Value.int .i64 (0)) (Runs.plain (by kernel_rfl)) (by kernel_rfl) (y_assign (by kernel_rfl)) ?_
  refine wpr_end (by kernel_rfl) ?_
  refine wpq_then ?_
  refine wpc_seq (x := F41_4) (y := F41_5) (by kernel_rfl) ?_
  refine wpc_seq (x := F41_6) (y := F41_7) (by kernel_rfl) ?_
  refine wpc_region (ops := R41_6) (id := 1) (by kernel_rfl) ?_
  refine wpr_val 1 12 (.move (.tmp 1)) 4 (Value.bool (isOne)) (Runs.plain (by kernel_rfl)) (by kernel_rfl) (y_move (by kernel_rfl)) ?_
  refine wpr_val 2 13 (.move (.tmp 12)) 4 (Value.bool (isOne)) (Runs.plain (by kernel_rfl)) (by kernel_rfl) (y_move (by kernel_rfl)) ?_
  refine wpr_grp 6 [(0, Value.slice Aone (one).length cone), (1, Value.bool (isOne)), (2, Value.slice Atwo (two).length ctwo), (3, Value.bool (isTwo)), (17, Value.bool ((isOne && decide ((((one).length : Nat) : Int) > 400))))] (fun hk1 => ?_) ?_
  · refine wpq_split 13 (b := isOne) (by kernel_rfl) (fun q1 => ?_) (fun q1 => ?_)
    · refine wpr_val 3 14 (.move (.tmp 0)) 22 (Value.slice Aone (one).length cone) (Runs.guarded (j := 1) (t := 13) (b := true) (by kernel_rfl) (by kernel_rfl) (by kernel_rfl)) (by kernel_rfl) (y_move (by kernel_rfl)) ?_
      refine wpr_val 4 15 (.call { callee := .builtin .len, args := #[(.tmp 14)], argTypes := #[22] }) 3 (Value.int .i64 ((((one).length : Nat) : Int))) (Runs.guarded (j := 1) (t := 13) (b := true) (by kernel_rfl) (by kernel_rfl) (by kernel_rfl)) (by kernel_rfl) (y_pure (by kernel_rfl) (fun _ => by kernel_rfl)) ?_
      refine wpr_val 5 16 (.binOp .gtr 3 (.tmp 15) (.const (Value.int .i64 (400))) 3) 4 (Value.bool (decide ((((one).length : Nat) : Int) > 400))) (Runs.guarded (j := 1) (t := 13) (b := true) (by kernel_rfl) (by kernel_rfl) (by kernel_rfl)) (by kernel_rfl) (y_pure (by kernel_rfl) (fun _ => by kernel_rfl)) ?_
      refine wpr_val 6 17 (.pick (.tmp 13) (.tmp 16) (.const (Value.bool (false)))) 4 (Value.bool (decide ((((one).length : Nat) : Int) > 400))) (Runs.plain (by kernel_rfl)) (by kernel_rfl) (y_pickT (by kernel_rfl) (by kernel_rfl)) ?_
      refine wpq_re 17 (v := Value.bool (decide ((((one).length : Nat) : Int) > 400))) (Value.bool ((isOne && decide ((((one).length : Nat) : Int) > 400)))) (by kernel_rfl) (re_and1 q1) ?_
      exact wpq_sub _ (by kernel_rfl) hk1
    · refine wpr_skip 3 14 (Skips.mk' (j := 1) (t := 13) (b := true) (by kernel_rfl) (by kernel_rfl) (by kernel_rfl)) (by kernel_rfl) ?_
      refine wpr_skip 4 15 (Skips.mk' (j := 1) (t := 13) (b := true) (by kernel_rfl) (by kernel_rfl) (by kernel_rfl)) (by kernel_rfl) ?_
      refine wpr_skip 5 16 (Skips.mk' (j := 1) (t := 13) (b := true) (by kernel_rfl) (by kernel_rfl) (by kernel_rfl)) (by kernel_rfl) ?_
      refine wpr_val 6 17 (.pick (.tmp 13) (.tmp 16) (.const (Value.bool (false)))) 4 (Value.bool (false)) (Runs.plain (by kernel_rfl)) (by kernel_rfl) (y_pickF (by kernel_rfl) (by kernel_rfl)) ?_
      refine wpq_re 17 (v := Value.bool (false)) (Value.bool ((isOne && decide ((((one).length : Nat) : Int) > 400)))) (by kernel_rfl) (re_and0 q1) ?_
      exact wpq_sub _ (by kernel_rfl) hk1
  · refine wpr_val 7 18 (.move (.tmp 17)) 4 (Value.bool ((isOne && decide ((((one).length : Nat) : Int) > 400)))) (Runs.plain (by kernel_rfl)) (by kernel_rfl) (y_move (by kernel_rfl)) ?_
    refine wpr_grp 14 [(0, Value.slice Aone (one).length cone), (1, Value.bool (isOne)), (2, Value.slice Atwo (two).length ctwo), (3, Value.bool (isTwo)), (25, Value.bool (((isOne && decide ((((one).length : Nat) : Int) > 400)) || (isTwo && decide ((((two).length : Nat) : Int) > 400)))))] (fun hk6 => ?_) ?_
    · refine wpq_split 18 (b := (isOne && decide ((((one).length : Nat) : Int) > 400))) (by kernel_rfl) (fun q2 => ?_) (fun q2 => ?_)
      · have q2l := (and_true_ q2).1
        have q2r := (and_true_ q2).2
        have q2rp := of_decide_eq_true q2r
        refine wpr_skip 8 19 (Skips.mk' (j := 6) (t := 18) (b := false) (by kernel_rfl) (by kernel_rfl) (by kernel_rfl)) (by kernel_rfl) ?_
        refine wpr_skip 9 20 (Skips.mk' (j := 6) (t := 18) (b := false) (by kernel_rfl) (by kernel_rfl) (by kernel_rfl)) (by kernel_rfl) ?_
        refine wpr_skip 10 21 (Skips.undef_ (j := 8) (t := 20) (b := true) (by kernel_rfl) (by kernel_rfl) (by kernel_rfl)) (by kernel_rfl) ?_
        refine wpr_skip 11 22 (Skips.undef_ (j := 8) (t := 20) (b := true) (by kernel_rfl) (by kernel_rfl) (by kernel_rfl)) (by kernel_rfl) ?_
        refine wpr_skip 12 23 (Skips.undef_ (j := 8) (t := 20) (b := true) (by kernel_rfl) (by kernel_rfl) (by kernel_rfl)) (by kernel_rfl) ?_
        refine wpr_skip 13 24 (Skips.mk' (j := 6) (t := 18) (b := false) (by kernel_rfl) (by kernel_rfl) (by kernel_rfl)) (by kernel_rfl) ?_
        refine wpr_val 14 25 (.pick (.tmp 18) (.const (Value.bool (true))) (.tmp 24)) 4 (Value.bool (true)) (Runs.plain (by kernel_rfl)) (by kernel_rfl) (y_pickT (by kernel_rfl) (by kernel_rfl)) ?_
        refine wpq_re 25 (v := Value.bool (true)) (Value.bool (((isOne && decide ((((one).length : Nat) : Int) > 400)) || (isTwo && decide ((((two).length : Nat) : Int) > 400))))) (by kernel_rfl) (re_or1 q2) ?_
        exact wpq_sub _ (by kernel_rfl) hk6
      · refine wpr_val 8 19 (.move (.tmp 3)) 4 (Value.bool (isTwo)) (Runs.guarded (j := 6) (t := 18) (b := false) (by kernel_rfl) (by kernel_rfl) (by kernel_rfl)) (by kernel_rfl) (y_move (by kernel_rfl)) ?_
        refine wpr_val 9 20 (.move (.tmp 19)) 4 (Value.bool (isTwo)) (Runs.guarded (j := 6) (t := 18) (b := false) (by kernel_rfl) (by kernel_rfl) (by kernel_rfl)) (by kernel_rfl) (y_move (by kernel_rfl)) ?_
        refine wpr_grp 13 [(0, Value.slice Aone (one).length cone), (1, Value.bool (isOne)), (2, Value.slice Atwo (two).length ctwo), (3, Value.bool (isTwo)), (18, Value.bool (false)), (24, Value.bool ((isTwo && decide ((((two).length : Nat) : Int) > 400))))] (fun hk8 => ?_) ?_
        · refine wpq_split 20 (b := isTwo) (by kernel_rfl) (fun q3 => ?_) (fun q3 => ?_)
          · refine wpr_val 10 21 (.move (.tmp 2)) 22 (Value.slice Atwo (two).length ctwo) (Runs.guarded (j := 8) (t := 20) (b := true) (by kernel_rfl) (by kernel_rfl) (by kernel_rfl)) (by kernel_rfl) (y_move (by kernel_rfl)) ?_
            refine wpr_val 11 22 (.call { callee := .builtin .len, args := #[(.tmp 21)], argTypes := #[22] }) 3 (Value.int .i64 ((((two).length : Nat) : Int))) (Runs.guarded (j := 8) (t := 20) (b := true) (by kernel_rfl) (by kernel_rfl) (by kernel_rfl)) (by kernel_rfl) (y_pure (by kernel_rfl) (fun _ => by kernel_rfl)) ?_
            refine wpr_val 12 23 (.binOp .gtr 3 (.tmp 22) (.const (Value.int .i64 (400))) 3) 4 (Value.bool (decide ((((two).length : Nat) : Int) > 400))) (Runs.guarded (j := 8) (t := 20) (b := true) (by kernel_rfl) (by kernel_rfl) (by kernel_rfl)) (by kernel_rfl) (y_pure (by kernel_rfl) (fun _ => by kernel_rfl)) ?_
            refine wpr_val 13 24 (.pick (.tmp 20) (.tmp 23) (.const (Value.bool (false)))) 4 (Value.bool (decide ((((two).length : Nat) : Int) > 400))) (Runs.guarded (j := 6) (t := 18) (b := false) (by kernel_rfl) (by kernel_rfl) (by kernel_rfl)) (by kernel_rfl) (y_pickT (by kernel_rfl) (by kernel_rfl)) ?_
            refine wpq_re 24 (v := Value.bool (decide ((((two).length : Nat) : Int) > 400))) (Value.bool ((isTwo && decide ((((two).length : Nat) : Int) > 400)))) (by kernel_rfl) (re_and1 q3) ?_
            exact wpq_sub _ (by kernel_rfl) hk8
          · refine wpr_skip 10 21 (Skips.mk' (j := 8) (t := 20) (b := true) (by kernel_rfl) (by kernel_rfl) (by kernel_rfl)) (by kernel_rfl) ?_
            refine wpr_skip 11 22 (Skips.mk' (j := 8) (t := 20) (b := true) (by kernel_rfl) (by kernel_rfl) (by kernel_rfl)) (by kernel_rfl) ?_
            refine wpr_skip 12 23 (Skips.mk' (j := 8) (t := 20) (b := true) (by kernel_rfl) (by kernel_rfl) (by kernel_rfl)) (by kernel_rfl) ?_
            refine wpr_val 13 24 (.pick (.tmp 20) (.tmp 23) (.const (Value.bool (false)))) 4 (Value.bool (false)) (Runs.guarded (j := 6) (t := 18) (b := false) (by kernel_rfl) (by kernel_rfl) (by kernel_rfl)) (by kernel_rfl) (y_pickF (by kernel_rfl) (by kernel_rfl)) ?_
            refine wpq_re 24 (v := Value.bool (false)) (Value.bool ((isTwo && decide ((((two).length : Nat) : Int) > 400)))) (by kernel_rfl) (re_and0 q3) ?_
            exact wpq_sub _ (by kernel_rfl) hk8
        · refine wpr_val 14 25 (.pick (.tmp 18) (.const (Value.bool (true))) (.tmp 24)) 4 (Value.bool ((isTwo && decide ((((two).length : Nat) : Int) > 400)))) (Runs.plain (by kernel_rfl)) (by kernel_rfl) (y_pickF (by kernel_rfl) (by kernel_rfl)) ?_
          refine wpq_re 25 (v := Value.bool ((isTwo && decide ((((two).length : Nat) : Int) > 400)))) (Value.bool (((isOne && decide ((((one).length : Nat) : Int) > 400)) || (isTwo && decide ((((two).length : Nat) : Int) > 400))))) (by kernel_rfl) (re_or0 q2) ?_
          exact wpq_sub _ (by kernel_rfl) hk6
    · refine wpr_end (by kernel_rfl) ?_
      refine wpq_then ?_
      -- condition 0
      refine wpc_cond (x := F41_9) (y := F41_10) (o := (.tmp 25)) (b := ((isOne && decide ((((one).length : Nat) : Int) > 400)) || (isTwo && decide ((((two).length : Nat) : Int) > 400)))) (by kernel_rfl) (by kernel_rfl) (fun h0 => ?_) (fun h0 => ?_)
      · refine wpc_seq (x := F41_11) (y := F41_12) (by kernel_rfl) ?_
        refine wpc_region (ops := R41_11) (id := 2) (by kernel_rfl) ?_
        refine wpr_val 1 8 (.assign (.const (Value.slice none 0 0))) 22 (Value.slice none 0 0) (Runs.plain (by kernel_rfl)) (by kernel_rfl) (y_assign (by kernel_rfl)) ?_
        refine wpr_val 2 9 (.assign (.const (Value.int .i64 (3)))) 27 (Value.int .i64 (3)) (Runs.plain (by kernel_rfl)) (by kernel_rfl) (y_assign (by kernel_rfl)) ?_
        refine wpr_end (by kernel_rfl) ?_
        refine wpq_then ?_
        refine wpq_sub [(8, Value.slice none 0 0), (9, Value.int .i64 (3))] (by kernel_rfl) ?_
        refine wpc_ret (rs := [.tmp 8, .tmp 9]) [Value.slice none 0 0, Value.int .i64 (3)] [] (by kernel_rfl) (fun _ _ h => h) (by kernel_rfl) (res_tmp (by kernel_rfl) (res_tmp (by kernel_rfl) res_nil)) L0 keep0 ?_
        have eS : (packS one isOne two isTwo) = (([] : List UInt8), (3 : Int)) := by
          unfold packS
          rw [h0]
          rfl
        rw [eS]
        exact ⟨rfl, none, 0, rfl, Arr.nil⟩
      · have h0l := (or_false_ h0).1
        have h0r := (or_false_ h0).2
        refine wpc_skip (by kernel_rfl) ?_
        refine wpq_then ?_
        refine wpc_seq (x := F41_14) (y := F41_15) (by kernel_rfl) ?_
        refine wpc_region (ops := R41_14) (id := 3) (by kernel_rfl) ?_
        refine wpr_eff 1 26 (.buildSlice 22 1 #[(0, (.const (Value.int .u8 (0))))]) 22 (Runs.plain (by kernel_rfl)) (by kernel_rfl) (e_buildSlice (et := 5) [(0, Value.int .u8 (0))] [Value.int .u8 (0)] (by kernel_rfl) (by kernel_rfl)) ?_
        rintro _ _ _ - ⟨b4, rfl, rfl, rfl⟩
        refine wpr_eff 2 10 (.alloc 22) 0 (Runs.plain (by kernel_rfl)) (by kernel_rfl) (e_alloc (cs := [Value.slice none 0 0]) (by kernel_rfl)) ?_
        rintro _ _ _ - ⟨b5, rfl, rfl, rfl⟩
        refine wpr_do 3 (.store 22 (.tmp 10) (.tmp 26)) 0 (Runs.plain (by kernel_rfl)) (by kernel_rfl) (q_store b5 0 0 (Value.slice (some ⟨b4, 0, none⟩) 1 1) [Value.slice (some ⟨b4, 0, none⟩) 1 1] 22 [Value.slice none 0 0] [Value.slice (some ⟨b4, 0, none⟩) 1 1] (by kernel_rfl) (by kernel_rfl) (by kernel_rfl) (by kernel_rfl) (by kernel_rfl) (by kernel_rfl) (by kernel_rfl)) ?_
        rintro _ _ _ - ⟨rfl, rfl⟩
        refine wpr_end (by kernel_rfl) ?_
        refine wpq_then ?_
        refine wpc_seq (x := F41_17) (y := F41_18) (by kernel_rfl) ?_
        refine wpc_region (ops := R41_17) (id := 4) (by kernel_rfl) ?_
        refine wpr_val 1 27 (.makeFunc (.func 52) #[] #[(.tmp 10)]) 119 (Value.func (.func 52) #[] #[Value.pointer (some ⟨b5, 0, none⟩)]) (Runs.plain (by kernel_rfl)) (by kernel_rfl) (y_pure (by kernel_rfl) (fun _ => by kernel_rfl)) ?_
        refine wpr_val 2 11 (.assign (.tmp 27)) 119 (Value.func (.func 52) #[] #[Value.pointer (some ⟨b5, 0, none⟩)]) (Runs.plain (by kernel_rfl)) (by kernel_rfl) (y_assign (by kernel_rfl)) ?_
        refine wpr_end (by kernel_rfl) ?_
        refine wpq_then ?_
        refine wpc_seq (x := F41_20) (y := F41_21) (by kernel_rfl) ?_
        refine wpc_region (ops := R41_20) (id := 5) (by kernel_rfl) ?_
        refine wpr_val 1 28 (.move (.tmp 11)) 119 (Value.func (.func 52) #[] #[Value.pointer (some ⟨b5, 0, none⟩)]) (Runs.plain (by kernel_rfl)) (by kernel_rfl) (y_move (by kernel_rfl)) ?_
        refine wpr_val 2 29 (.move (.tmp 0)) 22 (Value.slice Aone (one).length cone) (Runs.plain (by kernel_rfl)) (by kernel_rfl) (y_move (by kernel_rfl)) ?_
        refine wpr_val 3 30 (.move (.tmp 1)) 4 (Value.bool (isOne)) (Runs.plain (by kernel_rfl)) (by kernel_rfl) (y_move (by kernel_rfl)) ?_
        refine wpq_name (T := tyU8) (p := g.b) (et := 5) (v := Value.slice (some ⟨b4, 0, none⟩) 1 1) (xs := [(u8 0)]) 1 (by kernel_rfl) (buf_lit (reps_cons (c := [Value.int .u8 (0)]) (u8_rep (by omega)) reps_nil) rfl (by omega)) (fun k6 hk6 => ?_)
        refine wpr_eff 4 31 (.call { callee := .value (.tmp 28), args := #[(.tmp 29), (.tmp 30), (.const (Value.int .u8 (1)))], argTypes := #[22, 4, 5] }) 0 (Runs.plain (by kernel_rfl)) (by kernel_rfl) (e_callC (sel := [some ⟨b5, 22, [Value.slice (some ⟨b4, 0, none⟩) 1 1]⟩, k6]) (f := 52) #[Value.pointer (some ⟨b5, 0, none⟩)] [Value.slice Aone (one).length cone, Value.bool (isOne), Value.int .u8 (1), Value.pointer (some ⟨b5, 0, none⟩)] [true, true] (by kernel_rfl) (by kernel_rfl) (by kernel_rfl) (by kernel_rfl) (fun g' lr eb ln => c52 g' (one : List UInt8) Aone cone (isOne) (1 : Int) b5 (([(u8 0)] : List UInt8) : List UInt8) (some ⟨b4, 0, none⟩) 1 k6 (fone.mono lr) (by rw [eb]; exact hk6) (by simp only [List.length_cons, List.length_nil] at *; omega) (fun _ => by omega))) ?_
        rintro _ g8 _ le9 ⟨_, rfl, A7_out, c7_out, k7_out, rfl, rfl, h7_out⟩
        have fone := fone.mono le9.r
        have ftwo := ftwo.mono le9.r
        have hk6 := hk6.mono le9.b
        have L0 := L0.trans le9
        refine wpq_own [some ⟨b5, 22, [Value.slice A7_out ((pack1S (one : List UInt8) (isOne) (1 : Int) (([(u8 0)] : List UInt8) : List UInt8))).length c7_out]⟩, k7_out] (by kernel_rfl) ?_
        have nh7_out := h7_out.len
        have ly7 := pack1_len (one : List UInt8) (isOne) (1 : Int) (([(u8 0)] : List UInt8) : List UInt8)
        refine wpr_end (by kernel_rfl) ?_
        refine wpq_then ?_
        refine wpq_sub [(2, Value.slice Atwo (two).length ctwo), (3, Value.bool (isTwo)), (10, Value.pointer (some ⟨b5, 0, none⟩)), (11, Value.func (.func 52) #[] #[Value.pointer (some ⟨b5, 0, none⟩)])] (by kernel_rfl) ?_
        refine wpc_seq (x := F41_23) (y := F41_24) (by kernel_rfl) ?_
        refine wpc_region (ops := R41_23) (id := 6) (by kernel_rfl) ?_
        refine wpr_val 1 32 (.move (.tmp 11)) 119 (Value.func (.func 52) #[] #[Value.pointer (some ⟨b5, 0, none⟩)]) (Runs.plain (by kernel_rfl)) (by kernel_rfl) (y_move (by kernel_rfl)) ?_
        refine wpr_val 2 33 (.move (.tmp 2)) 22 (Value.slice Atwo (two).length ctwo) (Runs.plain (by kernel_rfl)) (by kernel_rfl) (y_move (by kernel_rfl)) ?_
        refine wpr_val 3 34 (.move (.tmp 3)) 4 (Value.bool (isTwo)) (Runs.plain (by kernel_rfl)) (by kernel_rfl) (y_move (by kernel_rfl)) ?_
        refine wpr_eff 4 35 (.call { callee := .value (.tmp 32), args := #[(.tmp 33), (.tmp 34), (.const (Value.int .u8 (2)))], argTypes := #[22, 4, 5] }) 0 (Runs.plain (by kernel_rfl)) (by kernel_rfl) (e_callC (sel := [some ⟨b5, 22, [Value.slice A7_out ((pack1S (one : List UInt8) (isOne) (1 : Int) (([(u8 0)] : List UInt8) : List UInt8))).length c7_out]⟩, k7_out]) (f := 52) #[Value.pointer (some ⟨b5, 0, none⟩)] [Value.slice Atwo (two).length ctwo, Value.bool (isTwo), Value.int .u8 (2), Value.pointer (some ⟨b5, 0, none⟩)] [true, true] (by kernel_rfl) (by kernel_rfl) (by kernel_rfl) (by kernel_rfl) (fun g' lr eb ln => c52 g' (two : List UInt8) Atwo ctwo (isTwo) (2 : Int) b5 ((pack1S (one : List UInt8) (isOne) (1 : Int) (([(u8 0)] : List UInt8) : List UInt8)) : List UInt8) A7_out c7_out k7_out (ftwo.mono lr) (by rw [eb]; exact h7_out) (by simp only [List.length_cons, List.length_nil] at *; omega) (fun _ => by omega))) ?_
        rintro _ g11 _ le12 ⟨_, rfl, A10_out, c10_out, k10_out, rfl, rfl, h10_out⟩
        have fone := fone.mono le12.r
        have ftwo := ftwo.mono le12.r
        have hk6 := hk6.mono le12.b
        have h7_out := h7_out.mono le12.b
        have L0 := L0.trans le12
        refine wpq_own [some ⟨b5, 22, [Value.slice A10_out ((pack1S (two : List UInt8) (isTwo) (2 : Int) ((pack1S (one : List UInt8) (isOne) (1 : Int) (([(u8 0)] : List UInt8) : List UInt8)) : List UInt8))).length c10_out]⟩, k10_out] (by kernel_rfl) ?_
        have nh10_out := h10_out.len
        have ly10 := pack1_len (two : List UInt8) (isTwo) (2 : Int) ((pack1S (one : List UInt8) (isOne) (1 : Int) (([(u8 0)] : List UInt8) : List UInt8)) : List UInt8)
        refine wpr_end (by kernel_rfl) ?_
        refine wpq_then ?_
        refine wpq_sub [(10, Value.pointer (some ⟨b5, 0, none⟩))] (by kernel_rfl) ?_
        refine wpc_seq (x := F41_26) (y := F41_27) (by kernel_rfl) ?_
        refine wpc_region (ops := R41_26) (id := 7) (by kernel_rfl) ?_
        refine wpr_val 1 36 (.load 22 (.tmp 10)) 22 (Value.slice A10_out ((pack1S (two : List UInt8) (isTwo) (2 : Int) ((pack1S (one : List UInt8) (isOne) (1 : Int) (([(u8 0)] : List UInt8) : List UInt8)) : List UInt8))).length c10_out) (Runs.plain (by kernel_rfl)) (by kernel_rfl) (q_load1 b5 0 0 (by kernel_rfl) (by kernel_rfl) (by kernel_rfl)) ?_
        refine wpr_val 2 8 (.assign (.tmp 36)) 22 (Value.slice A10_out ((pack1S (two : List UInt8) (isTwo) (2 : Int) ((pack1S (one : List UInt8) (isOne) (1 : Int) (([(u8 0)] : List UInt8) : List UInt8)) : List UInt8))).length c10_out) (Runs.plain (by kernel_rfl)) (by kernel_rfl) (y_assign (by kernel_rfl)) ?_
        refine wpr_val 3 9 (.assign (.const (Value.int .i64 (0)))) 27 (Value.int .i64 (0)) (Runs.plain (by kernel_rfl)) (by kernel_rfl) (y_assign (by kernel_rfl)) ?_
        refine wpr_end (by kernel_rfl) ?_
        refine wpq_then ?_
        refine wpq_freeze 1 (by kernel_rfl) h10_out (fun g13 le14 f15 => ?_)
        have fone := fone.mono le14.r
        have ftwo := ftwo.mono le14.r
        have hk6 := hk6.mono le14.b
        have h7_out := h7_out.mono le14.b
        have L0 := L0.trans le14
        refine wpc_ret (rs := [.tmp 8, .tmp 9]) [Value.slice A10_out ((pack1S (two : List UInt8) (isTwo) (2 : Int) ((pack1S (one : List UInt8) (isOne) (1 : Int) (([(u8 0)] : List UInt8) : List UInt8)) : List UInt8))).length c10_out, Value.int .i64 (0)] [] (by kernel_rfl) (fun _ _ h => h) (by kernel_rfl) (res_tmp (by kernel_rfl) (res_tmp (by kernel_rfl) res_nil)) L0 keep0 ?_
        have eS : (packS one isOne two isTwo) = (((pack1S (two : List UInt8) (isTwo) (2 : Int) ((pack1S (one : List UInt8) (isOne) (1 : Int) (([(u8 0)] : List UInt8) : List UInt8)) : List UInt8)) : List UInt8), (0 : Int)) := by
          unfold packS
          rw [h0]
          rfl
        rw [eS]
        exact ⟨rfl, A10_out, c10_out, rfl, f15⟩

end Go.Proofs.Ytolppdcaaoghgaa
