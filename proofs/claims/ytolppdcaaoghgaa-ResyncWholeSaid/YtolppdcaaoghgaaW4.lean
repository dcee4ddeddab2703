/-
Walks, printed by wip/eng/eng.py. Conditions: each theorem's own.
-/
import Derived.Test.YtolppdcaaoghgaaW3
namespace Go.Proofs.Ytolppdcaaoghgaa
set_option linter.unusedVariables false
set_option linter.unusedSimpArgs false
open Go.RowKit
noncomputable def F22_0 : Code := sub (Try.f22.body.getD .skip) []
noncomputable def F22_1 : Code := sub (Try.f22.body.getD .skip) [0]
noncomputable def F22_2 : Code := sub (Try.f22.body.getD .skip) [1]
noncomputable def R22_1 : Array Oper := regOf F22_1
noncomputable def F22_4 : Code := sub (Try.f22.body.getD .skip) [1, 0]
noncomputable def F22_5 : Code := sub (Try.f22.body.getD .skip) [1, 1]
noncomputable def F22_6 : Code := sub (Try.f22.body.getD .skip) [1, 0, 0]
noncomputable def F22_7 : Code := sub (Try.f22.body.getD .skip) [1, 0, 1]
noncomputable def R22_6 : Array Oper := regOf F22_6
noncomputable def F22_9 : Code := sub (Try.f22.body.getD .skip) [1, 0, 1, 0]
noncomputable def F22_10 : Code := sub (Try.f22.body.getD .skip) [1, 0, 1, 1]
noncomputable def F22_11 : Code := sub (Try.f22.body.getD .skip) [1, 1, 0]
noncomputable def F22_12 : Code := sub (Try.f22.body.getD .skip) [1, 1, 1]
noncomputable def F22_13 : Code := sub (Try.f22.body.getD .skip) [1, 1, 0, 0]
noncomputable def F22_14 : Code := sub (Try.f22.body.getD .skip) [1, 1, 0, 1]
noncomputable def R22_13 : Array Oper := regOf F22_13
noncomputable def F22_16 : Code := sub (Try.f22.body.getD .skip) [1, 1, 0, 1, 0]
noncomputable def F22_17 : Code := sub (Try.f22.body.getD .skip) [1, 1, 0, 1, 1]
noncomputable def F22_18 : Code := sub (Try.f22.body.getD .skip) [1, 1, 0, 1, 0, 0]
noncomputable def F22_19 : Code := sub (Try.f22.body.getD .skip) [1, 1, 0, 1, 0, 1]
noncomputable def R22_18 : Array Oper := regOf F22_18
noncomputable def F22_21 : Code := sub (Try.f22.body.getD .skip) [1, 1, 1, 0]
noncomputable def F22_22 : Code := sub (Try.f22.body.getD .skip) [1, 1, 1, 1]
noncomputable def R22_21 : Array Oper := regOf F22_21
noncomputable def F22_24 : Code := sub (Try.f22.body.getD .skip) [1, 1, 1, 1, 0]
noncomputable def F22_25 : Code := sub (Try.f22.body.getD .skip) [1, 1, 1, 1, 1]
noncomputable def F22_26 : Code := sub (Try.f22.body.getD .skip) [1, 1, 1, 1, 0, 0]
noncomputable def F22_27 : Code := sub (Try.f22.body.getD .skip) [1, 1, 1, 1, 0, 1]
noncomputable def R22_26 : Array Oper := regOf F22_26
noncomputable def F22_29 : Code := sub (Try.f22.body.getD .skip) [1, 1, 1, 1, 0, 1, 0]
noncomputable def F22_30 : Code := sub (Try.f22.body.getD .skip) [1, 1, 1, 1, 0, 1, 1]
noncomputable def F22_31 : Code := sub (Try.f22.body.getD .skip) [1, 1, 1, 1, 0, 1, 0, 0]
noncomputable def F22_32 : Code := sub (Try.f22.body.getD .skip) [1, 1, 1, 1, 0, 1, 0, 1]
noncomputable def R22_31 : Array Oper := regOf F22_31
noncomputable def F22_34 : Code := sub (Try.f22.body.getD .skip) [1, 1, 1, 1, 1, 0]
noncomputable def F22_35 : Code := sub (Try.f22.body.getD .skip) [1, 1, 1, 1, 1, 1]
noncomputable def R22_34 : Array Oper := regOf F22_34
noncomputable def F22_37 : Code := sub (Try.f22.body.getD .skip) [1, 1, 1, 1, 1, 1, 0]
noncomputable def F22_38 : Code := sub (Try.f22.body.getD .skip) [1, 1, 1, 1, 1, 1, 1]
noncomputable def R22_37 : Array Oper := regOf F22_37
def serveS (s : Sender) (w : Want) (steps : Int) (save : List UInt8) : Sender × Piece × Int :=
  (cond ((((decide ((((s.pieces).length : Nat) : Int) > 0) && (w.base == (List.getD s.pieces 0 default).base)) && decide (w.have_ ≥ 0)) && decide (w.have_ < (((s.pieces).length : Nat) : Int)))) (s, (copiedS (List.getD s.pieces (w.have_).toNat default)), (0 : Int)) (cond (((splitS (steps : Int) (save : List UInt8)).2 != 0)) (s, (⟨(0 : Int), (0 : Int), (0 : Int), ([] : List UInt8)⟩ : Piece), ((splitS (steps : Int) (save : List UInt8)).2 : Int)) ((⟨((splitS (steps : Int) (save : List UInt8)).1 : List Piece)⟩ : Sender), (copiedS (List.getD (splitS (steps : Int) (save : List UInt8)).1 0 default)), (0 : Int))))
set_option maxRecDepth 100000 in
theorem c22 (g : Gh) (b_s : Nat) (s : Sender) (As_pieces : Option Addr) (cs_pieces : Nat) (w : Want) (steps : Int) (save : List UInt8) (Asave : Option Addr) (csave : Nat) (fs_pieces : Arr g.b tyPiece As_pieces cs_pieces s.pieces) (fsave : Arr g.r tyU8 Asave csave save) :
    Ctr Try.prog 22 [Value.pointer (some ⟨b_s, 0, none⟩), Value.agg #[Value.int .i64 (w.base), Value.int .i64 (w.have_)], Value.int .i64 (steps), Value.slice Asave (save).length csave] g [some ⟨b_s, 107, [Value.slice As_pieces (s.pieces).length cs_pieces]⟩] (fun v ψ o => ∃ (Ao_s_pieces : Option Addr) (co_s_pieces : Nat) (Ar0_data : Option Addr) (cr0_data : Nat), v = Value.tuple #[Value.agg #[Value.int .i64 ((serveS s w steps save).2.1.base), Value.int .i64 ((serveS s w steps save).2.1.index), Value.int .i64 ((serveS s w steps save).2.1.count), Value.slice Ar0_data ((serveS s w steps save).2.1.data).length cr0_data], Value.int .i64 ((serveS s w steps save).2.2)] ∧ o = [some ⟨b_s, 107, [Value.slice Ao_s_pieces ((serveS s w steps save).1.pieces).length co_s_pieces]⟩] ∧ Arr ψ tyPiece Ao_s_pieces co_s_pieces (serveS s w steps save).1.pieces ∧ Arr ψ tyU8 Ar0_data cr0_data (serveS s w steps save).2.1.data) := by
  refine ctr_of Try.f22 F22_0 75 [Value.pointer (some ⟨b_s, 0, none⟩), Value.agg #[Value.int .i64 (w.base), Value.int .i64 (w.have_)], Value.int .i64 (steps), Value.slice Asave (save).length csave] (by kernel_rfl) (by kernel_rfl) (by kernel_rfl) (by kernel_rfl) ?_
  have L0 := Gh.le.refl g
  have nfs_pieces := fs_pieces.len
  have nfsave := fsave.len
  refine wpc_seq (x := F22_1) (y := F22_2) (by kernel_rfl) ?_
  refine wpc_region (ops := R22_1) (id := 0) (by kernel_rfl) ?_
  refine wpr_eff 1 5 (.box 55 (.tmp 1)) 0 (Runs.plain (by kernel_rfl)) (by kernel_rfl) (e_box (v := Value.agg #[Value.int .i64 (w.base), Value.int .i64 (w.have_)]) (cs := [Value.int .i64 (w.base), Value.int .i64 (w.have_)]) (by kernel_rfl) (by kernel_rfl)) ?_
  rintro _ _ _ - ⟨b1, rfl, rfl, rfl⟩
  refine wpr_eff 2 8 (.alloc 37) 0 (Runs.plain (by kernel_rfl)) (by kernel_rfl) (e_alloc (cs := [Value.int .i64 (0), Value.int .i64 (0), Value.int .i64 (0), Value.slice none 0 0]) (by kernel_rfl)) ?_
  rintro _ _ _ - ⟨b2, rfl, rfl, rfl⟩
  refine wpr_val 3 9 (.assign (.const (Value.int .i64 (0)))) 27 (Value.int .i64 (0)) (Runs.plain (by kernel_rfl)) (by kernel_rfl) (y_assign (by kernel_rfl)) ?_
  refine wpr_end (by kernel_rfl) ?_
  refine wpq_then ?_
  refine wpc_seq (x := F22_4) (y := F22_5) (by kernel_rfl) ?_
  refine wpc_seq (x := F22_6) (y := F22_7) (by kernel_rfl) ?_
  refine wpc_region (ops := R22_6) (id := 1) (by kernel_rfl) ?_
  refine wpr_val 1 12 (.move (.tmp 0)) 50 (Value.pointer (some ⟨b_s, 0, none⟩)) (Runs.plain (by kernel_rfl)) (by kernel_rfl) (y_move (by kernel_rfl)) ?_
  refine wpr_val 2 13 (.binOp .eql 50 (.tmp 12) (.const (Value.pointer none)) 50) 4 (Value.bool (false)) (Runs.plain (by kernel_rfl)) (by kernel_rfl) (y_pure (by kernel_rfl) (fun _ => by kernel_rfl)) ?_
  refine wpr_end (by kernel_rfl) ?_
  refine wpq_then ?_
  refine wpc_false (x := F22_9) (y := F22_10) (o := (.tmp 13)) (by kernel_rfl) (by kernel_rfl) ?_
  refine wpc_skip (by kernel_rfl) ?_
  refine wpq_then ?_
  refine wpc_seq (x := F22_11) (y := F22_12) (by kernel_rfl) ?_
  refine wpc_seq (x := F22_13) (y := F22_14) (by kernel_rfl) ?_
  refine wpa_start (ops := R22_13) (id := 3) (by kernel_rfl) (by kernel_rfl) [3, 8, 12, 15, 20, 25, 29] [] [some ⟨b2, 37, [Value.int .i64 (0), Value.int .i64 (0), Value.int .i64 (0), Value.slice none 0 0]⟩, some ⟨b1, 55, [Value.int .i64 (w.base), Value.int .i64 (w.have_)]⟩, some ⟨b_s, 107, [Value.slice As_pieces (s.pieces).length cs_pieces]⟩] (by kernel_rfl) (by kernel_rfl) (fun _ _ _ _ _ h => h) 33 (by kernel_rfl) (fun RG => ?_)
  have lp := Psi.le.refl g.r
  refine wpa_take0 0 [true, false, false, false, false, false, false, false, false, false, false, false, false, false, false, false, false, false, false, false, false, false, false, false, false, false, false, false, false, false, false, false, false] 15 (.move (.tmp 0)) 50 (Value.pointer (some ⟨b_s, 0, none⟩)) RG (Runs.plain (by kernel_rfl)) (by kernel_rfl) (by kernel_rfl) (fun _ => (y_move (by kernel_rfl))) ?_
  refine wpa_take0 1 [true, true, false, false, false, false, false, false, false, false, false, false, false, false, false, false, false, false, false, false, false, false, false, false, false, false, false, false, false, false, false, false, false] 16 (.nilCheck (.tmp 15)) 0 (Value.pointer (some ⟨b_s, 0, none⟩)) RG (Runs.plain (by kernel_rfl)) (by kernel_rfl) (by kernel_rfl) (fun _ => (y_pure (by kernel_rfl) (fun _ => by kernel_rfl))) ?_
  refine wpa_take0 2 [true, true, true, false, false, false, false, false, false, false, false, false, false, false, false, false, false, false, false, false, false, false, false, false, false, false, false, false, false, false, false, false, false] 17 (.fieldAddr 107 (.tmp 16) 0) 0 (Value.pointer (some ⟨b_s, 0, none⟩)) RG (Runs.plain (by kernel_rfl)) (by kernel_rfl) (by kernel_rfl) (fun _ => (y_pure (by kernel_rfl) (fun _ => by kernel_rfl))) ?_
  refine wpa_take 3 [true, true, true, true, false, false, false, false, false, false, false, false, false, false, false, false, false, false, false, false, false, false, false, false, false, false, false, false, false, false, false, false, false] 18 (.load 26 (.tmp 17)) 26 (Value.slice As_pieces (s.pieces).length cs_pieces) RG (Runs.plain (by kernel_rfl)) (by kernel_rfl) (by kernel_rfl) lp (keepK_P [some 0, some 1, some 2] (by kernel_rfl)) (q_load1 b_s 0 2 (by kernel_rfl) (by kernel_rfl) (by kernel_rfl)) ?_
  refine wpa_take0 4 [true, true, true, true, true, false, false, false, false, false, false, false, false, false, false, false, false, false, false, false, false, false, false, false, false, false, false, false, false, false, false, false, false] 19 (.call { callee := .builtin .len, args := #[(.tmp 18)], argTypes := #[26] }) 3 (Value.int .i64 ((((s.pieces).length : Nat) : Int))) RG (Runs.plain (by kernel_rfl)) (by kernel_rfl) (by kernel_rfl) (fun _ => (y_pure (by kernel_rfl) (fun _ => by kernel_rfl))) ?_
  refine wpa_take0 5 [true, true, true, true, true, true, false, false, false, false, false, false, false, false, false, false, false, false, false, false, false, false, false, false, false, false, false, false, false, false, false, false, false] 20 (.binOp .gtr 3 (.tmp 19) (.const (Value.int .i64 (0))) 3) 4 (Value.bool (decide ((((s.pieces).length : Nat) : Int) > 0))) RG (Runs.plain (by kernel_rfl)) (by kernel_rfl) (by kernel_rfl) (fun _ => (y_pure (by kernel_rfl) (fun _ => by kernel_rfl))) ?_
  refine wpa_take0 6 [true, true, true, true, true, true, true, false, false, false, false, false, false, false, false, false, false, false, false, false, false, false, false, false, false, false, false, false, false, false, false, false, false] 21 (.move (.tmp 20)) 4 (Value.bool (decide ((((s.pieces).length : Nat) : Int) > 0))) RG (Runs.plain (by kernel_rfl)) (by kernel_rfl) (by kernel_rfl) (fun _ => (y_move (by kernel_rfl))) ?_
  refine wpa_grp 15 [true, true, true, true, true, true, true, true, true, true, true, true, true, true, true, true, true, true, false, false, false, false, false, false, false, false, false, false, false, false, false, false, false] [(0, Value.pointer (some ⟨b_s, 0, none⟩)), (2, Value.int .i64 (steps)), (3, Value.slice Asave (save).length csave), (5, Value.pointer (some ⟨b1, 0, none⟩)), (8, Value.pointer (some ⟨b2, 0, none⟩)), (32, Value.bool ((decide ((((s.pieces).length : Nat) : Int) > 0) && (w.base == (List.getD s.pieces 0 default).base))))] (fun hk6 => ?_) ?_
  · refine wpq_split 21 (b := decide ((((s.pieces).length : Nat) : Int) > 0)) (by kernel_rfl) (fun q3 => ?_) (fun q3 => ?_)
    · have q3p := of_decide_eq_true q3
      refine wpa_take0 7 [true, true, true, true, true, true, true, true, false, false, false, false, false, false, false, false, false, false, false, false, false, false, false, false, false, false, false, false, false, false, false, false, false] 22 (.fieldAddr 55 (.tmp 5) 0) 0 (Value.pointer (some ⟨b1, 0, none⟩)) RG (Runs.guarded (j := 6) (t := 21) (b := true) (by kernel_rfl) (by kernel_rfl) (by kernel_rfl)) (by kernel_rfl) (by kernel_rfl) (fun _ => (y_pure (by kernel_rfl) (fun _ => by kernel_rfl))) ?_
      refine wpa_take 8 [true, true, true, true, true, true, true, true, true, false, false, false, false, false, false, false, false, false, false, false, false, false, false, false, false, false, false, false, false, false, false, false, false] 23 (.load 2 (.tmp 22)) 2 (Value.int .i64 (w.base)) RG (Runs.guarded (j := 6) (t := 21) (b := true) (by kernel_rfl) (by kernel_rfl) (by kernel_rfl)) (by kernel_rfl) (by kernel_rfl) lp (keepK_P [some 0, some 1, some 2] (by kernel_rfl)) (q_load1 b1 0 1 (by kernel_rfl) (by kernel_rfl) (by kernel_rfl)) ?_
      refine wpa_take0 9 [true, true, true, true, true, true, true, true, true, true, false, false, false, false, false, false, false, false, false, false, false, false, false, false, false, false, false, false, false, false, false, false, false] 24 (.move (.tmp 0)) 50 (Value.pointer (some ⟨b_s, 0, none⟩)) RG (Runs.guarded (j := 6) (t := 21) (b := true) (by kernel_rfl) (by kernel_rfl) (by kernel_rfl)) (by kernel_rfl) (by kernel_rfl) (fun _ => (y_move (by kernel_rfl))) ?_
      refine wpa_take0 10 [true, true, true, true, true, true, true, true, true, true, true, false, false, false, false, false, false, false, false, false, false, false, false, false, false, false, false, false, false, false, false, false, false] 25 (.nilCheck (.tmp 24)) 0 (Value.pointer (some ⟨b_s, 0, none⟩)) RG (Runs.guarded (j := 6) (t := 21) (b := true) (by kernel_rfl) (by kernel_rfl) (by kernel_rfl)) (by kernel_rfl) (by kernel_rfl) (fun _ => (y_pure (by kernel_rfl) (fun _ => by kernel_rfl))) ?_
      refine wpa_take0 11 [true, true, true, true, true, true, true, true, true, true, true, true, false, false, false, false, false, false, false, false, false, false, false, false, false, false, false, false, false, false, false, false, false] 26 (.fieldAddr 107 (.tmp 25) 0) 0 (Value.pointer (some ⟨b_s, 0, none⟩)) RG (Runs.guarded (j := 6) (t := 21) (b := true) (by kernel_rfl) (by kernel_rfl) (by kernel_rfl)) (by kernel_rfl) (by kernel_rfl) (fun _ => (y_pure (by kernel_rfl) (fun _ => by kernel_rfl))) ?_
      refine wpa_take 12 [true, true, true, true, true, true, true, true, true, true, true, true, true, false, false, false, false, false, false, false, false, false, false, false, false, false, false, false, false, false, false, false, false] 27 (.load 26 (.tmp 26)) 26 (Value.slice As_pieces (s.pieces).length cs_pieces) RG (Runs.guarded (j := 6) (t := 21) (b := true) (by kernel_rfl) (by kernel_rfl) (by kernel_rfl)) (by kernel_rfl) (by kernel_rfl) lp (keepK_P [some 0, some 1, some 2] (by kernel_rfl)) (q_load1 b_s 0 2 (by kernel_rfl) (by kernel_rfl) (by kernel_rfl)) ?_
      have hi4 : 0 < (s.pieces).length := by omega
      obtain ⟨ad4, cs4, hA4, hr4, hc4⟩ := fs_pieces.at_ (get_getD (d := default) hi4)
      obtain ⟨A4_data, c4_data, rfl, f4_data⟩ := hr4
      have nf4_data := f4_data.len
      refine wpa_take0 13 [true, true, true, true, true, true, true, true, true, true, true, true, true, true, false, false, false, false, false, false, false, false, false, false, false, false, false, false, false, false, false, false, false] 28 (.indexAddr 26 (.tmp 27) (.const (Value.int .i64 (0)))) 0 (Value.pointer (some (Addr.add ad4 (0 * 4)))) RG (Runs.guarded (j := 6) (t := 21) (b := true) (by kernel_rfl) (by kernel_rfl) (by kernel_rfl)) (by kernel_rfl) (by kernel_rfl) (fun _ => (q_index (e := 37) (sz := 4) (len := (s.pieces).length) (c := cs_pieces) 0 (A := ad4) (k := .i64) (z := 0) hA4 (by kernel_rfl) (by kernel_rfl) rfl hi4 (by kernel_rfl) (by kernel_rfl))) ?_
      refine wpa_take0 14 [true, true, true, true, true, true, true, true, true, true, true, true, true, true, true, false, false, false, false, false, false, false, false, false, false, false, false, false, false, false, false, false, false] 29 (.fieldAddr 37 (.tmp 28) 0) 0 (Value.pointer (some (Addr.add ad4 (0 * 4)))) RG (Runs.guarded (j := 6) (t := 21) (b := true) (by kernel_rfl) (by kernel_rfl) (by kernel_rfl)) (by kernel_rfl) (by kernel_rfl) (fun _ => (y_pure (by kernel_rfl) (fun _ => by kernel_rfl))) ?_
      refine wpa_take 15 [true, true, true, true, true, true, true, true, true, true, true, true, true, true, true, true, false, false, false, false, false, false, false, false, false, false, false, false, false, false, false, false, false] 30 (.load 2 (.tmp 29)) 2 (Value.int .i64 ((List.getD s.pieces 0 default).base)) RG (Runs.guarded (j := 6) (t := 21) (b := true) (by kernel_rfl) (by kernel_rfl) (by kernel_rfl)) (by kernel_rfl) (by kernel_rfl) lp (keepK_P [some 0, some 1, some 2] (by kernel_rfl)) (q_loadP1 (Addr.add ad4 (0 * 4)) 0 (by kernel_rfl) (hc4.mono g.br) (by kernel_rfl) (by kernel_rfl)) ?_
      refine wpa_take0 16 [true, true, true, true, true, true, true, true, true, true, true, true, true, true, true, true, true, false, false, false, false, false, false, false, false, false, false, false, false, false, false, false, false] 31 (.binOp .eql 2 (.tmp 23) (.tmp 30) 2) 4 (Value.bool ((w.base == (List.getD s.pieces 0 default).base))) RG (Runs.guarded (j := 6) (t := 21) (b := true) (by kernel_rfl) (by kernel_rfl) (by kernel_rfl)) (by kernel_rfl) (by kernel_rfl) (fun _ => (y_pure (by kernel_rfl) (fun _ => by kernel_rfl))) ?_
      refine wpa_take0 17 [true, true, true, true, true, true, true, true, true, true, true, true, true, true, true, true, true, true, false, false, false, false, false, false, false, false, false, false, false, false, false, false, false] 32 (.pick (.tmp 21) (.tmp 31) (.const (Value.bool (false)))) 4 (Value.bool ((w.base == (List.getD s.pieces 0 default).base))) RG (Runs.plain (by kernel_rfl)) (by kernel_rfl) (by kernel_rfl) (fun _ => (y_pickT (by kernel_rfl) (by kernel_rfl))) ?_
      refine wpq_re 32 (v := Value.bool ((w.base == (List.getD s.pieces 0 default).base))) (Value.bool ((decide ((((s.pieces).length : Nat) : Int) > 0) && (w.base == (List.getD s.pieces 0 default).base)))) (by kernel_rfl) (re_and1 q3) ?_
      exact wpq_sub _ (by kernel_rfl) hk6
    · have q3p := of_decide_eq_false q3
      refine wpa_takeSkip0 7 [true, true, true, true, true, true, true, true, false, false, false, false, false, false, false, false, false, false, false, false, false, false, false, false, false, false, false, false, false, false, false, false, false] 22 RG (Skips.mk' (j := 6) (t := 21) (b := true) (by kernel_rfl) (by kernel_rfl) (by kernel_rfl)) (by kernel_rfl) (by kernel_rfl) ?_
      refine wpa_takeSkip0 8 [true, true, true, true, true, true, true, true, true, false, false, false, false, false, false, false, false, false, false, false, false, false, false, false, false, false, false, false, false, false, false, false, false] 23 RG (Skips.mk' (j := 6) (t := 21) (b := true) (by kernel_rfl) (by kernel_rfl) (by kernel_rfl)) (by kernel_rfl) (by kernel_rfl) ?_
      refine wpa_takeSkip0 9 [true, true, true, true, true, true, true, true, true, true, false, false, false, false, false, false, false, false, false, false, false, false, false, false, false, false, false, false, false, false, false, false, false] 24 RG (Skips.mk' (j := 6) (t := 21) (b := true) (by kernel_rfl) (by kernel_rfl) (by kernel_rfl)) (by kernel_rfl) (by kernel_rfl) ?_
      refine wpa_takeSkip0 10 [true, true, true, true, true, true, true, true, true, true, true, false, false, false, false, false, false, false, false, false, false, false, false, false, false, false, false, false, false, false, false, false, false] 25 RG (Skips.mk' (j := 6) (t := 21) (b := true) (by kernel_rfl) (by kernel_rfl) (by kernel_rfl)) (by kernel_rfl) (by kernel_rfl) ?_
      refine wpa_takeSkip0 11 [true, true, true, true, true, true, true, true, true, true, true, true, false, false, false, false, false, false, false, false, false, false, false, false, false, false, false, false, false, false, false, false, false] 26 RG (Skips.mk' (j := 6) (t := 21) (b := true) (by kernel_rfl) (by kernel_rfl) (by kernel_rfl)) (by kernel_rfl) (by kernel_rfl) ?_
      refine wpa_takeSkip0 12 [true, true, true, true, true, true, true, true, true, true, true, true, true, false, false, false, false, false, false, false, false, false, false, false, false, false, false, false, false, false, false, false, false] 27 RG (Skips.mk' (j := 6) (t := 21) (b := true) (by kernel_rfl) (by kernel_rfl) (by kernel_rfl)) (by kernel_rfl) (by kernel_rfl) ?_
      refine wpa_takeSkip0 13 [true, true, true, true, true, true, true, true, true, true, true, true, true, true, false, false, false, false, false, false, false, false, false, false, false, false, false, false, false, false, false, false, false] 28 RG (Skips.mk' (j := 6) (t := 21) (b := true) (by kernel_rfl) (by kernel_rfl) (by kernel_rfl)) (by kernel_rfl) (by kernel_rfl) ?_
      refine wpa_takeSkip0 14 [true, true, true, true, true, true, true, true, true, true, true, true, true, true, true, false, false, false, false, false, false, false, false, false, false, false, false, false, false, false, false, false, false] 29 RG (Skips.mk' (j := 6) (t := 21) (b := true) (by kernel_rfl) (by kernel_rfl) (by kernel_rfl)) (by kernel_rfl) (by kernel_rfl) ?_
      refine wpa_takeSkip0 15 [true, true, true, true, true, true, true, true, true, true, true, true, true, true, true, true, false, false, false, false, false, false, false, false, false, false, false, false, false, false, false, false, false] 30 RG (Skips.mk' (j := 6) (t := 21) (b := true) (by kernel_rfl) (by kernel_rfl) (by kernel_rfl)) (by kernel_rfl) (by kernel_rfl) ?_
      refine wpa_takeSkip0 16 [true, true, true, true, true, true, true, true, true, true, true, true, true, true, true, true, true, false, false, false, false, false, false, false, false, false, false, false, false, false, false, false, false] 31 RG (Skips.mk' (j := 6) (t := 21) (b := true) (by kernel_rfl) (by kernel_rfl) (by kernel_rfl)) (by kernel_rfl) (by kernel_rfl) ?_
      refine wpa_take0 17 [true, true, true, true, true, true, true, true, true, true, true, true, true, true, true, true, true, true, false, false, false, false, false, false, false, false, false, false, false, false, false, false, false] 32 (.pick (.tmp 21) (.tmp 31) (.const (Value.bool (false)))) 4 (Value.bool (false)) RG (Runs.plain (by kernel_rfl)) (by kernel_rfl) (by kernel_rfl) (fun _ => (y_pickF (by kernel_rfl) (by kernel_rfl))) ?_
      refine wpq_re 32 (v := Value.bool (false)) (Value.bool ((decide ((((s.pieces).length : Nat) : Int) > 0) && (w.base == (List.getD s.pieces 0 default).base)))) (by kernel_rfl) (re_and0 q3) ?_
      exact wpq_sub _ (by kernel_rfl) hk6
  · refine wpa_take0 18 [true, true, true, true, true, true, true, true, true, true, true, true, true, true, true, true, true, true, true, false, false, false, false, false, false, false, false, false, false, false, false, false, false] 33 (.move (.tmp 32)) 4 (Value.bool ((decide ((((s.pieces).length : Nat) : Int) > 0) && (w.base == (List.getD s.pieces 0 default).base)))) RG (Runs.plain (by kernel_rfl)) (by kernel_rfl) (by kernel_rfl) (fun _ => (y_move (by kernel_rfl))) ?_
    refine wpa_grp 10 [true, true, true, true, true, true, true, true, true, true, true, true, true, true, true, true, true, true, true, true, true, true, true, false, false, false, false, false, false, false, false, false, false] [(0, Value.pointer (some ⟨b_s, 0, none⟩)), (2, Value.int .i64 (steps)), (3, Value.slice Asave (save).length csave), (5, Value.pointer (some ⟨b1, 0, none⟩)), (8, Value.pointer (some ⟨b2, 0, none⟩)), (37, Value.bool (((decide ((((s.pieces).length : Nat) : Int) > 0) && (w.base == (List.getD s.pieces 0 default).base)) && decide (w.have_ ≥ 0))))] (fun hk18 => ?_) ?_
    · refine wpq_split 33 (b := (decide ((((s.pieces).length : Nat) : Int) > 0) && (w.base == (List.getD s.pieces 0 default).base))) (by kernel_rfl) (fun q5 => ?_) (fun q5 => ?_)
      · have q5l := (and_true_ q5).1
        have q5r := (and_true_ q5).2
        have q5lp := of_decide_eq_true q5l
        have q5rp : w.base = (List.getD s.pieces 0 default).base := eq_of_beq q5r
        refine wpa_take0 19 [true, true, true, true, true, true, true, true, true, true, true, true, true, true, true, true, true, true, true, true, false, false, false, false, false, false, false, false, false, false, false, false, false] 34 (.fieldAddr 55 (.tmp 5) 1) 0 (Value.pointer (some ⟨b1, 1, none⟩)) RG (Runs.guarded (j := 18) (t := 33) (b := true) (by kernel_rfl) (by kernel_rfl) (by kernel_rfl)) (by kernel_rfl) (by kernel_rfl) (fun _ => (y_pure (by kernel_rfl) (fun _ => by kernel_rfl))) ?_
        refine wpa_take 20 [true, true, true, true, true, true, true, true, true, true, true, true, true, true, true, true, true, true, true, true, true, false, false, false, false, false, false, false, false, false, false, false, false] 35 (.load 3 (.tmp 34)) 3 (Value.int .i64 (w.have_)) RG (Runs.guarded (j := 18) (t := 33) (b := true) (by kernel_rfl) (by kernel_rfl) (by kernel_rfl)) (by kernel_rfl) (by kernel_rfl) lp (keepK_P [some 0, some 1, some 2] (by kernel_rfl)) (q_load1 b1 1 1 (by kernel_rfl) (by kernel_rfl) (by kernel_rfl)) ?_
        refine wpa_take0 21 [true, true, true, true, true, true, true, true, true, true, true, true, true, true, true, true, true, true, true, true, true, true, false, false, false, false, false, false, false, false, false, false, false] 36 (.binOp .geq 3 (.tmp 35) (.const (Value.int .i64 (0))) 3) 4 (Value.bool (decide (w.have_ ≥ 0))) RG (Runs.guarded (j := 18) (t := 33) (b := true) (by kernel_rfl) (by kernel_rfl) (by kernel_rfl)) (by kernel_rfl) (by kernel_rfl) (fun _ => (y_pure (by kernel_rfl) (fun _ => by kernel_rfl))) ?_
        refine wpa_take0 22 [true, true, true, true, true, true, true, true, true, true, true, true, true, true, true, true, true, true, true, true, true, true, true, false, false, false, false, false, false, false, false, false, false] 37 (.pick (.tmp 33) (.tmp 36) (.const (Value.bool (false)))) 4 (Value.bool (decide (w.have_ ≥ 0))) RG (Runs.plain (by kernel_rfl)) (by kernel_rfl) (by kernel_rfl) (fun _ => (y_pickT (by kernel_rfl) (by kernel_rfl))) ?_
        refine wpq_re 37 (v := Value.bool (decide (w.have_ ≥ 0))) (Value.bool (((decide ((((s.pieces).length : Nat) : Int) > 0) && (w.base == (List.getD s.pieces 0 default).base)) && decide (w.have_ ≥ 0)))) (by kernel_rfl) (re_and1 q5) ?_
        exact wpq_sub _ (by kernel_rfl) hk18
      · refine wpa_takeSkip0 19 [true, true, true, true, true, true, true, true, true, true, true, true, true, true, true, true, true, true, true, true, false, false, false, false, false, false, false, false, false, false, false, false, false] 34 RG (Skips.mk' (j := 18) (t := 33) (b := true) (by kernel_rfl) (by kernel_rfl) (by kernel_rfl)) (by kernel_rfl) (by kernel_rfl) ?_
        refine wpa_takeSkip0 20 [true, true, true, true, true, true, true, true, true, true, true, true, true, true, true, true, true, true, true, true, true, false, false, false, false, false, false, false, false, false, false, false, false] 35 RG (Skips.mk' (j := 18) (t := 33) (b := true) (by kernel_rfl) (by kernel_rfl) (by kernel_rfl)) (by kernel_rfl) (by kernel_rfl) ?_
        refine wpa_takeSkip0 21 [true, true, true, true, true, true, true, true, true, true, true, true, true, true, true, true, true, true, true, true, true, true, false, false, false, false, false, false, false, false, false, false, false] 36 RG (Skips.mk' (j := 18) (t := 33) (b := true) (by kernel_rfl) (by kernel_rfl) (by kernel_rfl)) (by kernel_rfl) (by kernel_rfl) ?_
        refine wpa_take0 22 [true, true, true, true, true, true, true, true, true, true, true, true, true, true, true, true, true, true, true, true, true, true, true, false, false, false, false, false, false, false, false, false, false] 37 (.pick (.tmp 33) (.tmp 36) (.const (Value.bool (false)))) 4 (Value.bool (false)) RG (Runs.plain (by kernel_rfl)) (by kernel_rfl) (by kernel_rfl) (fun _ => (y_pickF (by kernel_rfl) (by kernel_rfl))) ?_
        refine wpq_re 37 (v := Value.bool (false)) (Value.bool (((decide ((((s.pieces).length : Nat) : Int) > 0) && (w.base == (List.getD s.pieces 0 default).base)) && decide (w.have_ ≥ 0)))) (by kernel_rfl) (re_and0 q5) ?_
        exact wpq_sub _ (by kernel_rfl) hk18
    · refine wpa_take0 23 [true, true, true, true, true, true, true, true, true, true, true, true, true, true, true, true, true, true, true, true, true, true, true, true, false, false, false, false, false, false, false, false, false] 38 (.move (.tmp 37)) 4 (Value.bool (((decide ((((s.pieces).length : Nat) : Int) > 0) && (w.base == (List.getD s.pieces 0 default).base)) && decide (w.have_ ≥ 0)))) RG (Runs.plain (by kernel_rfl)) (by kernel_rfl) (by kernel_rfl) (fun _ => (y_move (by kernel_rfl))) ?_
      refine wpa_grp 0 [true, true, true, true, true, true, true, true, true, true, true, true, true, true, true, true, true, true, true, true, true, true, true, true, true, true, true, true, true, true, true, true, true] [(0, Value.pointer (some ⟨b_s, 0, none⟩)), (2, Value.int .i64 (steps)), (3, Value.slice Asave (save).length csave), (5, Value.pointer (some ⟨b1, 0, none⟩)), (8, Value.pointer (some ⟨b2, 0, none⟩)), (47, Value.bool ((((decide ((((s.pieces).length : Nat) : Int) > 0) && (w.base == (List.getD s.pieces 0 default).base)) && decide (w.have_ ≥ 0)) && decide (w.have_ < (((s.pieces).length : Nat) : Int)))))] (fun hk23 => ?_) ?_
      · refine wpq_split 38 (b := ((decide ((((s.pieces).length : Nat) : Int) > 0) && (w.base == (List.getD s.pieces 0 default).base)) && decide (w.have_ ≥ 0))) (by kernel_rfl) (fun q6 => ?_) (fun q6 => ?_)
        · have q6l := (and_true_ q6).1
          have q6r := (and_true_ q6).2
          have q6ll := (and_true_ q6l).1
          have q6lr := (and_true_ q6l).2
          have q6llp := of_decide_eq_true q6ll
          have q6lrp : w.base = (List.getD s.pieces 0 default).base := eq_of_beq q6lr
          have q6rp := of_decide_eq_true q6r
          refine wpa_take0 24 [true, true, true, true, true, true, true, true, true, true, true, true, true, true, true, true, true, true, true, true, true, true, true, true, true, false, false, false, false, false, false, false, false] 39 (.fieldAddr 55 (.tmp 5) 1) 0 (Value.pointer (some ⟨b1, 1, none⟩)) RG (Runs.guarded (j := 23) (t := 38) (b := true) (by kernel_rfl) (by kernel_rfl) (by kernel_rfl)) (by kernel_rfl) (by kernel_rfl) (fun _ => (y_pure (by kernel_rfl) (fun _ => by kernel_rfl))) ?_
          refine wpa_take 25 [true, true, true, true, true, true, true, true, true, true, true, true, true, true, true, true, true, true, true, true, true, true, true, true, true, true, false, false, false, false, false, false, false] 40 (.load 3 (.tmp 39)) 3 (Value.int .i64 (w.have_)) RG (Runs.guarded (j := 23) (t := 38) (b := true) (by kernel_rfl) (by kernel_rfl) (by kernel_rfl)) (by kernel_rfl) (by kernel_rfl) lp (keepK_P [some 0, some 1, some 2] (by kernel_rfl)) (q_load1 b1 1 1 (by kernel_rfl) (by kernel_rfl) (by kernel_rfl)) ?_
          refine wpa_take0 26 [true, true, true, true, true, true, true, true, true, true, true, true, true, true, true, true, true, true, true, true, true, true, true, true, true, true, true, false, false, false, false, false, false] 41 (.move (.tmp 0)) 50 (Value.pointer (some ⟨b_s, 0, none⟩)) RG (Runs.guarded (j := 23) (t := 38) (b := true) (by kernel_rfl) (by kernel_rfl) (by kernel_rfl)) (by kernel_rfl) (by kernel_rfl) (fun _ => (y_move (by kernel_rfl))) ?_
          refine wpa_take0 27 [true, true, true, true, true, true, true, true, true, true, true, true, true, true, true, true, true, true, true, true, true, true, true, true, true, true, true, true, false, false, false, false, false] 42 (.nilCheck (.tmp 41)) 0 (Value.pointer (some ⟨b_s, 0, none⟩)) RG (Runs.guarded (j := 23) (t := 38) (b := true) (by kernel_rfl) (by kernel_rfl) (by kernel_rfl)) (by kernel_rfl) (by kernel_rfl) (fun _ => (y_pure (by kernel_rfl) (fun _ => by kernel_rfl))) ?_
          refine wpa_take0 28 [true, true, true, true, true, true, true, true, true, true, true, true, true, true, true, true, true, true, true, true, true, true, true, true, true, true, true, true, true, false, false, false, false] 43 (.fieldAddr 107 (.tmp 42) 0) 0 (Value.pointer (some ⟨b_s, 0, none⟩)) RG (Runs.guarded (j := 23) (t := 38) (b := true) (by kernel_rfl) (by kernel_rfl) (by kernel_rfl)) (by kernel_rfl) (by kernel_rfl) (fun _ => (y_pure (by kernel_rfl) (fun _ => by kernel_rfl))) ?_
          refine wpa_take 29 [true, true, true, true, true, true, true, true, true, true, true, true, true, true, true, true, true, true, true, true, true, true, true, true, true, true, true, true, true, true, false, false, false] 44 (.load 26 (.tmp 43)) 26 (Value.slice As_pieces (s.pieces).length cs_pieces) RG (Runs.guarded (j := 23) (t := 38) (b := true) (by kernel_rfl) (by kernel_rfl) (by kernel_rfl)) (by kernel_rfl) (by kernel_rfl) lp (keepK_P [some 0, some 1, some 2] (by kernel_rfl)) (q_load1 b_s 0 2 (by kernel_rfl) (by kernel_rfl) (by kernel_rfl)) ?_
          refine wpa_take0 30 [true, true, true, true, true, true, true, true, true, true, true, true, true, true, true, true, true, true, true, true, true, true, true, true, true, true, true, true, true, true, true, false, false] 45 (.call { callee := .builtin .len, args := #[(.tmp 44)], argTypes := #[26] }) 3 (Value.int .i64 ((((s.pieces).length : Nat) : Int))) RG (Runs.guarded (j := 23) (t := 38) (b := true) (by kernel_rfl) (by kernel_rfl) (by kernel_rfl)) (by kernel_rfl) (by kernel_rfl) (fun _ => (y_pure (by kernel_rfl) (fun _ => by kernel_rfl))) ?_
          refine wpa_take0 31 [true, true, true, true, true, true, true, true, true, true, true, true, true, true, true, true, true, true, true, true, true, true, true, true, true, true, true, true, true, true, true, true, false] 46 (.binOp .lss 3 (.tmp 40) (.tmp 45) 3) 4 (Value.bool (decide (w.have_ < (((s.pieces).length : Nat) : Int)))) RG (Runs.guarded (j := 23) (t := 38) (b := true) (by kernel_rfl) (by kernel_rfl) (by kernel_rfl)) (by kernel_rfl) (by kernel_rfl) (fun _ => (y_pure (by kernel_rfl) (fun _ => by kernel_rfl))) ?_
          refine wpa_take0 32 [true, true, true, true, true, true, true, true, true, true, true, true, true, true, true, true, true, true, true, true, true, true, true, true, true, true, true, true, true, true, true, true, true] 47 (.pick (.tmp 38) (.tmp 46) (.const (Value.bool (false)))) 4 (Value.bool (decide (w.have_ < (((s.pieces).length : Nat) : Int)))) RG (Runs.plain (by kernel_rfl)) (by kernel_rfl) (by kernel_rfl) (fun _ => (y_pickT (by kernel_rfl) (by kernel_rfl))) ?_
          refine wpq_re 47 (v := Value.bool (decide (w.have_ < (((s.pieces).length : Nat) : Int)))) (Value.bool ((((decide ((((s.pieces).length : Nat) : Int) > 0) && (w.base == (List.getD s.pieces 0 default).base)) && decide (w.have_ ≥ 0)) && decide (w.have_ < (((s.pieces).length : Nat) : Int))))) (by kernel_rfl) (re_and1 q6) ?_
          exact wpq_sub _ (by kernel_rfl) hk23
        · refine wpa_takeSkip0 24 [true, true, true, true, true, true, true, true, true, true, true, true, true, true, true, true, true, true, true, true, true, true, true, true, true, false, false, false, false, false, false, false, false] 39 RG (Skips.mk' (j := 23) (t := 38) (b := true) (by kernel_rfl) (by kernel_rfl) (by kernel_rfl)) (by kernel_rfl) (by kernel_rfl) ?_
          refine wpa_takeSkip0 25 [true, true, true, true, true, true, true, true, true, true, true, true, true, true, true, true, true, true, true, true, true, true, true, true, true, true, false, false, false, false, false, false, false] 40 RG (Skips.mk' (j := 23) (t := 38) (b := true) (by kernel_rfl) (by kernel_rfl) (by kernel_rfl)) (by kernel_rfl) (by kernel_rfl) ?_
          refine wpa_takeSkip0 26 [true, true, true, true, true, true, true, true, true, true, true, true, true, true, true, true, true, true, true, true, true, true, true, true, true, true, true, false, false, false, false, false, false] 41 RG (Skips.mk' (j := 23) (t := 38) (b := true) (by kernel_rfl) (by kernel_rfl) (by kernel_rfl)) (by kernel_rfl) (by kernel_rfl) ?_
          refine wpa_takeSkip0 27 [true, true, true, true, true, true, true, true, true, true, true, true, true, true, true, true, true, true, true, true, true, true, true, true, true, true, true, true, false, false, false, false, false] 42 RG (Skips.mk' (j := 23) (t := 38) (b := true) (by kernel_rfl) (by kernel_rfl) (by kernel_rfl)) (by kernel_rfl) (by kernel_rfl) ?_
          refine wpa_takeSkip0 28 [true, true, true, true, true, true, true, true, true, true, true, true, true, true, true, true, true, true, true, true, true, true, true, true, true, true, true, true, true, false, false, false, false] 43 RG (Skips.mk' (j := 23) (t := 38) (b := true) (by kernel_rfl) (by kernel_rfl) (by kernel_rfl)) (by kernel_rfl) (by kernel_rfl) ?_
          refine wpa_takeSkip0 29 [true, true, true, true, true, true, true, true, true, true, true, true, true, true, true, true, true, true, true, true, true, true, true, true, true, true, true, true, true, true, false, false, false] 44 RG (Skips.mk' (j := 23) (t := 38) (b := true) (by kernel_rfl) (by kernel_rfl) (by kernel_rfl)) (by kernel_rfl) (by kernel_rfl) ?_
          refine wpa_takeSkip0 30 [true, true, true, true, true, true, true, true, true, true, true, true, true, true, true, true, true, true, true, true, true, true, true, true, true, true, true, true, true, true, true, false, false] 45 RG (Skips.mk' (j := 23) (t := 38) (b := true) (by kernel_rfl) (by kernel_rfl) (by kernel_rfl)) (by kernel_rfl) (by kernel_rfl) ?_
          refine wpa_takeSkip0 31 [true, true, true, true, true, true, true, true, true, true, true, true, true, true, true, true, true, true, true, true, true, true, true, true, true, true, true, true, true, true, true, true, false] 46 RG (Skips.mk' (j := 23) (t := 38) (b := true) (by kernel_rfl) (by kernel_rfl) (by kernel_rfl)) (by kernel_rfl) (by kernel_rfl) ?_
          refine wpa_take0 32 [true, true, true, true, true, true, true, true, true, true, true, true, true, true, true, true, true, true, true, true, true, true, true, true, true, true, true, true, true, true, true, true, true] 47 (.pick (.tmp 38) (.tmp 46) (.const (Value.bool (false)))) 4 (Value.bool (false)) RG (Runs.plain (by kernel_rfl)) (by kernel_rfl) (by kernel_rfl) (fun _ => (y_pickF (by kernel_rfl) (by kernel_rfl))) ?_
          refine wpq_re 47 (v := Value.bool (false)) (Value.bool ((((decide ((((s.pieces).length : Nat) : Int) > 0) && (w.base == (List.getD s.pieces 0 default).base)) && decide (w.have_ ≥ 0)) && decide (w.have_ < (((s.pieces).length : Nat) : Int))))) (by kernel_rfl) (re_and0 q6) ?_
          exact wpq_sub _ (by kernel_rfl) hk23
      · refine wpa_done (by kernel_rfl) ?_
        refine wpq_then ?_
        -- condition 0
        refine wpc_cond (x := F22_16) (y := F22_17) (o := (.tmp 47)) (b := (((decide ((((s.pieces).length : Nat) : Int) > 0) && (w.base == (List.getD s.pieces 0 default).base)) && decide (w.have_ ≥ 0)) && decide (w.have_ < (((s.pieces).length : Nat) : Int)))) (by kernel_rfl) (by kernel_rfl) (fun h0 => ?_) (fun h0 => ?_)
        · have h0l := (and_true_ h0).1
          have h0r := (and_true_ h0).2
          have h0ll := (and_true_ h0l).1
          have h0lr := (and_true_ h0l).2
          have h0lll := (and_true_ h0ll).1
          have h0llr := (and_true_ h0ll).2
          have h0lllp := of_decide_eq_true h0lll
          have h0llrp : w.base = (List.getD s.pieces 0 default).base := eq_of_beq h0llr
          have h0lrp := of_decide_eq_true h0lr
          have h0rp := of_decide_eq_true h0r
          refine wpc_seq (x := F22_18) (y := F22_19) (by kernel_rfl) ?_
          refine wpa_start (ops := R22_18) (id := 4) (by kernel_rfl) (by kernel_rfl) [3, 5, 7] [9, 10] [some ⟨b1, 55, [Value.int .i64 (w.base), Value.int .i64 (w.have_)]⟩, some ⟨b_s, 107, [Value.slice As_pieces (s.pieces).length cs_pieces]⟩] (by kernel_rfl) (by kernel_rfl) (fun _ _ _ _ _ h => h) 11 (by kernel_rfl) (fun RG => ?_)
          have lp := Psi.le.refl g.r
          refine wpa_take0 0 [true, false, false, false, false, false, false, false, false, false, false] 48 (.move (.tmp 0)) 50 (Value.pointer (some ⟨b_s, 0, none⟩)) RG (Runs.plain (by kernel_rfl)) (by kernel_rfl) (by kernel_rfl) (fun _ => (y_move (by kernel_rfl))) ?_
          refine wpa_take0 1 [true, true, false, false, false, false, false, false, false, false, false] 49 (.nilCheck (.tmp 48)) 0 (Value.pointer (some ⟨b_s, 0, none⟩)) RG (Runs.plain (by kernel_rfl)) (by kernel_rfl) (by kernel_rfl) (fun _ => (y_pure (by kernel_rfl) (fun _ => by kernel_rfl))) ?_
          refine wpa_take0 2 [true, true, true, false, false, false, false, false, false, false, false] 50 (.fieldAddr 107 (.tmp 49) 0) 0 (Value.pointer (some ⟨b_s, 0, none⟩)) RG (Runs.plain (by kernel_rfl)) (by kernel_rfl) (by kernel_rfl) (fun _ => (y_pure (by kernel_rfl) (fun _ => by kernel_rfl))) ?_
          refine wpa_take 3 [true, true, true, true, false, false, false, false, false, false, false] 51 (.load 26 (.tmp 50)) 26 (Value.slice As_pieces (s.pieces).length cs_pieces) RG (Runs.plain (by kernel_rfl)) (by kernel_rfl) (by kernel_rfl) lp (keepK_P [some 1, some 2] (by kernel_rfl)) (q_load1 b_s 0 1 (by kernel_rfl) (by kernel_rfl) (by kernel_rfl)) ?_
          refine wpa_take0 4 [true, true, true, true, true, false, false, false, false, false, false] 52 (.fieldAddr 55 (.tmp 5) 1) 0 (Value.pointer (some ⟨b1, 1, none⟩)) RG (Runs.plain (by kernel_rfl)) (by kernel_rfl) (by kernel_rfl) (fun _ => (y_pure (by kernel_rfl) (fun _ => by kernel_rfl))) ?_
          refine wpa_take 5 [true, true, true, true, true, true, false, false, false, false, false] 53 (.load 3 (.tmp 52)) 3 (Value.int .i64 (w.have_)) RG (Runs.plain (by kernel_rfl)) (by kernel_rfl) (by kernel_rfl) lp (keepK_P [some 1, some 2] (by kernel_rfl)) (q_load1 b1 1 0 (by kernel_rfl) (by kernel_rfl) (by kernel_rfl)) ?_
          have hi7 : (w.have_).toNat < (s.pieces).length := by omega
          obtain ⟨ad7, cs7, hA7, hr7, hc7⟩ := fs_pieces.at_ (get_getD (d := default) hi7)
          obtain ⟨A7_data, c7_data, rfl, f7_data⟩ := hr7
          have nf7_data := f7_data.len
          refine wpa_take0 6 [true, true, true, true, true, true, true, false, false, false, false] 54 (.indexAddr 26 (.tmp 51) (.tmp 53)) 0 (Value.pointer (some (Addr.add ad7 ((w.have_).toNat * 4)))) RG (Runs.plain (by kernel_rfl)) (by kernel_rfl) (by kernel_rfl) (fun _ => (q_index (e := 37) (sz := 4) (len := (s.pieces).length) (c := cs_pieces) (w.have_).toNat (A := ad7) (k := .i64) (z := w.have_) hA7 (by kernel_rfl) (by kernel_rfl) (by omega) hi7 (by kernel_rfl) (by kernel_rfl))) ?_
          refine wpa_take 7 [true, true, true, true, true, true, true, true, false, false, false] 55 (.load 37 (.tmp 54)) 37 (Value.agg #[Value.int .i64 ((List.getD s.pieces (w.have_).toNat default).base), Value.int .i64 ((List.getD s.pieces (w.have_).toNat default).index), Value.int .i64 ((List.getD s.pieces (w.have_).toNat default).count), Value.slice A7_data ((List.getD s.pieces (w.have_).toNat default).data).length c7_data]) RG (Runs.plain (by kernel_rfl)) (by kernel_rfl) (by kernel_rfl) lp (keepK_P [some 1, some 2] (by kernel_rfl)) (q_loadPA (Addr.add ad7 ((w.have_).toNat * 4)) 0 [Value.int .i64 ((List.getD s.pieces (w.have_).toNat default).base), Value.int .i64 ((List.getD s.pieces (w.have_).toNat default).index), Value.int .i64 ((List.getD s.pieces (w.have_).toNat default).count), Value.slice A7_data ((List.getD s.pieces (w.have_).toNat default).data).length c7_data] (by kernel_rfl) (hc7.mono g.br) (by kernel_rfl) (by kernel_rfl)) ?_
          refine wpa_one 8 (by kernel_rfl) ?_
          refine wpi_eff [true, true, true, true, true, true, true, true, true, false, false] 56 (.call { callee := .value (.func 45), args := #[(.tmp 55)], argTypes := #[37] }) 37 (Runs.plain (by kernel_rfl)) (by kernel_rfl) lp (e_call [Value.agg #[Value.int .i64 ((List.getD s.pieces (w.have_).toNat default).base), Value.int .i64 ((List.getD s.pieces (w.have_).toNat default).index), Value.int .i64 ((List.getD s.pieces (w.have_).toNat default).count), Value.slice A7_data ((List.getD s.pieces (w.have_).toNat default).data).length c7_data]] (by kernel_rfl) (by kernel_rfl) (fun g' lr eb ln => c45 g' (List.getD s.pieces (w.have_).toNat default) A7_data c7_data ((f7_data.mono g.br).mono lr))) (by kernel_rfl) ?_
          rintro _ g9 _ le10 ⟨rfl, A8_0_data, c8_0_data, rfl, f8_0_data⟩
          refine ⟨.inr (keepK_P [some 1, some 2] (by kernel_rfl)), ?_⟩
          have fs_pieces := fs_pieces.mono le10.b
          have fsave := fsave.mono le10.r
          have hc7 := hc7.mono le10.b
          have f7_data := f7_data.mono le10.b
          have L0 := L0.trans le10
          have lp := lp.trans le10.r
          have nf8_0_data := f8_0_data.len
          refine wpa_one 9 (by kernel_rfl) ?_
          refine wpi_do [true, true, true, true, true, true, true, true, true, true, false] (.store 37 (.tmp 8) (.tmp 56)) 0 (Runs.plain (by kernel_rfl)) lp (q_store b2 0 0 (Value.agg #[Value.int .i64 ((copiedS (List.getD s.pieces (w.have_).toNat default)).base), Value.int .i64 ((copiedS (List.getD s.pieces (w.have_).toNat default)).index), Value.int .i64 ((copiedS (List.getD s.pieces (w.have_).toNat default)).count), Value.slice A8_0_data ((copiedS (List.getD s.pieces (w.have_).toNat default)).data).length c8_0_data]) [Value.int .i64 ((copiedS (List.getD s.pieces (w.have_).toNat default)).base), Value.int .i64 ((copiedS (List.getD s.pieces (w.have_).toNat default)).index), Value.int .i64 ((copiedS (List.getD s.pieces (w.have_).toNat default)).count), Value.slice A8_0_data ((copiedS (List.getD s.pieces (w.have_).toNat default)).data).length c8_0_data] 37 [Value.int .i64 (0), Value.int .i64 (0), Value.int .i64 (0), Value.slice none 0 0] [Value.int .i64 ((copiedS (List.getD s.pieces (w.have_).toNat default)).base), Value.int .i64 ((copiedS (List.getD s.pieces (w.have_).toNat default)).index), Value.int .i64 ((copiedS (List.getD s.pieces (w.have_).toNat default)).count), Value.slice A8_0_data ((copiedS (List.getD s.pieces (w.have_).toNat default)).data).length c8_0_data] (by kernel_rfl) (by kernel_rfl) (by kernel_rfl) (by kernel_rfl) (by kernel_rfl) (by kernel_rfl) (by kernel_rfl)) (by kernel_rfl) ?_
          rintro _ _ _ - ⟨rfl, rfl⟩
          refine ⟨.inl (by kernel_rfl), ?_⟩
          refine wpa_take0 10 [true, true, true, true, true, true, true, true, true, true, true] 9 (.assign (.const (Value.int .i64 (0)))) 27 (Value.int .i64 (0)) RG (Runs.plain (by kernel_rfl)) (by kernel_rfl) (by kernel_rfl) (fun _ => (y_assign (by kernel_rfl))) ?_
          refine wpa_done (by kernel_rfl) ?_
          refine wpq_then ?_
          refine wpq_sub [(8, Value.pointer (some ⟨b2, 0, none⟩)), (9, Value.int .i64 (0))] (by kernel_rfl) ?_
          refine wpc_ret (rs := [.cell 8 37, .tmp 9]) [Value.agg #[Value.int .i64 ((copiedS (List.getD s.pieces (w.have_).toNat default)).base), Value.int .i64 ((copiedS (List.getD s.pieces (w.have_).toNat default)).index), Value.int .i64 ((copiedS (List.getD s.pieces (w.have_).toNat default)).count), Value.slice A8_0_data ((copiedS (List.getD s.pieces (w.have_).toNat default)).data).length c8_0_data], Value.int .i64 (0)] [some ⟨b_s, 107, [Value.slice As_pieces (s.pieces).length cs_pieces]⟩] (by kernel_rfl) (fun _ _ h => h) (by kernel_rfl) (rq_cellA b2 0 0 [Value.int .i64 ((copiedS (List.getD s.pieces (w.have_).toNat default)).base), Value.int .i64 ((copiedS (List.getD s.pieces (w.have_).toNat default)).index), Value.int .i64 ((copiedS (List.getD s.pieces (w.have_).toNat default)).count), Value.slice A8_0_data ((copiedS (List.getD s.pieces (w.have_).toNat default)).data).length c8_0_data] (by kernel_rfl) (by kernel_rfl) (by kernel_rfl) (res_tmp (by kernel_rfl) res_nil)) L0 (keepP [some 2] (by kernel_rfl) (by kernel_rfl)) ?_
          have eS : (serveS s w steps save) = (s, (copiedS (List.getD s.pieces (w.have_).toNat default)), (0 : Int)) := by
            unfold serveS
            rw [h0]
            rfl
          rw [eS]
          exact ⟨As_pieces, cs_pieces, A8_0_data, c8_0_data, rfl, rfl, fs_pieces, f8_0_data⟩
        · refine wpc_skip (by kernel_rfl) ?_
          refine wpq_then ?_
          refine wpc_seq (x := F22_21) (y := F22_22) (by kernel_rfl) ?_
          refine wpc_region (ops := R22_21) (id := 5) (by kernel_rfl) ?_
          refine wpr_val 1 58 (.move (.tmp 2)) 2 (Value.int .i64 (steps)) (Runs.plain (by kernel_rfl)) (by kernel_rfl) (y_move (by kernel_rfl)) ?_
          refine wpr_val 2 59 (.move (.tmp 3)) 22 (Value.slice Asave (save).length csave) (Runs.plain (by kernel_rfl)) (by kernel_rfl) (y_move (by kernel_rfl)) ?_
          refine wpr_eff 3 60 (.call { callee := .value (.func 12), args := #[(.tmp 58), (.tmp 59)], argTypes := #[2, 22] }) 28 (Runs.plain (by kernel_rfl)) (by kernel_rfl) (e_call [Value.int .i64 (steps), Value.slice Asave (save).length csave] (by kernel_rfl) (by kernel_rfl) (fun g' lr eb ln => c12 g' (steps : Int) (save : List UInt8) Asave csave (fsave.mono lr))) ?_
          rintro _ g12 _ le13 ⟨rfl, A11_0, c11_0, rfl, f11_0⟩
          have fs_pieces := fs_pieces.mono le13.b
          have fsave := fsave.mono le13.r
          have L0 := L0.trans le13
          have nf11_0 := f11_0.len
          refine wpr_val 4 57 (.move (.tmp 60)) 28 (Value.tuple #[Value.slice A11_0 ((splitS (steps : Int) (save : List UInt8)).1).length c11_0, Value.int .i64 ((splitS (steps : Int) (save : List UInt8)).2)]) (Runs.plain (by kernel_rfl)) (by kernel_rfl) (y_move (by kernel_rfl)) ?_
          refine wpr_val 5 61 (.extract (.tmp 57) 0) 26 (Value.slice A11_0 ((splitS (steps : Int) (save : List UInt8)).1).length c11_0) (Runs.plain (by kernel_rfl)) (by kernel_rfl) (y_pure (by kernel_rfl) (fun _ => by kernel_rfl)) ?_
          refine wpr_val 6 62 (.extract (.tmp 57) 1) 27 (Value.int .i64 ((splitS (steps : Int) (save : List UInt8)).2)) (Runs.plain (by kernel_rfl)) (by kernel_rfl) (y_pure (by kernel_rfl) (fun _ => by kernel_rfl)) ?_
          refine wpr_val 7 10 (.assign (.tmp 61)) 26 (Value.slice A11_0 ((splitS (steps : Int) (save : List UInt8)).1).length c11_0) (Runs.plain (by kernel_rfl)) (by kernel_rfl) (y_assign (by kernel_rfl)) ?_
          refine wpr_val 8 11 (.assign (.tmp 62)) 27 (Value.int .i64 ((splitS (steps : Int) (save : List UInt8)).2)) (Runs.plain (by kernel_rfl)) (by kernel_rfl) (y_assign (by kernel_rfl)) ?_
          refine wpr_end (by kernel_rfl) ?_
          refine wpq_then ?_
          refine wpq_sub [(0, Value.pointer (some ⟨b_s, 0, none⟩)), (8, Value.pointer (some ⟨b2, 0, none⟩)), (10, Value.slice A11_0 ((splitS (steps : Int) (save : List UInt8)).1).length c11_0), (11, Value.int .i64 ((splitS (steps : Int) (save : List UInt8)).2))] (by kernel_rfl) ?_
          refine wpc_seq (x := F22_24) (y := F22_25) (by kernel_rfl) ?_
          refine wpc_seq (x := F22_26) (y := F22_27) (by kernel_rfl) ?_
          refine wpc_region (ops := R22_26) (id := 6) (by kernel_rfl) ?_
          refine wpr_val 1 63 (.move (.tmp 11)) 27 (Value.int .i64 ((splitS (steps : Int) (save : List UInt8)).2)) (Runs.plain (by kernel_rfl)) (by kernel_rfl) (y_move (by kernel_rfl)) ?_
          refine wpr_val 2 64 (.binOp .neq 27 (.tmp 63) (.const (Value.int .i64 (0))) 27) 4 (Value.bool (((splitS (steps : Int) (save : List UInt8)).2 != 0))) (Runs.plain (by kernel_rfl)) (by kernel_rfl) (y_pure (by kernel_rfl) (fun _ => by kernel_rfl)) ?_
          refine wpr_end (by kernel_rfl) ?_
          refine wpq_then ?_
          -- condition 1
          refine wpc_cond (x := F22_29) (y := F22_30) (o := (.tmp 64)) (b := ((splitS (steps : Int) (save : List UInt8)).2 != 0)) (by kernel_rfl) (by kernel_rfl) (fun h1 => ?_) (fun h1 => ?_)
          · have h1p : ¬ ((splitS (steps : Int) (save : List UInt8)).2 = 0) := ne_of_bne_ h1
            refine wpc_seq (x := F22_31) (y := F22_32) (by kernel_rfl) ?_
            refine wpc_region (ops := R22_31) (id := 7) (by kernel_rfl) ?_
            refine wpr_val 1 65 (.build 37 #[]) 37 (Value.agg #[Value.int .i64 (0), Value.int .i64 (0), Value.int .i64 (0), Value.slice none 0 0]) (Runs.plain (by kernel_rfl)) (by kernel_rfl) (y_pure (by kernel_rfl) (fun _ => by kernel_rfl)) ?_
            refine wpr_val 2 66 (.move (.tmp 11)) 27 (Value.int .i64 ((splitS (steps : Int) (save : List UInt8)).2)) (Runs.plain (by kernel_rfl)) (by kernel_rfl) (y_move (by kernel_rfl)) ?_
            refine wpr_do 3 (.store 37 (.tmp 8) (.tmp 65)) 0 (Runs.plain (by kernel_rfl)) (by kernel_rfl) (q_store b2 0 0 (Value.agg #[Value.int .i64 (0), Value.int .i64 (0), Value.int .i64 (0), Value.slice none 0 0]) [Value.int .i64 (0), Value.int .i64 (0), Value.int .i64 (0), Value.slice none 0 0] 37 [Value.int .i64 (0), Value.int .i64 (0), Value.int .i64 (0), Value.slice none 0 0] [Value.int .i64 (0), Value.int .i64 (0), Value.int .i64 (0), Value.slice none 0 0] (by kernel_rfl) (by kernel_rfl) (by kernel_rfl) (by kernel_rfl) (by kernel_rfl) (by kernel_rfl) (by kernel_rfl)) ?_
            rintro _ _ _ - ⟨rfl, rfl⟩
            refine wpr_val 4 9 (.assign (.tmp 66)) 27 (Value.int .i64 ((splitS (steps : Int) (save : List UInt8)).2)) (Runs.plain (by kernel_rfl)) (by kernel_rfl) (y_assign (by kernel_rfl)) ?_
            refine wpr_end (by kernel_rfl) ?_
            refine wpq_then ?_
            refine wpq_sub [(8, Value.pointer (some ⟨b2, 0, none⟩)), (9, Value.int .i64 ((splitS (steps : Int) (save : List UInt8)).2))] (by kernel_rfl) ?_
            refine wpc_ret (rs := [.cell 8 37, .tmp 9]) [Value.agg #[Value.int .i64 (0), Value.int .i64 (0), Value.int .i64 (0), Value.slice none 0 0], Value.int .i64 ((splitS (steps : Int) (save : List UInt8)).2)] [some ⟨b_s, 107, [Value.slice As_pieces (s.pieces).length cs_pieces]⟩] (by kernel_rfl) (fun _ _ h => h) (by kernel_rfl) (rq_cellA b2 0 0 [Value.int .i64 (0), Value.int .i64 (0), Value.int .i64 (0), Value.slice none 0 0] (by kernel_rfl) (by kernel_rfl) (by kernel_rfl) (res_tmp (by kernel_rfl) res_nil)) L0 (keepP [some 2] (by kernel_rfl) (by kernel_rfl)) ?_
            have eS : (serveS s w steps save) = (s, (⟨(0 : Int), (0 : Int), (0 : Int), ([] : List UInt8)⟩ : Piece), ((splitS (steps : Int) (save : List UInt8)).2 : Int)) := by
              unfold serveS
              rw [h0]
              rw [h1]
              rfl
            rw [eS]
            exact ⟨As_pieces, cs_pieces, none, 0, rfl, rfl, fs_pieces, Arr.nil⟩
          · have h1p : (splitS (steps : Int) (save : List UInt8)).2 = 0 := eq_of_bne_false_ h1
            refine wpc_skip (by kernel_rfl) ?_
            refine wpq_then ?_
            refine wpc_seq (x := F22_34) (y := F22_35) (by kernel_rfl) ?_
            refine wpc_region (ops := R22_34) (id := 8) (by kernel_rfl) ?_
            refine wpr_val 1 67 (.move (.tmp 0)) 50 (Value.pointer (some ⟨b_s, 0, none⟩)) (Runs.plain (by kernel_rfl)) (by kernel_rfl) (y_move (by kernel_rfl)) ?_
            refine wpr_val 2 68 (.move (.tmp 10)) 26 (Value.slice A11_0 ((splitS (steps : Int) (save : List UInt8)).1).length c11_0) (Runs.plain (by kernel_rfl)) (by kernel_rfl) (y_move (by kernel_rfl)) ?_
            refine wpr_val 3 69 (.nilCheck (.tmp 67)) 0 (Value.pointer (some ⟨b_s, 0, none⟩)) (Runs.plain (by kernel_rfl)) (by kernel_rfl) (y_pure (by kernel_rfl) (fun _ => by kernel_rfl)) ?_
            refine wpr_val 4 70 (.fieldAddr 107 (.tmp 69) 0) 0 (Value.pointer (some ⟨b_s, 0, none⟩)) (Runs.plain (by kernel_rfl)) (by kernel_rfl) (y_pure (by kernel_rfl) (fun _ => by kernel_rfl)) ?_
            refine wpr_do 5 (.store 26 (.tmp 70) (.tmp 68)) 0 (Runs.plain (by kernel_rfl)) (by kernel_rfl) (q_store b_s 0 2 (Value.slice A11_0 ((splitS (steps : Int) (save : List UInt8)).1).length c11_0) [Value.slice A11_0 ((splitS (steps : Int) (save : List UInt8)).1).length c11_0] 107 [Value.slice As_pieces (s.pieces).length cs_pieces] [Value.slice A11_0 ((splitS (steps : Int) (save : List UInt8)).1).length c11_0] (by kernel_rfl) (by kernel_rfl) (by kernel_rfl) (by kernel_rfl) (by kernel_rfl) (by kernel_rfl) (by kernel_rfl)) ?_
            rintro _ _ _ - ⟨rfl, rfl⟩
            refine wpr_end (by kernel_rfl) ?_
            refine wpq_then ?_
            refine wpq_sub [(8, Value.pointer (some ⟨b2, 0, none⟩)), (10, Value.slice A11_0 ((splitS (steps : Int) (save : List UInt8)).1).length c11_0)] (by kernel_rfl) ?_
            refine wpc_seq (x := F22_37) (y := F22_38) (by kernel_rfl) ?_
            refine wpc_region (ops := R22_37) (id := 9) (by kernel_rfl) ?_
            refine wpr_val 1 71 (.move (.tmp 10)) 26 (Value.slice A11_0 ((splitS (steps : Int) (save : List UInt8)).1).length c11_0) (Runs.plain (by kernel_rfl)) (by kernel_rfl) (y_move (by kernel_rfl)) ?_
            have hi14 : 0 < ((splitS (steps : Int) (save : List UInt8)).1).length := by have := splitS_ne h1p; omega
            obtain ⟨ad14, cs14, hA14, hr14, hc14⟩ := f11_0.at_ (get_getD (d := default) hi14)
            obtain ⟨A14_data, c14_data, rfl, f14_data⟩ := hr14
            have nf14_data := f14_data.len
            refine wpr_val 2 72 (.indexAddr 26 (.tmp 71) (.const (Value.int .i64 (0)))) 0 (Value.pointer (some (Addr.add ad14 (0 * 4)))) (Runs.plain (by kernel_rfl)) (by kernel_rfl) (q_index (e := 37) (sz := 4) (len := ((splitS (steps : Int) (save : List UInt8)).1).length) (c := c11_0) 0 (A := ad14) (k := .i64) (z := 0) hA14 (by kernel_rfl) (by kernel_rfl) rfl hi14 (by kernel_rfl) (by kernel_rfl)) ?_
            refine wpr_val 3 73 (.load 37 (.tmp 72)) 37 (Value.agg #[Value.int .i64 ((List.getD (splitS (steps : Int) (save : List UInt8)).1 0 default).base), Value.int .i64 ((List.getD (splitS (steps : Int) (save : List UInt8)).1 0 default).index), Value.int .i64 ((List.getD (splitS (steps : Int) (save : List UInt8)).1 0 default).count), Value.slice A14_data ((List.getD (splitS (steps : Int) (save : List UInt8)).1 0 default).data).length c14_data]) (Runs.plain (by kernel_rfl)) (by kernel_rfl) (q_loadPA (Addr.add ad14 (0 * 4)) 0 [Value.int .i64 ((List.getD (splitS (steps : Int) (save : List UInt8)).1 0 default).base), Value.int .i64 ((List.getD (splitS (steps : Int) (save : List UInt8)).1 0 default).index), Value.int .i64 ((List.getD (splitS (steps : Int) (save : List UInt8)).1 0 default).count), Value.slice A14_data ((List.getD (splitS (steps : Int) (save : List UInt8)).1 0 default).data).length c14_data] (by kernel_rfl) (hc14.mono g12.br) (by kernel_rfl) (by kernel_rfl)) ?_
            refine wpr_eff 4 74 (.call { callee := .value (.func 45), args := #[(.tmp 73)], argTypes := #[37] }) 37 (Runs.plain (by kernel_rfl)) (by kernel_rfl) (e_call [Value.agg #[Value.int .i64 ((List.getD (splitS (steps : Int) (save : List UInt8)).1 0 default).base), Value.int .i64 ((List.getD (splitS (steps : Int) (save : List UInt8)).1 0 default).index), Value.int .i64 ((List.getD (splitS (steps : Int) (save : List UInt8)).1 0 default).count), Value.slice A14_data ((List.getD (splitS (steps : Int) (save : List UInt8)).1 0 default).data).length c14_data]] (by kernel_rfl) (by kernel_rfl) (fun g' lr eb ln => c45 g' (List.getD (splitS (steps : Int) (save : List UInt8)).1 0 default) A14_data c14_data ((f14_data.mono g12.br).mono lr))) ?_
            rintro _ g16 _ le17 ⟨rfl, A15_0_data, c15_0_data, rfl, f15_0_data⟩
            have fs_pieces := fs_pieces.mono le17.b
            have fsave := fsave.mono le17.r
            have f11_0 := f11_0.mono le17.b
            have hc14 := hc14.mono le17.b
            have f14_data := f14_data.mono le17.b
            have L0 := L0.trans le17
            have nf15_0_data := f15_0_data.len
            refine wpr_do 5 (.store 37 (.tmp 8) (.tmp 74)) 0 (Runs.plain (by kernel_rfl)) (by kernel_rfl) (q_store b2 0 0 (Value.agg #[Value.int .i64 ((copiedS (List.getD (splitS (steps : Int) (save : List UInt8)).1 0 default)).base), Value.int .i64 ((copiedS (List.getD (splitS (steps : Int) (save : List UInt8)).1 0 default)).index), Value.int .i64 ((copiedS (List.getD (splitS (steps : Int) (save : List UInt8)).1 0 default)).count), Value.slice A15_0_data ((copiedS (List.getD (splitS (steps : Int) (save : List UInt8)).1 0 default)).data).length c15_0_data]) [Value.int .i64 ((copiedS (List.getD (splitS (steps : Int) (save : List UInt8)).1 0 default)).base), Value.int .i64 ((copiedS (List.getD (splitS (steps : Int) (save : List UInt8)).1 0 default)).index), Value.int .i64 ((copiedS (List.getD (splitS (steps : Int) (save : List UInt8)).1 0 default)).count), Value.slice A15_0_data ((copiedS (List.getD (splitS (steps : Int) (save : List UInt8)).1 0 default)).data).length c15_0_data] 37 [Value.int .i64 (0), Value.int .i64 (0), Value.int .i64 (0), Value.slice none 0 0] [Value.int .i64 ((copiedS (List.getD (splitS (steps : Int) (save : List UInt8)).1 0 default)).base), Value.int .i64 ((copiedS (List.getD (splitS (steps : Int) (save : List UInt8)).1 0 default)).index), Value.int .i64 ((copiedS (List.getD (splitS (steps : Int) (save : List UInt8)).1 0 default)).count), Value.slice A15_0_data ((copiedS (List.getD (splitS (steps : Int) (save : List UInt8)).1 0 default)).data).length c15_0_data] (by kernel_rfl) (by kernel_rfl) (by kernel_rfl) (by kernel_rfl) (by kernel_rfl) (by kernel_rfl) (by kernel_rfl)) ?_
            rintro _ _ _ - ⟨rfl, rfl⟩
            refine wpr_val 6 9 (.assign (.const (Value.int .i64 (0)))) 27 (Value.int .i64 (0)) (Runs.plain (by kernel_rfl)) (by kernel_rfl) (y_assign (by kernel_rfl)) ?_
            refine wpr_end (by kernel_rfl) ?_
            refine wpq_then ?_
            refine wpq_sub [(8, Value.pointer (some ⟨b2, 0, none⟩)), (9, Value.int .i64 (0))] (by kernel_rfl) ?_
            refine wpc_ret (rs := [.cell 8 37, .tmp 9]) [Value.agg #[Value.int .i64 ((copiedS (List.getD (splitS (steps : Int) (save : List UInt8)).1 0 default)).base), Value.int .i64 ((copiedS (List.getD (splitS (steps : Int) (save : List UInt8)).1 0 default)).index), Value.int .i64 ((copiedS (List.getD (splitS (steps : Int) (save : List UInt8)).1 0 default)).count), Value.slice A15_0_data ((copiedS (List.getD (splitS (steps : Int) (save : List UInt8)).1 0 default)).data).length c15_0_data], Value.int .i64 (0)] [some ⟨b_s, 107, [Value.slice A11_0 ((splitS (steps : Int) (save : List UInt8)).1).length c11_0]⟩] (by kernel_rfl) (fun _ _ h => h) (by kernel_rfl) (rq_cellA b2 0 0 [Value.int .i64 ((copiedS (List.getD (splitS (steps : Int) (save : List UInt8)).1 0 default)).base), Value.int .i64 ((copiedS (List.getD (splitS (steps : Int) (save : List UInt8)).1 0 default)).index), Value.int .i64 ((copiedS (List.getD (splitS (steps : Int) (save : List UInt8)).1 0 default)).count), Value.slice A15_0_data ((copiedS (List.getD (splitS (steps : Int) (save : List UInt8)).1 0 default)).data).length c15_0_data] (by kernel_rfl) (by kernel_rfl) (by kernel_rfl) (res_tmp (by kernel_rfl) res_nil)) L0 (keepP [some 2] (by kernel_rfl) (by kernel_rfl)) ?_
            have eS : (serveS s w steps save) = ((⟨((splitS (steps : Int) (save : List UInt8)).1 : List Piece)⟩ : Sender), (copiedS (List.getD (splitS (steps : Int) (save : List UInt8)).1 0 default)), (0 : Int)) := by
              unfold serveS
              rw [h0]
              rw [h1]
              rfl
            rw [eS]
            exact ⟨A11_0, c11_0, A15_0_data, c15_0_data, rfl, rfl, f11_0, f15_0_data⟩

noncomputable def F22n_0 : Code := sub (Try.f22.body.getD .skip) []
noncomputable def F22n_1 : Code := sub (Try.f22.body.getD .skip) [0]
noncomputable def F22n_2 : Code := sub (Try.f22.body.getD .skip) [1]
noncomputable def R22n_1 : Array Oper := regOf F22n_1
noncomputable def F22n_4 : Code := sub (Try.f22.body.getD .skip) [1, 0]
noncomputable def F22n_5 : Code := sub (Try.f22.body.getD .skip) [1, 1]
noncomputable def F22n_6 : Code := sub (Try.f22.body.getD .skip) [1, 0, 0]
noncomputable def F22n_7 : Code := sub (Try.f22.body.getD .skip) [1, 0, 1]
noncomputable def R22n_6 : Array Oper := regOf F22n_6
noncomputable def F22n_9 : Code := sub (Try.f22.body.getD .skip) [1, 0, 1, 0]
noncomputable def F22n_10 : Code := sub (Try.f22.body.getD .skip) [1, 0, 1, 1]
noncomputable def F22n_11 : Code := sub (Try.f22.body.getD .skip) [1, 0, 1, 0, 0]
noncomputable def F22n_12 : Code := sub (Try.f22.body.getD .skip) [1, 0, 1, 0, 1]
noncomputable def R22n_11 : Array Oper := regOf F22n_11
def serveN (w : Want) (steps : Int) (save : List UInt8) : Piece × Int :=
  ((⟨(0 : Int), (0 : Int), (0 : Int), ([] : List UInt8)⟩ : Piece), (1 : Int))
set_option maxRecDepth 100000 in
theorem c22n (g : Gh) (w : Want) (steps : Int) (save : List UInt8) (Asave : Option Addr) (csave : Nat) (fsave : Arr g.r tyU8 Asave csave save) :
    Ctr0 Try.prog 22 [Value.pointer none, Value.agg #[Value.int .i64 (w.base), Value.int .i64 (w.have_)], Value.int .i64 (steps), Value.slice Asave (save).length csave] g (fun v ψ => ∃ (Ar0_data : Option Addr) (cr0_data : Nat), v = Value.tuple #[Value.agg #[Value.int .i64 ((serveN w steps save).1.base), Value.int .i64 ((serveN w steps save).1.index), Value.int .i64 ((serveN w steps save).1.count), Value.slice Ar0_data ((serveN w steps save).1.data).length cr0_data], Value.int .i64 ((serveN w steps save).2)] ∧ Arr ψ tyU8 Ar0_data cr0_data (serveN w steps save).1.data) := by
  refine ctr_of Try.f22 F22n_0 75 [Value.pointer none, Value.agg #[Value.int .i64 (w.base), Value.int .i64 (w.have_)], Value.int .i64 (steps), Value.slice Asave (save).length csave] (by kernel_rfl) (by kernel_rfl) (by kernel_rfl) (by kernel_rfl) ?_
  have L0 := Gh.le.refl g
  have nfsave := fsave.len
  refine wpc_seq (x := F22n_1) (y := F22n_2) (by kernel_rfl) ?_
  refine wpc_region (ops := R22n_1) (id := 0) (by kernel_rfl) ?_
  refine wpr_eff 1 5 (.box 55 (.tmp 1)) 0 (Runs.plain (by kernel_rfl)) (by kernel_rfl) (e_box (v := Value.agg #[Value.int .i64 (w.base), Value.int .i64 (w.have_)]) (cs := [Value.int .i64 (w.base), Value.int .i64 (w.have_)]) (by kernel_rfl) (by kernel_rfl)) ?_
  rintro _ _ _ - ⟨b1, rfl, rfl, rfl⟩
  refine wpr_eff 2 8 (.alloc 37) 0 (Runs.plain (by kernel_rfl)) (by kernel_rfl) (e_alloc (cs := [Value.int .i64 (0), Value.int .i64 (0), Value.int .i64 (0), Value.slice none 0 0]) (by kernel_rfl)) ?_
  rintro _ _ _ - ⟨b2, rfl, rfl, rfl⟩
  refine wpr_val 3 9 (.assign (.const (Value.int .i64 (0)))) 27 (Value.int .i64 (0)) (Runs.plain (by kernel_rfl)) (by kernel_rfl) (y_assign (by kernel_rfl)) ?_
  refine wpr_end (by kernel_rfl) ?_
  refine wpq_then ?_
  refine wpc_seq (x := F22n_4) (y := F22n_5) (by kernel_rfl) ?_
  refine wpc_seq (x := F22n_6) (y := F22n_7) (by kernel_rfl) ?_
  refine wpc_region (ops := R22n_6) (id := 1) (by kernel_rfl) ?_
  refine wpr_val 1 12 (.move (.tmp 0)) 50 (Value.pointer none) (Runs.plain (by kernel_rfl)) (by kernel_rfl) (y_move (by kernel_rfl)) ?_
  refine wpr_val 2 13 (.binOp .eql 50 (.tmp 12) (.const (Value.pointer none)) 50) 4 (Value.bool (true)) (Runs.plain (by kernel_rfl)) (by kernel_rfl) (y_pure (by kernel_rfl) (fun _ => by kernel_rfl)) ?_
  refine wpr_end (by kernel_rfl) ?_
  refine wpq_then ?_
  refine wpc_true (x := F22n_9) (y := F22n_10) (o := (.tmp 13)) (by kernel_rfl) (by kernel_rfl) ?_
  refine wpc_seq (x := F22n_11) (y := F22n_12) (by kernel_rfl) ?_
  refine wpc_region (ops := R22n_11) (id := 2) (by kernel_rfl) ?_
  refine wpr_val 1 14 (.build 37 #[]) 37 (Value.agg #[Value.int .i64 (0), Value.int .i64 (0), Value.int .i64 (0), Value.slice none 0 0]) (Runs.plain (by kernel_rfl)) (by kernel_rfl) (y_pure (by kernel_rfl) (fun _ => by kernel_rfl)) ?_
  refine wpr_do 2 (.store 37 (.tmp 8) (.tmp 14)) 0 (Runs.plain (by kernel_rfl)) (by kernel_rfl) (q_store b2 0 0 (Value.agg #[Value.int .i64 (0), Value.int .i64 (0), Value.int .i64 (0), Value.slice none 0 0]) [Value.int .i64 (0), Value.int .i64 (0), Value.int .i64 (0), Value.slice none 0 0] 37 [Value.int .i64 (0), Value.int .i64 (0), Value.int .i64 (0), Value.slice none 0 0] [Value.int .i64 (0), Value.int .i64 (0), Value.int .i64 (0), Value.slice none 0 0] (by kernel_rfl) (by kernel_rfl) (by kernel_rfl) (by kernel_rfl) (by kernel_rfl) (by kernel_rfl) (by kernel_rfl)) ?_
  rintro _ _ _ - ⟨rfl, rfl⟩
  refine wpr_val 3 9 (.assign (.const (Value.int .i64 (1)))) 27 (Value.int .i64 (1)) (Runs.plain (by kernel_rfl)) (by kernel_rfl) (y_assign (by kernel_rfl)) ?_
  refine wpr_end (by kernel_rfl) ?_
  refine wpq_then ?_
  refine wpq_sub [(8, Value.pointer (some ⟨b2, 0, none⟩)), (9, Value.int .i64 (1))] (by kernel_rfl) ?_
  refine wpc_ret (rs := [.cell 8 37, .tmp 9]) [Value.agg #[Value.int .i64 (0), Value.int .i64 (0), Value.int .i64 (0), Value.slice none 0 0], Value.int .i64 (1)] [] (by kernel_rfl) (fun _ _ h => h) (by kernel_rfl) (rq_cellA b2 0 0 [Value.int .i64 (0), Value.int .i64 (0), Value.int .i64 (0), Value.slice none 0 0] (by kernel_rfl) (by kernel_rfl) (by kernel_rfl) (res_tmp (by kernel_rfl) res_nil)) L0 keep0 ?_
  have eS : (serveN w steps save) = ((⟨(0 : Int), (0 : Int), (0 : Int), ([] : List UInt8)⟩ : Piece), (1 : Int)) := by
    unfold serveN
    rfl
  rw [eS]
  exact ⟨rfl, none, 0, rfl, Arr.nil⟩

noncomputable def F21_0 : Code := sub (Try.f21.body.getD .skip) []
noncomputable def F21_1 : Code := sub (Try.f21.body.getD .skip) [0]
noncomputable def F21_2 : Code := sub (Try.f21.body.getD .skip) [1]
noncomputable def R21_1 : Array Oper := regOf F21_1
noncomputable def F21_4 : Code := sub (Try.f21.body.getD .skip) [1, 0]
noncomputable def F21_5 : Code := sub (Try.f21.body.getD .skip) [1, 1]
noncomputable def R21_4 : Array Oper := regOf F21_4
def resetS (s : Sender) : Sender :=
  (⟨([] : List Piece)⟩ : Sender)
set_option maxRecDepth 100000 in
theorem c21 (g : Gh) (b_s : Nat) (s : Sender) (As_pieces : Option Addr) (cs_pieces : Nat) (fs_pieces : Arr g.b tyPiece As_pieces cs_pieces s.pieces) :
    Ctr Try.prog 21 [Value.pointer (some ⟨b_s, 0, none⟩)] g [some ⟨b_s, 107, [Value.slice As_pieces (s.pieces).length cs_pieces]⟩] (fun v ψ o => ∃ (Ao_s_pieces : Option Addr) (co_s_pieces : Nat), v = Value.tuple #[] ∧ o = [some ⟨b_s, 107, [Value.slice Ao_s_pieces ((resetS s).pieces).length co_s_pieces]⟩] ∧ Arr ψ tyPiece Ao_s_pieces co_s_pieces (resetS s).pieces) := by
  refine ctr_of Try.f21 F21_0 7 [Value.pointer (some ⟨b_s, 0, none⟩)] (by kernel_rfl) (by kernel_rfl) (by kernel_rfl) (by kernel_rfl) ?_
  have L0 := Gh.le.refl g
  have nfs_pieces := fs_pieces.len
  refine wpc_seq (x := F21_1) (y := F21_2) (by kernel_rfl) ?_
  refine wpc_region (ops := R21_1) (id := 0) (by kernel_rfl) ?_
  refine wpr_val 1 2 (.move (.tmp 0)) 50 (Value.pointer (some ⟨b_s, 0, none⟩)) (Runs.plain (by kernel_rfl)) (by kernel_rfl) (y_move (by kernel_rfl)) ?_
  refine wpr_val 2 3 (.binOp .neq 50 (.tmp 2) (.const (Value.pointer none)) 50) 4 (Value.bool (true)) (Runs.plain (by kernel_rfl)) (by kernel_rfl) (y_pure (by kernel_rfl) (fun _ => by kernel_rfl)) ?_
  refine wpr_end (by kernel_rfl) ?_
  refine wpq_then ?_
  refine wpc_true (x := F21_4) (y := F21_5) (o := (.tmp 3)) (by kernel_rfl) (by kernel_rfl) ?_
  refine wpc_region (ops := R21_4) (id := 1) (by kernel_rfl) ?_
  refine wpr_val 1 4 (.move (.tmp 0)) 50 (Value.pointer (some ⟨b_s, 0, none⟩)) (Runs.plain (by kernel_rfl)) (by kernel_rfl) (y_move (by kernel_rfl)) ?_
  refine wpr_val 2 5 (.nilCheck (.tmp 4)) 0 (Value.pointer (some ⟨b_s, 0, none⟩)) (Runs.plain (by kernel_rfl)) (by kernel_rfl) (y_pure (by kernel_rfl) (fun _ => by kernel_rfl)) ?_
  refine wpr_val 3 6 (.fieldAddr 107 (.tmp 5) 0) 0 (Value.pointer (some ⟨b_s, 0, none⟩)) (Runs.plain (by kernel_rfl)) (by kernel_rfl) (y_pure (by kernel_rfl) (fun _ => by kernel_rfl)) ?_
  refine wpr_do 4 (.store 26 (.tmp 6) (.const (Value.slice none 0 0))) 0 (Runs.plain (by kernel_rfl)) (by kernel_rfl) (q_store b_s 0 0 (Value.slice none 0 0) [Value.slice none 0 0] 107 [Value.slice As_pieces (s.pieces).length cs_pieces] [Value.slice none 0 0] (by kernel_rfl) (by kernel_rfl) (by kernel_rfl) (by kernel_rfl) (by kernel_rfl) (by kernel_rfl) (by kernel_rfl)) ?_
  rintro _ _ _ - ⟨rfl, rfl⟩
  refine wpr_end (by kernel_rfl) ?_
  refine wpq_fin (rs := []) [] [some ⟨b_s, 107, [Value.slice none 0 0]⟩] (by kernel_rfl) res_nil L0 (keepP [some 0] (by kernel_rfl) (by kernel_rfl)) ?_
  have eS : (resetS s) = (⟨([] : List Piece)⟩ : Sender) := by
    unfold resetS
    rfl
  rw [eS]
  exact ⟨none, 0, rfl, rfl, Arr.nil⟩

noncomputable def F21n_0 : Code := sub (Try.f21.body.getD .skip) []
noncomputable def F21n_1 : Code := sub (Try.f21.body.getD .skip) [0]
noncomputable def F21n_2 : Code := sub (Try.f21.body.getD .skip) [1]
noncomputable def R21n_1 : Array Oper := regOf F21n_1
noncomputable def F21n_4 : Code := sub (Try.f21.body.getD .skip) [1, 0]
noncomputable def F21n_5 : Code := sub (Try.f21.body.getD .skip) [1, 1]
def resetN  : Unit :=
  ()
set_option maxRecDepth 100000 in
theorem c21n (g : Gh)  :
    Ctr0 Try.prog 21 [Value.pointer none] g (fun v ψ => v = Value.tuple #[]) := by
  refine ctr_of Try.f21 F21n_0 7 [Value.pointer none] (by kernel_rfl) (by kernel_rfl) (by kernel_rfl) (by kernel_rfl) ?_
  have L0 := Gh.le.refl g
  refine wpc_seq (x := F21n_1) (y := F21n_2) (by kernel_rfl) ?_
  refine wpc_region (ops := R21n_1) (id := 0) (by kernel_rfl) ?_
  refine wpr_val 1 2 (.move (.tmp 0)) 50 (Value.pointer none) (Runs.plain (by kernel_rfl)) (by kernel_rfl) (y_move (by kernel_rfl)) ?_
  refine wpr_val 2 3 (.binOp .neq 50 (.tmp 2) (.const (Value.pointer none)) 50) 4 (Value.bool (false)) (Runs.plain (by kernel_rfl)) (by kernel_rfl) (y_pure (by kernel_rfl) (fun _ => by kernel_rfl)) ?_
  refine wpr_end (by kernel_rfl) ?_
  refine wpq_then ?_
  refine wpc_false (x := F21n_4) (y := F21n_5) (o := (.tmp 3)) (by kernel_rfl) (by kernel_rfl) ?_
  refine wpc_skip (by kernel_rfl) ?_
  refine wpq_fin (rs := []) [] [] (by kernel_rfl) res_nil L0 keep0 ?_
  exact ⟨rfl, rfl⟩

end Go.Proofs.Ytolppdcaaoghgaa
