/-
Walks, printed by wip/gen. Conditions: each theorem's own.
-/
import Derived.Test.YtgnajpoebooafaaN1
namespace Go.Proofs.Ytgnajpoebooafaa
set_option linter.unusedVariables false
set_option linter.unusedSimpArgs false
open Go.RowKit
def o48 (n : Node) : Option (Node × Frame × Bool × Int) :=
  (cond ((n.number == 1)) (letJ (τ := Int) (o69 n (2 : Int)) fun y3 => (cond ((y3 != 0)) (some ((n, (⟨0, 0, 0, ([] : List UInt8)⟩ : Frame), (false), (y3 : Int)))) (cond ((n.role != 2)) (some ((({ n with next_ := 3 }), (⟨0, 0, 0, ([] : List UInt8)⟩ : Frame), (false), (0 : Int)))) (letJ (τ := Bool) (o72 ({ n with next_ := 3 })) fun y10 => (letJ (τ := Bool × (List UInt8)) (cond (y10) ((true, (n.heard.input : List UInt8))) ((false, ([] : List UInt8)))) fun t13 => (bindO (τ := (List UInt8) × Int) (o15 (n.input : List UInt8) (true) (t13.2 : List UInt8) (t13.1)) fun y16 => (bindO (τ := (List UInt8) × Int) (o31 ({ n with in_ := y16.1 })) fun y22 => (letJ (τ := Frame) (o70 ({ n with next_ := 3, set_ := { n with in_ := y16.1 } }) (2 : Int) (y22.1 : List UInt8)) fun y28 => (some ((({ n with next_ := 3, set_ := { n with in_ := y16.1 } }), y28, (true), (0 : Int)))))))))))) (grd ((n.number == 2)) (letJ (τ := Int) (o69 n (2 : Int)) fun y34 => (cond ((y34 != 0)) (some ((n, (⟨0, 0, 0, ([] : List UInt8)⟩ : Frame), (false), (y34 : Int)))) (cond ((n.role != 2)) (some ((({ n with next_ := 3 }), (⟨0, 0, 0, ([] : List UInt8)⟩ : Frame), (false), (0 : Int)))) (letJ (τ := Bool) (o72 ({ n with next_ := 3 })) fun y41 => (letJ (τ := Bool × (List UInt8)) (cond (y41) ((true, (n.heard.input : List UInt8))) ((false, ([] : List UInt8)))) fun t44 => (bindO (τ := (List UInt8) × Int) (o15 (t44.2 : List UInt8) (t44.1) (n.input : List UInt8) (true)) fun y47 => (bindO (τ := (List UInt8) × Int) (o31 ({ n with in_ := y47.1 })) fun y53 => (letJ (τ := Frame) (o70 ({ n with next_ := 3, set_ := { n with in_ := y47.1 } }) (2 : Int) (y53.1 : List UInt8)) fun y59 => (some ((({ n with next_ := 3, set_ := { n with in_ := y47.1 } }), y59, (true), (0 : Int))))))))))))))
set_option maxRecDepth 100000 in
theorem c48 (g : Gh) (b_n : Nat) (n : Node) (An_input : Option Addr) (cn_input : Nat) (An_heard_input : Option Addr) (cn_heard_input : Nat) (An_set__in_ : Option Addr) (cn_set__in_ : Nat) (fn_input : Arr g.b tyU8 An_input cn_input n.input) (fn_heard_input : Arr g.b tyU8 An_heard_input cn_heard_input n.heard.input) (fn_set__in_ : Arr g.b tyU8 An_set__in_ cn_set__in_ n.set_.in_) {r : Node × Frame × Bool × Int} (hS : o48 n = some r) :
    Ctr Try.prog 48 [vp b_n 0] g [some ⟨b_n, 131, (cNode n An_input cn_input An_heard_input cn_heard_input An_set__in_ cn_set__in_)⟩] (fun v ψ o => ∃ (Ao_n_input : Option Addr) (co_n_input : Nat) (Ao_n_heard_input : Option Addr) (co_n_heard_input : Nat) (Ao_n_set__in_ : Option Addr) (co_n_set__in_ : Nat) (Ar_0_payload : Option Addr) (cr_0_payload : Nat), v = Value.tuple #[Value.agg #[vy r.2.1.label, vy r.2.1.from_, vi r.2.1.cycle, vs Ar_0_payload r.2.1.payload cr_0_payload], vb r.2.2.1, vi r.2.2.2] ∧ o = [some ⟨b_n, 131, (cNode r.1 Ao_n_input co_n_input Ao_n_heard_input co_n_heard_input Ao_n_set__in_ co_n_set__in_)⟩] ∧ Arr ψ tyU8 Ao_n_input co_n_input r.1.input ∧ Arr ψ tyU8 Ao_n_heard_input co_n_heard_input r.1.heard.input ∧ Arr ψ tyU8 Ao_n_set__in_ co_n_set__in_ r.1.set_.in_ ∧ Arr ψ tyU8 Ar_0_payload cr_0_payload r.2.1.payload) := by
  unfold o48 at hS
  refine xFn Try.f48 (Try.f48.body.getD .skip) 102 ?_
  have nfn_input := fn_input.len
  have nfn_heard_input := fn_heard_input.len
  have nfn_set__in_ := fn_set__in_.len
  refine wpq_case ((n.number == 1)) (fun h1 => ?_) (fun h1 => ?_)
  · have hS := cond_T h1 hS
    have h1p : n.number = 1 := eq_of_beq h1
    refine xSq ?_
    refine xRg ?_
    refine xE eB ?_
    rintro _ _ _ - ⟨b2, rfl, rfl, rfl⟩
    refine xB 2 [] [(0, vp b_n 0), (2, vp b2 0)] ?_
    refine xRe ?_
    refine wpq_then ?_
    refine xSq ?_
    refine xSq ?_
    refine xRg ?_
    refine xB 1 [] [(0, vp b_n 0), (2, vp b2 0), (12, vp b_n 0)] ?_
    obtain ⟨y3, hy3, hS⟩ := letJ_T hS
    refine xE (eC 0 (fun g' lr eb ln => c69 g' ⟨b_n, 0, none⟩ n An_input cn_input An_heard_input cn_heard_input An_set__in_ cn_set__in_ (2 : Int) (cells_lent' 1 b_n 0 (cNode n An_input cn_input An_heard_input cn_heard_input An_set__in_ cn_set__in_) ln) ((fn_input.mono g.br).mono lr) ((fn_heard_input.mono g.br).mono lr) ((fn_set__in_.mono g.br).mono lr) hy3)) ?_
    rintro _ g4 _ e5 ⟨_, rfl, rfl, rfl⟩
    refine xB 1 [] [(0, vp b_n 0), (2, vp b2 0), (5, vi y3)] ?_
    refine xRe ?_
    refine wpq_then ?_
    refine xSq ?_
    refine xRg ?_
    refine xB 2 [] [(0, vp b_n 0), (2, vp b2 0), (5, vi y3), (15, vb (y3 != 0))] ?_
    refine xRe ?_
    refine wpq_then ?_
    refine xCd ((y3 != 0)) (fun h6 => ?_) (fun h6 => ?_)
    · have hS := cond_T h6 hS
      have h6p : ¬ (y3 = 0) := ne_of_bne_ h6
      refine xSq ?_
      refine xRg ?_
      refine xBo 5 [(2, 0)] [some ⟨b2, 100, (cFrame (⟨0, 0, 0, ([] : List UInt8)⟩ : Frame) none 0)⟩, some ⟨b_n, 131, (cNode n An_input cn_input An_heard_input cn_heard_input An_set__in_ cn_set__in_)⟩] [(2, vp b2 0), (3, vb false), (4, vi y3)] ?_
      refine xRe ?_
      refine wpq_then ?_
      have fn_input := fn_input.mono e5.b
      have fn_heard_input := fn_heard_input.mono e5.b
      have fn_set__in_ := fn_set__in_.mono e5.b
      have eS := (Option.some.inj hS).symm
      subst eS
      exact xRetC [some 1] [(2, 0)] e5 ⟨An_input, cn_input, An_heard_input, cn_heard_input, An_set__in_, cn_set__in_, none, 0, by kernel_rfl, by kernel_rfl, fn_input, fn_heard_input, fn_set__in_, Arr.nil⟩ (fun _ _ h => h)
    · have hS := cond_F h6 hS
      have h6p : y3 = 0 := eq_of_bne_false_ h6
      refine xSk ?_
      refine wpq_then ?_
      refine xSub [(0, vp b_n 0), (2, vp b2 0)] ?_
      refine xSq ?_
      refine xRg ?_
      refine xBo 4 [(3, 1)] [some ⟨b2, 100, (cFrame (⟨0, 0, 0, ([] : List UInt8)⟩ : Frame) none 0)⟩, some ⟨b_n, 131, (cNode ({ n with next_ := 3 }) An_input cn_input An_heard_input cn_heard_input An_set__in_ cn_set__in_)⟩] [(0, vp b_n 0), (2, vp b2 0)] ?_
      refine xRe ?_
      refine wpq_then ?_
      refine xSq ?_
      refine xSq ?_
      refine xRg ?_
      refine xB 5 [(3, 1)] [(0, vp b_n 0), (2, vp b2 0), (25, vb (n.role != 2))] ?_
      refine xRe ?_
      refine wpq_then ?_
      refine xCd ((n.role != 2)) (fun h7 => ?_) (fun h7 => ?_)
      · have hS := cond_T h7 hS
        have h7p : ¬ (n.role = 2) := ne_of_bne_ h7
        refine xSq ?_
        refine xRg ?_
        refine xBo 4 [(1, 0)] [some ⟨b2, 100, (cFrame (⟨0, 0, 0, ([] : List UInt8)⟩ : Frame) none 0)⟩, some ⟨b_n, 131, (cNode ({ n with next_ := 3 }) An_input cn_input An_heard_input cn_heard_input An_set__in_ cn_set__in_)⟩] [(2, vp b2 0), (3, vb false), (4, vi 0)] ?_
        refine xRe ?_
        refine wpq_then ?_
        have fn_input := fn_input.mono e5.b
        have fn_heard_input := fn_heard_input.mono e5.b
        have fn_set__in_ := fn_set__in_.mono e5.b
        have eS := (Option.some.inj hS).symm
        subst eS
        exact xRetC [some 1] [(2, 0)] e5 ⟨An_input, cn_input, An_heard_input, cn_heard_input, An_set__in_, cn_set__in_, none, 0, by kernel_rfl, by kernel_rfl, fn_input, fn_heard_input, fn_set__in_, Arr.nil⟩ (fun _ _ h => h)
      · have hS := cond_F h7 hS
        have h7p : n.role = 2 := eq_of_bne_false_ h7
        refine xSk ?_
        refine wpq_then ?_
        refine xSub [(0, vp b_n 0), (2, vp b2 0)] ?_
        refine xSq ?_
        refine xRg ?_
        refine xE eB ?_
        rintro _ _ _ - ⟨b8, rfl, rfl, rfl⟩
        refine xRe ?_
        refine wpq_then ?_
        refine xSq ?_
        refine xRg ?_
        refine xE eB ?_
        rintro _ _ _ - ⟨b9, rfl, rfl, rfl⟩
        refine xRe ?_
        refine wpq_then ?_
        refine xSq ?_
        refine xDr 0 [3, 8, 13] [17, 16] [some ⟨b2, 100, (cFrame (⟨0, 0, 0, ([] : List UInt8)⟩ : Frame) none 0)⟩, some ⟨b_n, 131, (cNode ({ n with next_ := 3 }) An_input cn_input An_heard_input cn_heard_input An_set__in_ cn_set__in_)⟩] 18 (fun RG => ?_) (fun _ _ _ _ _ h => h)
        refine xT 14 [0, 1, 2, 3] [(3, 1)] [some 2, some 3] [(0, vp b_n 0), (2, vp b2 0), (6, vp b8 0), (7, vp b9 0), (30, vi n.number)] RG (Psi.le.refl _) ?_
        refine xTp 4 RG (fun _ => (qSub .i64 (n.number) (1) (wr64 (by omega)))) ?_
        refine xT 9 [5, 6, 7, 8] [(8, 1)] [some 2, some 3] [(0, vp b_n 0), (2, vp b2 0), (6, vp b8 0), (7, vp b9 0), (31, vi (n.number - 1)), (35, vi n.number)] RG (Psi.le.refl _) ?_
        refine xTp 9 RG (fun _ => (qSub .i64 (n.number) (1) (wr64 (by omega)))) ?_
        refine xT 4 [10, 11, 12, 13] [(13, 1)] [some 2, some 3] [(0, vp b_n 0), (2, vp b2 0), (6, vp b8 0), (7, vp b9 0), (31, vi (n.number - 1)), (36, vi (n.number - 1)), (40, vs An_input n.input cn_input)] RG (Psi.le.refl _) ?_
        refine wpq_re 31 (v := vi (n.number - 1)) (vi 0) (by kernel_rfl) (congrArg (Value.int .i64) (by first | omega | (rw [IntKind.wrap_i64]; omega))) ?_
        refine xT 3 [14] [] [some 2, some 3] [(0, vp b_n 0), (2, vp b2 0), (6, vp b8 0), (7, vp b9 0), (36, vi (n.number - 1)), (40, vs An_input n.input cn_input), (41, vp b8 0)] RG (Psi.le.refl _) ?_
        refine xO1 (lds := [3, 8, 13]) 15 ?_
        refine xId (lds := [3, 8, 13]) (Psi.le.refl _) (eStL b8 0 1) ?_
        rintro _ _ _ - ⟨rfl, rfl⟩
        refine kk [some 2, some 3] ?_
        refine wpq_re 36 (v := vi (n.number - 1)) (vi 0) (by kernel_rfl) (congrArg (Value.int .i64) (by first | omega | (rw [IntKind.wrap_i64]; omega))) ?_
        refine xT 1 [16] [] [some 2, some 3] [(0, vp b_n 0), (2, vp b2 0), (6, vp b8 0), (7, vp b9 0), (42, vp b9 0)] RG (Psi.le.refl _) ?_
        refine xO1 (lds := [3, 8, 13]) 17 ?_
        refine xId (lds := [3, 8, 13]) (Psi.le.refl _) (eStL b9 0 0) ?_
        rintro _ _ _ - ⟨rfl, rfl⟩
        refine kf ?_
        refine xAe (lds := [3, 8, 13]) ?_
        refine wpq_then ?_
        refine xSub [(0, vp b_n 0), (2, vp b2 0), (6, vp b8 0), (7, vp b9 0)] ?_
        refine xSq ?_
        refine xSq ?_
        refine xRg ?_
        refine xB 1 [] [(0, vp b_n 0), (2, vp b2 0), (6, vp b8 0), (7, vp b9 0), (43, vp b_n 0)] ?_
        have fn_input := fn_input.mono e5.b
        have fn_heard_input := fn_heard_input.mono e5.b
        have fn_set__in_ := fn_set__in_.mono e5.b
        obtain ⟨y10, hy10, hS⟩ := letJ_T hS
        refine xE (eC 0 (fun g' lr eb ln => c72 g' ⟨b_n, 0, none⟩ ({ n with next_ := 3 }) An_input cn_input An_heard_input cn_heard_input An_set__in_ cn_set__in_ (cells_lent' 3 b_n 0 (cNode ({ n with next_ := 3 }) An_input cn_input An_heard_input cn_heard_input An_set__in_ cn_set__in_) ln) ((fn_input.mono g4.br).mono lr) ((fn_heard_input.mono g4.br).mono lr) ((fn_set__in_.mono g4.br).mono lr) hy10)) ?_
        rintro _ g11 _ e12 ⟨_, rfl, rfl, rfl⟩
        refine xRe ?_
        refine wpq_then ?_
        refine xSub [(0, vp b_n 0), (2, vp b2 0), (6, vp b8 0), (7, vp b9 0), (44, vb y10)] ?_
        refine xLetJ hS (fun g own sl t13 => ∃ (A13_1 : Option Addr) (c13_1 : Nat), own = [some ⟨b9, 82, [vb true, vb t13.1]⟩, some ⟨b8, 122, [vs An_input n.input cn_input, vs A13_1 t13.2 c13_1]⟩, some ⟨b2, 100, (cFrame (⟨0, 0, 0, ([] : List UInt8)⟩ : Frame) none 0)⟩, some ⟨b_n, 131, (cNode ({ n with next_ := 3 }) An_input cn_input An_heard_input cn_heard_input An_set__in_ cn_set__in_)⟩] ∧ sl = [(0, vp b_n 0), (2, vp b2 0), (6, vp b8 0), (7, vp b9 0)] ∧ Arr g.b tyU8 A13_1 c13_1 t13.2) ?_ ?_
        · rintro g14 _ _ t13 e15 ⟨A13_1, c13_1, rfl, rfl, f13_1⟩ hS
          have nf13_1 := f13_1.len
          refine wpq_then ?_
          refine xSq ?_
          refine xRg ?_
          refine xB 8 [(1, 1), (3, 0), (5, 1), (7, 0)] [(0, vp b_n 0), (2, vp b2 0), (64, vs An_input n.input cn_input), (66, vb true), (68, vs A13_1 t13.2 c13_1), (70, vb t13.1)] ?_
          have fn_input := fn_input.mono (e12.trans e15).b
          obtain ⟨y16, hy16, hS⟩ := bindO_T hS
          refine xE (eC 0 (fun g' lr eb ln => c15 g' (n.input : List UInt8) An_input cn_input (true) (t13.2 : List UInt8) A13_1 c13_1 (t13.1) ((fn_input.mono g14.br).mono lr) ((f13_1.mono g14.br).mono lr) hy16)) ?_
          rintro _ g17 _ e18 ⟨_, rfl, A16_0, c16_0, k16_0, rfl, rfl, h16_0⟩
          have nh16_0 := h16_0.len
          refine xB 5 [] [(0, vp b_n 0), (2, vp b2 0), (8, vs A16_0 y16.1 c16_0)] ?_
          refine xRe ?_
          refine wpq_then ?_
          refine xSq ?_
          refine xDr 0 [4, 8, 12] [17, 14, 15, 16] [some ⟨b9, 82, [vb true, vb t13.1]⟩, some ⟨b8, 122, [vs An_input n.input cn_input, vs A13_1 t13.2 c13_1]⟩, some ⟨b2, 100, (cFrame (⟨0, 0, 0, ([] : List UInt8)⟩ : Frame) none 0)⟩, some ⟨b_n, 131, (cNode ({ n with next_ := 3 }) An_input cn_input An_heard_input cn_heard_input An_set__in_ cn_set__in_)⟩] 18 (fun RG => ?_) (fun _ _ _ _ _ h => h)
          refine xT 1 [0, 1, 2, 3, 4, 5, 6, 7, 8, 9, 10, 11, 12, 13, 14, 15, 16] [(4, 3), (8, 3), (12, 3)] [some 1, some 2, some 3, some 4] [(0, vp b_n 0), (2, vp b2 0), (88, Value.agg #[vi n.steps, vi n.cycle, vb n.fresh, vs A16_0 y16.1 c16_0]), (90, vp b_n 14)] RG (Psi.le.refl _) ?_
          refine xO1 (lds := [4, 8, 12]) 17 ?_
          refine xId (lds := [4, 8, 12]) (Psi.le.refl _) (eStL b_n 14 4) ?_
          rintro _ _ _ - ⟨rfl, rfl⟩
          refine kf ?_
          refine xAe (lds := [4, 8, 12]) ?_
          refine wpq_then ?_
          refine xSub [(0, vp b_n 0), (2, vp b2 0)] ?_
          refine xSq ?_
          refine xRg ?_
          refine xB 4 [(3, 4)] [(0, vp b_n 0), (2, vp b2 0), (95, Value.agg #[vi n.steps, vi n.cycle, vb n.fresh, vs A16_0 y16.1 c16_0])] ?_
          refine wpq_freeze 0 (by kernel_rfl) h16_0 (fun g19 e20 f21 => ?_)
          obtain ⟨y22, hy22, hS⟩ := bindO_T hS
          refine xE (eC 0 (fun g' lr eb ln => c31 g' ({ n with in_ := y16.1 }) A16_0 c16_0 ((f21.mono g19.br).mono lr) hy22)) ?_
          rintro _ g23 _ e24 ⟨_, rfl, A22_0, c22_0, k22_0, rfl, rfl, h22_0⟩
          have nh22_0 := h22_0.len
          refine xB 5 [] [(0, vp b_n 0), (2, vp b2 0), (10, vs A22_0 y22.1 c22_0)] ?_
          refine xRe ?_
          refine wpq_then ?_
          refine xSq ?_
          refine xRg ?_
          refine xB 2 [] [(2, vp b2 0), (99, vp b_n 0), (100, vs A22_0 y22.1 c22_0)] ?_
          refine wpq_freeze 0 (by kernel_rfl) h22_0 (fun g25 e26 f27 => ?_)
          have fn_input := fn_input.mono (e18.trans (e20.trans (e24.trans e26))).b
          have fn_heard_input := fn_heard_input.mono (e12.trans (e15.trans (e18.trans (e20.trans (e24.trans e26))))).b
          have f21 := f21.mono (e24.trans e26).b
          obtain ⟨y28, hy28, hS⟩ := letJ_T hS
          refine xE (eC 0 (fun g' lr eb ln => c70 g' ⟨b_n, 0, none⟩ ({ n with next_ := 3, set_ := { n with in_ := y16.1 } }) An_input cn_input An_heard_input cn_heard_input A16_0 c16_0 (2 : Int) (y22.1 : List UInt8) A22_0 c22_0 (cells_lent' 5 b_n 0 (cNode ({ n with next_ := 3, set_ := { n with in_ := y16.1 } }) An_input cn_input An_heard_input cn_heard_input A16_0 c16_0) ln) ((fn_input.mono g25.br).mono lr) ((fn_heard_input.mono g25.br).mono lr) ((f21.mono g25.br).mono lr) (by rw [eb]; exact f27) hy28)) ?_
          rintro _ g29 _ e30 ⟨_, rfl, A28_0_payload, c28_0_payload, rfl, rfl, f28_0_payload⟩
          have nf28_0_payload := f28_0_payload.len
          refine xBo 3 [(3, 4)] [none, none, some ⟨b9, 82, [vb true, vb t13.1]⟩, some ⟨b8, 122, [vs An_input n.input cn_input, vs A13_1 t13.2 c13_1]⟩, some ⟨b2, 100, (cFrame y28 A28_0_payload c28_0_payload)⟩, some ⟨b_n, 131, (cNode ({ n with next_ := 3, set_ := { n with in_ := y16.1 } }) An_input cn_input An_heard_input cn_heard_input A16_0 c16_0)⟩] [(2, vp b2 0), (3, vb true), (4, vi 0)] ?_
          refine xRe ?_
          refine wpq_then ?_
          have fn_input := fn_input.mono e30.b
          have fn_heard_input := fn_heard_input.mono e30.b
          have f21 := f21.mono e30.b
          have eS := (Option.some.inj hS).symm
          subst eS
          exact xRetC [some 5] [(2, 4)] (e5.trans (e12.trans (e15.trans (e18.trans (e20.trans (e24.trans (e26.trans e30))))))) ⟨An_input, cn_input, An_heard_input, cn_heard_input, A16_0, c16_0, A28_0_payload, c28_0_payload, by kernel_rfl, by kernel_rfl, fn_input, fn_heard_input, f21, f28_0_payload⟩ (fun _ _ h => h)
        · intro u13 hS hN13
          refine xCd (y10) (fun h31 => ?_) (fun h31 => ?_)
          · have hS := cond_T h31 hS
            refine xDr 0 [3, 8, 14] [18, 17] [some ⟨b2, 100, (cFrame (⟨0, 0, 0, ([] : List UInt8)⟩ : Frame) none 0)⟩, some ⟨b_n, 131, (cNode ({ n with next_ := 3 }) An_input cn_input An_heard_input cn_heard_input An_set__in_ cn_set__in_)⟩] 19 (fun RG => ?_) (fun _ _ _ _ _ h => h)
            refine xT 15 [0, 1, 2, 3] [(3, 1)] [some 2, some 3] [(0, vp b_n 0), (2, vp b2 0), (6, vp b8 0), (7, vp b9 0), (48, vi n.number)] RG (Psi.le.refl _) ?_
            refine xTp 4 RG (fun _ => (qSub .i64 (2) (n.number) (wr64 (by omega)))) ?_
            refine xT 10 [5, 6, 7, 8] [(8, 1)] [some 2, some 3] [(0, vp b_n 0), (2, vp b2 0), (6, vp b8 0), (7, vp b9 0), (49, vi (2 - n.number)), (53, vi n.number)] RG (Psi.le.refl _) ?_
            refine xTp 9 RG (fun _ => (qSub .i64 (2) (n.number) (wr64 (by omega)))) ?_
            refine xT 4 [10, 11, 12, 13, 14] [(14, 1)] [some 2, some 3] [(0, vp b_n 0), (2, vp b2 0), (6, vp b8 0), (7, vp b9 0), (49, vi (2 - n.number)), (54, vi (2 - n.number)), (59, vs An_heard_input n.heard.input cn_heard_input)] RG (Psi.le.refl _) ?_
            refine wpq_re 49 (v := vi (2 - n.number)) (vi 1) (by kernel_rfl) (congrArg (Value.int .i64) (by first | omega | (rw [IntKind.wrap_i64]; omega))) ?_
            refine xT 3 [15] [] [some 2, some 3] [(0, vp b_n 0), (2, vp b2 0), (6, vp b8 0), (7, vp b9 0), (54, vi (2 - n.number)), (59, vs An_heard_input n.heard.input cn_heard_input), (60, vp b8 1)] RG (Psi.le.refl _) ?_
            refine xO1 (lds := [3, 8, 14]) 16 ?_
            refine xId (lds := [3, 8, 14]) (Psi.le.refl _) (eStL b8 1 1) ?_
            rintro _ _ _ - ⟨rfl, rfl⟩
            refine kk [some 2, some 3] ?_
            refine wpq_re 54 (v := vi (2 - n.number)) (vi 1) (by kernel_rfl) (congrArg (Value.int .i64) (by first | omega | (rw [IntKind.wrap_i64]; omega))) ?_
            refine xT 1 [17] [] [some 2, some 3] [(0, vp b_n 0), (2, vp b2 0), (6, vp b8 0), (7, vp b9 0), (61, vp b9 1)] RG (Psi.le.refl _) ?_
            refine xO1 (lds := [3, 8, 14]) 18 ?_
            refine xId (lds := [3, 8, 14]) (Psi.le.refl _) (eStL b9 1 0) ?_
            rintro _ _ _ - ⟨rfl, rfl⟩
            refine kf ?_
            refine xAe (lds := [3, 8, 14]) ?_
            have fn_heard_input := fn_heard_input.mono e12.b
            refine xSub [(0, vp b_n 0), (2, vp b2 0), (6, vp b8 0), (7, vp b9 0)] ?_
            have eS := hS.symm
            exact hN13 _ eS _ _ _ (Gh.le.refl _) ⟨An_heard_input, cn_heard_input, by kernel_rfl, by kernel_rfl, fn_heard_input⟩
          · have hS := cond_F h31 hS
            refine xSk ?_
            refine xSub [(0, vp b_n 0), (2, vp b2 0), (6, vp b8 0), (7, vp b9 0)] ?_
            have eS := hS.symm
            exact hN13 _ eS _ _ _ (Gh.le.refl _) ⟨none, 0, by kernel_rfl, by kernel_rfl, Arr.nil⟩
  · have hS := cond_F h1 hS
    obtain ⟨h32, hS⟩ := grd_T hS
    have h32p : n.number = 2 := eq_of_beq h32
    refine xSq ?_
    refine xRg ?_
    refine xE eB ?_
    rintro _ _ _ - ⟨b33, rfl, rfl, rfl⟩
    refine xB 2 [] [(0, vp b_n 0), (2, vp b33 0)] ?_
    refine xRe ?_
    refine wpq_then ?_
    refine xSq ?_
    refine xSq ?_
    refine xRg ?_
    refine xB 1 [] [(0, vp b_n 0), (2, vp b33 0), (12, vp b_n 0)] ?_
    obtain ⟨y34, hy34, hS⟩ := letJ_T hS
    refine xE (eC 0 (fun g' lr eb ln => c69 g' ⟨b_n, 0, none⟩ n An_input cn_input An_heard_input cn_heard_input An_set__in_ cn_set__in_ (2 : Int) (cells_lent' 1 b_n 0 (cNode n An_input cn_input An_heard_input cn_heard_input An_set__in_ cn_set__in_) ln) ((fn_input.mono g.br).mono lr) ((fn_heard_input.mono g.br).mono lr) ((fn_set__in_.mono g.br).mono lr) hy34)) ?_
    rintro _ g35 _ e36 ⟨_, rfl, rfl, rfl⟩
    refine xB 1 [] [(0, vp b_n 0), (2, vp b33 0), (5, vi y34)] ?_
    refine xRe ?_
    refine wpq_then ?_
    refine xSq ?_
    refine xRg ?_
    refine xB 2 [] [(0, vp b_n 0), (2, vp b33 0), (5, vi y34), (15, vb (y34 != 0))] ?_
    refine xRe ?_
    refine wpq_then ?_
    refine xCd ((y34 != 0)) (fun h37 => ?_) (fun h37 => ?_)
    · have hS := cond_T h37 hS
      have h37p : ¬ (y34 = 0) := ne_of_bne_ h37
      refine xSq ?_
      refine xRg ?_
      refine xBo 5 [(2, 0)] [some ⟨b33, 100, (cFrame (⟨0, 0, 0, ([] : List UInt8)⟩ : Frame) none 0)⟩, some ⟨b_n, 131, (cNode n An_input cn_input An_heard_input cn_heard_input An_set__in_ cn_set__in_)⟩] [(2, vp b33 0), (3, vb false), (4, vi y34)] ?_
      refine xRe ?_
      refine wpq_then ?_
      have fn_input := fn_input.mono e36.b
      have fn_heard_input := fn_heard_input.mono e36.b
      have fn_set__in_ := fn_set__in_.mono e36.b
      have eS := (Option.some.inj hS).symm
      subst eS
      exact xRetC [some 1] [(2, 0)] e36 ⟨An_input, cn_input, An_heard_input, cn_heard_input, An_set__in_, cn_set__in_, none, 0, by kernel_rfl, by kernel_rfl, fn_input, fn_heard_input, fn_set__in_, Arr.nil⟩ (fun _ _ h => h)
    · have hS := cond_F h37 hS
      have h37p : y34 = 0 := eq_of_bne_false_ h37
      refine xSk ?_
      refine wpq_then ?_
      refine xSub [(0, vp b_n 0), (2, vp b33 0)] ?_
      refine xSq ?_
      refine xRg ?_
      refine xBo 4 [(3, 1)] [some ⟨b33, 100, (cFrame (⟨0, 0, 0, ([] : List UInt8)⟩ : Frame) none 0)⟩, some ⟨b_n, 131, (cNode ({ n with next_ := 3 }) An_input cn_input An_heard_input cn_heard_input An_set__in_ cn_set__in_)⟩] [(0, vp b_n 0), (2, vp b33 0)] ?_
      refine xRe ?_
      refine wpq_then ?_
      refine xSq ?_
      refine xSq ?_
      refine xRg ?_
      refine xB 5 [(3, 1)] [(0, vp b_n 0), (2, vp b33 0), (25, vb (n.role != 2))] ?_
      refine xRe ?_
      refine wpq_then ?_
      refine xCd ((n.role != 2)) (fun h38 => ?_) (fun h38 => ?_)
      · have hS := cond_T h38 hS
        have h38p : ¬ (n.role = 2) := ne_of_bne_ h38
        refine xSq ?_
        refine xRg ?_
        refine xBo 4 [(1, 0)] [some ⟨b33, 100, (cFrame (⟨0, 0, 0, ([] : List UInt8)⟩ : Frame) none 0)⟩, some ⟨b_n, 131, (cNode ({ n with next_ := 3 }) An_input cn_input An_heard_input cn_heard_input An_set__in_ cn_set__in_)⟩] [(2, vp b33 0), (3, vb false), (4, vi 0)] ?_
        refine xRe ?_
        refine wpq_then ?_
        have fn_input := fn_input.mono e36.b
        have fn_heard_input := fn_heard_input.mono e36.b
        have fn_set__in_ := fn_set__in_.mono e36.b
        have eS := (Option.some.inj hS).symm
        subst eS
        exact xRetC [some 1] [(2, 0)] e36 ⟨An_input, cn_input, An_heard_input, cn_heard_input, An_set__in_, cn_set__in_, none, 0, by kernel_rfl, by kernel_rfl, fn_input, fn_heard_input, fn_set__in_, Arr.nil⟩ (fun _ _ h => h)
      · have hS := cond_F h38 hS
        have h38p : n.role = 2 := eq_of_bne_false_ h38
        refine xSk ?_
        refine wpq_then ?_
        refine xSub [(0, vp b_n 0), (2, vp b33 0)] ?_
        refine xSq ?_
        refine xRg ?_
        refine xE eB ?_
        rintro _ _ _ - ⟨b39, rfl, rfl, rfl⟩
        refine xRe ?_
        refine wpq_then ?_
        refine xSq ?_
        refine xRg ?_
        refine xE eB ?_
        rintro _ _ _ - ⟨b40, rfl, rfl, rfl⟩
        refine xRe ?_
        refine wpq_then ?_
        refine xSq ?_
        refine xDr 0 [3, 8, 13] [17, 16] [some ⟨b33, 100, (cFrame (⟨0, 0, 0, ([] : List UInt8)⟩ : Frame) none 0)⟩, some ⟨b_n, 131, (cNode ({ n with next_ := 3 }) An_input cn_input An_heard_input cn_heard_input An_set__in_ cn_set__in_)⟩] 18 (fun RG => ?_) (fun _ _ _ _ _ h => h)
        refine xT 14 [0, 1, 2, 3] [(3, 1)] [some 2, some 3] [(0, vp b_n 0), (2, vp b33 0), (6, vp b39 0), (7, vp b40 0), (30, vi n.number)] RG (Psi.le.refl _) ?_
        refine xTp 4 RG (fun _ => (qSub .i64 (n.number) (1) (wr64 (by omega)))) ?_
        refine xT 9 [5, 6, 7, 8] [(8, 1)] [some 2, some 3] [(0, vp b_n 0), (2, vp b33 0), (6, vp b39 0), (7, vp b40 0), (31, vi (n.number - 1)), (35, vi n.number)] RG (Psi.le.refl _) ?_
        refine xTp 9 RG (fun _ => (qSub .i64 (n.number) (1) (wr64 (by omega)))) ?_
        refine xT 4 [10, 11, 12, 13] [(13, 1)] [some 2, some 3] [(0, vp b_n 0), (2, vp b33 0), (6, vp b39 0), (7, vp b40 0), (31, vi (n.number - 1)), (36, vi (n.number - 1)), (40, vs An_input n.input cn_input)] RG (Psi.le.refl _) ?_
        refine wpq_re 31 (v := vi (n.number - 1)) (vi 1) (by kernel_rfl) (congrArg (Value.int .i64) (by first | omega | (rw [IntKind.wrap_i64]; omega))) ?_
        refine xT 3 [14] [] [some 2, some 3] [(0, vp b_n 0), (2, vp b33 0), (6, vp b39 0), (7, vp b40 0), (36, vi (n.number - 1)), (40, vs An_input n.input cn_input), (41, vp b39 1)] RG (Psi.le.refl _) ?_
        refine xO1 (lds := [3, 8, 13]) 15 ?_
        refine xId (lds := [3, 8, 13]) (Psi.le.refl _) (eStL b39 1 1) ?_
        rintro _ _ _ - ⟨rfl, rfl⟩
        refine kk [some 2, some 3] ?_
        refine wpq_re 36 (v := vi (n.number - 1)) (vi 1) (by kernel_rfl) (congrArg (Value.int .i64) (by first | omega | (rw [IntKind.wrap_i64]; omega))) ?_
        refine xT 1 [16] [] [some 2, some 3] [(0, vp b_n 0), (2, vp b33 0), (6, vp b39 0), (7, vp b40 0), (42, vp b40 1)] RG (Psi.le.refl _) ?_
        refine xO1 (lds := [3, 8, 13]) 17 ?_
        refine xId (lds := [3, 8, 13]) (Psi.le.refl _) (eStL b40 1 0) ?_
        rintro _ _ _ - ⟨rfl, rfl⟩
        refine kf ?_
        refine xAe (lds := [3, 8, 13]) ?_
        refine wpq_then ?_
        refine xSub [(0, vp b_n 0), (2, vp b33 0), (6, vp b39 0), (7, vp b40 0)] ?_
        refine xSq ?_
        refine xSq ?_
        refine xRg ?_
        refine xB 1 [] [(0, vp b_n 0), (2, vp b33 0), (6, vp b39 0), (7, vp b40 0), (43, vp b_n 0)] ?_
        have fn_input := fn_input.mono e36.b
        have fn_heard_input := fn_heard_input.mono e36.b
        have fn_set__in_ := fn_set__in_.mono e36.b
        obtain ⟨y41, hy41, hS⟩ := letJ_T hS
        refine xE (eC 0 (fun g' lr eb ln => c72 g' ⟨b_n, 0, none⟩ ({ n with next_ := 3 }) An_input cn_input An_heard_input cn_heard_input An_set__in_ cn_set__in_ (cells_lent' 3 b_n 0 (cNode ({ n with next_ := 3 }) An_input cn_input An_heard_input cn_heard_input An_set__in_ cn_set__in_) ln) ((fn_input.mono g35.br).mono lr) ((fn_heard_input.mono g35.br).mono lr) ((fn_set__in_.mono g35.br).mono lr) hy41)) ?_
        rintro _ g42 _ e43 ⟨_, rfl, rfl, rfl⟩
        refine xRe ?_
        refine wpq_then ?_
        refine xSub [(0, vp b_n 0), (2, vp b33 0), (6, vp b39 0), (7, vp b40 0), (44, vb y41)] ?_
        refine xLetJ hS (fun g own sl t44 => ∃ (A44_1 : Option Addr) (c44_1 : Nat), own = [some ⟨b40, 82, [vb t44.1, vb true]⟩, some ⟨b39, 122, [vs A44_1 t44.2 c44_1, vs An_input n.input cn_input]⟩, some ⟨b33, 100, (cFrame (⟨0, 0, 0, ([] : List UInt8)⟩ : Frame) none 0)⟩, some ⟨b_n, 131, (cNode ({ n with next_ := 3 }) An_input cn_input An_heard_input cn_heard_input An_set__in_ cn_set__in_)⟩] ∧ sl = [(0, vp b_n 0), (2, vp b33 0), (6, vp b39 0), (7, vp b40 0)] ∧ Arr g.b tyU8 A44_1 c44_1 t44.2) ?_ ?_
        · rintro g45 _ _ t44 e46 ⟨A44_1, c44_1, rfl, rfl, f44_1⟩ hS
          have nf44_1 := f44_1.len
          refine wpq_then ?_
          refine xSq ?_
          refine xRg ?_
          refine xB 8 [(1, 1), (3, 0), (5, 1), (7, 0)] [(0, vp b_n 0), (2, vp b33 0), (64, vs A44_1 t44.2 c44_1), (66, vb t44.1), (68, vs An_input n.input cn_input), (70, vb true)] ?_
          have fn_input := fn_input.mono (e43.trans e46).b
          obtain ⟨y47, hy47, hS⟩ := bindO_T hS
          refine xE (eC 0 (fun g' lr eb ln => c15 g' (t44.2 : List UInt8) A44_1 c44_1 (t44.1) (n.input : List UInt8) An_input cn_input (true) ((f44_1.mono g45.br).mono lr) ((fn_input.mono g45.br).mono lr) hy47)) ?_
          rintro _ g48 _ e49 ⟨_, rfl, A47_0, c47_0, k47_0, rfl, rfl, h47_0⟩
          have nh47_0 := h47_0.len
          refine xB 5 [] [(0, vp b_n 0), (2, vp b33 0), (8, vs A47_0 y47.1 c47_0)] ?_
          refine xRe ?_
          refine wpq_then ?_
          refine xSq ?_
          refine xDr 0 [4, 8, 12] [17, 14, 15, 16] [some ⟨b40, 82, [vb t44.1, vb true]⟩, some ⟨b39, 122, [vs A44_1 t44.2 c44_1, vs An_input n.input cn_input]⟩, some ⟨b33, 100, (cFrame (⟨0, 0, 0, ([] : List UInt8)⟩ : Frame) none 0)⟩, some ⟨b_n, 131, (cNode ({ n with next_ := 3 }) An_input cn_input An_heard_input cn_heard_input An_set__in_ cn_set__in_)⟩] 18 (fun RG => ?_) (fun _ _ _ _ _ h => h)
          refine xT 1 [0, 1, 2, 3, 4, 5, 6, 7, 8, 9, 10, 11, 12, 13, 14, 15, 16] [(4, 3), (8, 3), (12, 3)] [some 1, some 2, some 3, some 4] [(0, vp b_n 0), (2, vp b33 0), (88, Value.agg #[vi n.steps, vi n.cycle, vb n.fresh, vs A47_0 y47.1 c47_0]), (90, vp b_n 14)] RG (Psi.le.refl _) ?_
          refine xO1 (lds := [4, 8, 12]) 17 ?_
          refine xId (lds := [4, 8, 12]) (Psi.le.refl _) (eStL b_n 14 4) ?_
          rintro _ _ _ - ⟨rfl, rfl⟩
          refine kf ?_
          refine xAe (lds := [4, 8, 12]) ?_
          refine wpq_then ?_
          refine xSub [(0, vp b_n 0), (2, vp b33 0)] ?_
          refine xSq ?_
          refine xRg ?_
          refine xB 4 [(3, 4)] [(0, vp b_n 0), (2, vp b33 0), (95, Value.agg #[vi n.steps, vi n.cycle, vb n.fresh, vs A47_0 y47.1 c47_0])] ?_
          refine wpq_freeze 0 (by kernel_rfl) h47_0 (fun g50 e51 f52 => ?_)
          obtain ⟨y53, hy53, hS⟩ := bindO_T hS
          refine xE (eC 0 (fun g' lr eb ln => c31 g' ({ n with in_ := y47.1 }) A47_0 c47_0 ((f52.mono g50.br).mono lr) hy53)) ?_
          rintro _ g54 _ e55 ⟨_, rfl, A53_0, c53_0, k53_0, rfl, rfl, h53_0⟩
          have nh53_0 := h53_0.len
          refine xB 5 [] [(0, vp b_n 0), (2, vp b33 0), (10, vs A53_0 y53.1 c53_0)] ?_
          refine xRe ?_
          refine wpq_then ?_
          refine xSq ?_
          refine xRg ?_
          refine xB 2 [] [(2, vp b33 0), (99, vp b_n 0), (100, vs A53_0 y53.1 c53_0)] ?_
          refine wpq_freeze 0 (by kernel_rfl) h53_0 (fun g56 e57 f58 => ?_)
          have fn_input := fn_input.mono (e49.trans (e51.trans (e55.trans e57))).b
          have fn_heard_input := fn_heard_input.mono (e43.trans (e46.trans (e49.trans (e51.trans (e55.trans e57))))).b
          have f52 := f52.mono (e55.trans e57).b
          obtain ⟨y59, hy59, hS⟩ := letJ_T hS
          refine xE (eC 0 (fun g' lr eb ln => c70 g' ⟨b_n, 0, none⟩ ({ n with next_ := 3, set_ := { n with in_ := y47.1 } }) An_input cn_input An_heard_input cn_heard_input A47_0 c47_0 (2 : Int) (y53.1 : List UInt8) A53_0 c53_0 (cells_lent' 5 b_n 0 (cNode ({ n with next_ := 3, set_ := { n with in_ := y47.1 } }) An_input cn_input An_heard_input cn_heard_input A47_0 c47_0) ln) ((fn_input.mono g56.br).mono lr) ((fn_heard_input.mono g56.br).mono lr) ((f52.mono g56.br).mono lr) (by rw [eb]; exact f58) hy59)) ?_
          rintro _ g60 _ e61 ⟨_, rfl, A59_0_payload, c59_0_payload, rfl, rfl, f59_0_payload⟩
          have nf59_0_payload := f59_0_payload.len
          refine xBo 3 [(3, 4)] [none, none, some ⟨b40, 82, [vb t44.1, vb true]⟩, some ⟨b39, 122, [vs A44_1 t44.2 c44_1, vs An_input n.input cn_input]⟩, some ⟨b33, 100, (cFrame y59 A59_0_payload c59_0_payload)⟩, some ⟨b_n, 131, (cNode ({ n with next_ := 3, set_ := { n with in_ := y47.1 } }) An_input cn_input An_heard_input cn_heard_input A47_0 c47_0)⟩] [(2, vp b33 0), (3, vb true), (4, vi 0)] ?_
          refine xRe ?_
          refine wpq_then ?_
          have fn_input := fn_input.mono e61.b
          have fn_heard_input := fn_heard_input.mono e61.b
          have f52 := f52.mono e61.b
          have eS := (Option.some.inj hS).symm
          subst eS
          exact xRetC [some 5] [(2, 4)] (e36.trans (e43.trans (e46.trans (e49.trans (e51.trans (e55.trans (e57.trans e61))))))) ⟨An_input, cn_input, An_heard_input, cn_heard_input, A47_0, c47_0, A59_0_payload, c59_0_payload, by kernel_rfl, by kernel_rfl, fn_input, fn_heard_input, f52, f59_0_payload⟩ (fun _ _ h => h)
        · intro u44 hS hN44
          refine xCd (y41) (fun h62 => ?_) (fun h62 => ?_)
          · have hS := cond_T h62 hS
            refine xDr 0 [3, 8, 14] [18, 17] [some ⟨b33, 100, (cFrame (⟨0, 0, 0, ([] : List UInt8)⟩ : Frame) none 0)⟩, some ⟨b_n, 131, (cNode ({ n with next_ := 3 }) An_input cn_input An_heard_input cn_heard_input An_set__in_ cn_set__in_)⟩] 19 (fun RG => ?_) (fun _ _ _ _ _ h => h)
            refine xT 15 [0, 1, 2, 3] [(3, 1)] [some 2, some 3] [(0, vp b_n 0), (2, vp b33 0), (6, vp b39 0), (7, vp b40 0), (48, vi n.number)] RG (Psi.le.refl _) ?_
            refine xTp 4 RG (fun _ => (qSub .i64 (2) (n.number) (wr64 (by omega)))) ?_
            refine xT 10 [5, 6, 7, 8] [(8, 1)] [some 2, some 3] [(0, vp b_n 0), (2, vp b33 0), (6, vp b39 0), (7, vp b40 0), (49, vi (2 - n.number)), (53, vi n.number)] RG (Psi.le.refl _) ?_
            refine xTp 9 RG (fun _ => (qSub .i64 (2) (n.number) (wr64 (by omega)))) ?_
            refine xT 4 [10, 11, 12, 13, 14] [(14, 1)] [some 2, some 3] [(0, vp b_n 0), (2, vp b33 0), (6, vp b39 0), (7, vp b40 0), (49, vi (2 - n.number)), (54, vi (2 - n.number)), (59, vs An_heard_input n.heard.input cn_heard_input)] RG (Psi.le.refl _) ?_
            refine wpq_re 49 (v := vi (2 - n.number)) (vi 0) (by kernel_rfl) (congrArg (Value.int .i64) (by first | omega | (rw [IntKind.wrap_i64]; omega))) ?_
            refine xT 3 [15] [] [some 2, some 3] [(0, vp b_n 0), (2, vp b33 0), (6, vp b39 0), (7, vp b40 0), (54, vi (2 - n.number)), (59, vs An_heard_input n.heard.input cn_heard_input), (60, vp b39 0)] RG (Psi.le.refl _) ?_
            refine xO1 (lds := [3, 8, 14]) 16 ?_
            refine xId (lds := [3, 8, 14]) (Psi.le.refl _) (eStL b39 0 1) ?_
            rintro _ _ _ - ⟨rfl, rfl⟩
            refine kk [some 2, some 3] ?_
            refine wpq_re 54 (v := vi (2 - n.number)) (vi 0) (by kernel_rfl) (congrArg (Value.int .i64) (by first | omega | (rw [IntKind.wrap_i64]; omega))) ?_
            refine xT 1 [17] [] [some 2, some 3] [(0, vp b_n 0), (2, vp b33 0), (6, vp b39 0), (7, vp b40 0), (61, vp b40 0)] RG (Psi.le.refl _) ?_
            refine xO1 (lds := [3, 8, 14]) 18 ?_
            refine xId (lds := [3, 8, 14]) (Psi.le.refl _) (eStL b40 0 0) ?_
            rintro _ _ _ - ⟨rfl, rfl⟩
            refine kf ?_
            refine xAe (lds := [3, 8, 14]) ?_
            have fn_heard_input := fn_heard_input.mono e43.b
            refine xSub [(0, vp b_n 0), (2, vp b33 0), (6, vp b39 0), (7, vp b40 0)] ?_
            have eS := hS.symm
            exact hN44 _ eS _ _ _ (Gh.le.refl _) ⟨An_heard_input, cn_heard_input, by kernel_rfl, by kernel_rfl, fn_heard_input⟩
          · have hS := cond_F h62 hS
            refine xSk ?_
            refine xSub [(0, vp b_n 0), (2, vp b33 0), (6, vp b39 0), (7, vp b40 0)] ?_
            have eS := hS.symm
            exact hN44 _ eS _ _ _ (Gh.le.refl _) ⟨none, 0, by kernel_rfl, by kernel_rfl, Arr.nil⟩

def o16 (one : List UInt8) (isOne : Bool) (two : List UInt8) (isTwo : Bool) : Option ((List UInt8) × Int) :=
  (cond (((isOne && decide ((((one).length : Nat) : Int) > 400)) || (isTwo && decide ((((two).length : Nat) : Int) > 400)))) (some ((([] : List UInt8), (3 : Int)))) (letJ (τ := Nat) (cond (isOne) (1) (0)) fun t5 => (letJ (τ := Nat) (cond (isTwo) ((t5 + 2)) (t5)) fun t8 => (bindO (τ := (List UInt8)) (cond (isOne) (bindO (τ := (List UInt8)) (o54 ((((one).length : Nat) : Int) : Int) (2 : Int)) fun y27 => (grd (decide (((([(u8 ((t8 : Nat) : Int))] : List UInt8)).length + (y27).length) * 1 ≤ 140737488355328)) (grd (decide ((((([(u8 ((t8 : Nat) : Int))] : List UInt8) ++ y27)).length + (one).length) * 1 ≤ 140737488355328)) (some ((((([(u8 ((t8 : Nat) : Int))] : List UInt8) ++ y27) ++ one) : List UInt8)))))) (some ((([(u8 ((t8 : Nat) : Int))] : List UInt8) : List UInt8)))) fun t12 => (bindO (τ := (List UInt8)) (cond (isTwo) (bindO (τ := (List UInt8)) (o54 ((((two).length : Nat) : Int) : Int) (2 : Int)) fun y19 => (grd (decide (((t12).length + (y19).length) * 1 ≤ 140737488355328)) (grd (decide ((((t12 ++ y19)).length + (two).length) * 1 ≤ 140737488355328)) (some ((((t12 ++ y19) ++ two) : List UInt8)))))) (some ((t12 : List UInt8)))) fun t15 => (some (((t15 : List UInt8), (0 : Int)))))))))
set_option maxRecDepth 100000 in
theorem c16 (g : Gh) (one : List UInt8) (Aone : Option Addr) (cone : Nat) (isOne : Bool) (two : List UInt8) (Atwo : Option Addr) (ctwo : Nat) (isTwo : Bool) (fone : Arr g.r tyU8 Aone cone one) (ftwo : Arr g.r tyU8 Atwo ctwo two) {r : (List UInt8) × Int} (hS : o16 one isOne two isTwo = some r) :
    Ctr Try.prog 16 [vs Aone one cone, vb isOne, vs Atwo two ctwo, vb isTwo] g [] (fun v ψ o => ∃ (Ar_0 : Option Addr) (cr_0 : Nat) (kr_0 : Option Bk), v = Value.tuple #[vs Ar_0 r.1 cr_0, vi r.2] ∧ o = [kr_0] ∧ Buf ψ tyU8 5 (.slice Ar_0 (r.1).length cr_0) kr_0 r.1) := by
  unfold o16 at hS
  refine xFn Try.f16 (Try.f16.body.getD .skip) 53 ?_
  have nfone := fone.len
  have nftwo := ftwo.len
  refine xSq ?_
  refine xRg ?_
  refine xB 2 [] [(0, vs Aone one cone), (1, vb isOne), (2, vs Atwo two ctwo), (3, vb isTwo)] ?_
  refine xRe ?_
  refine wpq_then ?_
  refine xSq ?_
  refine xSq ?_
  refine xRg ?_
  refine xB 2 [] [(0, vs Aone one cone), (1, vb isOne), (2, vs Atwo two ctwo), (3, vb isTwo), (13, vb isOne)] ?_
  refine wpr_grp 6 [(0, vs Aone one cone), (1, vb isOne), (2, vs Atwo two ctwo), (3, vb isTwo), (17, vb (isOne && decide ((((one).length : Nat) : Int) > 400)))] (fun hk1 => ?_) ?_
  · refine wpq_split 13 (b := isOne) (by kernel_rfl) (fun q1 => ?_) (fun q1 => ?_)
    · refine xB 4 [] [(0, vs Aone one cone), (1, vb isOne), (2, vs Atwo two ctwo), (3, vb isTwo), (17, vb (decide ((((one).length : Nat) : Int) > 400)))] ?_
      refine wpq_re 17 (v := vb (decide ((((one).length : Nat) : Int) > 400))) (Value.bool ((isOne && decide ((((one).length : Nat) : Int) > 400)))) (by kernel_rfl) (re_and1 q1) ?_
      exact wpq_sub _ (by kernel_rfl) hk1
    · refine xB 4 [] [(0, vs Aone one cone), (1, vb isOne), (2, vs Atwo two ctwo), (3, vb isTwo), (17, vb false)] ?_
      refine wpq_re 17 (v := vb false) (Value.bool ((isOne && decide ((((one).length : Nat) : Int) > 400)))) (by kernel_rfl) (re_and0 q1) ?_
      exact wpq_sub _ (by kernel_rfl) hk1
  · refine xB 1 [] [(0, vs Aone one cone), (1, vb isOne), (2, vs Atwo two ctwo), (3, vb isTwo), (18, vb (isOne && decide ((((one).length : Nat) : Int) > 400)))] ?_
    refine wpr_grp 14 [(0, vs Aone one cone), (1, vb isOne), (2, vs Atwo two ctwo), (3, vb isTwo), (25, vb ((isOne && decide ((((one).length : Nat) : Int) > 400)) || (isTwo && decide ((((two).length : Nat) : Int) > 400))))] (fun hk6 => ?_) ?_
    · refine wpq_split 18 (b := (isOne && decide ((((one).length : Nat) : Int) > 400))) (by kernel_rfl) (fun q2 => ?_) (fun q2 => ?_)
      · have q2l := (and_true_ q2).1
        have q2r := (and_true_ q2).2
        have q2rp := of_decide_eq_true q2r
        refine xB 7 [] [(0, vs Aone one cone), (1, vb isOne), (2, vs Atwo two ctwo), (3, vb isTwo), (25, vb true)] ?_
        refine wpq_re 25 (v := vb true) (Value.bool (((isOne && decide ((((one).length : Nat) : Int) > 400)) || (isTwo && decide ((((two).length : Nat) : Int) > 400))))) (by kernel_rfl) (re_or1 q2) ?_
        exact wpq_sub _ (by kernel_rfl) hk6
      · refine xB 2 [] [(0, vs Aone one cone), (1, vb isOne), (2, vs Atwo two ctwo), (3, vb isTwo), (18, vb false), (20, vb isTwo)] ?_
        refine wpr_grp 13 [(0, vs Aone one cone), (1, vb isOne), (2, vs Atwo two ctwo), (3, vb isTwo), (18, vb false), (24, vb (isTwo && decide ((((two).length : Nat) : Int) > 400)))] (fun hk8 => ?_) ?_
        · refine wpq_split 20 (b := isTwo) (by kernel_rfl) (fun q3 => ?_) (fun q3 => ?_)
          · refine xB 4 [] [(0, vs Aone one cone), (1, vb isOne), (2, vs Atwo two ctwo), (3, vb isTwo), (18, vb false), (24, vb (decide ((((two).length : Nat) : Int) > 400)))] ?_
            refine wpq_re 24 (v := vb (decide ((((two).length : Nat) : Int) > 400))) (Value.bool ((isTwo && decide ((((two).length : Nat) : Int) > 400)))) (by kernel_rfl) (re_and1 q3) ?_
            exact wpq_sub _ (by kernel_rfl) hk8
          · refine xB 4 [] [(0, vs Aone one cone), (1, vb isOne), (2, vs Atwo two ctwo), (3, vb isTwo), (18, vb false), (24, vb false)] ?_
            refine wpq_re 24 (v := vb false) (Value.bool ((isTwo && decide ((((two).length : Nat) : Int) > 400)))) (by kernel_rfl) (re_and0 q3) ?_
            exact wpq_sub _ (by kernel_rfl) hk8
        · refine xB 1 [] [(0, vs Aone one cone), (1, vb isOne), (2, vs Atwo two ctwo), (3, vb isTwo), (25, vb (isTwo && decide ((((two).length : Nat) : Int) > 400)))] ?_
          refine wpq_re 25 (v := vb (isTwo && decide ((((two).length : Nat) : Int) > 400))) (Value.bool (((isOne && decide ((((one).length : Nat) : Int) > 400)) || (isTwo && decide ((((two).length : Nat) : Int) > 400))))) (by kernel_rfl) (re_or0 q2) ?_
          exact wpq_sub _ (by kernel_rfl) hk6
    · refine xRe ?_
      refine wpq_then ?_
      refine xCd (((isOne && decide ((((one).length : Nat) : Int) > 400)) || (isTwo && decide ((((two).length : Nat) : Int) > 400)))) (fun h4 => ?_) (fun h4 => ?_)
      · have hS := cond_T h4 hS
        refine xSq ?_
        refine xRg ?_
        refine xB 2 [] [(8, Value.slice none 0 0), (9, vi 3)] ?_
        refine xRe ?_
        refine wpq_then ?_
        have eS := (Option.some.inj hS).symm
        subst eS
        exact xRet [none] [8, 9] (Gh.le.refl _) ⟨none, 0, none, by kernel_rfl, by kernel_rfl, Buf.nil⟩ (fun _ _ h => h)
      · have hS := cond_F h4 hS
        have h4l := (or_false_ h4).1
        have h4r := (or_false_ h4).2
        refine xSk ?_
        refine wpq_then ?_
        refine xSub [(0, vs Aone one cone), (1, vb isOne), (2, vs Atwo two ctwo), (3, vb isTwo)] ?_
        refine xSq ?_
        refine xRg ?_
        refine xB 1 [] [(0, vs Aone one cone), (1, vb isOne), (2, vs Atwo two ctwo), (3, vb isTwo), (10, vy 0)] ?_
        refine xRe ?_
        refine wpq_then ?_
        refine xSq ?_
        refine xSq ?_
        refine xRg ?_
        refine xB 1 [] [(0, vs Aone one cone), (1, vb isOne), (2, vs Atwo two ctwo), (3, vb isTwo), (10, vy 0), (26, vb isOne)] ?_
        refine xRe ?_
        refine wpq_then ?_
        refine xLetJ hS (fun g own sl t5 => own = [] ∧ sl = [(0, vs Aone one cone), (1, vb isOne), (2, vs Atwo two ctwo), (3, vb isTwo), (10, vy ((t5 : Nat) : Int))] ∧ (0 ≤ t5 ∧ t5 ≤ 1)) ?_ ?_
        · rintro g6 _ _ t5 e7 ⟨rfl, rfl, ⟨r5_0l, r5_0r⟩⟩ hS
          refine wpq_then ?_
          refine xSq ?_
          refine xSq ?_
          refine xRg ?_
          refine xB 1 [] [(0, vs Aone one cone), (1, vb isOne), (2, vs Atwo two ctwo), (3, vb isTwo), (10, vy ((t5 : Nat) : Int)), (29, vb isTwo)] ?_
          refine xRe ?_
          refine wpq_then ?_
          refine xLetJ hS (fun g own sl t8 => own = [] ∧ sl = [(0, vs Aone one cone), (1, vb isOne), (2, vs Atwo two ctwo), (3, vb isTwo), (10, vy ((t8 : Nat) : Int))] ∧ (0 ≤ t8 ∧ t8 ≤ 3)) ?_ ?_
          · rintro g9 _ _ t8 e10 ⟨rfl, rfl, ⟨r8_0l, r8_0r⟩⟩ hS
            refine wpq_then ?_
            refine xSq ?_
            refine xRg ?_
            refine xB 1 [] [(0, vs Aone one cone), (1, vb isOne), (2, vs Atwo two ctwo), (3, vb isTwo), (32, vy ((t8 : Nat) : Int))] ?_
            refine xE (eBs (T := tyU8) (p := g9.b) (et := 5) (xs := ([(u8 ((t8 : Nat) : Int))] : List UInt8)) (reps_cons (c := [vy ((t8 : Nat) : Int)]) (u8_rep (by omega)) reps_nil) (by simp)) ?_
            rintro _ _ _ - ⟨A11, c11, k11, rfl, rfl, rfl, h11⟩
            refine xB 1 [] [(0, vs Aone one cone), (1, vb isOne), (2, vs Atwo two ctwo), (3, vb isTwo), (11, vs A11 ([(u8 ((t8 : Nat) : Int))] : List UInt8) c11)] ?_
            refine xRe ?_
            refine wpq_then ?_
            refine xSq ?_
            refine xSq ?_
            refine xRg ?_
            refine xB 1 [] [(0, vs Aone one cone), (2, vs Atwo two ctwo), (3, vb isTwo), (11, vs A11 ([(u8 ((t8 : Nat) : Int))] : List UInt8) c11), (34, vb isOne)] ?_
            refine xRe ?_
            refine wpq_then ?_
            refine xBindO hS (fun g own sl t12 => ∃ (A12_0 : Option Addr) (c12_0 : Nat) (k12_0 : Option Bk), own = [k12_0] ∧ sl = [(2, vs Atwo two ctwo), (3, vb isTwo), (11, vs A12_0 t12 c12_0)] ∧ Buf g.b tyU8 5 (.slice A12_0 (t12).length c12_0) k12_0 t12) ?_ ?_
            · rintro g13 _ _ t12 e14 ⟨A12_0, c12_0, k12_0, rfl, rfl, h12_0⟩ hS
              have nh12_0 := h12_0.len
              refine wpq_then ?_
              refine xSq ?_
              refine xSq ?_
              refine xRg ?_
              refine xB 1 [] [(2, vs Atwo two ctwo), (11, vs A12_0 t12 c12_0), (43, vb isTwo)] ?_
              refine xRe ?_
              refine wpq_then ?_
              refine xBindO hS (fun g own sl t15 => ∃ (A15_0 : Option Addr) (c15_0 : Nat) (k15_0 : Option Bk), own = [k15_0] ∧ sl = [(11, vs A15_0 t15 c15_0)] ∧ Buf g.b tyU8 5 (.slice A15_0 (t15).length c15_0) k15_0 t15) ?_ ?_
              · rintro g16 _ _ t15 e17 ⟨A15_0, c15_0, k15_0, rfl, rfl, h15_0⟩ hS
                have nh15_0 := h15_0.len
                refine wpq_then ?_
                refine xSq ?_
                refine xRg ?_
                refine xB 3 [] [(8, vs A15_0 t15 c15_0), (9, vi 0)] ?_
                refine xRe ?_
                refine wpq_then ?_
                have eS := (Option.some.inj hS).symm
                subst eS
                exact xRet [some 0] [8, 9] (e7.trans (e10.trans (e14.trans e17))) ⟨A15_0, c15_0, k15_0, by kernel_rfl, by kernel_rfl, h15_0⟩ (fun _ _ h => h)
              · intro u15 hS hN15
                refine xCd (isTwo) (fun h18 => ?_) (fun h18 => ?_)
                · have hS := cond_T h18 hS
                  refine xSq ?_
                  refine xRg ?_
                  refine xB 3 [] [(2, vs Atwo two ctwo), (11, vs A12_0 t12 c12_0), (44, vs A12_0 t12 c12_0), (46, vi (((two).length : Nat) : Int))] ?_
                  obtain ⟨y19, hy19, hS⟩ := bindO_T hS
                  refine xE (eC 0 (fun g' lr eb ln => c54 g' ((((two).length : Nat) : Int) : Int) (2 : Int) hy19)) ?_
                  rintro _ g20 _ e21 ⟨_, rfl, A19_0, c19_0, k19_0, rfl, rfl, h19_0⟩
                  have nh19_0 := h19_0.len
                  have h12_0 := h12_0.mono e21.b
                  obtain ⟨nw22, hp22, hs22⟩ := h19_0.srcO (g := g20)
                  obtain ⟨q23, hS⟩ := grd_T hS
                  have q23p := of_decide_eq_true q23
                  refine xE (eApp (T := tyU8) (p := g20.b) (et := 5) (bytes := 1) (xs := (t12 : List UInt8)) (ys := (y19 : List UInt8)) 1 h12_0 rfl (fun w hs => hs22 0 w _ hs (by kernel_rfl)) hp22 (by first | omega | (simp only [List.length_cons, List.length_nil] at *; omega)) (by first | omega | (simp only [List.length_cons, List.length_nil] at *; omega))) ?_
                  rintro _ _ _ - ⟨A22, c22, k22, rfl, rfl, rfl, h22⟩
                  have nh22 := h22.len
                  have hz22 : ((t12 ++ y19) : List UInt8).length = (t12).length + (y19).length := List.length_append
                  refine xB 1 [] [(2, vs Atwo two ctwo), (11, vs A22 (t12 ++ y19) c22)] ?_
                  refine xRe ?_
                  refine wpq_then ?_
                  refine xRg ?_
                  refine xB 2 [] [(11, vs A22 (t12 ++ y19) c22), (49, vs A22 (t12 ++ y19) c22), (50, vs Atwo two ctwo)] ?_
                  have ftwo := ftwo.mono (e7.trans (e10.trans (e14.trans e21))).r
                  obtain ⟨nw24, hp24, hs24⟩ := ftwo.srcR
                  obtain ⟨q25, hS⟩ := grd_T hS
                  have q25p := of_decide_eq_true q25
                  refine xE (eApp (T := tyU8) (p := g20.b) (et := 5) (bytes := 1) (xs := ((t12 ++ y19) : List UInt8)) (ys := (two : List UInt8)) 1 h22 rfl (fun w hs => hs24 w _ hs) (flatU8.reps hp24) (by first | omega | (simp only [List.length_cons, List.length_nil] at *; omega)) (by first | omega | (simp only [List.length_cons, List.length_nil] at *; omega))) ?_
                  rintro _ _ _ - ⟨A24, c24, k24, rfl, rfl, rfl, h24⟩
                  have nh24 := h24.len
                  have hz24 : (((t12 ++ y19) ++ two) : List UInt8).length = ((t12 ++ y19)).length + (two).length := List.length_append
                  refine xB 1 [] [(11, vs A24 ((t12 ++ y19) ++ two) c24)] ?_
                  refine xRe ?_
                  refine xSel [some 1] ?_
                  refine xSub [(11, vs A24 ((t12 ++ y19) ++ two) c24)] ?_
                  have eS := (Option.some.inj hS).symm
                  exact hN15 _ eS _ _ _ e21 ⟨A24, c24, k24, by kernel_rfl, by kernel_rfl, h24⟩
                · have hS := cond_F h18 hS
                  refine xSk ?_
                  refine xSub [(11, vs A12_0 t12 c12_0)] ?_
                  have eS := (Option.some.inj hS).symm
                  exact hN15 _ eS _ _ _ (Gh.le.refl _) ⟨A12_0, c12_0, k12_0, by kernel_rfl, by kernel_rfl, h12_0⟩
            · intro u12 hS hN12
              refine xCd (isOne) (fun h26 => ?_) (fun h26 => ?_)
              · have hS := cond_T h26 hS
                refine xSq ?_
                refine xRg ?_
                refine xB 3 [] [(0, vs Aone one cone), (2, vs Atwo two ctwo), (3, vb isTwo), (11, vs A11 ([(u8 ((t8 : Nat) : Int))] : List UInt8) c11), (35, vs A11 ([(u8 ((t8 : Nat) : Int))] : List UInt8) c11), (37, vi (((one).length : Nat) : Int))] ?_
                obtain ⟨y27, hy27, hS⟩ := bindO_T hS
                refine xE (eC 0 (fun g' lr eb ln => c54 g' ((((one).length : Nat) : Int) : Int) (2 : Int) hy27)) ?_
                rintro _ g28 _ e29 ⟨_, rfl, A27_0, c27_0, k27_0, rfl, rfl, h27_0⟩
                have nh27_0 := h27_0.len
                have h11 := h11.mono e29.b
                obtain ⟨nw30, hp30, hs30⟩ := h27_0.srcO (g := g28)
                obtain ⟨q31, hS⟩ := grd_T hS
                have q31p := of_decide_eq_true q31
                refine xE (eApp (T := tyU8) (p := g28.b) (et := 5) (bytes := 1) (xs := (([(u8 ((t8 : Nat) : Int))] : List UInt8) : List UInt8)) (ys := (y27 : List UInt8)) 1 h11 rfl (fun w hs => hs30 0 w _ hs (by kernel_rfl)) hp30 (by first | omega | (simp only [List.length_cons, List.length_nil] at *; omega)) (by first | omega | (simp only [List.length_cons, List.length_nil] at *; omega))) ?_
                rintro _ _ _ - ⟨A30, c30, k30, rfl, rfl, rfl, h30⟩
                have nh30 := h30.len
                have hz30 : ((([(u8 ((t8 : Nat) : Int))] : List UInt8) ++ y27) : List UInt8).length = (([(u8 ((t8 : Nat) : Int))] : List UInt8)).length + (y27).length := List.length_append
                refine xB 1 [] [(0, vs Aone one cone), (2, vs Atwo two ctwo), (3, vb isTwo), (11, vs A30 (([(u8 ((t8 : Nat) : Int))] : List UInt8) ++ y27) c30)] ?_
                refine xRe ?_
                refine wpq_then ?_
                refine xRg ?_
                refine xB 2 [] [(2, vs Atwo two ctwo), (3, vb isTwo), (11, vs A30 (([(u8 ((t8 : Nat) : Int))] : List UInt8) ++ y27) c30), (40, vs A30 (([(u8 ((t8 : Nat) : Int))] : List UInt8) ++ y27) c30), (41, vs Aone one cone)] ?_
                have fone := fone.mono (e7.trans (e10.trans e29)).r
                obtain ⟨nw32, hp32, hs32⟩ := fone.srcR
                obtain ⟨q33, hS⟩ := grd_T hS
                have q33p := of_decide_eq_true q33
                refine xE (eApp (T := tyU8) (p := g28.b) (et := 5) (bytes := 1) (xs := ((([(u8 ((t8 : Nat) : Int))] : List UInt8) ++ y27) : List UInt8)) (ys := (one : List UInt8)) 1 h30 rfl (fun w hs => hs32 w _ hs) (flatU8.reps hp32) (by first | omega | (simp only [List.length_cons, List.length_nil] at *; omega)) (by first | omega | (simp only [List.length_cons, List.length_nil] at *; omega))) ?_
                rintro _ _ _ - ⟨A32, c32, k32, rfl, rfl, rfl, h32⟩
                have nh32 := h32.len
                have hz32 : (((([(u8 ((t8 : Nat) : Int))] : List UInt8) ++ y27) ++ one) : List UInt8).length = ((([(u8 ((t8 : Nat) : Int))] : List UInt8) ++ y27)).length + (one).length := List.length_append
                refine xB 1 [] [(2, vs Atwo two ctwo), (3, vb isTwo), (11, vs A32 ((([(u8 ((t8 : Nat) : Int))] : List UInt8) ++ y27) ++ one) c32)] ?_
                refine xRe ?_
                refine xSel [some 1] ?_
                refine xSub [(2, vs Atwo two ctwo), (3, vb isTwo), (11, vs A32 ((([(u8 ((t8 : Nat) : Int))] : List UInt8) ++ y27) ++ one) c32)] ?_
                have eS := (Option.some.inj hS).symm
                exact hN12 _ eS _ _ _ e29 ⟨A32, c32, k32, by kernel_rfl, by kernel_rfl, h32⟩
              · have hS := cond_F h26 hS
                refine xSk ?_
                refine xSub [(2, vs Atwo two ctwo), (3, vb isTwo), (11, vs A11 ([(u8 ((t8 : Nat) : Int))] : List UInt8) c11)] ?_
                have eS := (Option.some.inj hS).symm
                exact hN12 _ eS _ _ _ (Gh.le.refl _) ⟨A11, c11, k11, by kernel_rfl, by kernel_rfl, h11⟩
          · intro u8 hS hN8
            refine xCd (isTwo) (fun h34 => ?_) (fun h34 => ?_)
            · have hS := cond_T h34 hS
              refine xRg ?_
              refine xB 1 [] [(0, vs Aone one cone), (1, vb isOne), (2, vs Atwo two ctwo), (3, vb isTwo), (10, vy ((t5 : Nat) : Int)), (30, vy ((t5 : Nat) : Int))] ?_
              refine xV (qAdd .u8 (((t5 : Nat) : Int)) (2) (wr_u8 (by omega))) ?_
              refine xB 1 [] [(0, vs Aone one cone), (1, vb isOne), (2, vs Atwo two ctwo), (3, vb isTwo), (10, vy (((t5 : Nat) : Int) + 2))] ?_
              refine xRe ?_
              refine xSub [(0, vs Aone one cone), (1, vb isOne), (2, vs Atwo two ctwo), (3, vb isTwo), (10, vy (((t5 : Nat) : Int) + 2))] ?_
              have eS := hS.symm
              exact hN8 _ eS _ _ _ (Gh.le.refl _) ⟨by kernel_rfl, by kernel_rfl, ⟨by omega, by omega⟩⟩
            · have hS := cond_F h34 hS
              refine xSk ?_
              refine xSub [(0, vs Aone one cone), (1, vb isOne), (2, vs Atwo two ctwo), (3, vb isTwo), (10, vy ((t5 : Nat) : Int))] ?_
              have eS := hS.symm
              exact hN8 _ eS _ _ _ (Gh.le.refl _) ⟨by kernel_rfl, by kernel_rfl, ⟨by omega, by omega⟩⟩
        · intro u5 hS hN5
          refine xCd (isOne) (fun h35 => ?_) (fun h35 => ?_)
          · have hS := cond_T h35 hS
            refine xRg ?_
            refine xB 3 [] [(0, vs Aone one cone), (1, vb isOne), (2, vs Atwo two ctwo), (3, vb isTwo), (10, vy 1)] ?_
            refine xRe ?_
            refine xSub [(0, vs Aone one cone), (1, vb isOne), (2, vs Atwo two ctwo), (3, vb isTwo), (10, vy 1)] ?_
            have eS := hS.symm
            exact hN5 _ eS _ _ _ (Gh.le.refl _) ⟨by kernel_rfl, by kernel_rfl, ⟨by omega, by omega⟩⟩
          · have hS := cond_F h35 hS
            refine xSk ?_
            refine xSub [(0, vs Aone one cone), (1, vb isOne), (2, vs Atwo two ctwo), (3, vb isTwo), (10, vy 0)] ?_
            have eS := hS.symm
            exact hN5 _ eS _ _ _ (Gh.le.refl _) ⟨by kernel_rfl, by kernel_rfl, ⟨by omega, by omega⟩⟩

def o74 (n : RNode) : Option (Sett) :=
  (bindO (τ := (List UInt8)) (cond ((n.number == 1)) (bindO (τ := (List UInt8) × Int) (o16 (n.input : List UInt8) (true) (n.heard.input : List UInt8) ((n.isHeard && (n.heard.role == 3)))) fun y12 => (some ((y12.1 : List UInt8)))) (bindO (τ := (List UInt8) × Int) (o16 (n.heard.input : List UInt8) ((n.isHeard && (n.heard.role == 3))) (n.input : List UInt8) (true)) fun y15 => (some ((y15.1 : List UInt8))))) fun t5 => (some (({ n with in_ := t5 }))))
set_option maxRecDepth 100000 in
theorem c74 (g : Gh) (n : RNode) (An_input : Option Addr) (cn_input : Nat) (An_heard_input : Option Addr) (cn_heard_input : Nat) (fn_input : Arr g.r tyU8 An_input cn_input n.input) (fn_heard_input : Arr g.r tyU8 An_heard_input cn_heard_input n.heard.input) {r : Sett} (hS : o74 n = some r) :
    Ctr Try.prog 74 [Value.agg #[vi n.number, vy n.role, vi n.steps, vi n.alone, vi n.stage, vi n.cycle, vs An_input n.input cn_input, vb n.fresh, vb n.isHeard, vy n.heard.role, vi n.heard.steps, vi n.heard.want.base, vi n.heard.want.have_, vs An_heard_input n.heard.input cn_heard_input, vb n.stepped, vy n.told.lateral, vy n.told.vertical, vy n.told.phase, vi n.told.bank, vi n.told.speed, vi n.told.alt, vi n.told.vs]] g [] (fun v ψ o => ∃ (Ar_0_in_ : Option Addr) (cr_0_in_ : Nat), v = Value.agg #[vi r.steps, vi r.cycle, vb r.fresh, vs Ar_0_in_ r.in_ cr_0_in_] ∧ o = [] ∧ Arr ψ tyU8 Ar_0_in_ cr_0_in_ r.in_) := by
  unfold o74 at hS
  refine xFn Try.f74 (Try.f74.body.getD .skip) 46 ?_
  have nfn_input := fn_input.len
  have nfn_heard_input := fn_heard_input.len
  refine xSq ?_
  refine xRg ?_
  refine xE eB ?_
  rintro _ _ _ - ⟨b1, rfl, rfl, rfl⟩
  refine xE eB ?_
  rintro _ _ _ - ⟨b2, rfl, rfl, rfl⟩
  refine xRe ?_
  refine wpq_then ?_
  refine xSub [(1, vp b1 0), (2, vp b2 0)] ?_
  refine xSq ?_
  refine xRg ?_
  refine xB 3 [(1, 1)] [(1, vp b1 0), (2, vp b2 0), (7, vb n.isHeard)] ?_
  refine wpr_grp 8 [(1, vp b1 0), (2, vp b2 0), (12, vb (n.isHeard && (n.heard.role == 3)))] (fun hk2 => ?_) ?_
  · refine wpq_split 7 (b := n.isHeard) (by kernel_rfl) (fun q3 => ?_) (fun q3 => ?_)
    · refine xB 5 [(5, 1)] [(1, vp b1 0), (2, vp b2 0), (12, vb (n.heard.role == 3))] ?_
      refine wpq_re 12 (v := vb (n.heard.role == 3)) (Value.bool ((n.isHeard && (n.heard.role == 3)))) (by kernel_rfl) (re_and1 q3) ?_
      exact wpq_sub _ (by kernel_rfl) hk2
    · refine xB 5 [] [(1, vp b1 0), (2, vp b2 0), (12, vb false)] ?_
      refine wpq_re 12 (v := vb false) (Value.bool ((n.isHeard && (n.heard.role == 3)))) (by kernel_rfl) (re_and0 q3) ?_
      exact wpq_sub _ (by kernel_rfl) hk2
  · refine xB 1 [] [(1, vp b1 0), (2, vp b2 0), (3, vb (n.isHeard && (n.heard.role == 3)))] ?_
    refine xRe ?_
    refine wpq_then ?_
    refine xSq ?_
    refine xRg ?_
    refine xB 7 [(1, 1), (3, 1), (5, 1)] [(1, vp b1 0), (2, vp b2 0), (3, vb (n.isHeard && (n.heard.role == 3))), (19, Value.agg #[vi n.steps, vi n.cycle, vb n.fresh, Value.slice none 0 0])] ?_
    refine xE eB ?_
    rintro _ _ _ - ⟨b4, rfl, rfl, rfl⟩
    refine xBo 1 [(8, 0)] [some ⟨b4, 67, (cSett ({ n with in_ := ([] : List UInt8) }) none 0)⟩, some ⟨b2, 67, (cSett (⟨0, 0, false, ([] : List UInt8)⟩ : Sett) none 0)⟩, some ⟨b1, 96, (cRNode n An_input cn_input An_heard_input cn_heard_input)⟩] [(1, vp b1 0), (2, vp b2 0), (3, vb (n.isHeard && (n.heard.role == 3))), (4, vp b4 0)] ?_
    refine xRe ?_
    refine wpq_then ?_
    refine xSq ?_
    refine xSq ?_
    refine xRg ?_
    refine xB 3 [(1, 2)] [(1, vp b1 0), (2, vp b2 0), (3, vb (n.isHeard && (n.heard.role == 3))), (4, vp b4 0), (22, vb (n.number == 1))] ?_
    refine xRe ?_
    refine wpq_then ?_
    refine xBindO hS (fun g own sl t5 => ∃ (A5_0 : Option Addr) (c5_0 : Nat) (k5_0 : Option Bk), own = [some ⟨b4, 67, (cSett ({ n with in_ := t5 }) A5_0 c5_0)⟩, some ⟨b2, 67, (cSett (⟨0, 0, false, ([] : List UInt8)⟩ : Sett) none 0)⟩, k5_0] ∧ sl = [(2, vp b2 0), (4, vp b4 0)] ∧ Buf g.b tyU8 5 (.slice A5_0 (t5).length c5_0) k5_0 t5) ?_ ?_
    · rintro g6 _ _ t5 e7 ⟨A5_0, c5_0, k5_0, rfl, rfl, h5_0⟩ hS
      have nh5_0 := h5_0.len
      refine wpq_then ?_
      refine xSq ?_
      refine xRg ?_
      refine xBo 2 [(0, 0), (1, 1)] [some ⟨b4, 67, (cSett ({ n with in_ := t5 }) A5_0 c5_0)⟩, some ⟨b2, 67, (cSett ({ n with in_ := t5 }) A5_0 c5_0)⟩, k5_0] [(2, vp b2 0)] ?_
      refine xRe ?_
      refine wpq_then ?_
      refine wpq_freeze 2 (by kernel_rfl) h5_0 (fun g8 e9 f10 => ?_)
      have eS := (Option.some.inj hS).symm
      subst eS
      exact xRetC [] [(2, 1)] (e7.trans e9) ⟨A5_0, c5_0, by kernel_rfl, by kernel_rfl, f10⟩ (fun _ _ h => h)
    · intro u5 hS hN5
      refine xCd ((n.number == 1)) (fun h11 => ?_) (fun h11 => ?_)
      · have hS := cond_T h11 hS
        have h11p : n.number = 1 := eq_of_beq h11
        refine xRg ?_
        refine xB 6 [(1, 2), (4, 2)] [(2, vp b2 0), (4, vp b4 0), (25, vs An_input n.input cn_input), (28, vs An_heard_input n.heard.input cn_heard_input), (29, vb (n.isHeard && (n.heard.role == 3)))] ?_
        obtain ⟨y12, hy12, hS⟩ := bindO_T hS
        refine xE (eC 0 (fun g' lr eb ln => c16 g' (n.input : List UInt8) An_input cn_input (true) (n.heard.input : List UInt8) An_heard_input cn_heard_input ((n.isHeard && (n.heard.role == 3))) (fn_input.mono lr) (fn_heard_input.mono lr) hy12)) ?_
        rintro _ g13 _ e14 ⟨_, rfl, A12_0, c12_0, k12_0, rfl, rfl, h12_0⟩
        have nh12_0 := h12_0.len
        refine xBo 5 [(11, 1)] [k12_0, some ⟨b4, 67, (cSett ({ n with in_ := y12.1 }) A12_0 c12_0)⟩, some ⟨b2, 67, (cSett (⟨0, 0, false, ([] : List UInt8)⟩ : Sett) none 0)⟩, some ⟨b1, 96, (cRNode n An_input cn_input An_heard_input cn_heard_input)⟩] [(2, vp b2 0), (4, vp b4 0)] ?_
        refine xRe ?_
        refine xSel [some 1, some 2, some 0] ?_
        refine xSub [(2, vp b2 0), (4, vp b4 0)] ?_
        have eS := (Option.some.inj hS).symm
        exact hN5 _ eS _ _ _ e14 ⟨A12_0, c12_0, k12_0, by kernel_rfl, by kernel_rfl, h12_0⟩
      · have hS := cond_F h11 hS
        have h11p : ¬ (n.number = 1) := ne_of_beq_false_ h11
        refine xRg ?_
        refine xB 6 [(2, 2), (5, 2)] [(2, vp b2 0), (4, vp b4 0), (37, vs An_heard_input n.heard.input cn_heard_input), (38, vb (n.isHeard && (n.heard.role == 3))), (40, vs An_input n.input cn_input)] ?_
        obtain ⟨y15, hy15, hS⟩ := bindO_T hS
        refine xE (eC 0 (fun g' lr eb ln => c16 g' (n.heard.input : List UInt8) An_heard_input cn_heard_input ((n.isHeard && (n.heard.role == 3))) (n.input : List UInt8) An_input cn_input (true) (fn_heard_input.mono lr) (fn_input.mono lr) hy15)) ?_
        rintro _ g16 _ e17 ⟨_, rfl, A15_0, c15_0, k15_0, rfl, rfl, h15_0⟩
        have nh15_0 := h15_0.len
        refine xBo 5 [(11, 1)] [k15_0, some ⟨b4, 67, (cSett ({ n with in_ := y15.1 }) A15_0 c15_0)⟩, some ⟨b2, 67, (cSett (⟨0, 0, false, ([] : List UInt8)⟩ : Sett) none 0)⟩, some ⟨b1, 96, (cRNode n An_input cn_input An_heard_input cn_heard_input)⟩] [(2, vp b2 0), (4, vp b4 0)] ?_
        refine xRe ?_
        refine xSel [some 1, some 2, some 0] ?_
        refine xSub [(2, vp b2 0), (4, vp b4 0)] ?_
        have eS := (Option.some.inj hS).symm
        exact hN5 _ eS _ _ _ e17 ⟨A15_0, c15_0, k15_0, by kernel_rfl, by kernel_rfl, h15_0⟩

def o57 (p : List UInt8) (is_ : Bool) : Option ((List UInt8) × (List UInt8) × Bool) :=
  (cond ((!is_)) (some ((([] : List UInt8), (p : List UInt8), (true)))) (cond (decide ((((p).length : Nat) : Int) < 2)) (some ((([] : List UInt8), ([] : List UInt8), (false)))) (bindO (τ := Int) (o58 ((List.take 2 p) : List UInt8)) fun y4 => (cond ((decide (y4 > 400) || decide (y4 > ((((p).length : Nat) : Int) - 2)))) (some ((([] : List UInt8), ([] : List UInt8), (false)))) (grd (decide (-9223372036854775808 ≤ 2 + y4 ∧ 2 + y4 ≤ 9223372036854775807)) (grd (decide (2 ≤ (2 + y4) ∧ (2 + y4) ≤ (((p).length : Nat) : Int))) (grd (decide (-9223372036854775808 ≤ 2 + y4 ∧ 2 + y4 ≤ 9223372036854775807)) (grd (decide (0 ≤ (2 + y4) ∧ (2 + y4) ≤ (((p).length : Nat) : Int))) (some ((((List.take (((2 + y4)).toNat - 2) (List.drop 2 p)) : List UInt8), ((List.drop ((2 + y4)).toNat p) : List UInt8), (true))))))))))))
set_option maxRecDepth 100000 in
theorem c57 (g : Gh) (p : List UInt8) (Ap : Option Addr) (cp : Nat) (is_ : Bool) (fp : Arr g.b tyU8 Ap cp p) {r : (List UInt8) × (List UInt8) × Bool} (hS : o57 p is_ = some r) :
    Ctr Try.prog 57 [vs Ap p cp, vb is_] g [] (fun v ψ o => ∃ (Ar_0 : Option Addr) (cr_0 : Nat) (kr_0 : Option Bk) (Ar_1 : Option Addr) (cr_1 : Nat), v = Value.tuple #[vs Ar_0 r.1 cr_0, vs Ar_1 r.2.1 cr_1, vb r.2.2] ∧ o = [kr_0] ∧ Buf ψ tyU8 5 (.slice Ar_0 (r.1).length cr_0) kr_0 r.1 ∧ Arr ψ tyU8 Ar_1 cr_1 r.2.1) := by
  unfold o57 at hS
  refine xFn Try.f57 (Try.f57.body.getD .skip) 36 ?_
  have nfp := fp.len
  refine xSq ?_
  refine xRg ?_
  refine xB 3 [] [(0, vs Ap p cp), (1, vb is_)] ?_
  refine xRe ?_
  refine wpq_then ?_
  refine xSq ?_
  refine xSq ?_
  refine xRg ?_
  refine xB 2 [] [(0, vs Ap p cp), (9, vb (!is_))] ?_
  refine xRe ?_
  refine wpq_then ?_
  refine xCd ((!is_)) (fun h1 => ?_) (fun h1 => ?_)
  · have hS := cond_T h1 hS
    have h1n := not_eq_true_ h1
    refine xSq ?_
    refine xRg ?_
    refine xB 4 [] [(4, Value.slice none 0 0), (5, vs Ap p cp), (6, vb true)] ?_
    refine xRe ?_
    refine wpq_then ?_
    have eS := (Option.some.inj hS).symm
    subst eS
    exact xRet [none] [4, 5, 6] (Gh.le.refl _) ⟨none, 0, none, Ap, cp, by kernel_rfl, by kernel_rfl, Buf.nil, fp⟩ (fun _ _ h => h)
  · have hS := cond_F h1 hS
    have h1n := not_eq_false_ h1
    refine xSk ?_
    refine wpq_then ?_
    refine xSub [(0, vs Ap p cp)] ?_
    refine xSq ?_
    refine xSq ?_
    refine xRg ?_
    refine xB 3 [] [(0, vs Ap p cp), (13, vb (decide ((((p).length : Nat) : Int) < 2)))] ?_
    refine xRe ?_
    refine wpq_then ?_
    refine xCd (decide ((((p).length : Nat) : Int) < 2)) (fun h2 => ?_) (fun h2 => ?_)
    · have hS := cond_T h2 hS
      have h2p := of_decide_eq_true h2
      refine xSq ?_
      refine xRg ?_
      refine xB 3 [] [(4, Value.slice none 0 0), (5, Value.slice none 0 0), (6, vb false)] ?_
      refine xRe ?_
      refine wpq_then ?_
      have eS := (Option.some.inj hS).symm
      subst eS
      exact xRet [none] [4, 5, 6] (Gh.le.refl _) ⟨none, 0, none, none, 0, by kernel_rfl, by kernel_rfl, Buf.nil, Arr.nil⟩ (fun _ _ h => h)
    · have hS := cond_F h2 hS
      have h2p := of_decide_eq_false h2
      refine xSk ?_
      refine wpq_then ?_
      refine xSub [(0, vs Ap p cp)] ?_
      refine xSq ?_
      refine xRg ?_
      have ncapf3 := fp.cap
      have f3 : Arr g.b tyU8 (offA Ap cp 0 1) (cp - 0) (List.take 2 p) := fp.cut_to 2 (by omega)
      have nf3 := f3.len
      have hlf3 : 2 - 0 = ((List.take 2 p)).length := by simp only [List.length_take, List.length_drop] <;> omega
      have hvf3 : ((((List.take 2 p)).length : Nat) : Int) = 2 - 0 := by omega
      refine xB 1 [] [(0, vs Ap p cp), (14, vs Ap p cp)] ?_
      refine xV (qSl (m := 1) (A := Ap) (len := (p).length) (c := cp) 0 2 none (some 2) ((List.take 2 p)).length rfl rfl (by omega) (by omega) hlf3) ?_
      obtain ⟨y4, hy4, hS⟩ := bindO_T hS
      refine xE (eC 0 (fun g' lr eb ln => c58 g' ((List.take 2 p) : List UInt8) (offA Ap cp 0 1) (cp - 0) ((f3.mono g.br).mono lr) hy4)) ?_
      rintro _ g5 _ e6 ⟨_, rfl, rfl, rfl⟩
      refine xB 1 [] [(0, vs Ap p cp), (7, vi y4)] ?_
      refine xRe ?_
      refine wpq_then ?_
      refine xSq ?_
      refine xSq ?_
      refine xRg ?_
      refine xB 3 [] [(0, vs Ap p cp), (7, vi y4), (19, vb (decide (y4 > 400)))] ?_
      refine wpr_grp 9 [(0, vs Ap p cp), (7, vi y4), (25, vb (decide (y4 > 400) || decide (y4 > ((((p).length : Nat) : Int) - 2))))] (fun hk2 => ?_) ?_
      · refine wpq_split 19 (b := decide (y4 > 400)) (by kernel_rfl) (fun q7 => ?_) (fun q7 => ?_)
        · have q7p := of_decide_eq_true q7
          refine xB 6 [] [(0, vs Ap p cp), (7, vi y4), (25, vb true)] ?_
          refine wpq_re 25 (v := vb true) (Value.bool ((decide (y4 > 400) || decide (y4 > ((((p).length : Nat) : Int) - 2))))) (by kernel_rfl) (re_or1 q7) ?_
          exact wpq_sub _ (by kernel_rfl) hk2
        · have q7p := of_decide_eq_false q7
          refine xB 3 [] [(0, vs Ap p cp), (7, vi y4), (19, vb false), (20, vi y4), (22, vi (((p).length : Nat) : Int))] ?_
          refine xV (qSub .i64 ((((p).length : Nat) : Int)) (2) (wr64 (by omega))) ?_
          refine xB 2 [] [(0, vs Ap p cp), (7, vi y4), (25, vb (decide (y4 > ((((p).length : Nat) : Int) - 2))))] ?_
          refine wpq_re 25 (v := vb (decide (y4 > ((((p).length : Nat) : Int) - 2)))) (Value.bool ((decide (y4 > 400) || decide (y4 > ((((p).length : Nat) : Int) - 2))))) (by kernel_rfl) (re_or0 q7) ?_
          exact wpq_sub _ (by kernel_rfl) hk2
      · refine xRe ?_
        refine wpq_then ?_
        refine xCd ((decide (y4 > 400) || decide (y4 > ((((p).length : Nat) : Int) - 2)))) (fun h8 => ?_) (fun h8 => ?_)
        · have hS := cond_T h8 hS
          refine xSq ?_
          refine xRg ?_
          refine xB 3 [] [(4, Value.slice none 0 0), (5, Value.slice none 0 0), (6, vb false)] ?_
          refine xRe ?_
          refine wpq_then ?_
          have eS := (Option.some.inj hS).symm
          subst eS
          exact xRet [none] [4, 5, 6] e6 ⟨none, 0, none, none, 0, by kernel_rfl, by kernel_rfl, Buf.nil, Arr.nil⟩ (fun _ _ h => h)
        · have hS := cond_F h8 hS
          have h8l := (or_false_ h8).1
          have h8r := (or_false_ h8).2
          have h8lp := of_decide_eq_false h8l
          have h8rp := of_decide_eq_false h8r
          refine xSk ?_
          refine wpq_then ?_
          refine xSub [(0, vs Ap p cp), (7, vi y4)] ?_
          refine xSq ?_
          refine xDr 0 [] [1, 2, 3, 4, 6, 7, 8, 9, 10, 11, 12] [] 13 (fun RG => ?_) (fun _ _ _ _ _ h => h)
          obtain ⟨q9, hS⟩ := grd_T hS
          have q9p := of_decide_eq_true q9
          refine xT 11 [1, 2] [] [] [(0, vs Ap p cp), (7, vi y4), (27, vs Ap p cp), (28, vi y4)] RG (Psi.le.refl _) ?_
          refine xTp 3 RG (fun _ => (qAdd .i64 (2) (y4) (wr64 (by omega)))) ?_
          have fp := fp.mono e6.b
          obtain ⟨q10, hS⟩ := grd_T hS
          have q10p := of_decide_eq_true q10
          have ncapf11 := fp.cap
          have f11 : Arr g5.b tyU8 (offA Ap cp 2 1) (cp - 2) (List.take (((2 + y4)).toNat - 2) (List.drop 2 p)) := fp.cut 2 ((2 + y4)).toNat (by omega) (by omega)
          have nf11 := f11.len
          have hlf11 : ((2 + y4)).toNat - 2 = ((List.take (((2 + y4)).toNat - 2) (List.drop 2 p))).length := by simp only [List.length_take, List.length_drop] <;> omega
          have hvf11 : ((((List.take (((2 + y4)).toNat - 2) (List.drop 2 p))).length : Nat) : Int) = (2 + y4) - 2 := by omega
          refine xTp 4 RG (fun _ => (qSl (m := 1) (A := Ap) (len := (p).length) (c := cp) 2 ((2 + y4)).toNat (some 2) (some (2 + y4)) ((List.take (((2 + y4)).toNat - 2) (List.drop 2 p))).length rfl (show _ = _ by omega) (by omega) (by omega) hlf11)) ?_
          obtain ⟨q12, hS⟩ := grd_T hS
          have q12p := of_decide_eq_true q12
          refine xT 7 [6, 7] [] [] [(30, vs (offA Ap cp 2 1) (List.take (((2 + y4)).toNat - 2) (List.drop 2 p)) (cp - 2)), (32, vs Ap p cp), (33, vi y4)] RG (Psi.le.refl _) ?_
          refine xTp 8 RG (fun _ => (qAdd .i64 (2) (y4) (wr64 (by omega)))) ?_
          obtain ⟨q13, hS⟩ := grd_T hS
          have q13p := of_decide_eq_true q13
          have ncapf14 := fp.cap
          have f14 : Arr g5.b tyU8 (offA Ap cp ((2 + y4)).toNat 1) (cp - ((2 + y4)).toNat) (List.drop ((2 + y4)).toNat p) := fp.cut_from ((2 + y4)).toNat (by omega)
          have nf14 := f14.len
          have hlf14 : (p).length - ((2 + y4)).toNat = ((List.drop ((2 + y4)).toNat p)).length := by simp only [List.length_take, List.length_drop] <;> omega
          have hvf14 : ((((List.drop ((2 + y4)).toNat p)).length : Nat) : Int) = (((p).length : Nat) : Int) - (2 + y4) := by omega
          refine xTp 9 RG (fun _ => (qSl (m := 1) (A := Ap) (len := (p).length) (c := cp) ((2 + y4)).toNat (p).length (some (2 + y4)) none ((List.drop ((2 + y4)).toNat p)).length (show _ = _ by omega) rfl (by omega) (by omega) hlf14)) ?_
          refine xO1 (lds := []) 0 ?_
          refine xIe (lds := []) (Psi.le.refl _) (eBs (T := tyU8) (p := g5.b) (et := 5) (xs := ([] : List UInt8)) reps_nil (by simp)) ?_
          rintro _ _ _ - ⟨A15, c15, k15, rfl, rfl, rfl, h15⟩
          refine kk [] ?_
          obtain ⟨nw16, hp16, hs16⟩ := f11.srcB
          refine xO1 (lds := []) 5 ?_
          refine xIe (lds := []) (Psi.le.refl _) (eApp (T := tyU8) (p := g5.b) (et := 5) (bytes := 1) (xs := ([] : List UInt8)) (ys := ((List.take (((2 + y4)).toNat - 2) (List.drop 2 p)) : List UInt8)) 0 h15 rfl (fun w hs => hs16 w _ hs) hp16 (by first | omega | (simp only [List.length_cons, List.length_nil] at *; omega)) (by first | omega | (simp only [List.length_cons, List.length_nil] at *; omega))) ?_
          rintro _ _ _ - ⟨A16, c16, k16, rfl, rfl, rfl, h16⟩
          refine kk [] ?_
          have h16 : Buf g5.b tyU8 5 (.slice A16 (((List.take (((2 + y4)).toNat - 2) (List.drop 2 p)) : List UInt8)).length c16) k16 ((List.take (((2 + y4)).toNat - 2) (List.drop 2 p)) : List UInt8) := h16
          have nh16 := h16.len
          refine xT 0 [10, 11, 12] [] [] [(4, vs A16 (List.take (((2 + y4)).toNat - 2) (List.drop 2 p)) c16), (5, vs (offA Ap cp ((2 + y4)).toNat 1) (List.drop ((2 + y4)).toNat p) (cp - ((2 + y4)).toNat)), (6, vb true)] RG (Psi.le.refl _) ?_
          refine xAe (lds := []) ?_
          refine wpq_then ?_
          have eS := (Option.some.inj hS).symm
          subst eS
          exact xRet [some 0] [4, 5, 6] e6 ⟨A16, c16, k16, (offA Ap cp ((2 + y4)).toNat 1), (cp - ((2 + y4)).toNat), by kernel_rfl, by kernel_rfl, h16, f14⟩ (fun _ _ h => h)

def o18 (in_ : List UInt8) : Option ((List UInt8) × Bool × (List UInt8) × Bool × Int) :=
  (cond ((((((in_).length : Nat) : Int) == 0) || decide (((List.getD in_ 0 0).toNat : Int) > 3))) (some ((([] : List UInt8), (false), ([] : List UInt8), (false), (4 : Int)))) (bindO (τ := (List UInt8) × (List UInt8) × Bool) (o57 ((List.drop 1 in_) : List UInt8) (((landK .u8 ((List.getD in_ 0 0).toNat : Int) 1) == 1))) fun y10 => (cond ((!y10.2.2)) (some ((([] : List UInt8), (false), ([] : List UInt8), (false), (4 : Int)))) (bindO (τ := (List UInt8) × (List UInt8) × Bool) (o57 (y10.2.1 : List UInt8) (((landK .u8 ((List.getD in_ 0 0).toNat : Int) 2) == 2))) fun y14 => (cond (((!y14.2.2) || decide ((((y14.2.1).length : Nat) : Int) > 0))) (some ((([] : List UInt8), (false), ([] : List UInt8), (false), (4 : Int)))) (some (((y10.1 : List UInt8), (((landK .u8 ((List.getD in_ 0 0).toNat : Int) 1) == 1)), (y14.1 : List UInt8), (((landK .u8 ((List.getD in_ 0 0).toNat : Int) 2) == 2)), (0 : Int)))))))))
set_option maxRecDepth 100000 in
theorem c18 (g : Gh) (in_ : List UInt8) (Ain_ : Option Addr) (cin_ : Nat) (fin_ : Arr g.b tyU8 Ain_ cin_ in_) {r : (List UInt8) × Bool × (List UInt8) × Bool × Int} (hS : o18 in_ = some r) :
    Ctr Try.prog 18 [vs Ain_ in_ cin_] g [] (fun v ψ o => ∃ (Ar_0 : Option Addr) (cr_0 : Nat) (kr_0 : Option Bk) (Ar_2 : Option Addr) (cr_2 : Nat) (kr_2 : Option Bk), v = Value.tuple #[vs Ar_0 r.1 cr_0, vb r.2.1, vs Ar_2 r.2.2.1 cr_2, vb r.2.2.2.1, vi r.2.2.2.2] ∧ o = [kr_0, kr_2] ∧ Buf ψ tyU8 5 (.slice Ar_0 (r.1).length cr_0) kr_0 r.1 ∧ Buf ψ tyU8 5 (.slice Ar_2 (r.2.2.1).length cr_2) kr_2 r.2.2.1) := by
  unfold o18 at hS
  refine xFn Try.f18 (Try.f18.body.getD .skip) 62 ?_
  have nfin_ := fin_.len
  refine xSq ?_
  refine xRg ?_
  refine xB 5 [] [(0, vs Ain_ in_ cin_)] ?_
  refine xRe ?_
  refine wpq_then ?_
  refine xSq ?_
  refine xSq ?_
  refine xRg ?_
  refine xB 4 [] [(0, vs Ain_ in_ cin_), (18, vb ((((in_).length : Nat) : Int) == 0))] ?_
  refine wpr_grp 9 [(0, vs Ain_ in_ cin_), (23, vb (((((in_).length : Nat) : Int) == 0) || decide (((List.getD in_ 0 0).toNat : Int) > 3)))] (fun hk3 => ?_) ?_
  · refine wpq_split 18 (b := ((((in_).length : Nat) : Int) == 0)) (by kernel_rfl) (fun q1 => ?_) (fun q1 => ?_)
    · have q1p : (((in_).length : Nat) : Int) = 0 := eq_of_beq q1
      refine xB 5 [] [(0, vs Ain_ in_ cin_), (23, vb true)] ?_
      refine wpq_re 23 (v := vb true) (Value.bool ((((((in_).length : Nat) : Int) == 0) || decide (((List.getD in_ 0 0).toNat : Int) > 3)))) (by kernel_rfl) (re_or1 q1) ?_
      exact wpq_sub _ (by kernel_rfl) hk3
    · have q1p : ¬ ((((in_).length : Nat) : Int) = 0) := ne_of_beq_false_ q1
      have i3 : 0 < (in_).length := by omega
      obtain ⟨ad2, cs2, hA2, hr2, hc2⟩ := fin_.at_ (get_getD (d := 0) i3)
      have hr2 : cs2 = [vy ((List.getD in_ 0 0).toNat : Int)] := hr2
      subst hr2
      have nb2 := UInt8.toNat_lt (List.getD in_ 0 0)
      refine xB 1 [] [(0, vs Ain_ in_ cin_), (18, vb false), (19, vs Ain_ in_ cin_)] ?_
      refine xV (qIx 0 1 hA2 rfl i3) ?_
      refine xV (qLdP (Addr.add ad2 (0 * 1)) 0 (hc2.mono g.br)) ?_
      refine xB 2 [] [(0, vs Ain_ in_ cin_), (23, vb (decide (((List.getD in_ 0 0).toNat : Int) > 3)))] ?_
      refine wpq_re 23 (v := vb (decide (((List.getD in_ 0 0).toNat : Int) > 3))) (Value.bool ((((((in_).length : Nat) : Int) == 0) || decide (((List.getD in_ 0 0).toNat : Int) > 3)))) (by kernel_rfl) (re_or0 q1) ?_
      exact wpq_sub _ (by kernel_rfl) hk3
  · refine xRe ?_
    refine wpq_then ?_
    refine xCd ((((((in_).length : Nat) : Int) == 0) || decide (((List.getD in_ 0 0).toNat : Int) > 3))) (fun h4 => ?_) (fun h4 => ?_)
    · have hS := cond_T h4 hS
      refine xSq ?_
      refine xRg ?_
      refine xB 5 [] [(2, Value.slice none 0 0), (3, vb false), (4, Value.slice none 0 0), (5, vb false), (6, vi 4)] ?_
      refine xRe ?_
      refine wpq_then ?_
      have eS := (Option.some.inj hS).symm
      subst eS
      exact xRet [none, none] [2, 3, 4, 5, 6] (Gh.le.refl _) ⟨none, 0, none, none, 0, none, by kernel_rfl, by kernel_rfl, Buf.nil, Buf.nil⟩ (fun _ _ h => h)
    · have hS := cond_F h4 hS
      have h4l := (or_false_ h4).1
      have h4r := (or_false_ h4).2
      have h4lp : ¬ ((((in_).length : Nat) : Int) = 0) := ne_of_beq_false_ h4l
      have h4rp := of_decide_eq_false h4r
      refine xSk ?_
      refine wpq_then ?_
      refine xSub [(0, vs Ain_ in_ cin_)] ?_
      refine xSq ?_
      refine xDr 0 [2, 7] [11] [] 12 (fun RG => ?_) (fun _ _ _ _ _ h => h)
      have i6 : 0 < (in_).length := by omega
      obtain ⟨ad5, cs5, hA5, hr5, hc5⟩ := fin_.at_ (get_getD (d := 0) i6)
      have hr5 : cs5 = [vy ((List.getD in_ 0 0).toNat : Int)] := hr5
      subst hr5
      have nb5 := UInt8.toNat_lt (List.getD in_ 0 0)
      refine xT 11 [0] [] [] [(0, vs Ain_ in_ cin_), (24, vs Ain_ in_ cin_)] RG (Psi.le.refl _) ?_
      refine xTp 1 RG (fun _ => (qIx 0 1 hA5 rfl i6)) ?_
      refine xTv 2 [] RG (Psi.le.refl _) (qLdP (Addr.add ad5 (0 * 1)) 0 (hc5.mono g.br)) ?_
      have i8 : 0 < (in_).length := by omega
      obtain ⟨ad7, cs7, hA7, hr7, hc7⟩ := fin_.at_ (get_getD (d := 0) i8)
      have hr7 : cs7 = [vy ((List.getD in_ 0 0).toNat : Int)] := hr7
      subst hr7
      have nb7 := UInt8.toNat_lt (List.getD in_ 0 0)
      refine xT 6 [3, 4, 5] [] [] [(0, vs Ain_ in_ cin_), (28, vb ((landK .u8 ((List.getD in_ 0 0).toNat : Int) 1) == 1)), (29, vs Ain_ in_ cin_)] RG (Psi.le.refl _) ?_
      refine xTp 6 RG (fun _ => (qIx 0 1 hA7 rfl i8)) ?_
      refine xTv 7 [] RG (Psi.le.refl _) (qLdP (Addr.add ad7 (0 * 1)) 0 (hc7.mono g.br)) ?_
      refine xT 0 [8, 9, 10, 11] [] [] [(0, vs Ain_ in_ cin_), (7, vb ((landK .u8 ((List.getD in_ 0 0).toNat : Int) 1) == 1)), (8, vb ((landK .u8 ((List.getD in_ 0 0).toNat : Int) 2) == 2))] RG (Psi.le.refl _) ?_
      refine xAe (lds := [2, 7]) ?_
      refine wpq_then ?_
      refine xSq ?_
      refine xRg ?_
      have ncapf9 := fin_.cap
      have f9 : Arr g.b tyU8 (offA Ain_ cin_ 1 1) (cin_ - 1) (List.drop 1 in_) := fin_.cut_from 1 (by omega)
      have nf9 := f9.len
      have hlf9 : (in_).length - 1 = ((List.drop 1 in_)).length := by simp only [List.length_take, List.length_drop] <;> omega
      have hvf9 : ((((List.drop 1 in_)).length : Nat) : Int) = (((in_).length : Nat) : Int) - 1 := by omega
      refine xB 1 [] [(7, vb ((landK .u8 ((List.getD in_ 0 0).toNat : Int) 1) == 1)), (8, vb ((landK .u8 ((List.getD in_ 0 0).toNat : Int) 2) == 2)), (35, vs Ain_ in_ cin_)] ?_
      refine xV (qSl (m := 1) (A := Ain_) (len := (in_).length) (c := cin_) 1 (in_).length (some 1) none ((List.drop 1 in_)).length rfl rfl (by omega) (by omega) hlf9) ?_
      refine xB 1 [] [(7, vb ((landK .u8 ((List.getD in_ 0 0).toNat : Int) 1) == 1)), (8, vb ((landK .u8 ((List.getD in_ 0 0).toNat : Int) 2) == 2)), (36, vs (offA Ain_ cin_ 1 1) (List.drop 1 in_) (cin_ - 1)), (37, vb ((landK .u8 ((List.getD in_ 0 0).toNat : Int) 1) == 1))] ?_
      obtain ⟨y10, hy10, hS⟩ := bindO_T hS
      refine xE (eC 0 (fun g' lr eb ln => c57 g' ((List.drop 1 in_) : List UInt8) (offA Ain_ cin_ 1 1) (cin_ - 1) (((landK .u8 ((List.getD in_ 0 0).toNat : Int) 1) == 1)) (by rw [eb]; exact f9) hy10)) ?_
      rintro _ g11 _ e12 ⟨_, rfl, A10_0, c10_0, k10_0, A10_1, c10_1, rfl, rfl, h10_0, f10_1⟩
      have nh10_0 := h10_0.len
      have nf10_1 := f10_1.len
      refine xB 7 [] [(7, vb ((landK .u8 ((List.getD in_ 0 0).toNat : Int) 1) == 1)), (8, vb ((landK .u8 ((List.getD in_ 0 0).toNat : Int) 2) == 2)), (9, vs A10_0 y10.1 c10_0), (10, vs A10_1 y10.2.1 c10_1), (11, vb y10.2.2)] ?_
      refine xRe ?_
      refine wpq_then ?_
      refine xSq ?_
      refine xSq ?_
      refine xRg ?_
      refine xB 2 [] [(7, vb ((landK .u8 ((List.getD in_ 0 0).toNat : Int) 1) == 1)), (8, vb ((landK .u8 ((List.getD in_ 0 0).toNat : Int) 2) == 2)), (9, vs A10_0 y10.1 c10_0), (10, vs A10_1 y10.2.1 c10_1), (43, vb (!y10.2.2))] ?_
      refine xRe ?_
      refine wpq_then ?_
      refine xCd ((!y10.2.2)) (fun h13 => ?_) (fun h13 => ?_)
      · have hS := cond_T h13 hS
        have h13n := not_eq_true_ h13
        refine xSq ?_
        refine xRg ?_
        refine xB 5 [] [(2, Value.slice none 0 0), (3, vb false), (4, Value.slice none 0 0), (5, vb false), (6, vi 4)] ?_
        refine xRe ?_
        refine wpq_then ?_
        have eS := (Option.some.inj hS).symm
        subst eS
        exact xRet [none, none] [2, 3, 4, 5, 6] e12 ⟨none, 0, none, none, 0, none, by kernel_rfl, by kernel_rfl, Buf.nil, Buf.nil⟩ (fun _ _ h => h)
      · have hS := cond_F h13 hS
        have h13n := not_eq_false_ h13
        refine xSk ?_
        refine wpq_then ?_
        refine xSub [(7, vb ((landK .u8 ((List.getD in_ 0 0).toNat : Int) 1) == 1)), (8, vb ((landK .u8 ((List.getD in_ 0 0).toNat : Int) 2) == 2)), (9, vs A10_0 y10.1 c10_0), (10, vs A10_1 y10.2.1 c10_1)] ?_
        refine xSq ?_
        refine xRg ?_
        refine xB 2 [] [(7, vb ((landK .u8 ((List.getD in_ 0 0).toNat : Int) 1) == 1)), (8, vb ((landK .u8 ((List.getD in_ 0 0).toNat : Int) 2) == 2)), (9, vs A10_0 y10.1 c10_0), (45, vs A10_1 y10.2.1 c10_1), (46, vb ((landK .u8 ((List.getD in_ 0 0).toNat : Int) 2) == 2))] ?_
        obtain ⟨y14, hy14, hS⟩ := bindO_T hS
        refine xE (eC 0 (fun g' lr eb ln => c57 g' (y10.2.1 : List UInt8) A10_1 c10_1 (((landK .u8 ((List.getD in_ 0 0).toNat : Int) 2) == 2)) (by rw [eb]; exact f10_1) hy14)) ?_
        rintro _ g15 _ e16 ⟨_, rfl, A14_0, c14_0, k14_0, A14_1, c14_1, rfl, rfl, h14_0, f14_1⟩
        have nh14_0 := h14_0.len
        have nf14_1 := f14_1.len
        refine xB 7 [] [(7, vb ((landK .u8 ((List.getD in_ 0 0).toNat : Int) 1) == 1)), (8, vb ((landK .u8 ((List.getD in_ 0 0).toNat : Int) 2) == 2)), (9, vs A10_0 y10.1 c10_0), (12, vs A14_0 y14.1 c14_0), (13, vs A14_1 y14.2.1 c14_1), (14, vb y14.2.2)] ?_
        refine xRe ?_
        refine wpq_then ?_
        refine xSq ?_
        refine xSq ?_
        refine xRg ?_
        refine xB 3 [] [(7, vb ((landK .u8 ((List.getD in_ 0 0).toNat : Int) 1) == 1)), (8, vb ((landK .u8 ((List.getD in_ 0 0).toNat : Int) 2) == 2)), (9, vs A10_0 y10.1 c10_0), (12, vs A14_0 y14.1 c14_0), (13, vs A14_1 y14.2.1 c14_1), (53, vb (!y14.2.2))] ?_
        refine wpr_grp 7 [(7, vb ((landK .u8 ((List.getD in_ 0 0).toNat : Int) 1) == 1)), (8, vb ((landK .u8 ((List.getD in_ 0 0).toNat : Int) 2) == 2)), (9, vs A10_0 y10.1 c10_0), (12, vs A14_0 y14.1 c14_0), (57, vb ((!y14.2.2) || decide ((((y14.2.1).length : Nat) : Int) > 0)))] (fun hk2 => ?_) ?_
        · refine wpq_split 53 (b := (!y14.2.2)) (by kernel_rfl) (fun q17 => ?_) (fun q17 => ?_)
          · have q17n := not_eq_true_ q17
            refine xB 4 [] [(7, vb ((landK .u8 ((List.getD in_ 0 0).toNat : Int) 1) == 1)), (8, vb ((landK .u8 ((List.getD in_ 0 0).toNat : Int) 2) == 2)), (9, vs A10_0 y10.1 c10_0), (12, vs A14_0 y14.1 c14_0), (57, vb true)] ?_
            refine wpq_re 57 (v := vb true) (Value.bool (((!y14.2.2) || decide ((((y14.2.1).length : Nat) : Int) > 0)))) (by kernel_rfl) (re_or1 q17) ?_
            exact wpq_sub _ (by kernel_rfl) hk2
          · have q17n := not_eq_false_ q17
            refine xB 4 [] [(7, vb ((landK .u8 ((List.getD in_ 0 0).toNat : Int) 1) == 1)), (8, vb ((landK .u8 ((List.getD in_ 0 0).toNat : Int) 2) == 2)), (9, vs A10_0 y10.1 c10_0), (12, vs A14_0 y14.1 c14_0), (57, vb (decide ((((y14.2.1).length : Nat) : Int) > 0)))] ?_
            refine wpq_re 57 (v := vb (decide ((((y14.2.1).length : Nat) : Int) > 0))) (Value.bool (((!y14.2.2) || decide ((((y14.2.1).length : Nat) : Int) > 0)))) (by kernel_rfl) (re_or0 q17) ?_
            exact wpq_sub _ (by kernel_rfl) hk2
        · refine xRe ?_
          refine wpq_then ?_
          refine xCd (((!y14.2.2) || decide ((((y14.2.1).length : Nat) : Int) > 0))) (fun h18 => ?_) (fun h18 => ?_)
          · have hS := cond_T h18 hS
            refine xSq ?_
            refine xRg ?_
            refine xB 5 [] [(2, Value.slice none 0 0), (3, vb false), (4, Value.slice none 0 0), (5, vb false), (6, vi 4)] ?_
            refine xRe ?_
            refine wpq_then ?_
            have eS := (Option.some.inj hS).symm
            subst eS
            exact xRet [none, none] [2, 3, 4, 5, 6] (e12.trans e16) ⟨none, 0, none, none, 0, none, by kernel_rfl, by kernel_rfl, Buf.nil, Buf.nil⟩ (fun _ _ h => h)
          · have hS := cond_F h18 hS
            have h18l := (or_false_ h18).1
            have h18r := (or_false_ h18).2
            have h18ln := not_eq_false_ h18l
            have h18rp := of_decide_eq_false h18r
            refine xSk ?_
            refine wpq_then ?_
            refine xSub [(7, vb ((landK .u8 ((List.getD in_ 0 0).toNat : Int) 1) == 1)), (8, vb ((landK .u8 ((List.getD in_ 0 0).toNat : Int) 2) == 2)), (9, vs A10_0 y10.1 c10_0), (12, vs A14_0 y14.1 c14_0)] ?_
            refine xSq ?_
            refine xRg ?_
            refine xB 9 [] [(2, vs A10_0 y10.1 c10_0), (3, vb ((landK .u8 ((List.getD in_ 0 0).toNat : Int) 1) == 1)), (4, vs A14_0 y14.1 c14_0), (5, vb ((landK .u8 ((List.getD in_ 0 0).toNat : Int) 2) == 2)), (6, vi 0)] ?_
            refine xRe ?_
            refine wpq_then ?_
            have h10_0 := h10_0.mono e16.b
            have eS := (Option.some.inj hS).symm
            subst eS
            exact xRet [some 1, some 0] [2, 3, 4, 5, 6] (e12.trans e16) ⟨A10_0, c10_0, k10_0, A14_0, c14_0, k14_0, by kernel_rfl, by kernel_rfl, h10_0, h14_0⟩ (fun _ _ h => h)

def o32 (x : Sett) : Option ((List UInt8) × Int) :=
  (cond (decide (x.steps < 0)) (some ((([] : List UInt8), (1 : Int)))) (bindO (τ := (List UInt8) × Bool × (List UInt8) × Bool × Int) (o18 (x.in_ : List UInt8)) fun y3 => (cond ((y3.2.2.2.2 != 0)) (some ((([] : List UInt8), (y3.2.2.2.2 : Int)))) (letJ (τ := Nat) (cond (x.fresh) (1) (0)) fun t7 => (bindO (τ := (List UInt8)) (o54 (x.steps : Int) (8 : Int)) fun y11 => (grd (decide (((y11).length + (([(u8 ((t7 : Nat) : Int))] : List UInt8)).length) * 1 ≤ 140737488355328)) (grd (decide ((((y11 ++ ([(u8 ((t7 : Nat) : Int))] : List UInt8))).length + (x.in_).length) * 1 ≤ 140737488355328)) (some (((((y11 ++ ([(u8 ((t7 : Nat) : Int))] : List UInt8)) ++ x.in_) : List UInt8), (0 : Int)))))))))))
set_option maxRecDepth 100000 in
theorem c32 (g : Gh) (x : Sett) (Ax_in_ : Option Addr) (cx_in_ : Nat) (fx_in_ : Arr g.b tyU8 Ax_in_ cx_in_ x.in_) {r : (List UInt8) × Int} (hS : o32 x = some r) :
    Ctr Try.prog 32 [Value.agg #[vi x.steps, vi x.cycle, vb x.fresh, vs Ax_in_ x.in_ cx_in_]] g [] (fun v ψ o => ∃ (Ar_0 : Option Addr) (cr_0 : Nat) (kr_0 : Option Bk), v = Value.tuple #[vs Ar_0 r.1 cr_0, vi r.2] ∧ o = [kr_0] ∧ Buf ψ tyU8 5 (.slice Ar_0 (r.1).length cr_0) kr_0 r.1) := by
  unfold o32 at hS
  refine xFn Try.f32 (Try.f32.body.getD .skip) 36 ?_
  have nfx_in_ := fx_in_.len
  refine xSq ?_
  refine xRg ?_
  refine xE eB ?_
  rintro _ _ _ - ⟨b1, rfl, rfl, rfl⟩
  refine xB 2 [] [(1, vp b1 0)] ?_
  refine xRe ?_
  refine wpq_then ?_
  refine xSq ?_
  refine xSq ?_
  refine xRg ?_
  refine xB 3 [(1, 0)] [(1, vp b1 0), (12, vb (decide (x.steps < 0)))] ?_
  refine xRe ?_
  refine wpq_then ?_
  refine xCd (decide (x.steps < 0)) (fun h2 => ?_) (fun h2 => ?_)
  · have hS := cond_T h2 hS
    have h2p := of_decide_eq_true h2
    refine xSq ?_
    refine xRg ?_
    refine xB 2 [] [(2, Value.slice none 0 0), (3, vi 1)] ?_
    refine xRe ?_
    refine wpq_then ?_
    have eS := (Option.some.inj hS).symm
    subst eS
    exact xRet [none] [2, 3] (Gh.le.refl _) ⟨none, 0, none, by kernel_rfl, by kernel_rfl, Buf.nil⟩ (fun _ _ h => h)
  · have hS := cond_F h2 hS
    have h2p := of_decide_eq_false h2
    refine xSk ?_
    refine wpq_then ?_
    refine xSub [(1, vp b1 0)] ?_
    refine xSq ?_
    refine xRg ?_
    refine xB 2 [(1, 0)] [(1, vp b1 0), (15, vs Ax_in_ x.in_ cx_in_)] ?_
    obtain ⟨y3, hy3, hS⟩ := bindO_T hS
    refine xE (eC 0 (fun g' lr eb ln => c18 g' (x.in_ : List UInt8) Ax_in_ cx_in_ (by rw [eb]; exact fx_in_) hy3)) ?_
    rintro _ g4 _ e5 ⟨_, rfl, A3_0, c3_0, k3_0, A3_2, c3_2, k3_2, rfl, rfl, h3_0, h3_2⟩
    have nh3_0 := h3_0.len
    have nh3_2 := h3_2.len
    refine xB 11 [] [(1, vp b1 0), (8, vi y3.2.2.2.2)] ?_
    refine xRe ?_
    refine wpq_then ?_
    refine xSq ?_
    refine xSq ?_
    refine xRg ?_
    refine xB 2 [] [(1, vp b1 0), (8, vi y3.2.2.2.2), (23, vb (y3.2.2.2.2 != 0))] ?_
    refine xRe ?_
    refine wpq_then ?_
    refine xCd ((y3.2.2.2.2 != 0)) (fun h6 => ?_) (fun h6 => ?_)
    · have hS := cond_T h6 hS
      have h6p : ¬ (y3.2.2.2.2 = 0) := ne_of_bne_ h6
      refine xSq ?_
      refine xRg ?_
      refine xB 3 [] [(2, Value.slice none 0 0), (3, vi y3.2.2.2.2)] ?_
      refine xRe ?_
      refine wpq_then ?_
      have eS := (Option.some.inj hS).symm
      subst eS
      exact xRet [none] [2, 3] e5 ⟨none, 0, none, by kernel_rfl, by kernel_rfl, Buf.nil⟩ (fun _ _ h => h)
    · have hS := cond_F h6 hS
      have h6p : y3.2.2.2.2 = 0 := eq_of_bne_false_ h6
      refine xSk ?_
      refine wpq_then ?_
      refine xSub [(1, vp b1 0)] ?_
      refine xSq ?_
      refine xRg ?_
      refine xB 1 [] [(1, vp b1 0), (9, vy 0)] ?_
      refine xRe ?_
      refine wpq_then ?_
      refine xSq ?_
      refine xSq ?_
      refine xRg ?_
      refine xB 2 [(1, 2)] [(1, vp b1 0), (9, vy 0), (26, vb x.fresh)] ?_
      refine xRe ?_
      refine wpq_then ?_
      refine xLetJ hS (fun g own sl t7 => own = [some ⟨b1, 67, (cSett x Ax_in_ cx_in_)⟩] ∧ sl = [(1, vp b1 0), (9, vy ((t7 : Nat) : Int))] ∧ (0 ≤ t7 ∧ t7 ≤ 1)) ?_ ?_
      · rintro g8 _ _ t7 e9 ⟨rfl, rfl, ⟨r7_0l, r7_0r⟩⟩ hS
        refine wpq_then ?_
        refine xSq ?_
        refine xDr 0 [1, 7] [9, 10] [some ⟨b1, 67, (cSett x Ax_in_ cx_in_)⟩] 11 (fun RG => ?_) (fun _ _ _ _ _ h => h)
        refine xT 6 [0, 1, 3, 6, 7] [(1, 0), (7, 0)] [some 0] [(28, vi x.steps), (30, vy ((t7 : Nat) : Int)), (34, vs Ax_in_ x.in_ cx_in_)] RG (Psi.le.refl _) ?_
        obtain ⟨y11, hy11, hS⟩ := bindO_T hS
        refine wpa_meet (fun g own sl => ∃ (A11_0 : Option Addr) (c11_0 : Nat) (k11_0 : Option Bk) (A14 : Option Addr) (c14 : Nat) (k14 : Option Bk), own = [k14, k11_0, some ⟨b1, 67, (cSett x Ax_in_ cx_in_)⟩] ∧ sl = [(29, vs A11_0 y11 c11_0), (31, vs A14 ([(u8 ((t7 : Nat) : Int))] : List UInt8) c14), (34, vs Ax_in_ x.in_ cx_in_)] ∧ Buf g.b tyU8 5 (.slice A11_0 (y11).length c11_0) k11_0 y11 ∧ Buf g.b tyU8 5 (.slice A14 (([(u8 ((t7 : Nat) : Int))] : List UInt8)).length c14) k14 ([(u8 ((t7 : Nat) : Int))] : List UInt8)) 4 [true, true, true, true, true, false, true, true, false, false, false] ?_ (fun hD10 => ?_)
        · rintro g211 _ _ e212 ⟨A11_0, c11_0, k11_0, A14, c14, k14, rfl, rfl, h11_0, h14⟩
          have nh11_0 := h11_0.len
          have nh14 := h14.len
          obtain ⟨nw213, hp213, hs213⟩ := h14.srcO (g := g211)
          obtain ⟨q214, hS⟩ := grd_T hS
          have q214p := of_decide_eq_true q214
          refine xO1 (lds := [1, 7]) 5 ?_
          refine xIe (lds := [1, 7]) e212.r (eApp (T := tyU8) (p := g211.b) (et := 5) (bytes := 1) (xs := (y11 : List UInt8)) (ys := (([(u8 ((t7 : Nat) : Int))] : List UInt8) : List UInt8)) 1 h11_0 rfl (fun w hs => hs213 0 w _ hs (by kernel_rfl)) hp213 (by first | omega | (simp only [List.length_cons, List.length_nil] at *; omega)) (by first | omega | (simp only [List.length_cons, List.length_nil] at *; omega))) ?_
          rintro _ _ _ - ⟨A213, c213, k213, rfl, rfl, rfl, h213⟩
          refine kk [some 2] ?_
          have nh213 := h213.len
          have hz213 : ((y11 ++ ([(u8 ((t7 : Nat) : Int))] : List UInt8)) : List UInt8).length = (y11).length + (([(u8 ((t7 : Nat) : Int))] : List UInt8)).length := List.length_append
          have fx_in_ := fx_in_.mono (e5.trans (e9.trans e212)).b
          obtain ⟨nw215, hp215, hs215⟩ := fx_in_.srcB
          obtain ⟨q216, hS⟩ := grd_T hS
          have q216p := of_decide_eq_true q216
          refine xO1 (lds := [1, 7]) 8 ?_
          refine xIe (lds := [1, 7]) e212.r (eApp (T := tyU8) (p := g211.b) (et := 5) (bytes := 1) (xs := ((y11 ++ ([(u8 ((t7 : Nat) : Int))] : List UInt8)) : List UInt8)) (ys := (x.in_ : List UInt8)) 1 h213 rfl (fun w hs => hs215 w _ hs) hp215 (by first | omega | (simp only [List.length_cons, List.length_nil] at *; omega)) (by first | omega | (simp only [List.length_cons, List.length_nil] at *; omega))) ?_
          rintro _ _ _ - ⟨A215, c215, k215, rfl, rfl, rfl, h215⟩
          refine kk [some 2] ?_
          have nh215 := h215.len
          have hz215 : (((y11 ++ ([(u8 ((t7 : Nat) : Int))] : List UInt8)) ++ x.in_) : List UInt8).length = ((y11 ++ ([(u8 ((t7 : Nat) : Int))] : List UInt8))).length + (x.in_).length := List.length_append
          refine xT 0 [9, 10] [] [some 2] [(2, vs A215 ((y11 ++ ([(u8 ((t7 : Nat) : Int))] : List UInt8)) ++ x.in_) c215), (3, vi 0)] RG e212.r ?_
          refine xAe (lds := [1, 7]) ?_
          refine wpq_then ?_
          have eS := (Option.some.inj hS).symm
          subst eS
          exact xRet [some 1] [2, 3] (e5.trans (e9.trans e212)) ⟨A215, c215, k215, by kernel_rfl, by kernel_rfl, h215⟩ (fun _ _ h => h)
        · refine xO2 (lds := [1, 7]) 2 4 ?_ ?_
          · refine xIe (lds := [1, 7]) (Psi.le.refl _) (eC 0 (fun g' lr eb ln => c54 g' (x.steps : Int) (8 : Int) hy11)) ?_
            rintro _ g218 _ e219 ⟨_, rfl, A11_0, c11_0, k11_0, rfl, rfl, h11_0⟩
            refine kk [some 1] ?_
            have nh11_0 := h11_0.len
            refine xO1 (lds := [1, 7]) 4 ?_
            refine xIe (lds := [1, 7]) e219.r (eBs (T := tyU8) (p := g218.b) (et := 5) (xs := ([(u8 ((t7 : Nat) : Int))] : List UInt8)) (reps_cons (c := [vy ((t7 : Nat) : Int)]) (u8_rep (by omega)) reps_nil) (by simp)) ?_
            rintro _ _ _ - ⟨A220, c220, k220, rfl, rfl, rfl, h220⟩
            refine kk [some 2] ?_
            refine xSub [(29, vs A11_0 y11 c11_0), (31, vs A220 ([(u8 ((t7 : Nat) : Int))] : List UInt8) c220), (34, vs Ax_in_ x.in_ cx_in_)] ?_
            exact hD10 _ _ _ e219 ⟨A11_0, c11_0, k11_0, A220, c220, k220, by kernel_rfl, by kernel_rfl, h11_0, h220⟩
          · refine xIe (lds := [1, 7]) (Psi.le.refl _) (eBs (T := tyU8) (p := g8.b) (et := 5) (xs := ([(u8 ((t7 : Nat) : Int))] : List UInt8)) (reps_cons (c := [vy ((t7 : Nat) : Int)]) (u8_rep (by omega)) reps_nil) (by simp)) ?_
            rintro _ _ _ - ⟨A221, c221, k221, rfl, rfl, rfl, h221⟩
            refine kk [some 1] ?_
            refine xO1 (lds := [1, 7]) 2 ?_
            refine xIe (lds := [1, 7]) (Psi.le.refl _) (eC 0 (fun g' lr eb ln => c54 g' (x.steps : Int) (8 : Int) hy11)) ?_
            rintro _ g223 _ e224 ⟨_, rfl, A11_0, c11_0, k11_0, rfl, rfl, h11_0⟩
            refine kk [some 2] ?_
            have nh11_0 := h11_0.len
            refine xSel [some 1, some 0, some 2] ?_
            refine xSub [(29, vs A11_0 y11 c11_0), (31, vs A221 ([(u8 ((t7 : Nat) : Int))] : List UInt8) c221), (34, vs Ax_in_ x.in_ cx_in_)] ?_
            have h221 := h221.mono e224.b
            exact hD10 _ _ _ e224 ⟨A11_0, c11_0, k11_0, A221, c221, k221, by kernel_rfl, by kernel_rfl, h11_0, h221⟩
      · intro u7 hS hN7
        refine xCd (x.fresh) (fun h225 => ?_) (fun h225 => ?_)
        · have hS := cond_T h225 hS
          refine xRg ?_
          refine xB 1 [] [(1, vp b1 0), (9, vy 1)] ?_
          refine xRe ?_
          refine xSel [some 2] ?_
          refine xSub [(1, vp b1 0), (9, vy 1)] ?_
          have eS := hS.symm
          exact hN7 _ eS _ _ _ (Gh.le.refl _) ⟨by kernel_rfl, by kernel_rfl, ⟨by omega, by omega⟩⟩
        · have hS := cond_F h225 hS
          refine xSk ?_
          refine xSel [some 2] ?_
          refine xSub [(1, vp b1 0), (9, vy 0)] ?_
          have eS := hS.symm
          exact hN7 _ eS _ _ _ (Gh.le.refl _) ⟨by kernel_rfl, by kernel_rfl, ⟨by omega, by omega⟩⟩

def o62 (n : RNode) : Option (RNode × Frame × Bool × Int) :=
  (cond ((n.stage != 2)) (some ((n, (⟨0, 0, 0, ([] : List UInt8)⟩ : Frame), (false), (8 : Int)))) (cond ((n.role != 2)) (some ((({ n with stage := 3 }), (⟨0, 0, 0, ([] : List UInt8)⟩ : Frame), (false), (0 : Int)))) (bindO (τ := Sett) (o74 ({ n with stage := 3 })) fun y6 => (bindO (τ := (List UInt8) × Int) (o32 y6) fun y9 => (some ((({ n with stage := 3 }), (⟨2, (IntKind.u8.wrap n.number), n.cycle, y9.1⟩ : Frame), (true), (0 : Int))))))))
set_option maxRecDepth 100000 in
theorem c62 (g : Gh) (n : RNode) (An_input : Option Addr) (cn_input : Nat) (An_heard_input : Option Addr) (cn_heard_input : Nat) (fn_input : Arr g.b tyU8 An_input cn_input n.input) (fn_heard_input : Arr g.b tyU8 An_heard_input cn_heard_input n.heard.input) {r : RNode × Frame × Bool × Int} (hS : o62 n = some r) :
    Ctr Try.prog 62 [Value.agg #[vi n.number, vy n.role, vi n.steps, vi n.alone, vi n.stage, vi n.cycle, vs An_input n.input cn_input, vb n.fresh, vb n.isHeard, vy n.heard.role, vi n.heard.steps, vi n.heard.want.base, vi n.heard.want.have_, vs An_heard_input n.heard.input cn_heard_input, vb n.stepped, vy n.told.lateral, vy n.told.vertical, vy n.told.phase, vi n.told.bank, vi n.told.speed, vi n.told.alt, vi n.told.vs]] g [] (fun v ψ o => ∃ (Ar_0_input : Option Addr) (cr_0_input : Nat) (Ar_0_heard_input : Option Addr) (cr_0_heard_input : Nat) (Ar_1_payload : Option Addr) (cr_1_payload : Nat), v = Value.tuple #[Value.agg #[vi r.1.number, vy r.1.role, vi r.1.steps, vi r.1.alone, vi r.1.stage, vi r.1.cycle, vs Ar_0_input r.1.input cr_0_input, vb r.1.fresh, vb r.1.isHeard, vy r.1.heard.role, vi r.1.heard.steps, vi r.1.heard.want.base, vi r.1.heard.want.have_, vs Ar_0_heard_input r.1.heard.input cr_0_heard_input, vb r.1.stepped, vy r.1.told.lateral, vy r.1.told.vertical, vy r.1.told.phase, vi r.1.told.bank, vi r.1.told.speed, vi r.1.told.alt, vi r.1.told.vs], Value.agg #[vy r.2.1.label, vy r.2.1.from_, vi r.2.1.cycle, vs Ar_1_payload r.2.1.payload cr_1_payload], vb r.2.2.1, vi r.2.2.2] ∧ o = [] ∧ Arr ψ tyU8 Ar_0_input cr_0_input r.1.input ∧ Arr ψ tyU8 Ar_0_heard_input cr_0_heard_input r.1.heard.input ∧ Arr ψ tyU8 Ar_1_payload cr_1_payload r.2.1.payload) := by
  unfold o62 at hS
  refine xFn Try.f62 (Try.f62.body.getD .skip) 33 ?_
  have nfn_input := fn_input.len
  have nfn_heard_input := fn_heard_input.len
  refine xSq ?_
  refine xRg ?_
  refine xE eB ?_
  rintro _ _ _ - ⟨b1, rfl, rfl, rfl⟩
  refine xE eB ?_
  rintro _ _ _ - ⟨b2, rfl, rfl, rfl⟩
  refine xE eB ?_
  rintro _ _ _ - ⟨b3, rfl, rfl, rfl⟩
  refine xB 2 [] [(1, vp b1 0), (2, vp b2 0), (3, vp b3 0)] ?_
  refine xRe ?_
  refine wpq_then ?_
  refine xSq ?_
  refine xSq ?_
  refine xRg ?_
  refine xB 3 [(1, 2)] [(1, vp b1 0), (2, vp b2 0), (3, vp b3 0), (10, vb (n.stage != 2))] ?_
  refine xRe ?_
  refine wpq_then ?_
  refine xCd ((n.stage != 2)) (fun h4 => ?_) (fun h4 => ?_)
  · have hS := cond_T h4 hS
    have h4p : ¬ (n.stage = 2) := ne_of_bne_ h4
    refine xSq ?_
    refine xRg ?_
    refine xBo 6 [(0, 2), (2, 1), (3, 0)] [some ⟨b3, 100, (cFrame (⟨0, 0, 0, ([] : List UInt8)⟩ : Frame) none 0)⟩, some ⟨b2, 96, (cRNode n An_input cn_input An_heard_input cn_heard_input)⟩, some ⟨b1, 96, (cRNode n An_input cn_input An_heard_input cn_heard_input)⟩] [(2, vp b2 0), (3, vp b3 0), (4, vb false), (5, vi 8)] ?_
    refine xRe ?_
    refine wpq_then ?_
    have eS := (Option.some.inj hS).symm
    subst eS
    exact xRetC [] [(2, 1), (3, 0)] (Gh.le.refl _) ⟨An_input, cn_input, An_heard_input, cn_heard_input, none, 0, by kernel_rfl, by kernel_rfl, fn_input, fn_heard_input, Arr.nil⟩ (fun _ _ h => h)
  · have hS := cond_F h4 hS
    have h4p : n.stage = 2 := eq_of_bne_false_ h4
    refine xSk ?_
    refine wpq_then ?_
    refine xSub [(1, vp b1 0), (2, vp b2 0), (3, vp b3 0)] ?_
    refine xSq ?_
    refine xRg ?_
    refine xBo 2 [(1, 2)] [some ⟨b3, 100, (cFrame (⟨0, 0, 0, ([] : List UInt8)⟩ : Frame) none 0)⟩, some ⟨b2, 96, (cRNode (⟨0, 0, 0, 0, 0, 0, ([] : List UInt8), false, false, (⟨0, 0, (⟨0, 0⟩ : Want), ([] : List UInt8)⟩ : Heard), false, (⟨0, 0, 0, 0, 0, 0, 0⟩ : Targets)⟩ : RNode) none 0 none 0)⟩, some ⟨b1, 96, (cRNode ({ n with stage := 3 }) An_input cn_input An_heard_input cn_heard_input)⟩] [(1, vp b1 0), (2, vp b2 0), (3, vp b3 0)] ?_
    refine xRe ?_
    refine wpq_then ?_
    refine xSq ?_
    refine xSq ?_
    refine xRg ?_
    refine xB 3 [(1, 2)] [(1, vp b1 0), (2, vp b2 0), (3, vp b3 0), (16, vb (n.role != 2))] ?_
    refine xRe ?_
    refine wpq_then ?_
    refine xCd ((n.role != 2)) (fun h5 => ?_) (fun h5 => ?_)
    · have hS := cond_T h5 hS
      have h5p : ¬ (n.role = 2) := ne_of_bne_ h5
      refine xSq ?_
      refine xRg ?_
      refine xBo 6 [(0, 2), (2, 1), (3, 0)] [some ⟨b3, 100, (cFrame (⟨0, 0, 0, ([] : List UInt8)⟩ : Frame) none 0)⟩, some ⟨b2, 96, (cRNode ({ n with stage := 3 }) An_input cn_input An_heard_input cn_heard_input)⟩, some ⟨b1, 96, (cRNode ({ n with stage := 3 }) An_input cn_input An_heard_input cn_heard_input)⟩] [(2, vp b2 0), (3, vp b3 0), (4, vb false), (5, vi 0)] ?_
      refine xRe ?_
      refine wpq_then ?_
      have eS := (Option.some.inj hS).symm
      subst eS
      exact xRetC [] [(2, 1), (3, 0)] (Gh.le.refl _) ⟨An_input, cn_input, An_heard_input, cn_heard_input, none, 0, by kernel_rfl, by kernel_rfl, fn_input, fn_heard_input, Arr.nil⟩ (fun _ _ h => h)
    · have hS := cond_F h5 hS
      have h5p : n.role = 2 := eq_of_bne_false_ h5
      refine xSk ?_
      refine wpq_then ?_
      refine xSub [(1, vp b1 0), (2, vp b2 0), (3, vp b3 0)] ?_
      refine xSq ?_
      refine xRg ?_
      refine xB 1 [(0, 2)] [(1, vp b1 0), (2, vp b2 0), (3, vp b3 0), (20, Value.agg #[vi n.number, vy n.role, vi n.steps, vi n.alone, vi 3, vi n.cycle, vs An_input n.input cn_input, vb n.fresh, vb n.isHeard, vy n.heard.role, vi n.heard.steps, vi n.heard.want.base, vi n.heard.want.have_, vs An_heard_input n.heard.input cn_heard_input, vb n.stepped, vy n.told.lateral, vy n.told.vertical, vy n.told.phase, vi n.told.bank, vi n.told.speed, vi n.told.alt, vi n.told.vs])] ?_
      obtain ⟨y6, hy6, hS⟩ := bindO_T hS
      refine xE (eC 0 (fun g' lr eb ln => c74 g' ({ n with stage := 3 }) An_input cn_input An_heard_input cn_heard_input ((fn_input.mono g.br).mono lr) ((fn_heard_input.mono g.br).mono lr) hy6)) ?_
      rintro _ g7 _ e8 ⟨_, rfl, A6_0_in_, c6_0_in_, rfl, rfl, f6_0_in_⟩
      have nf6_0_in_ := f6_0_in_.len
      obtain ⟨y9, hy9, hS⟩ := bindO_T hS
      refine xE (eC 0 (fun g' lr eb ln => c32 g' y6 A6_0_in_ c6_0_in_ (by rw [eb]; exact f6_0_in_) hy9)) ?_
      rintro _ g10 _ e11 ⟨_, rfl, A9_0, c9_0, k9_0, rfl, rfl, h9_0⟩
      have nh9_0 := h9_0.len
      refine xB 5 [] [(1, vp b1 0), (2, vp b2 0), (3, vp b3 0), (6, vs A9_0 y9.1 c9_0)] ?_
      refine xRe ?_
      refine wpq_then ?_
      refine xSq ?_
      refine xDr 0 [0, 2, 5] [9, 10, 11] [some ⟨b1, 96, (cRNode ({ n with stage := 3 }) An_input cn_input An_heard_input cn_heard_input)⟩] 12 (fun RG => ?_) (fun _ _ _ _ _ h => h)
      refine xT 4 [0, 1, 2, 3, 4, 5, 6, 7] [(0, 0), (2, 0), (5, 0)] [some 3] [(2, vp b2 0), (3, vp b3 0), (25, Value.agg #[vi n.number, vy n.role, vi n.steps, vi n.alone, vi 3, vi n.cycle, vs An_input n.input cn_input, vb n.fresh, vb n.isHeard, vy n.heard.role, vi n.heard.steps, vi n.heard.want.base, vi n.heard.want.have_, vs An_heard_input n.heard.input cn_heard_input, vb n.stepped, vy n.told.lateral, vy n.told.vertical, vy n.told.phase, vi n.told.bank, vi n.told.speed, vi n.told.alt, vi n.told.vs]), (32, Value.agg #[vy 2, vy (IntKind.u8.wrap n.number), vi n.cycle, vs A9_0 y9.1 c9_0])] RG (Psi.le.refl _) ?_
      refine xO1 (lds := [0, 2, 5]) 8 ?_
      refine xId (lds := [0, 2, 5]) (Psi.le.refl _) (eStL b2 0 2) ?_
      rintro _ _ _ - ⟨rfl, rfl⟩
      refine kk [some 3] ?_
      refine xO1 (lds := [0, 2, 5]) 9 ?_
      refine xId (lds := [0, 2, 5]) (Psi.le.refl _) (eStL b3 0 1) ?_
      rintro _ _ _ - ⟨rfl, rfl⟩
      refine kf ?_
      refine xT 0 [10, 11] [] [some 3] [(2, vp b2 0), (3, vp b3 0), (4, vb true), (5, vi 0)] RG (Psi.le.refl _) ?_
      refine xAe (lds := [0, 2, 5]) ?_
      refine wpq_then ?_
      refine wpq_freeze 0 (by kernel_rfl) h9_0 (fun g12 e13 f14 => ?_)
      have fn_input := fn_input.mono (e8.trans (e11.trans e13)).b
      have fn_heard_input := fn_heard_input.mono (e8.trans (e11.trans e13)).b
      have eS := (Option.some.inj hS).symm
      subst eS
      exact xRetC [] [(2, 2), (3, 1)] (e8.trans (e11.trans e13)) ⟨An_input, cn_input, An_heard_input, cn_heard_input, A9_0, c9_0, by kernel_rfl, by kernel_rfl, fn_input, fn_heard_input, f14⟩ (fun _ _ h => h)

def o34 (cycle : Int) (p : List UInt8) : Option (Sett × Int) :=
  (cond ((decide ((((p).length : Nat) : Int) < 9) || decide (((List.getD p 8 0).toNat : Int) > 1))) (some (((⟨0, 0, false, ([] : List UInt8)⟩ : Sett), (4 : Int)))) (bindO (τ := Int) (o55 (p : List UInt8) (8 : Int)) fun y10 => (letJ (τ := (List UInt8)) (o56 ((List.drop 9 p) : List UInt8)) fun y13 => (bindO (τ := (List UInt8) × Int) (o31 (⟨y10, cycle, (((List.getD p 8 0).toNat : Int) == 1), y13⟩ : Sett)) fun y215 => (cond ((y215.2 != 0)) (some (((⟨0, 0, false, ([] : List UInt8)⟩ : Sett), (4 : Int)))) (some (((⟨y10, cycle, (((List.getD p 8 0).toNat : Int) == 1), y13⟩ : Sett), (0 : Int)))))))))
set_option maxRecDepth 100000 in
theorem c34 (g : Gh) (cycle : Int) (p : List UInt8) (Ap : Option Addr) (cp : Nat) (fp : Arr g.r tyU8 Ap cp p) {r : Sett × Int} (hS : o34 cycle p = some r) :
    Ctr Try.prog 34 [vi cycle, vs Ap p cp] g [] (fun v ψ o => ∃ (Ar_0_in_ : Option Addr) (cr_0_in_ : Nat), v = Value.tuple #[Value.agg #[vi r.1.steps, vi r.1.cycle, vb r.1.fresh, vs Ar_0_in_ r.1.in_ cr_0_in_], vi r.2] ∧ o = [] ∧ Arr ψ tyU8 Ar_0_in_ cr_0_in_ r.1.in_) := by
  unfold o34 at hS
  refine xFn Try.f34 (Try.f34.body.getD .skip) 39 ?_
  have nfp := fp.len
  refine xSq ?_
  refine xRg ?_
  refine xE eB ?_
  rintro _ _ _ - ⟨b1, rfl, rfl, rfl⟩
  refine xB 1 [] [(0, vi cycle), (1, vs Ap p cp), (4, vp b1 0)] ?_
  refine xRe ?_
  refine wpq_then ?_
  refine xSq ?_
  refine xSq ?_
  refine xRg ?_
  refine xB 4 [] [(0, vi cycle), (1, vs Ap p cp), (4, vp b1 0), (12, vb (decide ((((p).length : Nat) : Int) < 9)))] ?_
  refine wpr_grp 9 [(0, vi cycle), (1, vs Ap p cp), (4, vp b1 0), (17, vb (decide ((((p).length : Nat) : Int) < 9) || decide (((List.getD p 8 0).toNat : Int) > 1)))] (fun hk3 => ?_) ?_
  · refine wpq_split 12 (b := decide ((((p).length : Nat) : Int) < 9)) (by kernel_rfl) (fun q2 => ?_) (fun q2 => ?_)
    · have q2p := of_decide_eq_true q2
      refine xB 5 [] [(0, vi cycle), (1, vs Ap p cp), (4, vp b1 0), (17, vb true)] ?_
      refine wpq_re 17 (v := vb true) (Value.bool ((decide ((((p).length : Nat) : Int) < 9) || decide (((List.getD p 8 0).toNat : Int) > 1)))) (by kernel_rfl) (re_or1 q2) ?_
      exact wpq_sub _ (by kernel_rfl) hk3
    · have q2p := of_decide_eq_false q2
      have i4 : 8 < (p).length := by omega
      obtain ⟨ad3, cs3, hA3, hr3, hc3⟩ := fp.at_ (get_getD (d := 0) i4)
      have hr3 : cs3 = [vy ((List.getD p 8 0).toNat : Int)] := hr3
      subst hr3
      have nb3 := UInt8.toNat_lt (List.getD p 8 0)
      refine xB 1 [] [(0, vi cycle), (1, vs Ap p cp), (4, vp b1 0), (12, vb false), (13, vs Ap p cp)] ?_
      refine xV (qIx 8 1 hA3 rfl i4) ?_
      refine xV (qLdP (Addr.add ad3 (8 * 1)) 0 hc3) ?_
      refine xB 2 [] [(0, vi cycle), (1, vs Ap p cp), (4, vp b1 0), (17, vb (decide (((List.getD p 8 0).toNat : Int) > 1)))] ?_
      refine wpq_re 17 (v := vb (decide (((List.getD p 8 0).toNat : Int) > 1))) (Value.bool ((decide ((((p).length : Nat) : Int) < 9) || decide (((List.getD p 8 0).toNat : Int) > 1)))) (by kernel_rfl) (re_or0 q2) ?_
      exact wpq_sub _ (by kernel_rfl) hk3
  · refine xRe ?_
    refine wpq_then ?_
    refine xCd ((decide ((((p).length : Nat) : Int) < 9) || decide (((List.getD p 8 0).toNat : Int) > 1))) (fun h5 => ?_) (fun h5 => ?_)
    · have hS := cond_T h5 hS
      refine xSq ?_
      refine xRg ?_
      refine xBo 3 [(1, 0)] [some ⟨b1, 64, (cSett (⟨0, 0, false, ([] : List UInt8)⟩ : Sett) none 0)⟩] [(4, vp b1 0), (5, vi 4)] ?_
      refine xRe ?_
      refine wpq_then ?_
      have eS := (Option.some.inj hS).symm
      subst eS
      exact xRetC [] [(4, 0)] (Gh.le.refl _) ⟨none, 0, by kernel_rfl, by kernel_rfl, Arr.nil⟩ (fun _ _ h => h)
    · have hS := cond_F h5 hS
      have h5l := (or_false_ h5).1
      have h5r := (or_false_ h5).2
      have h5lp := of_decide_eq_false h5l
      have h5rp := of_decide_eq_false h5r
      refine xSk ?_
      refine wpq_then ?_
      refine xSub [(0, vi cycle), (1, vs Ap p cp), (4, vp b1 0)] ?_
      refine xSq ?_
      refine xDr 0 [5] [12, 6] [some ⟨b1, 64, (cSett (⟨0, 0, false, ([] : List UInt8)⟩ : Sett) none 0)⟩] 13 (fun RG => ?_) (fun _ _ _ _ _ h => h)
      have i7 : 8 < (p).length := by omega
      obtain ⟨ad6, cs6, hA6, hr6, hc6⟩ := fp.at_ (get_getD (d := 0) i7)
      have hr6 : cs6 = [vy ((List.getD p 8 0).toNat : Int)] := hr6
      subst hr6
      have nb6 := UInt8.toNat_lt (List.getD p 8 0)
      refine xT 10 [0, 2, 3] [] [some 0] [(1, vs Ap p cp), (4, vp b1 0), (19, vs Ap p cp), (21, vi cycle), (22, vs Ap p cp)] RG (Psi.le.refl _) ?_
      refine xTp 4 RG (fun _ => (qIx 8 1 hA6 rfl i7)) ?_
      refine xTv 5 [some 0] RG (Psi.le.refl _) (qLdP (Addr.add ad6 (8 * 1)) 0 hc6) ?_
      have ncapf8 := fp.cap
      have f8 : Arr g.r tyU8 (offA Ap cp 9 1) (cp - 9) (List.drop 9 p) := fp.cut_from 9 (by omega)
      have nf8 := f8.len
      have hlf8 : (p).length - 9 = ((List.drop 9 p)).length := by simp only [List.length_take, List.length_drop] <;> omega
      have hvf8 : ((((List.drop 9 p)).length : Nat) : Int) = (((p).length : Nat) : Int) - 9 := by omega
      refine xT 6 [6, 7] [] [some 0] [(4, vp b1 0), (19, vs Ap p cp), (21, vi cycle), (25, vb (((List.getD p 8 0).toNat : Int) == 1)), (26, vs Ap p cp)] RG (Psi.le.refl _) ?_
      refine xTp 8 RG (fun _ => (qSl (m := 1) (A := Ap) (len := (p).length) (c := cp) 9 (p).length (some 9) none ((List.drop 9 p)).length rfl rfl (by omega) (by omega) hlf8)) ?_
      obtain ⟨y10, hy10, hS⟩ := bindO_T hS
      obtain ⟨y13, hy13, hS⟩ := letJ_T hS
      refine wpa_meet (fun g own sl => ∃ (A13_0 : Option Addr) (c13_0 : Nat) (k13_0 : Option Bk) (b16 : Nat), own = [some ⟨b16, 64, (cSett (⟨0, 0, false, ([] : List UInt8)⟩ : Sett) none 0)⟩, k13_0, some ⟨b1, 64, (cSett (⟨0, 0, false, ([] : List UInt8)⟩ : Sett) none 0)⟩] ∧ sl = [(4, vp b1 0), (6, vp b16 0), (29, Value.agg #[vi y10, vi cycle, vb (((List.getD p 8 0).toNat : Int) == 1), vs A13_0 y13 c13_0])] ∧ Buf g.b tyU8 5 (.slice A13_0 (y13).length c13_0) k13_0 y13) 1 [true, true, true, true, true, true, true, true, true, true, true, true, false] ?_ (fun hD9 => ?_)
      · rintro g210 _ _ e211 ⟨A13_0, c13_0, k13_0, b16, rfl, rfl, h13_0⟩
        have nh13_0 := h13_0.len
        refine xO1 (lds := [5]) 12 ?_
        refine xId (lds := [5]) e211.r (eStL b16 0 0) ?_
        rintro _ _ _ - ⟨rfl, rfl⟩
        refine kf ?_
        refine xAe (lds := [5]) ?_
        refine wpq_then ?_
        refine xSub [(4, vp b1 0), (6, vp b16 0)] ?_
        refine xSq ?_
        refine xSq ?_
        refine xRg ?_
        refine xB 1 [(0, 0)] [(4, vp b1 0), (6, vp b16 0), (31, Value.agg #[vi y10, vi cycle, vb (((List.getD p 8 0).toNat : Int) == 1), vs A13_0 y13 c13_0])] ?_
        refine wpq_freeze 1 (by kernel_rfl) h13_0 (fun g212 e213 f214 => ?_)
        obtain ⟨y215, hy215, hS⟩ := bindO_T hS
        refine xE (eC 0 (fun g' lr eb ln => c31 g' (⟨y10, cycle, (((List.getD p 8 0).toNat : Int) == 1), y13⟩ : Sett) A13_0 c13_0 ((f214.mono g212.br).mono lr) hy215)) ?_
        rintro _ g216 _ e217 ⟨_, rfl, A215_0, c215_0, k215_0, rfl, rfl, h215_0⟩
        have nh215_0 := h215_0.len
        refine xB 5 [] [(4, vp b1 0), (6, vp b16 0), (8, vi y215.2)] ?_
        refine xRe ?_
        refine wpq_then ?_
        refine xSq ?_
        refine xRg ?_
        refine xB 2 [] [(4, vp b1 0), (6, vp b16 0), (36, vb (y215.2 != 0))] ?_
        refine xRe ?_
        refine wpq_then ?_
        refine xCd ((y215.2 != 0)) (fun h218 => ?_) (fun h218 => ?_)
        · have hS := cond_T h218 hS
          have h218p : ¬ (y215.2 = 0) := ne_of_bne_ h218
          refine xSq ?_
          refine xRg ?_
          refine xBo 3 [(1, 3)] [k215_0, some ⟨b16, 64, (cSett (⟨y10, cycle, (((List.getD p 8 0).toNat : Int) == 1), y13⟩ : Sett) A13_0 c13_0)⟩, none, some ⟨b1, 64, (cSett (⟨0, 0, false, ([] : List UInt8)⟩ : Sett) none 0)⟩] [(4, vp b1 0), (5, vi 4)] ?_
          refine xRe ?_
          refine wpq_then ?_
          have eS := (Option.some.inj hS).symm
          subst eS
          exact xRetC [] [(4, 3)] (e211.trans (e213.trans e217)) ⟨none, 0, by kernel_rfl, by kernel_rfl, Arr.nil⟩ (fun _ _ h => h)
        · have hS := cond_F h218 hS
          have h218p : y215.2 = 0 := eq_of_bne_false_ h218
          refine xSk ?_
          refine wpq_then ?_
          refine xSub [(4, vp b1 0), (6, vp b16 0)] ?_
          refine xSq ?_
          refine xRg ?_
          refine xBo 3 [(0, 1), (1, 3)] [k215_0, some ⟨b16, 64, (cSett (⟨y10, cycle, (((List.getD p 8 0).toNat : Int) == 1), y13⟩ : Sett) A13_0 c13_0)⟩, none, some ⟨b1, 64, (cSett (⟨y10, cycle, (((List.getD p 8 0).toNat : Int) == 1), y13⟩ : Sett) A13_0 c13_0)⟩] [(4, vp b1 0), (5, vi 0)] ?_
          refine xRe ?_
          refine wpq_then ?_
          have f214 := f214.mono e217.b
          have eS := (Option.some.inj hS).symm
          subst eS
          exact xRetC [] [(4, 3)] (e211.trans (e213.trans e217)) ⟨A13_0, c13_0, by kernel_rfl, by kernel_rfl, f214⟩ (fun _ _ h => h)
      · refine xO2 (lds := [5]) 1 11 ?_ ?_
        · refine xIe (lds := [5]) (Psi.le.refl _) (eC 0 (fun g' lr eb ln => c55 g' (p : List UInt8) Ap cp (8 : Int) (fp.mono lr) hy10)) ?_
          rintro _ g220 _ e221 ⟨_, rfl, rfl, rfl⟩
          refine kk [some 0] ?_
          refine xO2 (lds := [5]) 9 11 ?_ ?_
          · have f8 := f8.mono e221.r
            refine xIe (lds := [5]) e221.r (eC 0 (fun g' lr eb ln => c56 g' ((List.drop 9 p) : List UInt8) (offA Ap cp 9 1) (cp - 9) (f8.mono lr) hy13)) ?_
            rintro _ g223 _ e224 ⟨_, rfl, A13_0, c13_0, k13_0, rfl, rfl, h13_0⟩
            refine kk [some 1] ?_
            have nh13_0 := h13_0.len
            refine xT 2 [10] [] [some 1] [(4, vp b1 0), (29, Value.agg #[vi y10, vi cycle, vb (((List.getD p 8 0).toNat : Int) == 1), vs A13_0 y13 c13_0])] RG (e221.trans e224).r ?_
            refine xO1 (lds := [5]) 11 ?_
            refine xIe (lds := [5]) (e221.trans e224).r eB ?_
            rintro _ _ _ - ⟨b225, rfl, rfl, rfl⟩
            refine kk [some 2] ?_
            refine xSub [(4, vp b1 0), (6, vp b225 0), (29, Value.agg #[vi y10, vi cycle, vb (((List.getD p 8 0).toNat : Int) == 1), vs A13_0 y13 c13_0])] ?_
            exact hD9 _ _ _ (e221.trans e224) ⟨A13_0, c13_0, k13_0, b225, by kernel_rfl, by kernel_rfl, h13_0⟩
          · refine xIe (lds := [5]) e221.r eB ?_
            rintro _ _ _ - ⟨b226, rfl, rfl, rfl⟩
            refine kk [some 1] ?_
            have f8 := f8.mono e221.r
            refine xO1 (lds := [5]) 9 ?_
            refine xIe (lds := [5]) e221.r (eC 0 (fun g' lr eb ln => c56 g' ((List.drop 9 p) : List UInt8) (offA Ap cp 9 1) (cp - 9) (f8.mono lr) hy13)) ?_
            rintro _ g228 _ e229 ⟨_, rfl, A13_0, c13_0, k13_0, rfl, rfl, h13_0⟩
            refine kk [some 2] ?_
            have nh13_0 := h13_0.len
            refine xT 1 [10] [] [some 2] [(4, vp b1 0), (6, vp b226 0), (29, Value.agg #[vi y10, vi cycle, vb (((List.getD p 8 0).toNat : Int) == 1), vs A13_0 y13 c13_0])] RG (e221.trans e229).r ?_
            refine xSel [some 1, some 0, some 2] ?_
            refine xSub [(4, vp b1 0), (6, vp b226 0), (29, Value.agg #[vi y10, vi cycle, vb (((List.getD p 8 0).toNat : Int) == 1), vs A13_0 y13 c13_0])] ?_
            exact hD9 _ _ _ (e221.trans e229) ⟨A13_0, c13_0, k13_0, b226, by kernel_rfl, by kernel_rfl, h13_0⟩
        · refine xIe (lds := [5]) (Psi.le.refl _) eB ?_
          rintro _ _ _ - ⟨b230, rfl, rfl, rfl⟩
          refine kk [some 1] ?_
          refine xO1 (lds := [5]) 1 ?_
          refine xIe (lds := [5]) (Psi.le.refl _) (eC 0 (fun g' lr eb ln => c55 g' (p : List UInt8) Ap cp (8 : Int) (fp.mono lr) hy10)) ?_
          rintro _ g232 _ e233 ⟨_, rfl, rfl, rfl⟩
          refine kk [some 1] ?_
          have f8 := f8.mono e233.r
          refine xO1 (lds := [5]) 9 ?_
          refine xIe (lds := [5]) e233.r (eC 0 (fun g' lr eb ln => c56 g' ((List.drop 9 p) : List UInt8) (offA Ap cp 9 1) (cp - 9) (f8.mono lr) hy13)) ?_
          rintro _ g235 _ e236 ⟨_, rfl, A13_0, c13_0, k13_0, rfl, rfl, h13_0⟩
          refine kk [some 2] ?_
          have nh13_0 := h13_0.len
          refine xT 1 [10] [] [some 2] [(4, vp b1 0), (6, vp b230 0), (29, Value.agg #[vi y10, vi cycle, vb (((List.getD p 8 0).toNat : Int) == 1), vs A13_0 y13 c13_0])] RG (e233.trans e236).r ?_
          refine xSel [some 1, some 0, some 2] ?_
          refine xSub [(4, vp b1 0), (6, vp b230 0), (29, Value.agg #[vi y10, vi cycle, vb (((List.getD p 8 0).toNat : Int) == 1), vs A13_0 y13 c13_0])] ?_
          exact hD9 _ _ _ (e233.trans e236) ⟨A13_0, c13_0, k13_0, b230, by kernel_rfl, by kernel_rfl, h13_0⟩

def o49 (n : Node) (f : Frame) (came : Bool) : Option (Node × Sett × Bool × Int) :=
  (letJ (τ := Int) (o69 n (3 : Int)) fun y3 => (cond ((y3 != 0)) (some ((n, (⟨0, 0, false, ([] : List UInt8)⟩ : Sett), (false), (y3 : Int)))) (bindO (τ := Node) (cond ((n.role == 2)) (some ((({ n with next_ := 4, has := true }) : Node))) (bindO (τ := Node) (cond ((n.role == 3)) (letJ (τ := Bool) (o71 ({ n with next_ := 4 }) f (came) (2 : Int)) fun y23 => (bindO (τ := Sett × Bool) (cond (y23) (bindO (τ := Sett × Int) (o34 (n.cycle : Int) (f.payload : List UInt8)) fun y38 => (letJ (τ := Sett × Bool) (cond ((((y38.2 == 0) && (!y38.1.fresh)) && (y38.1.steps == n.steps))) (((y38.1 : Sett), true)) (((n.set_ : Sett), n.has))) fun t242 => (some (((t242.1 : Sett), t242.2))))) (some (((n.set_ : Sett), n.has)))) fun t26 => (letJ (τ := Node) (cond ((!t26.2)) (letJ (τ := Node) (o68 ({ n with next_ := 4, set_ := t26.1, has := t26.2 })) fun y33 => ((y33 : Node))) ((({ n with next_ := 4, set_ := t26.1, has := t26.2 }) : Node))) fun t29 => (some ((t29 : Node)))))) (some ((({ n with next_ := 4 }) : Node)))) fun t19 => (some ((t19 : Node))))) fun t7 => (cond ((!t7.has)) (some ((t7, (⟨0, 0, false, ([] : List UInt8)⟩ : Sett), (false), (0 : Int)))) (letJ (τ := (List UInt8)) (o56 (t7.set_.in_ : List UInt8)) fun y12 => (some ((({ t7 with steps := (IntKind.i64.wrap (t7.steps + 1)) }), ({ t7.set_ with in_ := y12 }), (true), (0 : Int)))))))))
set_option maxRecDepth 100000 in
theorem c49 (g : Gh) (b_n : Nat) (n : Node) (An_input : Option Addr) (cn_input : Nat) (An_heard_input : Option Addr) (cn_heard_input : Nat) (An_set__in_ : Option Addr) (cn_set__in_ : Nat) (f : Frame) (Af_payload : Option Addr) (cf_payload : Nat) (came : Bool) (fn_input : Arr g.b tyU8 An_input cn_input n.input) (fn_heard_input : Arr g.b tyU8 An_heard_input cn_heard_input n.heard.input) (fn_set__in_ : Arr g.b tyU8 An_set__in_ cn_set__in_ n.set_.in_) (ff_payload : Arr g.r tyU8 Af_payload cf_payload f.payload) {r : Node × Sett × Bool × Int} (hS : o49 n f came = some r) :
    Ctr Try.prog 49 [vp b_n 0, Value.agg #[vy f.label, vy f.from_, vi f.cycle, vs Af_payload f.payload cf_payload], vb came] g [some ⟨b_n, 131, (cNode n An_input cn_input An_heard_input cn_heard_input An_set__in_ cn_set__in_)⟩] (fun v ψ o => ∃ (Ao_n_input : Option Addr) (co_n_input : Nat) (Ao_n_heard_input : Option Addr) (co_n_heard_input : Nat) (Ao_n_set__in_ : Option Addr) (co_n_set__in_ : Nat) (Ar_0_in_ : Option Addr) (cr_0_in_ : Nat), v = Value.tuple #[Value.agg #[vi r.2.1.steps, vi r.2.1.cycle, vb r.2.1.fresh, vs Ar_0_in_ r.2.1.in_ cr_0_in_], vb r.2.2.1, vi r.2.2.2] ∧ o = [some ⟨b_n, 131, (cNode r.1 Ao_n_input co_n_input Ao_n_heard_input co_n_heard_input Ao_n_set__in_ co_n_set__in_)⟩] ∧ Arr ψ tyU8 Ao_n_input co_n_input r.1.input ∧ Arr ψ tyU8 Ao_n_heard_input co_n_heard_input r.1.heard.input ∧ Arr ψ tyU8 Ao_n_set__in_ co_n_set__in_ r.1.set_.in_ ∧ Arr ψ tyU8 Ar_0_in_ cr_0_in_ r.2.1.in_) := by
  unfold o49 at hS
  refine xFn Try.f49 (Try.f49.body.getD .skip) 99 ?_
  have nfn_input := fn_input.len
  have nfn_heard_input := fn_heard_input.len
  have nfn_set__in_ := fn_set__in_.len
  have nff_payload := ff_payload.len
  refine xSq ?_
  refine xRg ?_
  refine xE eB ?_
  rintro _ _ _ - ⟨b1, rfl, rfl, rfl⟩
  refine xE eB ?_
  rintro _ _ _ - ⟨b2, rfl, rfl, rfl⟩
  refine xB 2 [] [(0, vp b_n 0), (2, vb came), (4, vp b1 0), (6, vp b2 0)] ?_
  refine xRe ?_
  refine wpq_then ?_
  refine xSq ?_
  refine xSq ?_
  refine xRg ?_
  refine xB 1 [] [(0, vp b_n 0), (2, vb came), (4, vp b1 0), (6, vp b2 0), (13, vp b_n 0)] ?_
  obtain ⟨y3, hy3, hS⟩ := letJ_T hS
  refine xE (eC 0 (fun g' lr eb ln => c69 g' ⟨b_n, 0, none⟩ n An_input cn_input An_heard_input cn_heard_input An_set__in_ cn_set__in_ (3 : Int) (cells_lent' 2 b_n 0 (cNode n An_input cn_input An_heard_input cn_heard_input An_set__in_ cn_set__in_) ln) ((fn_input.mono g.br).mono lr) ((fn_heard_input.mono g.br).mono lr) ((fn_set__in_.mono g.br).mono lr) hy3)) ?_
  rintro _ g4 _ e5 ⟨_, rfl, rfl, rfl⟩
  refine xB 1 [] [(0, vp b_n 0), (2, vb came), (4, vp b1 0), (6, vp b2 0), (9, vi y3)] ?_
  refine xRe ?_
  refine wpq_then ?_
  refine xSq ?_
  refine xRg ?_
  refine xB 2 [] [(0, vp b_n 0), (2, vb came), (4, vp b1 0), (6, vp b2 0), (9, vi y3), (16, vb (y3 != 0))] ?_
  refine xRe ?_
  refine wpq_then ?_
  refine xCd ((y3 != 0)) (fun h6 => ?_) (fun h6 => ?_)
  · have hS := cond_T h6 hS
    have h6p : ¬ (y3 = 0) := ne_of_bne_ h6
    refine xSq ?_
    refine xRg ?_
    refine xBo 5 [(2, 0)] [some ⟨b2, 64, (cSett (⟨0, 0, false, ([] : List UInt8)⟩ : Sett) none 0)⟩, some ⟨b1, 100, (cFrame f Af_payload cf_payload)⟩, some ⟨b_n, 131, (cNode n An_input cn_input An_heard_input cn_heard_input An_set__in_ cn_set__in_)⟩] [(6, vp b2 0), (7, vb false), (8, vi y3)] ?_
    refine xRe ?_
    refine wpq_then ?_
    have fn_input := fn_input.mono e5.b
    have fn_heard_input := fn_heard_input.mono e5.b
    have fn_set__in_ := fn_set__in_.mono e5.b
    have eS := (Option.some.inj hS).symm
    subst eS
    exact xRetC [some 2] [(6, 0)] e5 ⟨An_input, cn_input, An_heard_input, cn_heard_input, An_set__in_, cn_set__in_, none, 0, by kernel_rfl, by kernel_rfl, fn_input, fn_heard_input, fn_set__in_, Arr.nil⟩ (fun _ _ h => h)
  · have hS := cond_F h6 hS
    have h6p : y3 = 0 := eq_of_bne_false_ h6
    refine xSk ?_
    refine wpq_then ?_
    refine xSub [(0, vp b_n 0), (2, vb came), (4, vp b1 0), (6, vp b2 0)] ?_
    refine xSq ?_
    refine xRg ?_
    refine xBo 4 [(3, 2)] [some ⟨b2, 64, (cSett (⟨0, 0, false, ([] : List UInt8)⟩ : Sett) none 0)⟩, some ⟨b1, 100, (cFrame f Af_payload cf_payload)⟩, some ⟨b_n, 131, (cNode ({ n with next_ := 4 }) An_input cn_input An_heard_input cn_heard_input An_set__in_ cn_set__in_)⟩] [(0, vp b_n 0), (2, vb came), (4, vp b1 0), (6, vp b2 0)] ?_
    refine xRe ?_
    refine wpq_then ?_
    refine xSq ?_
    refine xSq ?_
    refine xRg ?_
    refine xB 4 [(3, 2)] [(0, vp b_n 0), (2, vb came), (4, vp b1 0), (6, vp b2 0), (25, vy n.role)] ?_
    refine xRe ?_
    refine wpq_then ?_
    refine xBl 0 ?_
    refine xSq ?_
    refine xRg ?_
    refine xB 2 [] [(0, vp b_n 0), (2, vb came), (4, vp b1 0), (6, vp b2 0), (25, vy n.role), (26, vb (n.role == 2))] ?_
    refine xRe ?_
    refine wpq_then ?_
    refine xBindO hS (fun g own sl t7 => ∃ (A7_0_input : Option Addr) (c7_0_input : Nat) (A7_0_heard_input : Option Addr) (c7_0_heard_input : Nat) (A7_0_set__in_ : Option Addr) (c7_0_set__in_ : Nat), own = [some ⟨b2, 64, (cSett (⟨0, 0, false, ([] : List UInt8)⟩ : Sett) none 0)⟩, some ⟨b_n, 131, (cNode t7 A7_0_input c7_0_input A7_0_heard_input c7_0_heard_input A7_0_set__in_ c7_0_set__in_)⟩] ∧ sl = [(0, vp b_n 0), (6, vp b2 0)] ∧ Arr g.b tyU8 A7_0_input c7_0_input t7.input ∧ Arr g.b tyU8 A7_0_heard_input c7_0_heard_input t7.heard.input ∧ Arr g.b tyU8 A7_0_set__in_ c7_0_set__in_ t7.set_.in_) ?_ ?_
    · rintro g8 _ _ t7 e9 ⟨A7_0_input, c7_0_input, A7_0_heard_input, c7_0_heard_input, A7_0_set__in_, c7_0_set__in_, rfl, rfl, f7_0_input, f7_0_heard_input, f7_0_set__in_⟩ hS
      have nf7_0_input := f7_0_input.len
      have nf7_0_heard_input := f7_0_heard_input.len
      have nf7_0_set__in_ := f7_0_set__in_.len
      refine wpq_blockN ?_
      refine wpq_then ?_
      refine xSq ?_
      refine xSq ?_
      refine xRg ?_
      refine xB 5 [(3, 1)] [(0, vp b_n 0), (6, vp b2 0), (81, vb (!t7.has))] ?_
      refine xRe ?_
      refine wpq_then ?_
      refine xCd ((!t7.has)) (fun h10 => ?_) (fun h10 => ?_)
      · have hS := cond_T h10 hS
        have h10n := not_eq_true_ h10
        refine xSq ?_
        refine xRg ?_
        refine xBo 4 [(1, 0)] [some ⟨b2, 64, (cSett (⟨0, 0, false, ([] : List UInt8)⟩ : Sett) none 0)⟩, some ⟨b_n, 131, (cNode t7 A7_0_input c7_0_input A7_0_heard_input c7_0_heard_input A7_0_set__in_ c7_0_set__in_)⟩] [(6, vp b2 0), (7, vb false), (8, vi 0)] ?_
        refine xRe ?_
        refine wpq_then ?_
        have eS := (Option.some.inj hS).symm
        subst eS
        exact xRetC [some 1] [(6, 0)] (e5.trans e9) ⟨A7_0_input, c7_0_input, A7_0_heard_input, c7_0_heard_input, A7_0_set__in_, c7_0_set__in_, none, 0, by kernel_rfl, by kernel_rfl, f7_0_input, f7_0_heard_input, f7_0_set__in_, Arr.nil⟩ (fun _ _ h => h)
      · have hS := cond_F h10 hS
        have h10n := not_eq_false_ h10
        refine xSk ?_
        refine wpq_then ?_
        refine xSub [(0, vp b_n 0), (6, vp b2 0)] ?_
        refine xSq ?_
        refine xRg ?_
        refine xBo 8 [(3, 1), (7, 1)] [some ⟨b2, 64, (cSett (⟨0, 0, false, ([] : List UInt8)⟩ : Sett) none 0)⟩, some ⟨b_n, 131, (cNode ({ t7 with steps := (IntKind.i64.wrap (t7.steps + 1)) }) A7_0_input c7_0_input A7_0_heard_input c7_0_heard_input A7_0_set__in_ c7_0_set__in_)⟩] [(0, vp b_n 0), (6, vp b2 0)] ?_
        refine xRe ?_
        refine wpq_then ?_
        refine xSq ?_
        refine xRg ?_
        refine xB 4 [(3, 1)] [(6, vp b2 0), (93, Value.agg #[vi t7.set_.steps, vi t7.set_.cycle, vb t7.set_.fresh, vs A7_0_set__in_ t7.set_.in_ c7_0_set__in_])] ?_
        refine xE eB ?_
        rintro _ _ _ - ⟨b11, rfl, rfl, rfl⟩
        refine xBo 1 [(5, 0)] [some ⟨b11, 64, (cSett t7.set_ A7_0_set__in_ c7_0_set__in_)⟩, some ⟨b2, 64, (cSett (⟨0, 0, false, ([] : List UInt8)⟩ : Sett) none 0)⟩, some ⟨b_n, 131, (cNode ({ t7 with steps := (IntKind.i64.wrap (t7.steps + 1)) }) A7_0_input c7_0_input A7_0_heard_input c7_0_heard_input A7_0_set__in_ c7_0_set__in_)⟩] [(6, vp b2 0), (12, vp b11 0)] ?_
        refine xRe ?_
        refine wpq_then ?_
        refine xSq ?_
        refine xRg ?_
        refine xB 2 [(1, 0)] [(6, vp b2 0), (12, vp b11 0), (95, vs A7_0_set__in_ t7.set_.in_ c7_0_set__in_)] ?_
        obtain ⟨y12, hy12, hS⟩ := letJ_T hS
        refine xE (eC 0 (fun g' lr eb ln => c56 g' (t7.set_.in_ : List UInt8) A7_0_set__in_ c7_0_set__in_ ((f7_0_set__in_.mono g8.br).mono lr) hy12)) ?_
        rintro _ g13 _ e14 ⟨_, rfl, A12_0, c12_0, k12_0, rfl, rfl, h12_0⟩
        have nh12_0 := h12_0.len
        refine xBo 2 [(4, 1)] [k12_0, some ⟨b11, 64, (cSett ({ t7.set_ with in_ := y12 }) A12_0 c12_0)⟩, some ⟨b2, 64, (cSett (⟨0, 0, false, ([] : List UInt8)⟩ : Sett) none 0)⟩, some ⟨b_n, 131, (cNode ({ t7 with steps := (IntKind.i64.wrap (t7.steps + 1)) }) A7_0_input c7_0_input A7_0_heard_input c7_0_heard_input A7_0_set__in_ c7_0_set__in_)⟩] [(6, vp b2 0), (12, vp b11 0)] ?_
        refine xRe ?_
        refine wpq_then ?_
        refine xSq ?_
        refine xRg ?_
        refine xBo 4 [(0, 1), (1, 2)] [k12_0, some ⟨b11, 64, (cSett ({ t7.set_ with in_ := y12 }) A12_0 c12_0)⟩, some ⟨b2, 64, (cSett ({ t7.set_ with in_ := y12 }) A12_0 c12_0)⟩, some ⟨b_n, 131, (cNode ({ t7 with steps := (IntKind.i64.wrap (t7.steps + 1)) }) A7_0_input c7_0_input A7_0_heard_input c7_0_heard_input A7_0_set__in_ c7_0_set__in_)⟩] [(6, vp b2 0), (7, vb true), (8, vi 0)] ?_
        refine xRe ?_
        refine wpq_then ?_
        refine wpq_freeze 0 (by kernel_rfl) h12_0 (fun g15 e16 f17 => ?_)
        have f7_0_input := f7_0_input.mono (e14.trans e16).b
        have f7_0_heard_input := f7_0_heard_input.mono (e14.trans e16).b
        have f7_0_set__in_ := f7_0_set__in_.mono (e14.trans e16).b
        have eS := (Option.some.inj hS).symm
        subst eS
        exact xRetC [some 3] [(6, 2)] (e5.trans (e9.trans (e14.trans e16))) ⟨A7_0_input, c7_0_input, A7_0_heard_input, c7_0_heard_input, A7_0_set__in_, c7_0_set__in_, A12_0, c12_0, by kernel_rfl, by kernel_rfl, f7_0_input, f7_0_heard_input, f7_0_set__in_, f17⟩ (fun _ _ h => h)
    · intro u7 hS hN7
      refine xCd ((n.role == 2)) (fun h18 => ?_) (fun h18 => ?_)
      · have hS := cond_T h18 hS
        have h18p : n.role = 2 := eq_of_beq h18
        refine xRg ?_
        refine xBo 4 [(3, 2)] [some ⟨b2, 64, (cSett (⟨0, 0, false, ([] : List UInt8)⟩ : Sett) none 0)⟩, some ⟨b1, 100, (cFrame f Af_payload cf_payload)⟩, some ⟨b_n, 131, (cNode ({ n with next_ := 4, has := true }) An_input cn_input An_heard_input cn_heard_input An_set__in_ cn_set__in_)⟩] [(0, vp b_n 0), (6, vp b2 0)] ?_
        refine xRe ?_
        have fn_input := fn_input.mono e5.b
        have fn_heard_input := fn_heard_input.mono e5.b
        have fn_set__in_ := fn_set__in_.mono e5.b
        refine xSel [some 0, some 2] ?_
        refine xSub [(0, vp b_n 0), (6, vp b2 0)] ?_
        have eS := (Option.some.inj hS).symm
        exact hN7 _ eS _ _ _ (Gh.le.refl _) ⟨An_input, cn_input, An_heard_input, cn_heard_input, An_set__in_, cn_set__in_, by kernel_rfl, by kernel_rfl, fn_input, fn_heard_input, fn_set__in_⟩
      · have hS := cond_F h18 hS
        have h18p : ¬ (n.role = 2) := ne_of_beq_false_ h18
        refine xSq ?_
        refine xRg ?_
        refine xB 2 [] [(0, vp b_n 0), (2, vb came), (4, vp b1 0), (6, vp b2 0), (31, vb (n.role == 3))] ?_
        refine xRe ?_
        refine wpq_then ?_
        refine xBindO hS (fun g own sl t19 => ∃ (A19_0_input : Option Addr) (c19_0_input : Nat) (A19_0_heard_input : Option Addr) (c19_0_heard_input : Nat) (A19_0_set__in_ : Option Addr) (c19_0_set__in_ : Nat), own = [some ⟨b_n, 131, (cNode t19 A19_0_input c19_0_input A19_0_heard_input c19_0_heard_input A19_0_set__in_ c19_0_set__in_)⟩, some ⟨b2, 64, (cSett (⟨0, 0, false, ([] : List UInt8)⟩ : Sett) none 0)⟩] ∧ sl = [(0, vp b_n 0), (6, vp b2 0)] ∧ Arr g.b tyU8 A19_0_input c19_0_input t19.input ∧ Arr g.b tyU8 A19_0_heard_input c19_0_heard_input t19.heard.input ∧ Arr g.b tyU8 A19_0_set__in_ c19_0_set__in_ t19.set_.in_) ?_ ?_
        · rintro g20 _ _ t19 e21 ⟨A19_0_input, c19_0_input, A19_0_heard_input, c19_0_heard_input, A19_0_set__in_, c19_0_set__in_, rfl, rfl, f19_0_input, f19_0_heard_input, f19_0_set__in_⟩ hS
          have nf19_0_input := f19_0_input.len
          have nf19_0_heard_input := f19_0_heard_input.len
          have nf19_0_set__in_ := f19_0_set__in_.len
          refine xSel [some 1, some 0] ?_
          refine xSub [(0, vp b_n 0), (6, vp b2 0)] ?_
          have eS := (Option.some.inj hS).symm
          exact hN7 _ eS _ _ _ e21 ⟨A19_0_input, c19_0_input, A19_0_heard_input, c19_0_heard_input, A19_0_set__in_, c19_0_set__in_, by kernel_rfl, by kernel_rfl, f19_0_input, f19_0_heard_input, f19_0_set__in_⟩
        · intro u19 hS hN19
          refine xCd ((n.role == 3)) (fun h22 => ?_) (fun h22 => ?_)
          · have hS := cond_T h22 hS
            have h22p : n.role = 3 := eq_of_beq h22
            refine xSq ?_
            refine xSq ?_
            refine xRg ?_
            refine xB 3 [(1, 1)] [(0, vp b_n 0), (4, vp b1 0), (6, vp b2 0), (33, vp b_n 0), (34, Value.agg #[vy f.label, vy f.from_, vi f.cycle, vs Af_payload f.payload cf_payload]), (35, vb came)] ?_
            have fn_input := fn_input.mono e5.b
            have fn_heard_input := fn_heard_input.mono e5.b
            have fn_set__in_ := fn_set__in_.mono e5.b
            have ff_payload := ff_payload.mono e5.r
            obtain ⟨y23, hy23, hS⟩ := letJ_T hS
            refine xE (eC 0 (fun g' lr eb ln => c71 g' ⟨b_n, 0, none⟩ ({ n with next_ := 4 }) An_input cn_input An_heard_input cn_heard_input An_set__in_ cn_set__in_ f Af_payload cf_payload (came) (2 : Int) (cells_lent' 2 b_n 0 (cNode ({ n with next_ := 4 }) An_input cn_input An_heard_input cn_heard_input An_set__in_ cn_set__in_) ln) ((fn_input.mono g4.br).mono lr) ((fn_heard_input.mono g4.br).mono lr) ((fn_set__in_.mono g4.br).mono lr) (ff_payload.mono lr) hy23)) ?_
            rintro _ g24 _ e25 ⟨_, rfl, rfl, rfl⟩
            refine xRe ?_
            refine wpq_then ?_
            refine xSub [(0, vp b_n 0), (4, vp b1 0), (6, vp b2 0), (36, vb y23)] ?_
            refine xBindO hS (fun g own sl t26 => ∃ (A26_0_in_ : Option Addr) (c26_0_in_ : Nat), own = [some ⟨b2, 64, (cSett (⟨0, 0, false, ([] : List UInt8)⟩ : Sett) none 0)⟩, some ⟨b_n, 131, (cNode ({ n with next_ := 4, set_ := t26.1, has := t26.2 }) An_input cn_input An_heard_input cn_heard_input A26_0_in_ c26_0_in_)⟩] ∧ sl = [(0, vp b_n 0), (6, vp b2 0)] ∧ Arr g.b tyU8 A26_0_in_ c26_0_in_ t26.1.in_) ?_ ?_
            · rintro g27 _ _ t26 e28 ⟨A26_0_in_, c26_0_in_, rfl, rfl, f26_0_in_⟩ hS
              have nf26_0_in_ := f26_0_in_.len
              refine wpq_then ?_
              refine xSq ?_
              refine xRg ?_
              refine xB 5 [(3, 1)] [(0, vp b_n 0), (6, vp b2 0), (74, vb (!t26.2))] ?_
              refine xRe ?_
              refine wpq_then ?_
              refine xLetJ hS (fun g own sl t29 => ∃ (A29_0_input : Option Addr) (c29_0_input : Nat) (A29_0_heard_input : Option Addr) (c29_0_heard_input : Nat) (A29_0_set__in_ : Option Addr) (c29_0_set__in_ : Nat), own = [some ⟨b_n, 131, (cNode t29 A29_0_input c29_0_input A29_0_heard_input c29_0_heard_input A29_0_set__in_ c29_0_set__in_)⟩, some ⟨b2, 64, (cSett (⟨0, 0, false, ([] : List UInt8)⟩ : Sett) none 0)⟩] ∧ sl = [(0, vp b_n 0), (6, vp b2 0)] ∧ Arr g.b tyU8 A29_0_input c29_0_input t29.input ∧ Arr g.b tyU8 A29_0_heard_input c29_0_heard_input t29.heard.input ∧ Arr g.b tyU8 A29_0_set__in_ c29_0_set__in_ t29.set_.in_) ?_ ?_
              · rintro g30 _ _ t29 e31 ⟨A29_0_input, c29_0_input, A29_0_heard_input, c29_0_heard_input, A29_0_set__in_, c29_0_set__in_, rfl, rfl, f29_0_input, f29_0_heard_input, f29_0_set__in_⟩ hS
                have nf29_0_input := f29_0_input.len
                have nf29_0_heard_input := f29_0_heard_input.len
                have nf29_0_set__in_ := f29_0_set__in_.len
                refine xSub [(0, vp b_n 0), (6, vp b2 0)] ?_
                have eS := (Option.some.inj hS).symm
                exact hN19 _ eS _ _ _ (e25.trans (e28.trans e31)) ⟨A29_0_input, c29_0_input, A29_0_heard_input, c29_0_heard_input, A29_0_set__in_, c29_0_set__in_, by kernel_rfl, by kernel_rfl, f29_0_input, f29_0_heard_input, f29_0_set__in_⟩
              · intro u29 hS hN29
                refine xCd ((!t26.2)) (fun h32 => ?_) (fun h32 => ?_)
                · have hS := cond_T h32 hS
                  have h32n := not_eq_true_ h32
                  refine xRg ?_
                  refine xB 1 [] [(0, vp b_n 0), (6, vp b2 0), (75, vp b_n 0)] ?_
                  refine xSel [some 1, some 0] ?_
                  have fn_input := fn_input.mono (e25.trans e28).b
                  have fn_heard_input := fn_heard_input.mono (e25.trans e28).b
                  obtain ⟨y33, hy33, hS⟩ := letJ_T hS
                  refine xE (eC 1 (fun g' lr eb ln => c68 g' b_n ({ n with next_ := 4, set_ := t26.1, has := t26.2 }) An_input cn_input An_heard_input cn_heard_input A26_0_in_ c26_0_in_ (by rw [eb]; exact fn_input) (by rw [eb]; exact fn_heard_input) (by rw [eb]; exact f26_0_in_) hy33)) ?_
                  rintro _ g34 _ e35 ⟨_, rfl, A33_n_input, c33_n_input, A33_n_heard_input, c33_n_heard_input, A33_n_set__in_, c33_n_set__in_, rfl, rfl, f33_n_input, f33_n_heard_input, f33_n_set__in_⟩
                  have nf33_n_input := f33_n_input.len
                  have nf33_n_heard_input := f33_n_heard_input.len
                  have nf33_n_set__in_ := f33_n_set__in_.len
                  refine xRe ?_
                  refine xSub [(0, vp b_n 0), (6, vp b2 0)] ?_
                  have eS := hS.symm
                  exact hN29 _ eS _ _ _ e35 ⟨A33_n_input, c33_n_input, A33_n_heard_input, c33_n_heard_input, A33_n_set__in_, c33_n_set__in_, by kernel_rfl, by kernel_rfl, f33_n_input, f33_n_heard_input, f33_n_set__in_⟩
                · have hS := cond_F h32 hS
                  have h32n := not_eq_false_ h32
                  refine xSk ?_
                  have fn_input := fn_input.mono (e25.trans e28).b
                  have fn_heard_input := fn_heard_input.mono (e25.trans e28).b
                  refine xSel [some 1, some 0] ?_
                  refine xSub [(0, vp b_n 0), (6, vp b2 0)] ?_
                  have eS := hS.symm
                  exact hN29 _ eS _ _ _ (Gh.le.refl _) ⟨An_input, cn_input, An_heard_input, cn_heard_input, A26_0_in_, c26_0_in_, by kernel_rfl, by kernel_rfl, fn_input, fn_heard_input, f26_0_in_⟩
            · intro u26 hS hN26
              refine xCd (y23) (fun h36 => ?_) (fun h36 => ?_)
              · have hS := cond_T h36 hS
                refine xSq ?_
                refine xDr 0 [3, 5] [11, 12] [some ⟨b2, 64, (cSett (⟨0, 0, false, ([] : List UInt8)⟩ : Sett) none 0)⟩, some ⟨b1, 100, (cFrame f Af_payload cf_payload)⟩, some ⟨b_n, 131, (cNode ({ n with next_ := 4 }) An_input cn_input An_heard_input cn_heard_input An_set__in_ cn_set__in_)⟩] 13 (fun RG => ?_) (fun _ _ _ _ _ h => h)
                refine xT 7 [0, 1, 2, 3, 4, 5] [(3, 2), (5, 1)] [some 0, some 1, some 2] [(0, vp b_n 0), (6, vp b2 0), (41, vi n.cycle), (43, vs Af_payload f.payload cf_payload)] RG (Psi.le.refl _) ?_
                obtain ⟨y38, hy38, hS⟩ := bindO_T hS
                refine wpa_meet (fun g own sl => ∃ (A38_0_in_ : Option Addr) (c38_0_in_ : Nat) (b41 : Nat), own = [some ⟨b41, 64, (cSett y38.1 A38_0_in_ c38_0_in_)⟩, some ⟨b2, 64, (cSett (⟨0, 0, false, ([] : List UInt8)⟩ : Sett) none 0)⟩, some ⟨b1, 100, (cFrame f Af_payload cf_payload)⟩, some ⟨b_n, 131, (cNode ({ n with next_ := 4 }) An_input cn_input An_heard_input cn_heard_input An_set__in_ cn_set__in_)⟩] ∧ sl = [(0, vp b_n 0), (6, vp b2 0), (10, vp b41 0), (46, vi y38.2)] ∧ Arr g.b tyU8 A38_0_in_ c38_0_in_ y38.1.in_) 1 [true, true, true, true, true, true, true, true, true, true, true, true, false] ?_ (fun hD37 => ?_)
                · rintro g238 _ _ e239 ⟨A38_0_in_, c38_0_in_, b41, rfl, rfl, f38_0_in_⟩
                  have nf38_0_in_ := f38_0_in_.len
                  refine xT 0 [12] [] [some 1, some 2, some 3] [(0, vp b_n 0), (6, vp b2 0), (10, vp b41 0), (11, vi y38.2)] RG e239.r ?_
                  refine xAe (lds := [3, 5]) ?_
                  refine wpq_then ?_
                  refine xSq ?_
                  refine xDr 0 [4, 9, 13] [] [some ⟨b41, 64, (cSett y38.1 A38_0_in_ c38_0_in_)⟩, some ⟨b2, 64, (cSett (⟨0, 0, false, ([] : List UInt8)⟩ : Sett) none 0)⟩, some ⟨b1, 100, (cFrame f Af_payload cf_payload)⟩, some ⟨b_n, 131, (cNode ({ n with next_ := 4 }) An_input cn_input An_heard_input cn_heard_input An_set__in_ cn_set__in_)⟩] 16 (fun RG => ?_) (fun _ _ _ _ _ h => h)
                  refine xT 13 [0, 1, 2] [] [some 0, some 1, some 2, some 3] [(0, vp b_n 0), (6, vp b2 0), (10, vp b41 0), (49, vb (y38.2 == 0))] RG (Psi.le.refl _) ?_
                  refine wpa_grp 9 [true, true, true, true, true, true, true, false, false, false, false, false, false, false, false, false] [(0, vp b_n 0), (6, vp b2 0), (10, vp b41 0), (53, vb ((y38.2 == 0) && (!y38.1.fresh)))] (fun hk2 => ?_) ?_
                  · refine wpq_split 49 (b := (y38.2 == 0)) (by kernel_rfl) (fun q240 => ?_) (fun q240 => ?_)
                    · have q240p : y38.2 = 0 := eq_of_beq q240
                      refine xT 9 [3, 4, 5, 6] [(4, 0)] [some 0, some 1, some 2, some 3] [(0, vp b_n 0), (6, vp b2 0), (10, vp b41 0), (53, vb (!y38.1.fresh))] RG (Psi.le.refl _) ?_
                      refine wpq_re 53 (v := vb (!y38.1.fresh)) (Value.bool (((y38.2 == 0) && (!y38.1.fresh)))) (by kernel_rfl) (re_and1 q240) ?_
                      exact wpq_sub _ (by kernel_rfl) hk2
                    · have q240p : ¬ (y38.2 = 0) := ne_of_beq_false_ q240
                      refine xT 9 [3, 4, 5, 6] [] [some 0, some 1, some 2, some 3] [(0, vp b_n 0), (6, vp b2 0), (10, vp b41 0), (53, vb false)] RG (Psi.le.refl _) ?_
                      refine wpq_re 53 (v := vb false) (Value.bool (((y38.2 == 0) && (!y38.1.fresh)))) (by kernel_rfl) (re_and0 q240) ?_
                      exact wpq_sub _ (by kernel_rfl) hk2
                  · refine xT 8 [7] [] [some 0, some 1, some 2, some 3] [(0, vp b_n 0), (6, vp b2 0), (10, vp b41 0), (54, vb ((y38.2 == 0) && (!y38.1.fresh)))] RG (Psi.le.refl _) ?_
                    refine wpa_grp 0 [true, true, true, true, true, true, true, true, true, true, true, true, true, true, true, true] [(0, vp b_n 0), (6, vp b2 0), (10, vp b41 0), (62, vb (((y38.2 == 0) && (!y38.1.fresh)) && (y38.1.steps == n.steps)))] (fun hk7 => ?_) ?_
                    · refine wpq_split 54 (b := ((y38.2 == 0) && (!y38.1.fresh))) (by kernel_rfl) (fun q241 => ?_) (fun q241 => ?_)
                      · have q241l := (and_true_ q241).1
                        have q241r := (and_true_ q241).2
                        have q241lp : y38.2 = 0 := eq_of_beq q241l
                        have q241rn := not_eq_true_ q241r
                        refine xT 0 [8, 9, 10, 11, 12, 13, 14, 15] [(9, 0), (13, 3)] [some 0, some 1, some 2, some 3] [(0, vp b_n 0), (6, vp b2 0), (10, vp b41 0), (62, vb (y38.1.steps == n.steps))] RG (Psi.le.refl _) ?_
                        refine wpq_re 62 (v := vb (y38.1.steps == n.steps)) (Value.bool ((((y38.2 == 0) && (!y38.1.fresh)) && (y38.1.steps == n.steps)))) (by kernel_rfl) (re_and1 q241) ?_
                        exact wpq_sub _ (by kernel_rfl) hk7
                      · refine xT 0 [8, 9, 10, 11, 12, 13, 14, 15] [] [some 0, some 1, some 2, some 3] [(0, vp b_n 0), (6, vp b2 0), (10, vp b41 0), (62, vb false)] RG (Psi.le.refl _) ?_
                        refine wpq_re 62 (v := vb false) (Value.bool ((((y38.2 == 0) && (!y38.1.fresh)) && (y38.1.steps == n.steps)))) (by kernel_rfl) (re_and0 q241) ?_
                        exact wpq_sub _ (by kernel_rfl) hk7
                    · refine xAe (lds := [4, 9, 13]) ?_
                      refine wpq_then ?_
                      refine xLetJ hS (fun g own sl t242 => ∃ (A242_0_in_ : Option Addr) (c242_0_in_ : Nat), own = [some ⟨b2, 64, (cSett (⟨0, 0, false, ([] : List UInt8)⟩ : Sett) none 0)⟩, some ⟨b_n, 131, (cNode ({ n with next_ := 4, set_ := t242.1, has := t242.2 }) An_input cn_input An_heard_input cn_heard_input A242_0_in_ c242_0_in_)⟩] ∧ sl = [(0, vp b_n 0), (6, vp b2 0)] ∧ Arr g.b tyU8 A242_0_in_ c242_0_in_ t242.1.in_) ?_ ?_
                      · rintro g243 _ _ t242 e244 ⟨A242_0_in_, c242_0_in_, rfl, rfl, f242_0_in_⟩ hS
                        have nf242_0_in_ := f242_0_in_.len
                        refine xSub [(0, vp b_n 0), (6, vp b2 0)] ?_
                        have eS := (Option.some.inj hS).symm
                        exact hN26 _ eS _ _ _ (e239.trans e244) ⟨A242_0_in_, c242_0_in_, by kernel_rfl, by kernel_rfl, f242_0_in_⟩
                      · intro u242 hS hN242
                        refine xCd ((((y38.2 == 0) && (!y38.1.fresh)) && (y38.1.steps == n.steps))) (fun h245 => ?_) (fun h245 => ?_)
                        · have hS := cond_T h245 hS
                          have h245l := (and_true_ h245).1
                          have h245r := (and_true_ h245).2
                          have h245ll := (and_true_ h245l).1
                          have h245lr := (and_true_ h245l).2
                          have h245llp : y38.2 = 0 := eq_of_beq h245ll
                          have h245lrn := not_eq_true_ h245lr
                          have h245rp : y38.1.steps = n.steps := eq_of_beq h245r
                          refine xRg ?_
                          refine xBo 9 [(2, 0), (5, 3), (8, 3)] [some ⟨b41, 64, (cSett y38.1 A38_0_in_ c38_0_in_)⟩, some ⟨b2, 64, (cSett (⟨0, 0, false, ([] : List UInt8)⟩ : Sett) none 0)⟩, some ⟨b1, 100, (cFrame f Af_payload cf_payload)⟩, some ⟨b_n, 131, (cNode ({ n with next_ := 4, set_ := y38.1, has := true }) An_input cn_input An_heard_input cn_heard_input A38_0_in_ c38_0_in_)⟩] [(0, vp b_n 0), (6, vp b2 0)] ?_
                          refine xRe ?_
                          refine xSel [some 1, some 3] ?_
                          refine xSub [(0, vp b_n 0), (6, vp b2 0)] ?_
                          have eS := hS.symm
                          exact hN242 _ eS _ _ _ (Gh.le.refl _) ⟨A38_0_in_, c38_0_in_, by kernel_rfl, by kernel_rfl, f38_0_in_⟩
                        · have hS := cond_F h245 hS
                          refine xSk ?_
                          have fn_set__in_ := fn_set__in_.mono (e25.trans e239).b
                          refine xSel [some 1, some 3] ?_
                          refine xSub [(0, vp b_n 0), (6, vp b2 0)] ?_
                          have eS := hS.symm
                          exact hN242 _ eS _ _ _ (Gh.le.refl _) ⟨An_set__in_, cn_set__in_, by kernel_rfl, by kernel_rfl, fn_set__in_⟩
                · refine xO2 (lds := [3, 5]) 6 10 ?_ ?_
                  · have ff_payload := ff_payload.mono e25.r
                    refine xIe (lds := [3, 5]) (Psi.le.refl _) (eC 0 (fun g' lr eb ln => c34 g' (n.cycle : Int) (f.payload : List UInt8) Af_payload cf_payload (ff_payload.mono lr) hy38)) ?_
                    rintro _ g247 _ e248 ⟨_, rfl, A38_0_in_, c38_0_in_, rfl, rfl, f38_0_in_⟩
                    refine kk [some 0, some 1, some 2] ?_
                    have nf38_0_in_ := f38_0_in_.len
                    refine xT 3 [7, 8, 9] [] [some 0, some 1, some 2] [(0, vp b_n 0), (6, vp b2 0), (45, Value.agg #[vi y38.1.steps, vi y38.1.cycle, vb y38.1.fresh, vs A38_0_in_ y38.1.in_ c38_0_in_]), (46, vi y38.2)] RG e248.r ?_
                    refine xO1 (lds := [3, 5]) 10 ?_
                    refine xIe (lds := [3, 5]) e248.r eB ?_
                    rintro _ _ _ - ⟨b249, rfl, rfl, rfl⟩
                    refine kk [some 1, some 2, some 3] ?_
                    refine xO1 (lds := [3, 5]) 11 ?_
                    refine xId (lds := [3, 5]) e248.r (eStL b249 0 0) ?_
                    rintro _ _ _ - ⟨rfl, rfl⟩
                    refine kf ?_
                    refine xSub [(0, vp b_n 0), (6, vp b2 0), (10, vp b249 0), (46, vi y38.2)] ?_
                    exact hD37 _ _ _ e248 ⟨A38_0_in_, c38_0_in_, b249, by kernel_rfl, by kernel_rfl, f38_0_in_⟩
                  · refine xIe (lds := [3, 5]) (Psi.le.refl _) eB ?_
                    rintro _ _ _ - ⟨b250, rfl, rfl, rfl⟩
                    refine kk [some 1, some 2, some 3] ?_
                    have ff_payload := ff_payload.mono e25.r
                    refine xO1 (lds := [3, 5]) 6 ?_
                    refine xIe (lds := [3, 5]) (Psi.le.refl _) (eC 0 (fun g' lr eb ln => c34 g' (n.cycle : Int) (f.payload : List UInt8) Af_payload cf_payload (ff_payload.mono lr) hy38)) ?_
                    rintro _ g252 _ e253 ⟨_, rfl, A38_0_in_, c38_0_in_, rfl, rfl, f38_0_in_⟩
                    refine kk [some 1, some 2, some 3] ?_
                    have nf38_0_in_ := f38_0_in_.len
                    refine xT 2 [7, 8, 9] [] [some 1, some 2, some 3] [(0, vp b_n 0), (6, vp b2 0), (10, vp b250 0), (45, Value.agg #[vi y38.1.steps, vi y38.1.cycle, vb y38.1.fresh, vs A38_0_in_ y38.1.in_ c38_0_in_]), (46, vi y38.2)] RG e253.r ?_
                    refine xO1 (lds := [3, 5]) 11 ?_
                    refine xId (lds := [3, 5]) e253.r (eStL b250 0 0) ?_
                    rintro _ _ _ - ⟨rfl, rfl⟩
                    refine kf ?_
                    refine xSub [(0, vp b_n 0), (6, vp b2 0), (10, vp b250 0), (46, vi y38.2)] ?_
                    exact hD37 _ _ _ e253 ⟨A38_0_in_, c38_0_in_, b250, by kernel_rfl, by kernel_rfl, f38_0_in_⟩
              · have hS := cond_F h36 hS
                refine xSk ?_
                have fn_set__in_ := fn_set__in_.mono e25.b
                refine xSel [some 0, some 2] ?_
                refine xSub [(0, vp b_n 0), (6, vp b2 0)] ?_
                have eS := (Option.some.inj hS).symm
                exact hN26 _ eS _ _ _ (Gh.le.refl _) ⟨An_set__in_, cn_set__in_, by kernel_rfl, by kernel_rfl, fn_set__in_⟩
          · have hS := cond_F h22 hS
            have h22p : ¬ (n.role = 3) := ne_of_beq_false_ h22
            refine xSk ?_
            have fn_input := fn_input.mono e5.b
            have fn_heard_input := fn_heard_input.mono e5.b
            have fn_set__in_ := fn_set__in_.mono e5.b
            refine xSel [some 2, some 0] ?_
            refine xSub [(0, vp b_n 0), (6, vp b2 0)] ?_
            have eS := (Option.some.inj hS).symm
            exact hN19 _ eS _ _ _ (Gh.le.refl _) ⟨An_input, cn_input, An_heard_input, cn_heard_input, An_set__in_, cn_set__in_, by kernel_rfl, by kernel_rfl, fn_input, fn_heard_input, fn_set__in_⟩

def o36 (cycle : Int) (p : List UInt8) : Option (Sett × Int) :=
  (bindO (τ := Bool) (cond (decide ((((p).length : Nat) : Int) < 9)) (some (true)) (bindO (τ := Int) (o58 ((List.take 8 p) : List UInt8)) fun y241 => (some (decide (y241 < 0))))) fun t2 => (bindO (τ := Bool) (cond (t2) (some (true)) (grd (decide (8 < (p).length)) (some (decide (((List.getD p 8 0).toNat : Int) > 1))))) fun t5 => (cond (t5) (some (((⟨0, 0, false, ([] : List UInt8)⟩ : Sett), (4 : Int)))) (grd (decide (9 ≤ (((p).length : Nat) : Int))) (bindO (τ := (List UInt8) × Bool × (List UInt8) × Bool × Int) (o18 ((List.drop 9 p) : List UInt8)) fun y11 => (cond ((y11.2.2.2.2 != 0)) (some (((⟨0, 0, false, ([] : List UInt8)⟩ : Sett), (4 : Int)))) (grd (decide (8 ≤ (((p).length : Nat) : Int))) (grd (decide (8 < (p).length)) (grd (decide (9 ≤ (((p).length : Nat) : Int))) (bindO (τ := Int) (o58 ((List.take 8 p) : List UInt8)) fun y22 => (some (((⟨y22, cycle, (((List.getD p 8 0).toNat : Int) == 1), (List.drop 9 p)⟩ : Sett), (0 : Int))))))))))))))
set_option maxRecDepth 100000 in
theorem c36 (g : Gh) (cycle : Int) (p : List UInt8) (Ap : Option Addr) (cp : Nat) (fp : Arr g.b tyU8 Ap cp p) {r : Sett × Int} (hS : o36 cycle p = some r) :
    Ctr Try.prog 36 [vi cycle, vs Ap p cp] g [] (fun v ψ o => ∃ (Ar_0_in_ : Option Addr) (cr_0_in_ : Nat), v = Value.tuple #[Value.agg #[vi r.1.steps, vi r.1.cycle, vb r.1.fresh, vs Ar_0_in_ r.1.in_ cr_0_in_], vi r.2] ∧ o = [] ∧ Arr ψ tyU8 Ar_0_in_ cr_0_in_ r.1.in_) := by
  unfold o36 at hS
  refine xFn Try.f36 (Try.f36.body.getD .skip) 52 ?_
  have nfp := fp.len
  refine xSq ?_
  refine xRg ?_
  refine xE eB ?_
  rintro _ _ _ - ⟨b1, rfl, rfl, rfl⟩
  refine xB 1 [] [(0, vi cycle), (1, vs Ap p cp), (4, vp b1 0)] ?_
  refine xRe ?_
  refine wpq_then ?_
  refine xSq ?_
  refine xSq ?_
  refine xRg ?_
  refine xB 4 [] [(0, vi cycle), (1, vs Ap p cp), (4, vp b1 0), (14, vb (decide ((((p).length : Nat) : Int) < 9)))] ?_
  refine xGJo hS 9 (fun g own sl t2 => own = [some ⟨b1, 67, (cSett (⟨0, 0, false, ([] : List UInt8)⟩ : Sett) none 0)⟩] ∧ sl = [(0, vi cycle), (1, vs Ap p cp), (4, vp b1 0), (19, vb t2)]) ?_ ?_
  · rintro g3 _ _ t2 e4 ⟨rfl, rfl⟩ hS
    refine xB 1 [] [(0, vi cycle), (1, vs Ap p cp), (4, vp b1 0), (20, vb t2)] ?_
    refine xGJo hS 15 (fun g own sl t5 => own = [some ⟨b1, 67, (cSett (⟨0, 0, false, ([] : List UInt8)⟩ : Sett) none 0)⟩] ∧ sl = [(0, vi cycle), (1, vs Ap p cp), (4, vp b1 0), (25, vb t5)]) ?_ ?_
    · rintro g6 _ _ t5 e7 ⟨rfl, rfl⟩ hS
      refine xRe ?_
      refine wpq_then ?_
      refine xCd (t5) (fun h8 => ?_) (fun h8 => ?_)
      · have hS := cond_T h8 hS
        refine xSq ?_
        refine xRg ?_
        refine xBo 3 [(1, 0)] [some ⟨b1, 67, (cSett (⟨0, 0, false, ([] : List UInt8)⟩ : Sett) none 0)⟩] [(4, vp b1 0), (5, vi 4)] ?_
        refine xRe ?_
        refine wpq_then ?_
        have eS := (Option.some.inj hS).symm
        subst eS
        exact xRetC [] [(4, 0)] (e4.trans e7) ⟨none, 0, by kernel_rfl, by kernel_rfl, Arr.nil⟩ (fun _ _ h => h)
      · have hS := cond_F h8 hS
        refine xSk ?_
        refine wpq_then ?_
        refine xSub [(0, vi cycle), (1, vs Ap p cp), (4, vp b1 0)] ?_
        refine xSq ?_
        refine xRg ?_
        have fp := fp.mono (e4.trans e7).b
        obtain ⟨q9, hS⟩ := grd_T hS
        have q9p := of_decide_eq_true q9
        have ncapf10 := fp.cap
        have f10 : Arr g6.b tyU8 (offA Ap cp 9 1) (cp - 9) (List.drop 9 p) := fp.cut_from 9 (by omega)
        have nf10 := f10.len
        have hlf10 : (p).length - 9 = ((List.drop 9 p)).length := by simp only [List.length_take, List.length_drop] <;> omega
        have hvf10 : ((((List.drop 9 p)).length : Nat) : Int) = (((p).length : Nat) : Int) - 9 := by omega
        refine xB 1 [] [(0, vi cycle), (1, vs Ap p cp), (4, vp b1 0), (28, vs Ap p cp)] ?_
        refine xV (qSl (m := 1) (A := Ap) (len := (p).length) (c := cp) 9 (p).length (some 9) none ((List.drop 9 p)).length rfl rfl (by omega) (by omega) hlf10) ?_
        obtain ⟨y11, hy11, hS⟩ := bindO_T hS
        refine xE (eC 0 (fun g' lr eb ln => c18 g' ((List.drop 9 p) : List UInt8) (offA Ap cp 9 1) (cp - 9) (by rw [eb]; exact f10) hy11)) ?_
        rintro _ g12 _ e13 ⟨_, rfl, A11_0, c11_0, k11_0, A11_2, c11_2, k11_2, rfl, rfl, h11_0, h11_2⟩
        have nh11_0 := h11_0.len
        have nh11_2 := h11_2.len
        refine xB 11 [] [(0, vi cycle), (1, vs Ap p cp), (4, vp b1 0), (10, vi y11.2.2.2.2)] ?_
        refine xRe ?_
        refine wpq_then ?_
        refine xSq ?_
        refine xSq ?_
        refine xRg ?_
        refine xB 2 [] [(0, vi cycle), (1, vs Ap p cp), (4, vp b1 0), (37, vb (y11.2.2.2.2 != 0))] ?_
        refine xRe ?_
        refine wpq_then ?_
        refine xCd ((y11.2.2.2.2 != 0)) (fun h14 => ?_) (fun h14 => ?_)
        · have hS := cond_T h14 hS
          have h14p : ¬ (y11.2.2.2.2 = 0) := ne_of_bne_ h14
          refine xSq ?_
          refine xRg ?_
          refine xBo 3 [(1, 2)] [k11_0, k11_2, some ⟨b1, 67, (cSett (⟨0, 0, false, ([] : List UInt8)⟩ : Sett) none 0)⟩] [(4, vp b1 0), (5, vi 4)] ?_
          refine xRe ?_
          refine wpq_then ?_
          have eS := (Option.some.inj hS).symm
          subst eS
          exact xRetC [] [(4, 2)] (e4.trans (e7.trans e13)) ⟨none, 0, by kernel_rfl, by kernel_rfl, Arr.nil⟩ (fun _ _ h => h)
        · have hS := cond_F h14 hS
          have h14p : y11.2.2.2.2 = 0 := eq_of_bne_false_ h14
          refine xSk ?_
          refine wpq_then ?_
          refine xSub [(0, vi cycle), (1, vs Ap p cp), (4, vp b1 0)] ?_
          refine xSq ?_
          refine xDr 0 [6] [13, 7, 14] [] 15 (fun RG => ?_) (fun _ _ _ _ _ h => h)
          have fp := fp.mono e13.b
          obtain ⟨q15, hS⟩ := grd_T hS
          have q15p := of_decide_eq_true q15
          have ncapf16 := fp.cap
          have f16 : Arr g12.b tyU8 (offA Ap cp 0 1) (cp - 0) (List.take 8 p) := fp.cut_to 8 (by omega)
          have nf16 := f16.len
          have hlf16 : 8 - 0 = ((List.take 8 p)).length := by simp only [List.length_take, List.length_drop] <;> omega
          have hvf16 : ((((List.take 8 p)).length : Nat) : Int) = 8 - 0 := by omega
          refine xT 14 [0] [] [] [(0, vi cycle), (1, vs Ap p cp), (4, vp b1 0), (39, vs Ap p cp)] RG (Psi.le.refl _) ?_
          refine xTp 1 RG (fun _ => (qSl (m := 1) (A := Ap) (len := (p).length) (c := cp) 0 8 none (some 8) ((List.take 8 p)).length rfl rfl (by omega) (by omega) hlf16)) ?_
          obtain ⟨q18, hS⟩ := grd_T hS
          have q18p := of_decide_eq_true q18
          obtain ⟨ad17, cs17, hA17, hr17, hc17⟩ := fp.at_ (get_getD (d := 0) q18p)
          have hr17 : cs17 = [vy ((List.getD p 8 0).toNat : Int)] := hr17
          subst hr17
          have nb17 := UInt8.toNat_lt (List.getD p 8 0)
          refine xT 11 [3, 4] [] [] [(1, vs Ap p cp), (4, vp b1 0), (40, vs (offA Ap cp 0 1) (List.take 8 p) (cp - 0)), (42, vi cycle), (43, vs Ap p cp)] RG (Psi.le.refl _) ?_
          refine xTp 5 RG (fun _ => (qIx 8 1 hA17 rfl q18p)) ?_
          refine xTv 6 [] RG (Psi.le.refl _) (qLdP (Addr.add ad17 (8 * 1)) 0 (hc17.mono g12.br)) ?_
          obtain ⟨q19, hS⟩ := grd_T hS
          have q19p := of_decide_eq_true q19
          have ncapf20 := fp.cap
          have f20 : Arr g12.b tyU8 (offA Ap cp 9 1) (cp - 9) (List.drop 9 p) := fp.cut_from 9 (by omega)
          have nf20 := f20.len
          have hlf20 : (p).length - 9 = ((List.drop 9 p)).length := by simp only [List.length_take, List.length_drop] <;> omega
          have hvf20 : ((((List.drop 9 p)).length : Nat) : Int) = (((p).length : Nat) : Int) - 9 := by omega
          refine xT 7 [7, 9] [] [] [(4, vp b1 0), (40, vs (offA Ap cp 0 1) (List.take 8 p) (cp - 0)), (42, vi cycle), (46, vb (((List.getD p 8 0).toNat : Int) == 1)), (48, vs Ap p cp)] RG (Psi.le.refl _) ?_
          refine xTp 10 RG (fun _ => (qSl (m := 1) (A := Ap) (len := (p).length) (c := cp) 9 (p).length (some 9) none ((List.drop 9 p)).length rfl rfl (by omega) (by omega) hlf20)) ?_
          obtain ⟨y22, hy22, hS⟩ := bindO_T hS
          refine wpa_meet (fun g own sl => ∃ (A25 : Option Addr) (c25 : Nat) (k25 : Option Bk), own = [k25, k11_0, k11_2, some ⟨b1, 67, (cSett (⟨0, 0, false, ([] : List UInt8)⟩ : Sett) none 0)⟩] ∧ sl = [(4, vp b1 0), (41, vi y22), (42, vi cycle), (46, vb (((List.getD p 8 0).toNat : Int) == 1)), (47, vs A25 ([] : List UInt8) c25), (49, vs (offA Ap cp 9 1) (List.drop 9 p) (cp - 9))] ∧ Buf g.b tyU8 5 (.slice A25 (([] : List UInt8)).length c25) k25 ([] : List UInt8)) 4 [true, true, true, true, true, true, true, true, true, true, true, false, false, false, false] ?_ (fun hD21 => ?_)
          · rintro g222 _ _ e223 ⟨A25, c25, k25, rfl, rfl, h25⟩
            have nh25 := h25.len
            have f20 := f20.mono e223.b
            obtain ⟨nw224, hp224, hs224⟩ := f20.srcB
            refine xO1 (lds := [6]) 11 ?_
            refine xIe (lds := [6]) e223.r (eApp (T := tyU8) (p := g222.b) (et := 5) (bytes := 1) (xs := ([] : List UInt8)) (ys := ((List.drop 9 p) : List UInt8)) 0 h25 rfl (fun w hs => hs224 w _ hs) hp224 (by first | omega | (simp only [List.length_cons, List.length_nil] at *; omega)) (by first | omega | (simp only [List.length_cons, List.length_nil] at *; omega))) ?_
            rintro _ _ _ - ⟨A224, c224, k224, rfl, rfl, rfl, h224⟩
            refine kk [] ?_
            have h224 : Buf g222.b tyU8 5 (.slice A224 (((List.drop 9 p) : List UInt8)).length c224) k224 ((List.drop 9 p) : List UInt8) := h224
            have nh224 := h224.len
            refine xT 2 [12] [] [] [(4, vp b1 0), (51, Value.agg #[vi y22, vi cycle, vb (((List.getD p 8 0).toNat : Int) == 1), vs A224 (List.drop 9 p) c224])] RG e223.r ?_
            refine xO1 (lds := [6]) 13 ?_
            refine xId (lds := [6]) e223.r (eStL b1 0 3) ?_
            rintro _ _ _ - ⟨rfl, rfl⟩
            refine kf ?_
            refine xT 0 [14] [] [] [(4, vp b1 0), (5, vi 0)] RG e223.r ?_
            refine xAe (lds := [6]) ?_
            refine wpq_then ?_
            refine wpq_freeze 0 (by kernel_rfl) h224 (fun g225 e226 f227 => ?_)
            have eS := (Option.some.inj hS).symm
            subst eS
            exact xRetC [] [(4, 3)] (e4.trans (e7.trans (e13.trans (e223.trans e226)))) ⟨A224, c224, by kernel_rfl, by kernel_rfl, f227⟩ (fun _ _ h => h)
          · refine xO2 (lds := [6]) 2 8 ?_ ?_
            · refine xIe (lds := [6]) (Psi.le.refl _) (eC 0 (fun g' lr eb ln => c58 g' ((List.take 8 p) : List UInt8) (offA Ap cp 0 1) (cp - 0) ((f16.mono g12.br).mono lr) hy22)) ?_
              rintro _ g229 _ e230 ⟨_, rfl, rfl, rfl⟩
              refine kk [] ?_
              refine xO1 (lds := [6]) 8 ?_
              refine xIe (lds := [6]) e230.r (eBs (T := tyU8) (p := g229.b) (et := 5) (xs := ([] : List UInt8)) reps_nil (by simp)) ?_
              rintro _ _ _ - ⟨A231, c231, k231, rfl, rfl, rfl, h231⟩
              refine kk [] ?_
              refine xSub [(4, vp b1 0), (41, vi y22), (42, vi cycle), (46, vb (((List.getD p 8 0).toNat : Int) == 1)), (47, vs A231 ([] : List UInt8) c231), (49, vs (offA Ap cp 9 1) (List.drop 9 p) (cp - 9))] ?_
              exact hD21 _ _ _ e230 ⟨A231, c231, k231, by kernel_rfl, by kernel_rfl, h231⟩
            · refine xIe (lds := [6]) (Psi.le.refl _) (eBs (T := tyU8) (p := g12.b) (et := 5) (xs := ([] : List UInt8)) reps_nil (by simp)) ?_
              rintro _ _ _ - ⟨A232, c232, k232, rfl, rfl, rfl, h232⟩
              refine kk [] ?_
              refine xO1 (lds := [6]) 2 ?_
              refine xIe (lds := [6]) (Psi.le.refl _) (eC 0 (fun g' lr eb ln => c58 g' ((List.take 8 p) : List UInt8) (offA Ap cp 0 1) (cp - 0) ((f16.mono g12.br).mono lr) hy22)) ?_
              rintro _ g234 _ e235 ⟨_, rfl, rfl, rfl⟩
              refine kk [] ?_
              refine xSub [(4, vp b1 0), (41, vi y22), (42, vi cycle), (46, vb (((List.getD p 8 0).toNat : Int) == 1)), (47, vs A232 ([] : List UInt8) c232), (49, vs (offA Ap cp 9 1) (List.drop 9 p) (cp - 9))] ?_
              have h232 := h232.mono e235.b
              exact hD21 _ _ _ e235 ⟨A232, c232, k232, by kernel_rfl, by kernel_rfl, h232⟩
    · intro u5 hS hN5
      refine wpq_split 20 (b := t2) (by kernel_rfl) (fun q236 => ?_) (fun q236 => ?_)
      · have hS := cond_T q236 hS
        refine xB 5 [] [(0, vi cycle), (1, vs Ap p cp), (4, vp b1 0), (25, vb true)] ?_
        refine xSub [(0, vi cycle), (1, vs Ap p cp), (4, vp b1 0), (25, vb true)] ?_
        exact hN5 _ (Option.some.inj hS).symm _ _ _ (Gh.le.refl _) ⟨by kernel_rfl, by kernel_rfl⟩
      · have hS := cond_F q236 hS
        have fp := fp.mono e4.b
        obtain ⟨q238, hS⟩ := grd_T hS
        have q238p := of_decide_eq_true q238
        obtain ⟨ad237, cs237, hA237, hr237, hc237⟩ := fp.at_ (get_getD (d := 0) q238p)
        have hr237 : cs237 = [vy ((List.getD p 8 0).toNat : Int)] := hr237
        subst hr237
        have nb237 := UInt8.toNat_lt (List.getD p 8 0)
        refine xB 1 [] [(0, vi cycle), (1, vs Ap p cp), (4, vp b1 0), (20, vb false), (21, vs Ap p cp)] ?_
        refine xV (qIx 8 1 hA237 rfl q238p) ?_
        refine xV (qLdP (Addr.add ad237 (8 * 1)) 0 (hc237.mono g3.br)) ?_
        refine xB 2 [] [(0, vi cycle), (1, vs Ap p cp), (4, vp b1 0), (25, vb (decide (((List.getD p 8 0).toNat : Int) > 1)))] ?_
        refine xSub [(0, vi cycle), (1, vs Ap p cp), (4, vp b1 0), (25, vb (decide (((List.getD p 8 0).toNat : Int) > 1)))] ?_
        exact hN5 _ (Option.some.inj hS).symm _ _ _ (Gh.le.refl _) ⟨by kernel_rfl, by kernel_rfl⟩
  · intro u2 hS hN2
    refine wpq_split 14 (b := decide ((((p).length : Nat) : Int) < 9)) (by kernel_rfl) (fun q239 => ?_) (fun q239 => ?_)
    · have hS := cond_T q239 hS
      have q239p := of_decide_eq_true q239
      refine xB 5 [] [(0, vi cycle), (1, vs Ap p cp), (4, vp b1 0), (19, vb true)] ?_
      refine xSub [(0, vi cycle), (1, vs Ap p cp), (4, vp b1 0), (19, vb true)] ?_
      exact hN2 _ (Option.some.inj hS).symm _ _ _ (Gh.le.refl _) ⟨by kernel_rfl, by kernel_rfl⟩
    · have hS := cond_F q239 hS
      have q239p := of_decide_eq_false q239
      have ncapf240 := fp.cap
      have f240 : Arr g.b tyU8 (offA Ap cp 0 1) (cp - 0) (List.take 8 p) := fp.cut_to 8 (by omega)
      have nf240 := f240.len
      have hlf240 : 8 - 0 = ((List.take 8 p)).length := by simp only [List.length_take, List.length_drop] <;> omega
      have hvf240 : ((((List.take 8 p)).length : Nat) : Int) = 8 - 0 := by omega
      refine xB 1 [] [(0, vi cycle), (1, vs Ap p cp), (4, vp b1 0), (14, vb false), (15, vs Ap p cp)] ?_
      refine xV (qSl (m := 1) (A := Ap) (len := (p).length) (c := cp) 0 8 none (some 8) ((List.take 8 p)).length rfl rfl (by omega) (by omega) hlf240) ?_
      obtain ⟨y241, hy241, hS⟩ := bindO_T hS
      refine xE (eC 0 (fun g' lr eb ln => c58 g' ((List.take 8 p) : List UInt8) (offA Ap cp 0 1) (cp - 0) ((f240.mono g.br).mono lr) hy241)) ?_
      rintro _ g242 _ e243 ⟨_, rfl, rfl, rfl⟩
      refine xB 2 [] [(0, vi cycle), (1, vs Ap p cp), (4, vp b1 0), (19, vb (decide (y241 < 0)))] ?_
      refine xSub [(0, vi cycle), (1, vs Ap p cp), (4, vp b1 0), (19, vb (decide (y241 < 0)))] ?_
      exact hN2 _ (Option.some.inj hS).symm _ _ _ e243 ⟨by kernel_rfl, by kernel_rfl⟩

def o63 (n : RNode) (f : Frame) (came : Bool) : Option (RNode × Sett × Bool × Int) :=
  (cond ((n.stage != 3)) (some ((n, (⟨0, 0, false, ([] : List UInt8)⟩ : Sett), (false), (8 : Int)))) (cond ((n.role == 1)) (some ((({ n with stage := 4 }), (⟨0, 0, false, ([] : List UInt8)⟩ : Sett), (false), (0 : Int)))) (bindO (τ := Sett) (o74 ({ n with stage := 4 })) fun y7 => (joinO (τ := Sett) (ρ := RNode × Sett × Bool × Int) (cond ((n.role == 3)) (letJ (τ := Bool) (o73 ({ n with stage := 4 }) f (came) (2 : Int)) fun y15 => (bindO (τ := Int × Sett) (cond (y15) (bindO (τ := Sett × Int) (o36 (n.cycle : Int) (f.payload : List UInt8)) fun y25 => (some ((y25.2, (y25.1 : Sett))))) (some ((4, (y7 : Sett))))) fun t18 => (cond ((((t18.1 != 0) || t18.2.fresh) || (t18.2.steps != n.steps))) (some (Ctl.done ((({ n with role := 1, steps := 0, stage := 4 }), (⟨0, 0, false, ([] : List UInt8)⟩ : Sett), (false), (0 : Int))))) (some (Ctl.go (t18.2 : Sett)))))) (some (Ctl.go (y7 : Sett)))) fun t11 => (some ((({ n with steps := (IntKind.i64.wrap (n.steps + 1)), stage := 4, stepped := true }), t11, (true), (0 : Int))))))))
set_option maxRecDepth 100000 in
theorem c63 (g : Gh) (n : RNode) (An_input : Option Addr) (cn_input : Nat) (An_heard_input : Option Addr) (cn_heard_input : Nat) (f : Frame) (Af_payload : Option Addr) (cf_payload : Nat) (came : Bool) (fn_input : Arr g.b tyU8 An_input cn_input n.input) (fn_heard_input : Arr g.b tyU8 An_heard_input cn_heard_input n.heard.input) (ff_payload : Arr g.b tyU8 Af_payload cf_payload f.payload) {r : RNode × Sett × Bool × Int} (hS : o63 n f came = some r) :
    Ctr Try.prog 63 [Value.agg #[vi n.number, vy n.role, vi n.steps, vi n.alone, vi n.stage, vi n.cycle, vs An_input n.input cn_input, vb n.fresh, vb n.isHeard, vy n.heard.role, vi n.heard.steps, vi n.heard.want.base, vi n.heard.want.have_, vs An_heard_input n.heard.input cn_heard_input, vb n.stepped, vy n.told.lateral, vy n.told.vertical, vy n.told.phase, vi n.told.bank, vi n.told.speed, vi n.told.alt, vi n.told.vs], Value.agg #[vy f.label, vy f.from_, vi f.cycle, vs Af_payload f.payload cf_payload], vb came] g [] (fun v ψ o => ∃ (Ar_0_input : Option Addr) (cr_0_input : Nat) (Ar_0_heard_input : Option Addr) (cr_0_heard_input : Nat) (Ar_1_in_ : Option Addr) (cr_1_in_ : Nat), v = Value.tuple #[Value.agg #[vi r.1.number, vy r.1.role, vi r.1.steps, vi r.1.alone, vi r.1.stage, vi r.1.cycle, vs Ar_0_input r.1.input cr_0_input, vb r.1.fresh, vb r.1.isHeard, vy r.1.heard.role, vi r.1.heard.steps, vi r.1.heard.want.base, vi r.1.heard.want.have_, vs Ar_0_heard_input r.1.heard.input cr_0_heard_input, vb r.1.stepped, vy r.1.told.lateral, vy r.1.told.vertical, vy r.1.told.phase, vi r.1.told.bank, vi r.1.told.speed, vi r.1.told.alt, vi r.1.told.vs], Value.agg #[vi r.2.1.steps, vi r.2.1.cycle, vb r.2.1.fresh, vs Ar_1_in_ r.2.1.in_ cr_1_in_], vb r.2.2.1, vi r.2.2.2] ∧ o = [] ∧ Arr ψ tyU8 Ar_0_input cr_0_input r.1.input ∧ Arr ψ tyU8 Ar_0_heard_input cr_0_heard_input r.1.heard.input ∧ Arr ψ tyU8 Ar_1_in_ cr_1_in_ r.2.1.in_) := by
  unfold o63 at hS
  refine xFn Try.f63 (Try.f63.body.getD .skip) 64 ?_
  have nfn_input := fn_input.len
  have nfn_heard_input := fn_heard_input.len
  have nff_payload := ff_payload.len
  refine xSq ?_
  refine xRg ?_
  refine xE eB ?_
  rintro _ _ _ - ⟨b1, rfl, rfl, rfl⟩
  refine xE eB ?_
  rintro _ _ _ - ⟨b2, rfl, rfl, rfl⟩
  refine xE eB ?_
  rintro _ _ _ - ⟨b3, rfl, rfl, rfl⟩
  refine xE eB ?_
  rintro _ _ _ - ⟨b4, rfl, rfl, rfl⟩
  refine xB 2 [] [(2, vb came), (3, vp b1 0), (4, vp b2 0), (6, vp b3 0), (7, vp b4 0)] ?_
  refine xRe ?_
  refine wpq_then ?_
  refine xSq ?_
  refine xSq ?_
  refine xRg ?_
  refine xB 3 [(1, 3)] [(2, vb came), (3, vp b1 0), (4, vp b2 0), (6, vp b3 0), (7, vp b4 0), (14, vb (n.stage != 3))] ?_
  refine xRe ?_
  refine wpq_then ?_
  refine xCd ((n.stage != 3)) (fun h5 => ?_) (fun h5 => ?_)
  · have hS := cond_T h5 hS
    have h5p : ¬ (n.stage = 3) := ne_of_bne_ h5
    refine xSq ?_
    refine xRg ?_
    refine xBo 6 [(0, 3), (2, 1), (3, 0)] [some ⟨b4, 67, (cSett (⟨0, 0, false, ([] : List UInt8)⟩ : Sett) none 0)⟩, some ⟨b3, 96, (cRNode n An_input cn_input An_heard_input cn_heard_input)⟩, some ⟨b2, 100, (cFrame f Af_payload cf_payload)⟩, some ⟨b1, 96, (cRNode n An_input cn_input An_heard_input cn_heard_input)⟩] [(6, vp b3 0), (7, vp b4 0), (8, vb false), (9, vi 8)] ?_
    refine xRe ?_
    refine wpq_then ?_
    have eS := (Option.some.inj hS).symm
    subst eS
    exact xRetC [] [(6, 1), (7, 0)] (Gh.le.refl _) ⟨An_input, cn_input, An_heard_input, cn_heard_input, none, 0, by kernel_rfl, by kernel_rfl, fn_input, fn_heard_input, Arr.nil⟩ (fun _ _ h => h)
  · have hS := cond_F h5 hS
    have h5p : n.stage = 3 := eq_of_bne_false_ h5
    refine xSk ?_
    refine wpq_then ?_
    refine xSub [(2, vb came), (3, vp b1 0), (4, vp b2 0), (6, vp b3 0), (7, vp b4 0)] ?_
    refine xSq ?_
    refine xRg ?_
    refine xBo 2 [(1, 3)] [some ⟨b4, 67, (cSett (⟨0, 0, false, ([] : List UInt8)⟩ : Sett) none 0)⟩, some ⟨b3, 96, (cRNode (⟨0, 0, 0, 0, 0, 0, ([] : List UInt8), false, false, (⟨0, 0, (⟨0, 0⟩ : Want), ([] : List UInt8)⟩ : Heard), false, (⟨0, 0, 0, 0, 0, 0, 0⟩ : Targets)⟩ : RNode) none 0 none 0)⟩, some ⟨b2, 100, (cFrame f Af_payload cf_payload)⟩, some ⟨b1, 96, (cRNode ({ n with stage := 4 }) An_input cn_input An_heard_input cn_heard_input)⟩] [(2, vb came), (3, vp b1 0), (4, vp b2 0), (6, vp b3 0), (7, vp b4 0)] ?_
    refine xRe ?_
    refine wpq_then ?_
    refine xSq ?_
    refine xSq ?_
    refine xRg ?_
    refine xB 3 [(1, 3)] [(2, vb came), (3, vp b1 0), (4, vp b2 0), (6, vp b3 0), (7, vp b4 0), (20, vb (n.role == 1))] ?_
    refine xRe ?_
    refine wpq_then ?_
    refine xCd ((n.role == 1)) (fun h6 => ?_) (fun h6 => ?_)
    · have hS := cond_T h6 hS
      have h6p : n.role = 1 := eq_of_beq h6
      refine xSq ?_
      refine xRg ?_
      refine xBo 6 [(0, 3), (2, 1), (3, 0)] [some ⟨b4, 67, (cSett (⟨0, 0, false, ([] : List UInt8)⟩ : Sett) none 0)⟩, some ⟨b3, 96, (cRNode ({ n with stage := 4 }) An_input cn_input An_heard_input cn_heard_input)⟩, some ⟨b2, 100, (cFrame f Af_payload cf_payload)⟩, some ⟨b1, 96, (cRNode ({ n with stage := 4 }) An_input cn_input An_heard_input cn_heard_input)⟩] [(6, vp b3 0), (7, vp b4 0), (8, vb false), (9, vi 0)] ?_
      refine xRe ?_
      refine wpq_then ?_
      have eS := (Option.some.inj hS).symm
      subst eS
      exact xRetC [] [(6, 1), (7, 0)] (Gh.le.refl _) ⟨An_input, cn_input, An_heard_input, cn_heard_input, none, 0, by kernel_rfl, by kernel_rfl, fn_input, fn_heard_input, Arr.nil⟩ (fun _ _ h => h)
    · have hS := cond_F h6 hS
      have h6p : ¬ (n.role = 1) := ne_of_beq_false_ h6
      refine xSk ?_
      refine wpq_then ?_
      refine xSub [(2, vb came), (3, vp b1 0), (4, vp b2 0), (6, vp b3 0), (7, vp b4 0)] ?_
      refine xSq ?_
      refine xRg ?_
      refine xB 1 [(0, 3)] [(2, vb came), (3, vp b1 0), (4, vp b2 0), (6, vp b3 0), (7, vp b4 0), (23, Value.agg #[vi n.number, vy n.role, vi n.steps, vi n.alone, vi 4, vi n.cycle, vs An_input n.input cn_input, vb n.fresh, vb n.isHeard, vy n.heard.role, vi n.heard.steps, vi n.heard.want.base, vi n.heard.want.have_, vs An_heard_input n.heard.input cn_heard_input, vb n.stepped, vy n.told.lateral, vy n.told.vertical, vy n.told.phase, vi n.told.bank, vi n.told.speed, vi n.told.alt, vi n.told.vs])] ?_
      obtain ⟨y7, hy7, hS⟩ := bindO_T hS
      refine xE (eC 0 (fun g' lr eb ln => c74 g' ({ n with stage := 4 }) An_input cn_input An_heard_input cn_heard_input ((fn_input.mono g.br).mono lr) ((fn_heard_input.mono g.br).mono lr) hy7)) ?_
      rintro _ g8 _ e9 ⟨_, rfl, A7_0_in_, c7_0_in_, rfl, rfl, f7_0_in_⟩
      have nf7_0_in_ := f7_0_in_.len
      refine xE eB ?_
      rintro _ _ _ - ⟨b10, rfl, rfl, rfl⟩
      refine xBo 1 [(3, 0)] [some ⟨b10, 67, (cSett y7 A7_0_in_ c7_0_in_)⟩, some ⟨b4, 67, (cSett (⟨0, 0, false, ([] : List UInt8)⟩ : Sett) none 0)⟩, some ⟨b3, 96, (cRNode (⟨0, 0, 0, 0, 0, 0, ([] : List UInt8), false, false, (⟨0, 0, (⟨0, 0⟩ : Want), ([] : List UInt8)⟩ : Heard), false, (⟨0, 0, 0, 0, 0, 0, 0⟩ : Targets)⟩ : RNode) none 0 none 0)⟩, some ⟨b2, 100, (cFrame f Af_payload cf_payload)⟩, some ⟨b1, 96, (cRNode ({ n with stage := 4 }) An_input cn_input An_heard_input cn_heard_input)⟩] [(2, vb came), (3, vp b1 0), (4, vp b2 0), (6, vp b3 0), (7, vp b4 0), (10, vp b10 0)] ?_
      refine xRe ?_
      refine wpq_then ?_
      refine xSq ?_
      refine xSq ?_
      refine xRg ?_
      refine xB 3 [(1, 4)] [(2, vb came), (3, vp b1 0), (4, vp b2 0), (6, vp b3 0), (7, vp b4 0), (10, vp b10 0), (27, vb (n.role == 3))] ?_
      refine xRe ?_
      refine wpq_then ?_
      refine xJoinO hS (fun g own sl t11 => ∃ (A11_0_in_ : Option Addr) (c11_0_in_ : Nat), own = [some ⟨b10, 67, (cSett t11 A11_0_in_ c11_0_in_)⟩, some ⟨b4, 67, (cSett (⟨0, 0, false, ([] : List UInt8)⟩ : Sett) none 0)⟩, some ⟨b3, 96, (cRNode (⟨0, 0, 0, 0, 0, 0, ([] : List UInt8), false, false, (⟨0, 0, (⟨0, 0⟩ : Want), ([] : List UInt8)⟩ : Heard), false, (⟨0, 0, 0, 0, 0, 0, 0⟩ : Targets)⟩ : RNode) none 0 none 0)⟩, some ⟨b1, 96, (cRNode ({ n with stage := 4 }) An_input cn_input An_heard_input cn_heard_input)⟩] ∧ sl = [(3, vp b1 0), (6, vp b3 0), (7, vp b4 0), (10, vp b10 0)] ∧ Arr g.b tyU8 A11_0_in_ c11_0_in_ t11.in_) ?_ ?_
      · rintro g12 _ _ t11 e13 ⟨A11_0_in_, c11_0_in_, rfl, rfl, f11_0_in_⟩ hS
        have nf11_0_in_ := f11_0_in_.len
        refine wpq_then ?_
        refine xSq ?_
        refine xRg ?_
        refine xBo 5 [(1, 3), (4, 3)] [some ⟨b10, 67, (cSett t11 A11_0_in_ c11_0_in_)⟩, some ⟨b4, 67, (cSett (⟨0, 0, false, ([] : List UInt8)⟩ : Sett) none 0)⟩, some ⟨b3, 96, (cRNode (⟨0, 0, 0, 0, 0, 0, ([] : List UInt8), false, false, (⟨0, 0, (⟨0, 0⟩ : Want), ([] : List UInt8)⟩ : Heard), false, (⟨0, 0, 0, 0, 0, 0, 0⟩ : Targets)⟩ : RNode) none 0 none 0)⟩, some ⟨b1, 96, (cRNode ({ n with steps := (IntKind.i64.wrap (n.steps + 1)), stage := 4 }) An_input cn_input An_heard_input cn_heard_input)⟩] [(3, vp b1 0), (6, vp b3 0), (7, vp b4 0), (10, vp b10 0)] ?_
        refine xRe ?_
        refine wpq_then ?_
        refine xSq ?_
        refine xRg ?_
        refine xBo 2 [(1, 3)] [some ⟨b10, 67, (cSett t11 A11_0_in_ c11_0_in_)⟩, some ⟨b4, 67, (cSett (⟨0, 0, false, ([] : List UInt8)⟩ : Sett) none 0)⟩, some ⟨b3, 96, (cRNode (⟨0, 0, 0, 0, 0, 0, ([] : List UInt8), false, false, (⟨0, 0, (⟨0, 0⟩ : Want), ([] : List UInt8)⟩ : Heard), false, (⟨0, 0, 0, 0, 0, 0, 0⟩ : Targets)⟩ : RNode) none 0 none 0)⟩, some ⟨b1, 96, (cRNode ({ n with steps := (IntKind.i64.wrap (n.steps + 1)), stage := 4, stepped := true }) An_input cn_input An_heard_input cn_heard_input)⟩] [(3, vp b1 0), (6, vp b3 0), (7, vp b4 0), (10, vp b10 0)] ?_
        refine xRe ?_
        refine wpq_then ?_
        refine xSq ?_
        refine xDr 0 [0, 1] [3, 4, 5] [some ⟨b10, 67, (cSett t11 A11_0_in_ c11_0_in_)⟩, some ⟨b1, 96, (cRNode ({ n with steps := (IntKind.i64.wrap (n.steps + 1)), stage := 4, stepped := true }) An_input cn_input An_heard_input cn_heard_input)⟩] 6 (fun RG => ?_) (fun _ _ _ _ _ h => h)
        refine xT 4 [0, 1] [(0, 1), (1, 0)] [some 0, some 3] [(6, vp b3 0), (7, vp b4 0), (62, Value.agg #[vi n.number, vy n.role, vi (IntKind.i64.wrap (n.steps + 1)), vi n.alone, vi 4, vi n.cycle, vs An_input n.input cn_input, vb n.fresh, vb n.isHeard, vy n.heard.role, vi n.heard.steps, vi n.heard.want.base, vi n.heard.want.have_, vs An_heard_input n.heard.input cn_heard_input, vb true, vy n.told.lateral, vy n.told.vertical, vy n.told.phase, vi n.told.bank, vi n.told.speed, vi n.told.alt, vi n.told.vs]), (63, Value.agg #[vi t11.steps, vi t11.cycle, vb t11.fresh, vs A11_0_in_ t11.in_ c11_0_in_])] RG (Psi.le.refl _) ?_
        refine xO1 (lds := [0, 1]) 2 ?_
        refine xId (lds := [0, 1]) (Psi.le.refl _) (eStL b3 0 2) ?_
        rintro _ _ _ - ⟨rfl, rfl⟩
        refine kk [some 0, some 3] ?_
        refine xO1 (lds := [0, 1]) 3 ?_
        refine xId (lds := [0, 1]) (Psi.le.refl _) (eStL b4 0 1) ?_
        rintro _ _ _ - ⟨rfl, rfl⟩
        refine kf ?_
        refine xT 0 [4, 5] [] [some 0, some 3] [(6, vp b3 0), (7, vp b4 0), (8, vb true), (9, vi 0)] RG (Psi.le.refl _) ?_
        refine xAe (lds := [0, 1]) ?_
        refine wpq_then ?_
        have fn_input := fn_input.mono (e9.trans e13).b
        have fn_heard_input := fn_heard_input.mono (e9.trans e13).b
        have eS := (Option.some.inj hS).symm
        subst eS
        exact xRetC [] [(6, 2), (7, 1)] (e9.trans e13) ⟨An_input, cn_input, An_heard_input, cn_heard_input, A11_0_in_, c11_0_in_, by kernel_rfl, by kernel_rfl, fn_input, fn_heard_input, f11_0_in_⟩ (fun _ _ h => h)
      · intro u11 hS hN11 hD11
        refine xCd ((n.role == 3)) (fun h14 => ?_) (fun h14 => ?_)
        · have hS := cond_T h14 hS
          have h14p : n.role = 3 := eq_of_beq h14
          refine xSq ?_
          refine xRg ?_
          refine xB 1 [] [(2, vb came), (3, vp b1 0), (4, vp b2 0), (6, vp b3 0), (7, vp b4 0), (10, vp b10 0), (11, vi 4)] ?_
          refine xRe ?_
          refine wpq_then ?_
          refine xSq ?_
          refine xSq ?_
          refine xRg ?_
          refine xB 3 [(0, 4), (1, 3)] [(3, vp b1 0), (4, vp b2 0), (6, vp b3 0), (7, vp b4 0), (10, vp b10 0), (11, vi 4), (28, Value.agg #[vi n.number, vy n.role, vi n.steps, vi n.alone, vi 4, vi n.cycle, vs An_input n.input cn_input, vb n.fresh, vb n.isHeard, vy n.heard.role, vi n.heard.steps, vi n.heard.want.base, vi n.heard.want.have_, vs An_heard_input n.heard.input cn_heard_input, vb n.stepped, vy n.told.lateral, vy n.told.vertical, vy n.told.phase, vi n.told.bank, vi n.told.speed, vi n.told.alt, vi n.told.vs]), (29, Value.agg #[vy f.label, vy f.from_, vi f.cycle, vs Af_payload f.payload cf_payload]), (30, vb came)] ?_
          have fn_input := fn_input.mono e9.b
          have fn_heard_input := fn_heard_input.mono e9.b
          have ff_payload := ff_payload.mono e9.b
          obtain ⟨y15, hy15, hS⟩ := letJ_T hS
          refine xE (eC 0 (fun g' lr eb ln => c73 g' ({ n with stage := 4 }) An_input cn_input An_heard_input cn_heard_input f Af_payload cf_payload (came) (2 : Int) ((fn_input.mono g8.br).mono lr) ((fn_heard_input.mono g8.br).mono lr) ((ff_payload.mono g8.br).mono lr) hy15)) ?_
          rintro _ g16 _ e17 ⟨_, rfl, rfl, rfl⟩
          refine xRe ?_
          refine wpq_then ?_
          refine xSub [(3, vp b1 0), (4, vp b2 0), (6, vp b3 0), (7, vp b4 0), (10, vp b10 0), (11, vi 4), (31, vb y15)] ?_
          refine xBindO hS (fun g own sl t18 => ∃ (A18_1_in_ : Option Addr) (c18_1_in_ : Nat), own = [some ⟨b10, 67, (cSett t18.2 A18_1_in_ c18_1_in_)⟩, some ⟨b4, 67, (cSett (⟨0, 0, false, ([] : List UInt8)⟩ : Sett) none 0)⟩, some ⟨b3, 96, (cRNode (⟨0, 0, 0, 0, 0, 0, ([] : List UInt8), false, false, (⟨0, 0, (⟨0, 0⟩ : Want), ([] : List UInt8)⟩ : Heard), false, (⟨0, 0, 0, 0, 0, 0, 0⟩ : Targets)⟩ : RNode) none 0 none 0)⟩, some ⟨b1, 96, (cRNode ({ n with stage := 4 }) An_input cn_input An_heard_input cn_heard_input)⟩] ∧ sl = [(3, vp b1 0), (6, vp b3 0), (7, vp b4 0), (10, vp b10 0), (11, vi t18.1)] ∧ Arr g.b tyU8 A18_1_in_ c18_1_in_ t18.2.in_) ?_ ?_
          · rintro g19 _ _ t18 e20 ⟨A18_1_in_, c18_1_in_, rfl, rfl, f18_1_in_⟩ hS
            have nf18_1_in_ := f18_1_in_.len
            refine wpq_then ?_
            refine xSq ?_
            refine xRg ?_
            refine xB 3 [] [(3, vp b1 0), (6, vp b3 0), (7, vp b4 0), (10, vp b10 0), (42, vb (t18.1 != 0))] ?_
            refine wpr_grp 6 [(3, vp b1 0), (6, vp b3 0), (7, vp b4 0), (10, vp b10 0), (45, vb ((t18.1 != 0) || t18.2.fresh))] (fun hk2 => ?_) ?_
            · refine wpq_split 42 (b := (t18.1 != 0)) (by kernel_rfl) (fun q21 => ?_) (fun q21 => ?_)
              · have q21p : ¬ (t18.1 = 0) := ne_of_bne_ q21
                refine xB 3 [] [(3, vp b1 0), (6, vp b3 0), (7, vp b4 0), (10, vp b10 0), (45, vb true)] ?_
                refine wpq_re 45 (v := vb true) (Value.bool (((t18.1 != 0) || t18.2.fresh))) (by kernel_rfl) (re_or1 q21) ?_
                exact wpq_sub _ (by kernel_rfl) hk2
              · have q21p : t18.1 = 0 := eq_of_bne_false_ q21
                refine xB 3 [(4, 0)] [(3, vp b1 0), (6, vp b3 0), (7, vp b4 0), (10, vp b10 0), (45, vb t18.2.fresh)] ?_
                refine wpq_re 45 (v := vb t18.2.fresh) (Value.bool (((t18.1 != 0) || t18.2.fresh))) (by kernel_rfl) (re_or0 q21) ?_
                exact wpq_sub _ (by kernel_rfl) hk2
            · refine xB 1 [] [(3, vp b1 0), (6, vp b3 0), (7, vp b4 0), (10, vp b10 0), (46, vb ((t18.1 != 0) || t18.2.fresh))] ?_
              refine wpr_grp 13 [(3, vp b1 0), (6, vp b3 0), (7, vp b4 0), (10, vp b10 0), (52, vb (((t18.1 != 0) || t18.2.fresh) || (t18.2.steps != n.steps)))] (fun hk6 => ?_) ?_
              · refine wpq_split 46 (b := ((t18.1 != 0) || t18.2.fresh)) (by kernel_rfl) (fun q22 => ?_) (fun q22 => ?_)
                · refine xB 6 [] [(3, vp b1 0), (6, vp b3 0), (7, vp b4 0), (10, vp b10 0), (52, vb true)] ?_
                  refine wpq_re 52 (v := vb true) (Value.bool ((((t18.1 != 0) || t18.2.fresh) || (t18.2.steps != n.steps)))) (by kernel_rfl) (re_or1 q22) ?_
                  exact wpq_sub _ (by kernel_rfl) hk6
                · have q22l := (or_false_ q22).1
                  have q22r := (or_false_ q22).2
                  have q22lp : t18.1 = 0 := eq_of_bne_false_ q22l
                  refine xB 6 [(8, 0), (10, 3)] [(3, vp b1 0), (6, vp b3 0), (7, vp b4 0), (10, vp b10 0), (52, vb (t18.2.steps != n.steps))] ?_
                  refine wpq_re 52 (v := vb (t18.2.steps != n.steps)) (Value.bool ((((t18.1 != 0) || t18.2.fresh) || (t18.2.steps != n.steps)))) (by kernel_rfl) (re_or0 q22) ?_
                  exact wpq_sub _ (by kernel_rfl) hk6
              · refine xRe ?_
                refine wpq_then ?_
                refine xCd ((((t18.1 != 0) || t18.2.fresh) || (t18.2.steps != n.steps))) (fun h23 => ?_) (fun h23 => ?_)
                · have hS := cond_T h23 hS
                  refine xSq ?_
                  refine xRg ?_
                  refine xBo 4 [(1, 3), (3, 3)] [some ⟨b10, 67, (cSett t18.2 A18_1_in_ c18_1_in_)⟩, some ⟨b4, 67, (cSett (⟨0, 0, false, ([] : List UInt8)⟩ : Sett) none 0)⟩, some ⟨b3, 96, (cRNode (⟨0, 0, 0, 0, 0, 0, ([] : List UInt8), false, false, (⟨0, 0, (⟨0, 0⟩ : Want), ([] : List UInt8)⟩ : Heard), false, (⟨0, 0, 0, 0, 0, 0, 0⟩ : Targets)⟩ : RNode) none 0 none 0)⟩, some ⟨b1, 96, (cRNode ({ n with role := 1, steps := 0, stage := 4 }) An_input cn_input An_heard_input cn_heard_input)⟩] [(3, vp b1 0), (6, vp b3 0), (7, vp b4 0)] ?_
                  refine xRe ?_
                  refine wpq_then ?_
                  refine xSq ?_
                  refine xRg ?_
                  refine xBo 6 [(0, 3), (2, 2), (3, 1)] [some ⟨b10, 67, (cSett t18.2 A18_1_in_ c18_1_in_)⟩, some ⟨b4, 67, (cSett (⟨0, 0, false, ([] : List UInt8)⟩ : Sett) none 0)⟩, some ⟨b3, 96, (cRNode ({ n with role := 1, steps := 0, stage := 4 }) An_input cn_input An_heard_input cn_heard_input)⟩, some ⟨b1, 96, (cRNode ({ n with role := 1, steps := 0, stage := 4 }) An_input cn_input An_heard_input cn_heard_input)⟩] [(6, vp b3 0), (7, vp b4 0), (8, vb false), (9, vi 0)] ?_
                  refine xRe ?_
                  refine wpq_then ?_
                  have fn_input := fn_input.mono (e17.trans e20).b
                  have fn_heard_input := fn_heard_input.mono (e17.trans e20).b
                  have eS := (Option.some.inj hS).symm
                  have eS := (hD11 _ eS).symm
                  subst eS
                  exact xRetC [] [(6, 2), (7, 1)] (e9.trans (e17.trans e20)) ⟨An_input, cn_input, An_heard_input, cn_heard_input, none, 0, by kernel_rfl, by kernel_rfl, fn_input, fn_heard_input, Arr.nil⟩ (fun _ _ h => h)
                · have hS := cond_F h23 hS
                  have h23l := (or_false_ h23).1
                  have h23r := (or_false_ h23).2
                  have h23ll := (or_false_ h23l).1
                  have h23lr := (or_false_ h23l).2
                  have h23llp : t18.1 = 0 := eq_of_bne_false_ h23ll
                  have h23rp : t18.2.steps = n.steps := eq_of_bne_false_ h23r
                  refine xSk ?_
                  refine xSub [(3, vp b1 0), (6, vp b3 0), (7, vp b4 0), (10, vp b10 0)] ?_
                  have eS := (Option.some.inj hS).symm
                  exact hN11 _ eS _ _ _ (e17.trans e20) ⟨A18_1_in_, c18_1_in_, by kernel_rfl, by kernel_rfl, f18_1_in_⟩
          · intro u18 hS hN18
            refine xCd (y15) (fun h24 => ?_) (fun h24 => ?_)
            · have hS := cond_T h24 hS
              refine xRg ?_
              refine xB 4 [(1, 4), (3, 3)] [(3, vp b1 0), (6, vp b3 0), (7, vp b4 0), (10, vp b10 0), (11, vi 4), (34, vi n.cycle), (36, vs Af_payload f.payload cf_payload)] ?_
              have ff_payload := ff_payload.mono e17.b
              obtain ⟨y25, hy25, hS⟩ := bindO_T hS
              refine xE (eC 0 (fun g' lr eb ln => c36 g' (n.cycle : Int) (f.payload : List UInt8) Af_payload cf_payload (by rw [eb]; exact ff_payload) hy25)) ?_
              rintro _ g26 _ e27 ⟨_, rfl, A25_0_in_, c25_0_in_, rfl, rfl, f25_0_in_⟩
              have nf25_0_in_ := f25_0_in_.len
              refine xBo 5 [(8, 0)] [some ⟨b10, 67, (cSett y25.1 A25_0_in_ c25_0_in_)⟩, some ⟨b4, 67, (cSett (⟨0, 0, false, ([] : List UInt8)⟩ : Sett) none 0)⟩, some ⟨b3, 96, (cRNode (⟨0, 0, 0, 0, 0, 0, ([] : List UInt8), false, false, (⟨0, 0, (⟨0, 0⟩ : Want), ([] : List UInt8)⟩ : Heard), false, (⟨0, 0, 0, 0, 0, 0, 0⟩ : Targets)⟩ : RNode) none 0 none 0)⟩, some ⟨b2, 100, (cFrame f Af_payload cf_payload)⟩, some ⟨b1, 96, (cRNode ({ n with stage := 4 }) An_input cn_input An_heard_input cn_heard_input)⟩] [(3, vp b1 0), (6, vp b3 0), (7, vp b4 0), (10, vp b10 0), (11, vi y25.2)] ?_
              refine xRe ?_
              refine xSel [some 0, some 1, some 2, some 4] ?_
              refine xSub [(3, vp b1 0), (6, vp b3 0), (7, vp b4 0), (10, vp b10 0), (11, vi y25.2)] ?_
              have eS := (Option.some.inj hS).symm
              exact hN18 _ eS _ _ _ e27 ⟨A25_0_in_, c25_0_in_, by kernel_rfl, by kernel_rfl, f25_0_in_⟩
            · have hS := cond_F h24 hS
              refine xSk ?_
              have f7_0_in_ := f7_0_in_.mono e17.b
              refine xSel [some 0, some 1, some 2, some 4] ?_
              refine xSub [(3, vp b1 0), (6, vp b3 0), (7, vp b4 0), (10, vp b10 0), (11, vi 4)] ?_
              have eS := (Option.some.inj hS).symm
              exact hN18 _ eS _ _ _ (Gh.le.refl _) ⟨A7_0_in_, c7_0_in_, by kernel_rfl, by kernel_rfl, f7_0_in_⟩
        · have hS := cond_F h14 hS
          have h14p : ¬ (n.role = 3) := ne_of_beq_false_ h14
          refine xSk ?_
          refine xSel [some 0, some 1, some 2, some 4] ?_
          refine xSub [(3, vp b1 0), (6, vp b3 0), (7, vp b4 0), (10, vp b10 0)] ?_
          have eS := (Option.some.inj hS).symm
          exact hN11 _ eS _ _ _ (Gh.le.refl _) ⟨A7_0_in_, c7_0_in_, by kernel_rfl, by kernel_rfl, f7_0_in_⟩

end Go.Proofs.Ytgnajpoebooafaa
