/-
Walks, printed by wip/gen. Conditions: each theorem's own.
-/
import Derived.Test.YtgnajpoebooafaaC0
namespace Go.Proofs.Ytgnajpoebooafaa
set_option linter.unusedVariables false
set_option linter.unusedSimpArgs false
open Go.RowKit
def o38n (steps : Int) : Int :=
  ((1 : Int))
set_option maxRecDepth 100000 in
theorem c38n (g : Gh) (steps : Int) {r : Int} (hS : o38n steps = r) :
    Ctr Try.prog 38 [vn, vi steps] g [] (fun v ψ o => v = vi r ∧ o = []) := by
  unfold o38n at hS
  refine xFn Try.f38 (Try.f38.body.getD .skip) 32 ?_
  refine xSq ?_
  refine xRg ?_
  refine xB 1 [] [(0, vn), (1, vi steps)] ?_
  refine xRe ?_
  refine wpq_then ?_
  refine xSq ?_
  refine xSq ?_
  refine xRg ?_
  refine xB 2 [] [(0, vn), (1, vi steps), (6, vb true)] ?_
  refine xRe ?_
  refine wpq_then ?_
  refine xCt ?_
  refine xSq ?_
  refine xRg ?_
  refine xB 1 [] [(4, vi 1)] ?_
  refine xRe ?_
  refine wpq_then ?_
  have eS := hS.symm
  subst eS
  exact xRet [] [4] (Gh.le.refl _) ⟨by kernel_rfl, by kernel_rfl⟩ (fun _ _ h => h)

def o12 (r_ : Round) (cycle : Int) : Option (Bool) :=
  (bindO (τ := Bool) (o13) fun y2 => (cond ((!y2)) (some ((false))) (letJ (τ := (Option Node) × Int) (o37 (1 : Int)) fun y6 => (bindO (τ := Node) (y6.1) fun d9 => (letJ (τ := Bool × Node × Round) (cond ((Option.isNone (y6.1))) (true, (d9 : Node), (r_ : Round)) (letJ (τ := Node × Int) (o38 d9 (5 : Int)) fun y102 => ((y102.2 != 0), (y102.1 : Node), (r_ : Round)))) fun t10 => (cond (t10.1) (some ((false))) (letJ (τ := Node) (o44 t10.2.1) fun y14 => (letJ (τ := Node) (o45 y14) fun y17 => (letJ (τ := Int) (o41 t10.2.1) fun y20 => (letJ (τ := Bool × Round) (cond ((y20 != 3)) (true, (t10.2.2 : Round)) (letJ (τ := Int) (o40 t10.2.1) fun y98 => ((y98 != 5), (t10.2.2 : Round)))) fun t23 => (letJ (τ := Bool × Round) (cond (t23.1) (true, (t23.2 : Round)) (letJ (τ := Int) (o41 y17) fun y94 => ((y94 != 1), (t23.2 : Round)))) fun t26 => (letJ (τ := Bool × Round) (cond (t26.1) (true, (t26.2 : Round)) (letJ (τ := Int) (o40 y17) fun y90 => ((y90 != 0), (t26.2 : Round)))) fun t29 => (cond (t29.1) (some ((false))) (letJ (τ := Unit) (o45n) fun y33 => (bindO (τ := Frame × Int) (o46n (cycle : Int) (t29.2.one : List UInt8) (⟨0, 0⟩ : Want)) fun y36 => (bindO (τ := Heard × Bool × Int) (o47n (⟨0, 0, 0, ([] : List UInt8)⟩ : Frame) (false)) fun y40 => (bindO (τ := Frame × Bool × Int) (o48n) fun y44 => (bindO (τ := Sett × Bool × Int) (o49n (⟨0, 0, 0, ([] : List UInt8)⟩ : Frame) (false)) fun y48 => (bindO (τ := Frame × Bool × Int) (o50n (⟨0, 0, 0, 0, 0, 0, 0⟩ : Targets)) fun y52 => (bindO (τ := Int × Int) (o51n (⟨0, 0, 0, ([] : List UInt8)⟩ : Frame) (false)) fun y56 => (letJ (τ := Int) (o41n) fun y59 => (letJ (τ := Bool) (cond ((y59 == 0)) (letJ (τ := Int) (o40n) fun y86 => (y86 == 0)) (false)) fun t62 => (letJ (τ := Bool) (cond (t62) (letJ (τ := Unit) (o44n) fun y82 => true) (false)) fun t65 => (letJ (τ := Bool) (cond (((((((t65 && (y36.2 == 1)) && (y40.2.2 == 1)) && (y44.2.2 == 1)) && (y48.2.2 == 1)) && (y52.2.2 == 1)) && (y56.2 == 1))) (letJ (τ := Int) (o38n (1 : Int)) fun y78 => (y78 == 1)) (false)) fun t74 => (some ((t74)))))))))))))))))))))))))))
set_option maxRecDepth 100000 in
theorem c12 (g : Gh) (r_ : Round) (Ar__one : Option Addr) (cr__one : Nat) (Ar__two : Option Addr) (cr__two : Nat) (cycle : Int) (fr__one : Arr g.r tyU8 Ar__one cr__one r_.one) (fr__two : Arr g.r tyU8 Ar__two cr__two r_.two) {r : Bool} (hS : o12 r_ cycle = some r) :
    Ctr Try.prog 12 [Value.agg #[vs Ar__one r_.one cr__one, vs Ar__two r_.two cr__two, vy r_.lost.a0, vy r_.lost.a1, vi r_.wrong.a0, vi r_.wrong.a1], vi cycle] g [] (fun v ψ o => v = vb r ∧ o = []) := by
  unfold o12 at hS
  refine xFn Try.f12 (Try.f12.body.getD .skip) 146 ?_
  have nfr__one := fr__one.len
  have nfr__two := fr__two.len
  refine xSq ?_
  refine xRg ?_
  refine xE eB ?_
  rintro _ _ _ - ⟨b1, rfl, rfl, rfl⟩
  refine xB 1 [] [(1, vi cycle), (2, vp b1 0)] ?_
  refine xRe ?_
  refine wpq_then ?_
  refine xSq ?_
  refine xSq ?_
  refine xRg ?_
  obtain ⟨y2, hy2, hS⟩ := bindO_T hS
  refine xE (eC 0 (fun g' lr eb ln => c13 g'  hy2)) ?_
  rintro _ g3 _ e4 ⟨_, rfl, rfl, rfl⟩
  refine xB 1 [] [(1, vi cycle), (2, vp b1 0), (26, vb (!y2))] ?_
  refine xRe ?_
  refine wpq_then ?_
  refine xCd ((!y2)) (fun h5 => ?_) (fun h5 => ?_)
  · have hS := cond_T h5 hS
    have h5n := not_eq_true_ h5
    refine xSq ?_
    refine xRg ?_
    refine xB 1 [] [(4, vb false)] ?_
    refine xRe ?_
    refine wpq_then ?_
    have eS := (Option.some.inj hS).symm
    subst eS
    exact xRet [] [4] e4 ⟨by kernel_rfl, by kernel_rfl⟩ (fun _ _ h => h)
  · have hS := cond_F h5 hS
    have h5n := not_eq_false_ h5
    refine xSk ?_
    refine wpq_then ?_
    refine xSub [(1, vi cycle), (2, vp b1 0)] ?_
    refine xSq ?_
    refine xRg ?_
    obtain ⟨y6, hy6, hS⟩ := letJ_T hS
    refine xE (eC 0 (fun g' lr eb ln => c37 g' (1 : Int) hy6)) ?_
    rintro _ g7 _ e8 ⟨_, rfl, v6_0, k6_0, rfl, rfl, hn6_0, hs6_0⟩
    refine xB 5 [] [(1, vi cycle), (2, vp b1 0), (5, v6_0)] ?_
    refine xRe ?_
    refine wpq_then ?_
    refine xSq ?_
    refine xSq ?_
    refine xRg ?_
    refine xB 1 [] [(1, vi cycle), (2, vp b1 0), (5, v6_0), (31, v6_0)] ?_
    refine xV (qPn hn6_0 (fun d h => by obtain ⟨_, _, _, _, _, _, _, h1, _⟩ := hs6_0 d h; exact ⟨_, h1⟩)) ?_
    refine xB 1 [] [(1, vi cycle), (2, vp b1 0), (5, v6_0), (33, vb (Option.isNone (y6.1)))] ?_
    obtain ⟨d9, ed9, hS⟩ := bindO_T hS
    obtain ⟨bd9, Ad9_input, cd9_input, Ad9_heard_input, cd9_heard_input, Ad9_set__in_, cd9_set__in_, rfl, rfl, fd9_input, fd9_heard_input, fd9_set__in_⟩ := hs6_0 d9 ed9
    have nfd9_input := fd9_input.len
    have nfd9_heard_input := fd9_heard_input.len
    have nfd9_set__in_ := fd9_set__in_.len
    refine xGJl hS 7 (fun g own sl t10 => ∃ (A10_1_input : Option Addr) (c10_1_input : Nat) (A10_1_heard_input : Option Addr) (c10_1_heard_input : Nat) (A10_1_set__in_ : Option Addr) (c10_1_set__in_ : Nat) (A10_2_one : Option Addr) (c10_2_one : Nat) (A10_2_two : Option Addr) (c10_2_two : Nat), own = [some ⟨bd9, 131, (cNode t10.2.1 A10_1_input c10_1_input A10_1_heard_input c10_1_heard_input A10_1_set__in_ c10_1_set__in_)⟩, some ⟨b1, 89, (cRound t10.2.2 A10_2_one c10_2_one A10_2_two c10_2_two)⟩] ∧ sl = [(1, vi cycle), (2, vp b1 0), (5, vp bd9 0), (37, vb t10.1)] ∧ Arr g.b tyU8 A10_1_input c10_1_input t10.2.1.input ∧ Arr g.b tyU8 A10_1_heard_input c10_1_heard_input t10.2.1.heard.input ∧ Arr g.b tyU8 A10_1_set__in_ c10_1_set__in_ t10.2.1.set_.in_ ∧ Arr g.r tyU8 A10_2_one c10_2_one t10.2.2.one ∧ Arr g.r tyU8 A10_2_two c10_2_two t10.2.2.two) ?_ ?_
    · rintro g11 _ _ t10 e12 ⟨A10_1_input, c10_1_input, A10_1_heard_input, c10_1_heard_input, A10_1_set__in_, c10_1_set__in_, A10_2_one, c10_2_one, A10_2_two, c10_2_two, rfl, rfl, f10_1_input, f10_1_heard_input, f10_1_set__in_, f10_2_one, f10_2_two⟩ hS
      have nf10_1_input := f10_1_input.len
      have nf10_1_heard_input := f10_1_heard_input.len
      have nf10_1_set__in_ := f10_1_set__in_.len
      have nf10_2_one := f10_2_one.len
      have nf10_2_two := f10_2_two.len
      refine xRe ?_
      refine wpq_then ?_
      refine xCd (t10.1) (fun h13 => ?_) (fun h13 => ?_)
      · have hS := cond_T h13 hS
        refine xSq ?_
        refine xRg ?_
        refine xB 1 [] [(4, vb false)] ?_
        refine xRe ?_
        refine wpq_then ?_
        have eS := (Option.some.inj hS).symm
        subst eS
        exact xRet [] [4] (e4.trans (e8.trans e12)) ⟨by kernel_rfl, by kernel_rfl⟩ (fun _ _ h => h)
      · have hS := cond_F h13 hS
        refine xSk ?_
        refine wpq_then ?_
        refine xSub [(1, vi cycle), (2, vp b1 0), (5, vp bd9 0)] ?_
        refine xSq ?_
        refine xRg ?_
        refine xB 1 [] [(1, vi cycle), (2, vp b1 0), (5, vp bd9 0), (38, vp bd9 0)] ?_
        obtain ⟨y14, hy14, hS⟩ := letJ_T hS
        refine xE (eC 0 (fun g' lr eb ln => c44 g' ⟨bd9, 0, none⟩ t10.2.1 A10_1_input c10_1_input A10_1_heard_input c10_1_heard_input A10_1_set__in_ c10_1_set__in_ (cells_lent' 0 bd9 0 (cNode t10.2.1 A10_1_input c10_1_input A10_1_heard_input c10_1_heard_input A10_1_set__in_ c10_1_set__in_) ln) ((f10_1_input.mono g11.br).mono lr) ((f10_1_heard_input.mono g11.br).mono lr) ((f10_1_set__in_.mono g11.br).mono lr) hy14)) ?_
        rintro _ g15 _ e16 ⟨_, rfl, b14_0, A14_0_input, c14_0_input, A14_0_heard_input, c14_0_heard_input, A14_0_set__in_, c14_0_set__in_, rfl, rfl, f14_0_input, f14_0_heard_input, f14_0_set__in_⟩
        have nf14_0_input := f14_0_input.len
        have nf14_0_heard_input := f14_0_heard_input.len
        have nf14_0_set__in_ := f14_0_set__in_.len
        refine xB 1 [] [(1, vi cycle), (2, vp b1 0), (5, vp bd9 0), (7, vp b14_0 0)] ?_
        refine xRe ?_
        refine wpq_then ?_
        refine xSq ?_
        refine xRg ?_
        refine xB 1 [] [(1, vi cycle), (2, vp b1 0), (5, vp bd9 0), (7, vp b14_0 0), (40, vp b14_0 0)] ?_
        obtain ⟨y17, hy17, hS⟩ := letJ_T hS
        refine xE (eC 1 (fun g' lr eb ln => c45 g' b14_0 y14 A14_0_input c14_0_input A14_0_heard_input c14_0_heard_input A14_0_set__in_ c14_0_set__in_ (by rw [eb]; exact f14_0_input) (by rw [eb]; exact f14_0_heard_input) (by rw [eb]; exact f14_0_set__in_) hy17)) ?_
        rintro _ g18 _ e19 ⟨_, rfl, A17_n_input, c17_n_input, A17_n_heard_input, c17_n_heard_input, A17_n_set__in_, c17_n_set__in_, rfl, rfl, f17_n_input, f17_n_heard_input, f17_n_set__in_⟩
        have nf17_n_input := f17_n_input.len
        have nf17_n_heard_input := f17_n_heard_input.len
        have nf17_n_set__in_ := f17_n_set__in_.len
        refine xRe ?_
        refine wpq_then ?_
        refine xSub [(1, vi cycle), (2, vp b1 0), (5, vp bd9 0), (7, vp b14_0 0)] ?_
        refine xSq ?_
        refine xSq ?_
        refine xRg ?_
        refine xB 1 [] [(1, vi cycle), (2, vp b1 0), (5, vp bd9 0), (7, vp b14_0 0), (42, vp bd9 0)] ?_
        have f10_1_input := f10_1_input.mono (e16.trans e19).b
        have f10_1_heard_input := f10_1_heard_input.mono (e16.trans e19).b
        have f10_1_set__in_ := f10_1_set__in_.mono (e16.trans e19).b
        obtain ⟨y20, hy20, hS⟩ := letJ_T hS
        refine xE (eC 0 (fun g' lr eb ln => c41 g' ⟨bd9, 0, none⟩ t10.2.1 A10_1_input c10_1_input A10_1_heard_input c10_1_heard_input A10_1_set__in_ c10_1_set__in_ (cells_lent' 1 bd9 0 (cNode t10.2.1 A10_1_input c10_1_input A10_1_heard_input c10_1_heard_input A10_1_set__in_ c10_1_set__in_) ln) ((f10_1_input.mono g18.br).mono lr) ((f10_1_heard_input.mono g18.br).mono lr) ((f10_1_set__in_.mono g18.br).mono lr) hy20)) ?_
        rintro _ g21 _ e22 ⟨_, rfl, rfl, rfl⟩
        refine xB 2 [] [(1, vi cycle), (2, vp b1 0), (5, vp bd9 0), (7, vp b14_0 0), (45, vb (y20 != 3))] ?_
        refine xGJl hS 8 (fun g own sl t23 => ∃ (A23_1_one : Option Addr) (c23_1_one : Nat) (A23_1_two : Option Addr) (c23_1_two : Nat), own = [some ⟨b14_0, 131, (cNode y17 A17_n_input c17_n_input A17_n_heard_input c17_n_heard_input A17_n_set__in_ c17_n_set__in_)⟩, some ⟨b1, 89, (cRound t23.2 A23_1_one c23_1_one A23_1_two c23_1_two)⟩] ∧ sl = [(1, vi cycle), (2, vp b1 0), (7, vp b14_0 0), (49, vb t23.1)] ∧ Arr g.r tyU8 A23_1_one c23_1_one t23.2.one ∧ Arr g.r tyU8 A23_1_two c23_1_two t23.2.two) ?_ ?_
        · rintro g24 _ _ t23 e25 ⟨A23_1_one, c23_1_one, A23_1_two, c23_1_two, rfl, rfl, f23_1_one, f23_1_two⟩ hS
          have nf23_1_one := f23_1_one.len
          have nf23_1_two := f23_1_two.len
          refine xB 1 [] [(1, vi cycle), (2, vp b1 0), (7, vp b14_0 0), (50, vb t23.1)] ?_
          refine xGJl hS 13 (fun g own sl t26 => ∃ (A26_1_one : Option Addr) (c26_1_one : Nat) (A26_1_two : Option Addr) (c26_1_two : Nat), own = [some ⟨b14_0, 131, (cNode y17 A17_n_input c17_n_input A17_n_heard_input c17_n_heard_input A17_n_set__in_ c17_n_set__in_)⟩, some ⟨b1, 89, (cRound t26.2 A26_1_one c26_1_one A26_1_two c26_1_two)⟩] ∧ sl = [(1, vi cycle), (2, vp b1 0), (7, vp b14_0 0), (54, vb t26.1)] ∧ Arr g.r tyU8 A26_1_one c26_1_one t26.2.one ∧ Arr g.r tyU8 A26_1_two c26_1_two t26.2.two) ?_ ?_
          · rintro g27 _ _ t26 e28 ⟨A26_1_one, c26_1_one, A26_1_two, c26_1_two, rfl, rfl, f26_1_one, f26_1_two⟩ hS
            have nf26_1_one := f26_1_one.len
            have nf26_1_two := f26_1_two.len
            refine xB 1 [] [(1, vi cycle), (2, vp b1 0), (7, vp b14_0 0), (55, vb t26.1)] ?_
            refine xGJl hS 18 (fun g own sl t29 => ∃ (A29_1_one : Option Addr) (c29_1_one : Nat) (A29_1_two : Option Addr) (c29_1_two : Nat), own = [some ⟨b1, 89, (cRound t29.2 A29_1_one c29_1_one A29_1_two c29_1_two)⟩] ∧ sl = [(1, vi cycle), (2, vp b1 0), (59, vb t29.1)] ∧ Arr g.r tyU8 A29_1_one c29_1_one t29.2.one ∧ Arr g.r tyU8 A29_1_two c29_1_two t29.2.two) ?_ ?_
            · rintro g30 _ _ t29 e31 ⟨A29_1_one, c29_1_one, A29_1_two, c29_1_two, rfl, rfl, f29_1_one, f29_1_two⟩ hS
              have nf29_1_one := f29_1_one.len
              have nf29_1_two := f29_1_two.len
              refine xRe ?_
              refine wpq_then ?_
              refine xCd (t29.1) (fun h32 => ?_) (fun h32 => ?_)
              · have hS := cond_T h32 hS
                refine xSq ?_
                refine xRg ?_
                refine xB 1 [] [(4, vb false)] ?_
                refine xRe ?_
                refine wpq_then ?_
                have eS := (Option.some.inj hS).symm
                subst eS
                exact xRet [] [4] (e4.trans (e8.trans (e12.trans (e16.trans (e19.trans (e22.trans (e25.trans (e28.trans e31)))))))) ⟨by kernel_rfl, by kernel_rfl⟩ (fun _ _ h => h)
              · have hS := cond_F h32 hS
                refine xSk ?_
                refine wpq_then ?_
                refine xSub [(1, vi cycle), (2, vp b1 0)] ?_
                refine xSq ?_
                refine xRg ?_
                refine xB 1 [] [(1, vi cycle), (2, vp b1 0), (8, vn)] ?_
                refine xRe ?_
                refine wpq_then ?_
                refine xSq ?_
                refine xRg ?_
                refine xB 1 [] [(1, vi cycle), (2, vp b1 0), (8, vn), (60, vn)] ?_
                obtain ⟨y33, hy33, hS⟩ := letJ_T hS
                refine xE (eC 0 (fun g' lr eb ln => c45n g'  hy33)) ?_
                rintro _ g34 _ e35 ⟨_, rfl, rfl, rfl⟩
                refine xRe ?_
                refine wpq_then ?_
                refine xSub [(1, vi cycle), (2, vp b1 0), (8, vn)] ?_
                refine xSq ?_
                refine xRg ?_
                refine xB 5 [(3, 0)] [(8, vn), (63, vn), (64, vi cycle), (66, vs A29_1_one t29.2.one c29_1_one), (67, Value.agg #[vi 0, vi 0])] ?_
                have f29_1_one := f29_1_one.mono e35.r
                obtain ⟨y36, hy36, hS⟩ := bindO_T hS
                refine xE (eC 0 (fun g' lr eb ln => c46n g' (cycle : Int) (t29.2.one : List UInt8) A29_1_one c29_1_one (⟨0, 0⟩ : Want) (f29_1_one.mono lr) hy36)) ?_
                rintro _ g37 _ e38 ⟨_, rfl, A36_0_payload, c36_0_payload, rfl, rfl, f36_0_payload⟩
                have nf36_0_payload := f36_0_payload.len
                refine xB 3 [] [(8, vn), (69, Value.agg #[vy y36.1.label, vy y36.1.from_, vi y36.1.cycle, vs A36_0_payload y36.1.payload c36_0_payload]), (70, vi y36.2)] ?_
                refine xE eB ?_
                rintro _ _ _ - ⟨b39, rfl, rfl, rfl⟩
                refine xBo 2 [(10, 0)] [some ⟨b39, 100, (cFrame y36.1 A36_0_payload c36_0_payload)⟩, some ⟨b1, 89, (cRound t29.2 A29_1_one c29_1_one A29_1_two c29_1_two)⟩] [(8, vn), (10, vi y36.2)] ?_
                refine xRe ?_
                refine wpq_then ?_
                refine xSq ?_
                refine xRg ?_
                refine xB 2 [] [(8, vn), (10, vi y36.2), (72, vn), (73, Value.agg #[vy 0, vy 0, vi 0, Value.slice none 0 0])] ?_
                obtain ⟨y40, hy40, hS⟩ := bindO_T hS
                refine xE (eC 0 (fun g' lr eb ln => c47n g' (⟨0, 0, 0, ([] : List UInt8)⟩ : Frame) none 0 (false) Arr.nil hy40)) ?_
                rintro _ g41 _ e42 ⟨_, rfl, A40_0_input, c40_0_input, rfl, rfl, f40_0_input⟩
                have nf40_0_input := f40_0_input.len
                refine xB 4 [] [(8, vn), (10, vi y36.2), (75, Value.agg #[vy y40.1.role, vi y40.1.steps, vi y40.1.want.base, vi y40.1.want.have_, vs A40_0_input y40.1.input c40_0_input]), (76, vb y40.2.1), (77, vi y40.2.2)] ?_
                refine xE eB ?_
                rintro _ _ _ - ⟨b43, rfl, rfl, rfl⟩
                refine xBo 3 [(8, 0)] [some ⟨b43, 50, (cHeard y40.1 A40_0_input c40_0_input)⟩, some ⟨b39, 100, (cFrame y36.1 A36_0_payload c36_0_payload)⟩, some ⟨b1, 89, (cRound t29.2 A29_1_one c29_1_one A29_1_two c29_1_two)⟩] [(8, vn), (10, vi y36.2), (13, vi y40.2.2)] ?_
                refine xRe ?_
                refine wpq_then ?_
                refine xSq ?_
                refine xRg ?_
                refine xB 1 [] [(8, vn), (10, vi y36.2), (13, vi y40.2.2), (79, vn)] ?_
                obtain ⟨y44, hy44, hS⟩ := bindO_T hS
                refine xE (eC 0 (fun g' lr eb ln => c48n g'  hy44)) ?_
                rintro _ g45 _ e46 ⟨_, rfl, A44_0_payload, c44_0_payload, rfl, rfl, f44_0_payload⟩
                have nf44_0_payload := f44_0_payload.len
                refine xB 4 [] [(8, vn), (10, vi y36.2), (13, vi y40.2.2), (81, Value.agg #[vy y44.1.label, vy y44.1.from_, vi y44.1.cycle, vs A44_0_payload y44.1.payload c44_0_payload]), (82, vb y44.2.1), (83, vi y44.2.2)] ?_
                refine xE eB ?_
                rintro _ _ _ - ⟨b47, rfl, rfl, rfl⟩
                refine xBo 3 [(7, 0)] [some ⟨b47, 100, (cFrame y44.1 A44_0_payload c44_0_payload)⟩, some ⟨b43, 50, (cHeard y40.1 A40_0_input c40_0_input)⟩, some ⟨b39, 100, (cFrame y36.1 A36_0_payload c36_0_payload)⟩, some ⟨b1, 89, (cRound t29.2 A29_1_one c29_1_one A29_1_two c29_1_two)⟩] [(8, vn), (10, vi y36.2), (13, vi y40.2.2), (16, vi y44.2.2)] ?_
                refine xRe ?_
                refine wpq_then ?_
                refine xSq ?_
                refine xRg ?_
                refine xB 2 [] [(8, vn), (10, vi y36.2), (13, vi y40.2.2), (16, vi y44.2.2), (85, vn), (86, Value.agg #[vy 0, vy 0, vi 0, Value.slice none 0 0])] ?_
                obtain ⟨y48, hy48, hS⟩ := bindO_T hS
                refine xE (eC 0 (fun g' lr eb ln => c49n g' (⟨0, 0, 0, ([] : List UInt8)⟩ : Frame) none 0 (false) Arr.nil hy48)) ?_
                rintro _ g49 _ e50 ⟨_, rfl, A48_0_in_, c48_0_in_, rfl, rfl, f48_0_in_⟩
                have nf48_0_in_ := f48_0_in_.len
                refine xB 4 [] [(8, vn), (10, vi y36.2), (13, vi y40.2.2), (16, vi y44.2.2), (88, Value.agg #[vi y48.1.steps, vi y48.1.cycle, vb y48.1.fresh, vs A48_0_in_ y48.1.in_ c48_0_in_]), (89, vb y48.2.1), (90, vi y48.2.2)] ?_
                refine xE eB ?_
                rintro _ _ _ - ⟨b51, rfl, rfl, rfl⟩
                refine xBo 3 [(8, 0)] [some ⟨b51, 64, (cSett y48.1 A48_0_in_ c48_0_in_)⟩, some ⟨b47, 100, (cFrame y44.1 A44_0_payload c44_0_payload)⟩, some ⟨b43, 50, (cHeard y40.1 A40_0_input c40_0_input)⟩, some ⟨b39, 100, (cFrame y36.1 A36_0_payload c36_0_payload)⟩, some ⟨b1, 89, (cRound t29.2 A29_1_one c29_1_one A29_1_two c29_1_two)⟩] [(8, vn), (10, vi y36.2), (13, vi y40.2.2), (16, vi y44.2.2), (19, vi y48.2.2)] ?_
                refine xRe ?_
                refine wpq_then ?_
                refine xSq ?_
                refine xRg ?_
                refine xB 2 [] [(8, vn), (10, vi y36.2), (13, vi y40.2.2), (16, vi y44.2.2), (19, vi y48.2.2), (92, vn), (93, Value.agg #[vy 0, vy 0, vy 0, vi 0, vi 0, vi 0, vi 0])] ?_
                obtain ⟨y52, hy52, hS⟩ := bindO_T hS
                refine xE (eC 0 (fun g' lr eb ln => c50n g' (⟨0, 0, 0, 0, 0, 0, 0⟩ : Targets) hy52)) ?_
                rintro _ g53 _ e54 ⟨_, rfl, A52_0_payload, c52_0_payload, rfl, rfl, f52_0_payload⟩
                have nf52_0_payload := f52_0_payload.len
                refine xB 4 [] [(8, vn), (10, vi y36.2), (13, vi y40.2.2), (16, vi y44.2.2), (19, vi y48.2.2), (95, Value.agg #[vy y52.1.label, vy y52.1.from_, vi y52.1.cycle, vs A52_0_payload y52.1.payload c52_0_payload]), (96, vb y52.2.1), (97, vi y52.2.2)] ?_
                refine xE eB ?_
                rintro _ _ _ - ⟨b55, rfl, rfl, rfl⟩
                refine xBo 3 [(8, 0)] [some ⟨b55, 100, (cFrame y52.1 A52_0_payload c52_0_payload)⟩, some ⟨b51, 64, (cSett y48.1 A48_0_in_ c48_0_in_)⟩, some ⟨b47, 100, (cFrame y44.1 A44_0_payload c44_0_payload)⟩, some ⟨b43, 50, (cHeard y40.1 A40_0_input c40_0_input)⟩, some ⟨b39, 100, (cFrame y36.1 A36_0_payload c36_0_payload)⟩, some ⟨b1, 89, (cRound t29.2 A29_1_one c29_1_one A29_1_two c29_1_two)⟩] [(8, vn), (10, vi y36.2), (13, vi y40.2.2), (16, vi y44.2.2), (19, vi y48.2.2), (22, vi y52.2.2)] ?_
                refine xRe ?_
                refine wpq_then ?_
                refine xSq ?_
                refine xRg ?_
                refine xB 2 [] [(8, vn), (10, vi y36.2), (13, vi y40.2.2), (16, vi y44.2.2), (19, vi y48.2.2), (22, vi y52.2.2), (99, vn), (100, Value.agg #[vy 0, vy 0, vi 0, Value.slice none 0 0])] ?_
                obtain ⟨y56, hy56, hS⟩ := bindO_T hS
                refine xE (eC 0 (fun g' lr eb ln => c51n g' (⟨0, 0, 0, ([] : List UInt8)⟩ : Frame) none 0 (false) Arr.nil hy56)) ?_
                rintro _ g57 _ e58 ⟨_, rfl, rfl, rfl⟩
                refine xB 5 [] [(8, vn), (10, vi y36.2), (13, vi y40.2.2), (16, vi y44.2.2), (19, vi y48.2.2), (22, vi y52.2.2), (24, vi y56.2)] ?_
                refine xRe ?_
                refine wpq_then ?_
                refine xSq ?_
                refine xRg ?_
                refine xB 1 [] [(8, vn), (10, vi y36.2), (13, vi y40.2.2), (16, vi y44.2.2), (19, vi y48.2.2), (22, vi y52.2.2), (24, vi y56.2), (104, vn)] ?_
                obtain ⟨y59, hy59, hS⟩ := letJ_T hS
                refine xE (eC 0 (fun g' lr eb ln => c41n g'  hy59)) ?_
                rintro _ g60 _ e61 ⟨_, rfl, rfl, rfl⟩
                refine xB 2 [] [(8, vn), (10, vi y36.2), (13, vi y40.2.2), (16, vi y44.2.2), (19, vi y48.2.2), (22, vi y52.2.2), (24, vi y56.2), (107, vb (y59 == 0))] ?_
                refine xGJl hS 8 (fun g own sl t62 => own = [] ∧ sl = [(8, vn), (10, vi y36.2), (13, vi y40.2.2), (16, vi y44.2.2), (19, vi y48.2.2), (22, vi y52.2.2), (24, vi y56.2), (111, vb t62)]) ?_ ?_
                · rintro g63 _ _ t62 e64 ⟨rfl, rfl⟩ hS
                  refine xB 1 [] [(8, vn), (10, vi y36.2), (13, vi y40.2.2), (16, vi y44.2.2), (19, vi y48.2.2), (22, vi y52.2.2), (24, vi y56.2), (112, vb t62)] ?_
                  refine xGJl hS 13 (fun g own sl t65 => own = [] ∧ sl = [(8, vn), (10, vi y36.2), (13, vi y40.2.2), (16, vi y44.2.2), (19, vi y48.2.2), (22, vi y52.2.2), (24, vi y56.2), (116, vb t65)]) ?_ ?_
                  · rintro g66 _ _ t65 e67 ⟨rfl, rfl⟩ hS
                    refine xB 1 [] [(8, vn), (10, vi y36.2), (13, vi y40.2.2), (16, vi y44.2.2), (19, vi y48.2.2), (22, vi y52.2.2), (24, vi y56.2), (117, vb t65)] ?_
                    refine wpr_grp 17 [(8, vn), (13, vi y40.2.2), (16, vi y44.2.2), (19, vi y48.2.2), (22, vi y52.2.2), (24, vi y56.2), (120, vb (t65 && (y36.2 == 1)))] (fun hk13 => ?_) ?_
                    · refine wpq_split 117 (b := t65) (by kernel_rfl) (fun q68 => ?_) (fun q68 => ?_)
                      · refine xB 3 [] [(8, vn), (13, vi y40.2.2), (16, vi y44.2.2), (19, vi y48.2.2), (22, vi y52.2.2), (24, vi y56.2), (120, vb (y36.2 == 1))] ?_
                        refine wpq_re 120 (v := vb (y36.2 == 1)) (Value.bool ((t65 && (y36.2 == 1)))) (by kernel_rfl) (re_and1 q68) ?_
                        exact wpq_sub _ (by kernel_rfl) hk13
                      · refine xB 3 [] [(8, vn), (13, vi y40.2.2), (16, vi y44.2.2), (19, vi y48.2.2), (22, vi y52.2.2), (24, vi y56.2), (120, vb false)] ?_
                        refine wpq_re 120 (v := vb false) (Value.bool ((t65 && (y36.2 == 1)))) (by kernel_rfl) (re_and0 q68) ?_
                        exact wpq_sub _ (by kernel_rfl) hk13
                    · refine xB 1 [] [(8, vn), (13, vi y40.2.2), (16, vi y44.2.2), (19, vi y48.2.2), (22, vi y52.2.2), (24, vi y56.2), (121, vb (t65 && (y36.2 == 1)))] ?_
                      refine wpr_grp 21 [(8, vn), (16, vi y44.2.2), (19, vi y48.2.2), (22, vi y52.2.2), (24, vi y56.2), (124, vb ((t65 && (y36.2 == 1)) && (y40.2.2 == 1)))] (fun hk17 => ?_) ?_
                      · refine wpq_split 121 (b := (t65 && (y36.2 == 1))) (by kernel_rfl) (fun q69 => ?_) (fun q69 => ?_)
                        · have q69l := (and_true_ q69).1
                          have q69r := (and_true_ q69).2
                          have q69rp : y36.2 = 1 := eq_of_beq q69r
                          refine xB 3 [] [(8, vn), (16, vi y44.2.2), (19, vi y48.2.2), (22, vi y52.2.2), (24, vi y56.2), (124, vb (y40.2.2 == 1))] ?_
                          refine wpq_re 124 (v := vb (y40.2.2 == 1)) (Value.bool (((t65 && (y36.2 == 1)) && (y40.2.2 == 1)))) (by kernel_rfl) (re_and1 q69) ?_
                          exact wpq_sub _ (by kernel_rfl) hk17
                        · refine xB 3 [] [(8, vn), (16, vi y44.2.2), (19, vi y48.2.2), (22, vi y52.2.2), (24, vi y56.2), (124, vb false)] ?_
                          refine wpq_re 124 (v := vb false) (Value.bool (((t65 && (y36.2 == 1)) && (y40.2.2 == 1)))) (by kernel_rfl) (re_and0 q69) ?_
                          exact wpq_sub _ (by kernel_rfl) hk17
                      · refine xB 1 [] [(8, vn), (16, vi y44.2.2), (19, vi y48.2.2), (22, vi y52.2.2), (24, vi y56.2), (125, vb ((t65 && (y36.2 == 1)) && (y40.2.2 == 1)))] ?_
                        refine wpr_grp 25 [(8, vn), (19, vi y48.2.2), (22, vi y52.2.2), (24, vi y56.2), (128, vb (((t65 && (y36.2 == 1)) && (y40.2.2 == 1)) && (y44.2.2 == 1)))] (fun hk21 => ?_) ?_
                        · refine wpq_split 125 (b := ((t65 && (y36.2 == 1)) && (y40.2.2 == 1))) (by kernel_rfl) (fun q70 => ?_) (fun q70 => ?_)
                          · have q70l := (and_true_ q70).1
                            have q70r := (and_true_ q70).2
                            have q70ll := (and_true_ q70l).1
                            have q70lr := (and_true_ q70l).2
                            have q70lrp : y36.2 = 1 := eq_of_beq q70lr
                            have q70rp : y40.2.2 = 1 := eq_of_beq q70r
                            refine xB 3 [] [(8, vn), (19, vi y48.2.2), (22, vi y52.2.2), (24, vi y56.2), (128, vb (y44.2.2 == 1))] ?_
                            refine wpq_re 128 (v := vb (y44.2.2 == 1)) (Value.bool ((((t65 && (y36.2 == 1)) && (y40.2.2 == 1)) && (y44.2.2 == 1)))) (by kernel_rfl) (re_and1 q70) ?_
                            exact wpq_sub _ (by kernel_rfl) hk21
                          · refine xB 3 [] [(8, vn), (19, vi y48.2.2), (22, vi y52.2.2), (24, vi y56.2), (128, vb false)] ?_
                            refine wpq_re 128 (v := vb false) (Value.bool ((((t65 && (y36.2 == 1)) && (y40.2.2 == 1)) && (y44.2.2 == 1)))) (by kernel_rfl) (re_and0 q70) ?_
                            exact wpq_sub _ (by kernel_rfl) hk21
                        · refine xB 1 [] [(8, vn), (19, vi y48.2.2), (22, vi y52.2.2), (24, vi y56.2), (129, vb (((t65 && (y36.2 == 1)) && (y40.2.2 == 1)) && (y44.2.2 == 1)))] ?_
                          refine wpr_grp 29 [(8, vn), (22, vi y52.2.2), (24, vi y56.2), (132, vb ((((t65 && (y36.2 == 1)) && (y40.2.2 == 1)) && (y44.2.2 == 1)) && (y48.2.2 == 1)))] (fun hk25 => ?_) ?_
                          · refine wpq_split 129 (b := (((t65 && (y36.2 == 1)) && (y40.2.2 == 1)) && (y44.2.2 == 1))) (by kernel_rfl) (fun q71 => ?_) (fun q71 => ?_)
                            · have q71l := (and_true_ q71).1
                              have q71r := (and_true_ q71).2
                              have q71ll := (and_true_ q71l).1
                              have q71lr := (and_true_ q71l).2
                              have q71lll := (and_true_ q71ll).1
                              have q71llr := (and_true_ q71ll).2
                              have q71llrp : y36.2 = 1 := eq_of_beq q71llr
                              have q71lrp : y40.2.2 = 1 := eq_of_beq q71lr
                              have q71rp : y44.2.2 = 1 := eq_of_beq q71r
                              refine xB 3 [] [(8, vn), (22, vi y52.2.2), (24, vi y56.2), (132, vb (y48.2.2 == 1))] ?_
                              refine wpq_re 132 (v := vb (y48.2.2 == 1)) (Value.bool (((((t65 && (y36.2 == 1)) && (y40.2.2 == 1)) && (y44.2.2 == 1)) && (y48.2.2 == 1)))) (by kernel_rfl) (re_and1 q71) ?_
                              exact wpq_sub _ (by kernel_rfl) hk25
                            · refine xB 3 [] [(8, vn), (22, vi y52.2.2), (24, vi y56.2), (132, vb false)] ?_
                              refine wpq_re 132 (v := vb false) (Value.bool (((((t65 && (y36.2 == 1)) && (y40.2.2 == 1)) && (y44.2.2 == 1)) && (y48.2.2 == 1)))) (by kernel_rfl) (re_and0 q71) ?_
                              exact wpq_sub _ (by kernel_rfl) hk25
                          · refine xB 1 [] [(8, vn), (22, vi y52.2.2), (24, vi y56.2), (133, vb ((((t65 && (y36.2 == 1)) && (y40.2.2 == 1)) && (y44.2.2 == 1)) && (y48.2.2 == 1)))] ?_
                            refine wpr_grp 33 [(8, vn), (24, vi y56.2), (136, vb (((((t65 && (y36.2 == 1)) && (y40.2.2 == 1)) && (y44.2.2 == 1)) && (y48.2.2 == 1)) && (y52.2.2 == 1)))] (fun hk29 => ?_) ?_
                            · refine wpq_split 133 (b := ((((t65 && (y36.2 == 1)) && (y40.2.2 == 1)) && (y44.2.2 == 1)) && (y48.2.2 == 1))) (by kernel_rfl) (fun q72 => ?_) (fun q72 => ?_)
                              · have q72l := (and_true_ q72).1
                                have q72r := (and_true_ q72).2
                                have q72ll := (and_true_ q72l).1
                                have q72lr := (and_true_ q72l).2
                                have q72lll := (and_true_ q72ll).1
                                have q72llr := (and_true_ q72ll).2
                                have q72llll := (and_true_ q72lll).1
                                have q72lllr := (and_true_ q72lll).2
                                have q72lllrp : y36.2 = 1 := eq_of_beq q72lllr
                                have q72llrp : y40.2.2 = 1 := eq_of_beq q72llr
                                have q72lrp : y44.2.2 = 1 := eq_of_beq q72lr
                                have q72rp : y48.2.2 = 1 := eq_of_beq q72r
                                refine xB 3 [] [(8, vn), (24, vi y56.2), (136, vb (y52.2.2 == 1))] ?_
                                refine wpq_re 136 (v := vb (y52.2.2 == 1)) (Value.bool ((((((t65 && (y36.2 == 1)) && (y40.2.2 == 1)) && (y44.2.2 == 1)) && (y48.2.2 == 1)) && (y52.2.2 == 1)))) (by kernel_rfl) (re_and1 q72) ?_
                                exact wpq_sub _ (by kernel_rfl) hk29
                              · refine xB 3 [] [(8, vn), (24, vi y56.2), (136, vb false)] ?_
                                refine wpq_re 136 (v := vb false) (Value.bool ((((((t65 && (y36.2 == 1)) && (y40.2.2 == 1)) && (y44.2.2 == 1)) && (y48.2.2 == 1)) && (y52.2.2 == 1)))) (by kernel_rfl) (re_and0 q72) ?_
                                exact wpq_sub _ (by kernel_rfl) hk29
                            · refine xB 1 [] [(8, vn), (24, vi y56.2), (137, vb (((((t65 && (y36.2 == 1)) && (y40.2.2 == 1)) && (y44.2.2 == 1)) && (y48.2.2 == 1)) && (y52.2.2 == 1)))] ?_
                              refine wpr_grp 37 [(8, vn), (140, vb ((((((t65 && (y36.2 == 1)) && (y40.2.2 == 1)) && (y44.2.2 == 1)) && (y48.2.2 == 1)) && (y52.2.2 == 1)) && (y56.2 == 1)))] (fun hk33 => ?_) ?_
                              · refine wpq_split 137 (b := (((((t65 && (y36.2 == 1)) && (y40.2.2 == 1)) && (y44.2.2 == 1)) && (y48.2.2 == 1)) && (y52.2.2 == 1))) (by kernel_rfl) (fun q73 => ?_) (fun q73 => ?_)
                                · have q73l := (and_true_ q73).1
                                  have q73r := (and_true_ q73).2
                                  have q73ll := (and_true_ q73l).1
                                  have q73lr := (and_true_ q73l).2
                                  have q73lll := (and_true_ q73ll).1
                                  have q73llr := (and_true_ q73ll).2
                                  have q73llll := (and_true_ q73lll).1
                                  have q73lllr := (and_true_ q73lll).2
                                  have q73lllll := (and_true_ q73llll).1
                                  have q73llllr := (and_true_ q73llll).2
                                  have q73llllrp : y36.2 = 1 := eq_of_beq q73llllr
                                  have q73lllrp : y40.2.2 = 1 := eq_of_beq q73lllr
                                  have q73llrp : y44.2.2 = 1 := eq_of_beq q73llr
                                  have q73lrp : y48.2.2 = 1 := eq_of_beq q73lr
                                  have q73rp : y52.2.2 = 1 := eq_of_beq q73r
                                  refine xB 3 [] [(8, vn), (140, vb (y56.2 == 1))] ?_
                                  refine wpq_re 140 (v := vb (y56.2 == 1)) (Value.bool (((((((t65 && (y36.2 == 1)) && (y40.2.2 == 1)) && (y44.2.2 == 1)) && (y48.2.2 == 1)) && (y52.2.2 == 1)) && (y56.2 == 1)))) (by kernel_rfl) (re_and1 q73) ?_
                                  exact wpq_sub _ (by kernel_rfl) hk33
                                · refine xB 3 [] [(8, vn), (140, vb false)] ?_
                                  refine wpq_re 140 (v := vb false) (Value.bool (((((((t65 && (y36.2 == 1)) && (y40.2.2 == 1)) && (y44.2.2 == 1)) && (y48.2.2 == 1)) && (y52.2.2 == 1)) && (y56.2 == 1)))) (by kernel_rfl) (re_and0 q73) ?_
                                  exact wpq_sub _ (by kernel_rfl) hk33
                              · refine xB 1 [] [(8, vn), (141, vb ((((((t65 && (y36.2 == 1)) && (y40.2.2 == 1)) && (y44.2.2 == 1)) && (y48.2.2 == 1)) && (y52.2.2 == 1)) && (y56.2 == 1)))] ?_
                                refine xGJl hS 42 (fun g own sl t74 => own = [] ∧ sl = [(145, vb t74)]) ?_ ?_
                                · rintro g75 _ _ t74 e76 ⟨rfl, rfl⟩ hS
                                  refine xB 1 [] [(4, vb t74)] ?_
                                  refine xRe ?_
                                  refine wpq_then ?_
                                  have eS := (Option.some.inj hS).symm
                                  subst eS
                                  exact xRet [] [4] (e4.trans (e8.trans (e12.trans (e16.trans (e19.trans (e22.trans (e25.trans (e28.trans (e31.trans (e35.trans (e38.trans (e42.trans (e46.trans (e50.trans (e54.trans (e58.trans (e61.trans (e64.trans (e67.trans e76))))))))))))))))))) ⟨by kernel_rfl, by kernel_rfl⟩ (fun _ _ h => h)
                                · intro u74 hS hN74
                                  refine wpq_split 141 (b := ((((((t65 && (y36.2 == 1)) && (y40.2.2 == 1)) && (y44.2.2 == 1)) && (y48.2.2 == 1)) && (y52.2.2 == 1)) && (y56.2 == 1))) (by kernel_rfl) (fun q77 => ?_) (fun q77 => ?_)
                                  · have hS := cond_T q77 hS
                                    have q77l := (and_true_ q77).1
                                    have q77r := (and_true_ q77).2
                                    have q77ll := (and_true_ q77l).1
                                    have q77lr := (and_true_ q77l).2
                                    have q77lll := (and_true_ q77ll).1
                                    have q77llr := (and_true_ q77ll).2
                                    have q77llll := (and_true_ q77lll).1
                                    have q77lllr := (and_true_ q77lll).2
                                    have q77lllll := (and_true_ q77llll).1
                                    have q77llllr := (and_true_ q77llll).2
                                    have q77llllll := (and_true_ q77lllll).1
                                    have q77lllllr := (and_true_ q77lllll).2
                                    have q77lllllrp : y36.2 = 1 := eq_of_beq q77lllllr
                                    have q77llllrp : y40.2.2 = 1 := eq_of_beq q77llllr
                                    have q77lllrp : y44.2.2 = 1 := eq_of_beq q77lllr
                                    have q77llrp : y48.2.2 = 1 := eq_of_beq q77llr
                                    have q77lrp : y52.2.2 = 1 := eq_of_beq q77lr
                                    have q77rp : y56.2 = 1 := eq_of_beq q77r
                                    refine xB 1 [] [(141, vb true), (142, vn)] ?_
                                    obtain ⟨y78, hy78, hS⟩ := letJ_T hS
                                    refine xE (eC 0 (fun g' lr eb ln => c38n g' (1 : Int) hy78)) ?_
                                    rintro _ g79 _ e80 ⟨_, rfl, rfl, rfl⟩
                                    refine xB 2 [] [(145, vb (y78 == 1))] ?_
                                    refine xSub [(145, vb (y78 == 1))] ?_
                                    exact hN74 _ hS.symm _ _ _ e80 ⟨by kernel_rfl, by kernel_rfl⟩
                                  · have hS := cond_F q77 hS
                                    refine xB 4 [] [(145, vb false)] ?_
                                    refine xSub [(145, vb false)] ?_
                                    exact hN74 _ hS.symm _ _ _ (Gh.le.refl _) ⟨by kernel_rfl, by kernel_rfl⟩
                  · intro u65 hS hN65
                    refine wpq_split 112 (b := t62) (by kernel_rfl) (fun q81 => ?_) (fun q81 => ?_)
                    · have hS := cond_T q81 hS
                      refine xB 1 [] [(8, vn), (10, vi y36.2), (13, vi y40.2.2), (16, vi y44.2.2), (19, vi y48.2.2), (22, vi y52.2.2), (24, vi y56.2), (112, vb true), (113, vn)] ?_
                      obtain ⟨y82, hy82, hS⟩ := letJ_T hS
                      refine xE (eC 0 (fun g' lr eb ln => c44n g'  hy82)) ?_
                      rintro _ g83 _ e84 ⟨_, rfl, rfl, rfl⟩
                      refine xB 2 [] [(8, vn), (10, vi y36.2), (13, vi y40.2.2), (16, vi y44.2.2), (19, vi y48.2.2), (22, vi y52.2.2), (24, vi y56.2), (116, vb true)] ?_
                      refine xSub [(8, vn), (10, vi y36.2), (13, vi y40.2.2), (16, vi y44.2.2), (19, vi y48.2.2), (22, vi y52.2.2), (24, vi y56.2), (116, vb true)] ?_
                      exact hN65 _ hS.symm _ _ _ e84 ⟨by kernel_rfl, by kernel_rfl⟩
                    · have hS := cond_F q81 hS
                      refine xB 4 [] [(8, vn), (10, vi y36.2), (13, vi y40.2.2), (16, vi y44.2.2), (19, vi y48.2.2), (22, vi y52.2.2), (24, vi y56.2), (116, vb false)] ?_
                      refine xSub [(8, vn), (10, vi y36.2), (13, vi y40.2.2), (16, vi y44.2.2), (19, vi y48.2.2), (22, vi y52.2.2), (24, vi y56.2), (116, vb false)] ?_
                      exact hN65 _ hS.symm _ _ _ (Gh.le.refl _) ⟨by kernel_rfl, by kernel_rfl⟩
                · intro u62 hS hN62
                  refine wpq_split 107 (b := (y59 == 0)) (by kernel_rfl) (fun q85 => ?_) (fun q85 => ?_)
                  · have hS := cond_T q85 hS
                    have q85p : y59 = 0 := eq_of_beq q85
                    refine xB 1 [] [(8, vn), (10, vi y36.2), (13, vi y40.2.2), (16, vi y44.2.2), (19, vi y48.2.2), (22, vi y52.2.2), (24, vi y56.2), (107, vb true), (108, vn)] ?_
                    obtain ⟨y86, hy86, hS⟩ := letJ_T hS
                    refine xE (eC 0 (fun g' lr eb ln => c40n g'  hy86)) ?_
                    rintro _ g87 _ e88 ⟨_, rfl, rfl, rfl⟩
                    refine xB 2 [] [(8, vn), (10, vi y36.2), (13, vi y40.2.2), (16, vi y44.2.2), (19, vi y48.2.2), (22, vi y52.2.2), (24, vi y56.2), (111, vb (y86 == 0))] ?_
                    refine xSel [] ?_
                    refine xSub [(8, vn), (10, vi y36.2), (13, vi y40.2.2), (16, vi y44.2.2), (19, vi y48.2.2), (22, vi y52.2.2), (24, vi y56.2), (111, vb (y86 == 0))] ?_
                    exact hN62 _ hS.symm _ _ _ e88 ⟨by kernel_rfl, by kernel_rfl⟩
                  · have hS := cond_F q85 hS
                    have q85p : ¬ (y59 = 0) := ne_of_beq_false_ q85
                    refine xB 4 [] [(8, vn), (10, vi y36.2), (13, vi y40.2.2), (16, vi y44.2.2), (19, vi y48.2.2), (22, vi y52.2.2), (24, vi y56.2), (111, vb false)] ?_
                    refine xSel [] ?_
                    refine xSub [(8, vn), (10, vi y36.2), (13, vi y40.2.2), (16, vi y44.2.2), (19, vi y48.2.2), (22, vi y52.2.2), (24, vi y56.2), (111, vb false)] ?_
                    exact hN62 _ hS.symm _ _ _ (Gh.le.refl _) ⟨by kernel_rfl, by kernel_rfl⟩
            · intro u29 hS hN29
              refine wpq_split 55 (b := t26.1) (by kernel_rfl) (fun q89 => ?_) (fun q89 => ?_)
              · have hS := cond_T q89 hS
                refine xB 4 [] [(1, vi cycle), (2, vp b1 0), (59, vb true)] ?_
                refine xSel [some 1] ?_
                refine xSub [(1, vi cycle), (2, vp b1 0), (59, vb true)] ?_
                exact hN29 _ hS.symm _ _ _ (Gh.le.refl _) ⟨A26_1_one, c26_1_one, A26_1_two, c26_1_two, by kernel_rfl, by kernel_rfl, f26_1_one, f26_1_two⟩
              · have hS := cond_F q89 hS
                refine xB 1 [] [(1, vi cycle), (2, vp b1 0), (55, vb false), (56, vp b14_0 0)] ?_
                have f17_n_input := f17_n_input.mono (e22.trans (e25.trans e28)).b
                have f17_n_heard_input := f17_n_heard_input.mono (e22.trans (e25.trans e28)).b
                have f17_n_set__in_ := f17_n_set__in_.mono (e22.trans (e25.trans e28)).b
                obtain ⟨y90, hy90, hS⟩ := letJ_T hS
                refine xE (eC 0 (fun g' lr eb ln => c40 g' ⟨b14_0, 0, none⟩ y17 A17_n_input c17_n_input A17_n_heard_input c17_n_heard_input A17_n_set__in_ c17_n_set__in_ (cells_lent' 0 b14_0 0 (cNode y17 A17_n_input c17_n_input A17_n_heard_input c17_n_heard_input A17_n_set__in_ c17_n_set__in_) ln) ((f17_n_input.mono g27.br).mono lr) ((f17_n_heard_input.mono g27.br).mono lr) ((f17_n_set__in_.mono g27.br).mono lr) hy90)) ?_
                rintro _ g91 _ e92 ⟨_, rfl, rfl, rfl⟩
                refine xB 2 [] [(1, vi cycle), (2, vp b1 0), (59, vb (y90 != 0))] ?_
                have f26_1_one := f26_1_one.mono e92.r
                have f26_1_two := f26_1_two.mono e92.r
                refine xSel [some 1] ?_
                refine xSub [(1, vi cycle), (2, vp b1 0), (59, vb (y90 != 0))] ?_
                exact hN29 _ hS.symm _ _ _ e92 ⟨A26_1_one, c26_1_one, A26_1_two, c26_1_two, by kernel_rfl, by kernel_rfl, f26_1_one, f26_1_two⟩
          · intro u26 hS hN26
            refine wpq_split 50 (b := t23.1) (by kernel_rfl) (fun q93 => ?_) (fun q93 => ?_)
            · have hS := cond_T q93 hS
              refine xB 4 [] [(1, vi cycle), (2, vp b1 0), (7, vp b14_0 0), (54, vb true)] ?_
              refine xSub [(1, vi cycle), (2, vp b1 0), (7, vp b14_0 0), (54, vb true)] ?_
              exact hN26 _ hS.symm _ _ _ (Gh.le.refl _) ⟨A23_1_one, c23_1_one, A23_1_two, c23_1_two, by kernel_rfl, by kernel_rfl, f23_1_one, f23_1_two⟩
            · have hS := cond_F q93 hS
              refine xB 1 [] [(1, vi cycle), (2, vp b1 0), (7, vp b14_0 0), (50, vb false), (51, vp b14_0 0)] ?_
              have f17_n_input := f17_n_input.mono (e22.trans e25).b
              have f17_n_heard_input := f17_n_heard_input.mono (e22.trans e25).b
              have f17_n_set__in_ := f17_n_set__in_.mono (e22.trans e25).b
              obtain ⟨y94, hy94, hS⟩ := letJ_T hS
              refine xE (eC 0 (fun g' lr eb ln => c41 g' ⟨b14_0, 0, none⟩ y17 A17_n_input c17_n_input A17_n_heard_input c17_n_heard_input A17_n_set__in_ c17_n_set__in_ (cells_lent' 0 b14_0 0 (cNode y17 A17_n_input c17_n_input A17_n_heard_input c17_n_heard_input A17_n_set__in_ c17_n_set__in_) ln) ((f17_n_input.mono g24.br).mono lr) ((f17_n_heard_input.mono g24.br).mono lr) ((f17_n_set__in_.mono g24.br).mono lr) hy94)) ?_
              rintro _ g95 _ e96 ⟨_, rfl, rfl, rfl⟩
              refine xB 2 [] [(1, vi cycle), (2, vp b1 0), (7, vp b14_0 0), (54, vb (y94 != 1))] ?_
              have f23_1_one := f23_1_one.mono e96.r
              have f23_1_two := f23_1_two.mono e96.r
              refine xSub [(1, vi cycle), (2, vp b1 0), (7, vp b14_0 0), (54, vb (y94 != 1))] ?_
              exact hN26 _ hS.symm _ _ _ e96 ⟨A23_1_one, c23_1_one, A23_1_two, c23_1_two, by kernel_rfl, by kernel_rfl, f23_1_one, f23_1_two⟩
        · intro u23 hS hN23
          refine wpq_split 45 (b := (y20 != 3)) (by kernel_rfl) (fun q97 => ?_) (fun q97 => ?_)
          · have hS := cond_T q97 hS
            have q97p : ¬ (y20 = 3) := ne_of_bne_ q97
            refine xB 4 [] [(1, vi cycle), (2, vp b1 0), (7, vp b14_0 0), (49, vb true)] ?_
            have f10_2_one := f10_2_one.mono (e16.trans (e19.trans e22)).r
            have f10_2_two := f10_2_two.mono (e16.trans (e19.trans e22)).r
            refine xSel [some 0, some 2] ?_
            refine xSub [(1, vi cycle), (2, vp b1 0), (7, vp b14_0 0), (49, vb true)] ?_
            exact hN23 _ hS.symm _ _ _ (Gh.le.refl _) ⟨A10_2_one, c10_2_one, A10_2_two, c10_2_two, by kernel_rfl, by kernel_rfl, f10_2_one, f10_2_two⟩
          · have hS := cond_F q97 hS
            have q97p : y20 = 3 := eq_of_bne_false_ q97
            refine xB 1 [] [(1, vi cycle), (2, vp b1 0), (7, vp b14_0 0), (45, vb false), (46, vp bd9 0)] ?_
            have f10_1_input := f10_1_input.mono e22.b
            have f10_1_heard_input := f10_1_heard_input.mono e22.b
            have f10_1_set__in_ := f10_1_set__in_.mono e22.b
            obtain ⟨y98, hy98, hS⟩ := letJ_T hS
            refine xE (eC 0 (fun g' lr eb ln => c40 g' ⟨bd9, 0, none⟩ t10.2.1 A10_1_input c10_1_input A10_1_heard_input c10_1_heard_input A10_1_set__in_ c10_1_set__in_ (cells_lent' 1 bd9 0 (cNode t10.2.1 A10_1_input c10_1_input A10_1_heard_input c10_1_heard_input A10_1_set__in_ c10_1_set__in_) ln) ((f10_1_input.mono g21.br).mono lr) ((f10_1_heard_input.mono g21.br).mono lr) ((f10_1_set__in_.mono g21.br).mono lr) hy98)) ?_
            rintro _ g99 _ e100 ⟨_, rfl, rfl, rfl⟩
            refine xB 2 [] [(1, vi cycle), (2, vp b1 0), (7, vp b14_0 0), (49, vb (y98 != 5))] ?_
            have f10_2_one := f10_2_one.mono (e16.trans (e19.trans (e22.trans e100))).r
            have f10_2_two := f10_2_two.mono (e16.trans (e19.trans (e22.trans e100))).r
            refine xSel [some 0, some 2] ?_
            refine xSub [(1, vi cycle), (2, vp b1 0), (7, vp b14_0 0), (49, vb (y98 != 5))] ?_
            exact hN23 _ hS.symm _ _ _ e100 ⟨A10_2_one, c10_2_one, A10_2_two, c10_2_two, by kernel_rfl, by kernel_rfl, f10_2_one, f10_2_two⟩
    · intro u10 hS hN10
      refine wpq_split 33 (b := (Option.isNone (y6.1))) (by kernel_rfl) (fun q101 => ?_) (fun q101 => ?_)
      · have hS := cond_T q101 hS
        refine xB 4 [] [(1, vi cycle), (2, vp b1 0), (5, vp bd9 0), (37, vb true)] ?_
        have fr__one := fr__one.mono (e4.trans e8).r
        have fr__two := fr__two.mono (e4.trans e8).r
        refine xSub [(1, vi cycle), (2, vp b1 0), (5, vp bd9 0), (37, vb true)] ?_
        exact hN10 _ hS.symm _ _ _ (Gh.le.refl _) ⟨Ad9_input, cd9_input, Ad9_heard_input, cd9_heard_input, Ad9_set__in_, cd9_set__in_, Ar__one, cr__one, Ar__two, cr__two, by kernel_rfl, by kernel_rfl, fd9_input, fd9_heard_input, fd9_set__in_, fr__one, fr__two⟩
      · have hS := cond_F q101 hS
        refine xB 1 [] [(1, vi cycle), (2, vp b1 0), (5, vp bd9 0), (33, vb false), (34, vp bd9 0)] ?_
        obtain ⟨y102, hy102, hS⟩ := letJ_T hS
        refine xE (eC 1 (fun g' lr eb ln => c38 g' bd9 d9 Ad9_input cd9_input Ad9_heard_input cd9_heard_input Ad9_set__in_ cd9_set__in_ (5 : Int) (by rw [eb]; exact fd9_input) (by rw [eb]; exact fd9_heard_input) (by rw [eb]; exact fd9_set__in_) hy102)) ?_
        rintro _ g103 _ e104 ⟨_, rfl, A102_n_input, c102_n_input, A102_n_heard_input, c102_n_heard_input, A102_n_set__in_, c102_n_set__in_, rfl, rfl, f102_n_input, f102_n_heard_input, f102_n_set__in_⟩
        have nf102_n_input := f102_n_input.len
        have nf102_n_heard_input := f102_n_heard_input.len
        have nf102_n_set__in_ := f102_n_set__in_.len
        refine xB 2 [] [(1, vi cycle), (2, vp b1 0), (5, vp bd9 0), (37, vb (y102.2 != 0))] ?_
        have fr__one := fr__one.mono (e4.trans (e8.trans e104)).r
        have fr__two := fr__two.mono (e4.trans (e8.trans e104)).r
        refine xSub [(1, vi cycle), (2, vp b1 0), (5, vp bd9 0), (37, vb (y102.2 != 0))] ?_
        exact hN10 _ hS.symm _ _ _ e104 ⟨A102_n_input, c102_n_input, A102_n_heard_input, c102_n_heard_input, A102_n_set__in_, c102_n_set__in_, Ar__one, cr__one, Ar__two, cr__two, by kernel_rfl, by kernel_rfl, f102_n_input, f102_n_heard_input, f102_n_set__in_, fr__one, fr__two⟩

end Go.Proofs.Ytgnajpoebooafaa
