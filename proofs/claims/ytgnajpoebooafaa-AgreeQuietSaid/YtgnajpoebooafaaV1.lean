/-
Walks, printed by wip/gen. Conditions: each theorem's own.
-/
import Derived.Test.YtgnajpoebooafaaV0
namespace Go.Proofs.Ytgnajpoebooafaa
set_option linter.unusedVariables false
set_option linter.unusedSimpArgs false
open Go.RowKit
def o47 (n : Node) (f : Frame) (came : Bool) : Option (Node × Heard × Bool × Int) :=
  (letJ (τ := Int) (o69 n (1 : Int)) fun y3 => (cond ((y3 != 0)) (some ((n, (⟨0, 0, (⟨0, 0⟩ : Want), ([] : List UInt8)⟩ : Heard), (false), (y3 : Int)))) (letJ (τ := Bool) (o71 n f (came) (1 : Int)) fun y7 => (bindO (τ := Heard × Bool) (cond (y7) (bindO (τ := Heard × Int) (o28 (f.payload : List UInt8)) fun y40 => (some (((y40.1 : Heard), (y40.2 == 0))))) (some (((n.heard : Heard), n.is_)))) fun t10 => (letJ (τ := Int × Heard) (cond (t10.2) ((0, (t10.1 : Heard))) (((IntKind.i64.wrap (n.alone + 1)), ((⟨0, 0, (⟨0, 0⟩ : Want), ([] : List UInt8)⟩ : Heard) : Heard)))) fun t13 => (letJ (τ := Int) (o19 (n.number : Int) (n.role : Int) (n.steps : Int) (t13.1 : Int) (t10.2) (t13.2.role : Int) (t13.2.steps : Int)) fun y16 => (letJ (τ := Node) (cond ((y16 == 1)) (letJ (τ := Node) (o68 ({ n with role := y16, alone := t13.1, next_ := 2, heard := t13.2, is_ := t10.2 })) fun y35 => ((y35 : Node))) ((({ n with role := y16, alone := t13.1, next_ := 2, heard := t13.2, is_ := t10.2 }) : Node))) fun t19 => (letJ (τ := Int) (cond (((n.role == 1) && (t19.role == 2))) (0) (t19.steps)) fun t23 => (letJ (τ := (List UInt8)) (o56 (t19.heard.input : List UInt8)) fun y27 => (some ((({ t19 with steps := t23, fresh := ((n.role == 1) && (t19.role == 2)) }), ({ t19.heard with input := y27 }), (t19.is_), (0 : Int)))))))))))))
set_option maxRecDepth 100000 in
theorem c47 (g : Gh) (b_n : Nat) (n : Node) (An_input : Option Addr) (cn_input : Nat) (An_heard_input : Option Addr) (cn_heard_input : Nat) (An_set__in_ : Option Addr) (cn_set__in_ : Nat) (f : Frame) (Af_payload : Option Addr) (cf_payload : Nat) (came : Bool) (fn_input : Arr g.b tyU8 An_input cn_input n.input) (fn_heard_input : Arr g.b tyU8 An_heard_input cn_heard_input n.heard.input) (fn_set__in_ : Arr g.b tyU8 An_set__in_ cn_set__in_ n.set_.in_) (ff_payload : Arr g.r tyU8 Af_payload cf_payload f.payload) {r : Node × Heard × Bool × Int} (hS : o47 n f came = some r) :
    Ctr Try.prog 47 [vp b_n 0, Value.agg #[vy f.label, vy f.from_, vi f.cycle, vs Af_payload f.payload cf_payload], vb came] g [some ⟨b_n, 131, (cNode n An_input cn_input An_heard_input cn_heard_input An_set__in_ cn_set__in_)⟩] (fun v ψ o => ∃ (Ao_n_input : Option Addr) (co_n_input : Nat) (Ao_n_heard_input : Option Addr) (co_n_heard_input : Nat) (Ao_n_set__in_ : Option Addr) (co_n_set__in_ : Nat) (Ar_0_input : Option Addr) (cr_0_input : Nat), v = Value.tuple #[Value.agg #[vy r.2.1.role, vi r.2.1.steps, vi r.2.1.want.base, vi r.2.1.want.have_, vs Ar_0_input r.2.1.input cr_0_input], vb r.2.2.1, vi r.2.2.2] ∧ o = [some ⟨b_n, 131, (cNode r.1 Ao_n_input co_n_input Ao_n_heard_input co_n_heard_input Ao_n_set__in_ co_n_set__in_)⟩] ∧ Arr ψ tyU8 Ao_n_input co_n_input r.1.input ∧ Arr ψ tyU8 Ao_n_heard_input co_n_heard_input r.1.heard.input ∧ Arr ψ tyU8 Ao_n_set__in_ co_n_set__in_ r.1.set_.in_ ∧ Arr ψ tyU8 Ar_0_input cr_0_input r.2.1.input) := by
  unfold o47 at hS
  refine xFn Try.f47 (Try.f47.body.getD .skip) 134 ?_
  have nfn_input := fn_input.len
  have nfn_heard_input := fn_heard_input.len
  have nfn_set__in_ := fn_set__in_.len
  have nff_payload := ff_payload.len
  refine xSq ?_
  refine xRg ?_
  refine xE eB ?_
  rintro _ _ _ - ⟨b1, rfl, rfl, rfl⟩
  refine xE eB ?_
  rintro _ _ _ - ⟨b2, rfl, rfl, rfl⟩
  refine xB 2 [] [(0, vp b_n 0), (2, vb came), (4, vp b1 0), (6, vp b2 0)] ?_
  refine xRe ?_
  refine wpq_then ?_
  refine xSq ?_
  refine xSq ?_
  refine xRg ?_
  refine xB 1 [] [(0, vp b_n 0), (2, vb came), (4, vp b1 0), (6, vp b2 0), (14, vp b_n 0)] ?_
  obtain ⟨y3, hy3, hS⟩ := letJ_T hS
  refine xE (eC 0 (fun g' lr eb ln => c69 g' ⟨b_n, 0, none⟩ n An_input cn_input An_heard_input cn_heard_input An_set__in_ cn_set__in_ (1 : Int) (cells_lent' 2 b_n 0 (cNode n An_input cn_input An_heard_input cn_heard_input An_set__in_ cn_set__in_) ln) ((fn_input.mono g.br).mono lr) ((fn_heard_input.mono g.br).mono lr) ((fn_set__in_.mono g.br).mono lr) hy3)) ?_
  rintro _ g4 _ e5 ⟨_, rfl, rfl, rfl⟩
  refine xB 1 [] [(0, vp b_n 0), (2, vb came), (4, vp b1 0), (6, vp b2 0), (9, vi y3)] ?_
  refine xRe ?_
  refine wpq_then ?_
  refine xSq ?_
  refine xRg ?_
  refine xB 2 [] [(0, vp b_n 0), (2, vb came), (4, vp b1 0), (6, vp b2 0), (9, vi y3), (17, vb (y3 != 0))] ?_
  refine xRe ?_
  refine wpq_then ?_
  refine xCd ((y3 != 0)) (fun h6 => ?_) (fun h6 => ?_)
  · have hS := cond_T h6 hS
    have h6p : ¬ (y3 = 0) := ne_of_bne_ h6
    refine xSq ?_
    refine xRg ?_
    refine xBo 5 [(2, 0)] [some ⟨b2, 50, (cHeard (⟨0, 0, (⟨0, 0⟩ : Want), ([] : List UInt8)⟩ : Heard) none 0)⟩, some ⟨b1, 100, (cFrame f Af_payload cf_payload)⟩, some ⟨b_n, 131, (cNode n An_input cn_input An_heard_input cn_heard_input An_set__in_ cn_set__in_)⟩] [(6, vp b2 0), (7, vb false), (8, vi y3)] ?_
    refine xRe ?_
    refine wpq_then ?_
    have fn_input := fn_input.mono e5.b
    have fn_heard_input := fn_heard_input.mono e5.b
    have fn_set__in_ := fn_set__in_.mono e5.b
    have eS := (Option.some.inj hS).symm
    subst eS
    exact xRetC [some 2] [(6, 0)] e5 ⟨An_input, cn_input, An_heard_input, cn_heard_input, An_set__in_, cn_set__in_, none, 0, by kernel_rfl, by kernel_rfl, fn_input, fn_heard_input, fn_set__in_, Arr.nil⟩ (fun _ _ h => h)
  · have hS := cond_F h6 hS
    have h6p : y3 = 0 := eq_of_bne_false_ h6
    refine xSk ?_
    refine wpq_then ?_
    refine xSub [(0, vp b_n 0), (2, vb came), (4, vp b1 0), (6, vp b2 0)] ?_
    refine xSq ?_
    refine xSq ?_
    refine xRg ?_
    refine xB 3 [(1, 1)] [(0, vp b_n 0), (4, vp b1 0), (6, vp b2 0), (20, vp b_n 0), (21, Value.agg #[vy f.label, vy f.from_, vi f.cycle, vs Af_payload f.payload cf_payload]), (22, vb came)] ?_
    have fn_input := fn_input.mono e5.b
    have fn_heard_input := fn_heard_input.mono e5.b
    have fn_set__in_ := fn_set__in_.mono e5.b
    have ff_payload := ff_payload.mono e5.r
    obtain ⟨y7, hy7, hS⟩ := letJ_T hS
    refine xE (eC 0 (fun g' lr eb ln => c71 g' ⟨b_n, 0, none⟩ n An_input cn_input An_heard_input cn_heard_input An_set__in_ cn_set__in_ f Af_payload cf_payload (came) (1 : Int) (cells_lent' 2 b_n 0 (cNode n An_input cn_input An_heard_input cn_heard_input An_set__in_ cn_set__in_) ln) ((fn_input.mono g4.br).mono lr) ((fn_heard_input.mono g4.br).mono lr) ((fn_set__in_.mono g4.br).mono lr) (ff_payload.mono lr) hy7)) ?_
    rintro _ g8 _ e9 ⟨_, rfl, rfl, rfl⟩
    refine xRe ?_
    refine wpq_then ?_
    refine xSub [(0, vp b_n 0), (4, vp b1 0), (6, vp b2 0), (23, vb y7)] ?_
    refine xBindO hS (fun g own sl t10 => ∃ (A10_0_input : Option Addr) (c10_0_input : Nat), own = [some ⟨b2, 50, (cHeard (⟨0, 0, (⟨0, 0⟩ : Want), ([] : List UInt8)⟩ : Heard) none 0)⟩, some ⟨b_n, 131, (cNode ({ n with heard := t10.1, is_ := t10.2 }) An_input cn_input A10_0_input c10_0_input An_set__in_ cn_set__in_)⟩] ∧ sl = [(0, vp b_n 0), (6, vp b2 0)] ∧ Arr g.b tyU8 A10_0_input c10_0_input t10.1.input) ?_ ?_
    · rintro g11 _ _ t10 e12 ⟨A10_0_input, c10_0_input, rfl, rfl, f10_0_input⟩ hS
      have nf10_0_input := f10_0_input.len
      refine wpq_then ?_
      refine xSq ?_
      refine xRg ?_
      refine xBo 4 [(3, 1)] [some ⟨b2, 50, (cHeard (⟨0, 0, (⟨0, 0⟩ : Want), ([] : List UInt8)⟩ : Heard) none 0)⟩, some ⟨b_n, 131, (cNode ({ n with next_ := 2, heard := t10.1, is_ := t10.2 }) An_input cn_input A10_0_input c10_0_input An_set__in_ cn_set__in_)⟩] [(0, vp b_n 0), (6, vp b2 0)] ?_
      refine xRe ?_
      refine wpq_then ?_
      refine xSq ?_
      refine xSq ?_
      refine xRg ?_
      refine xB 4 [(3, 1)] [(0, vp b_n 0), (6, vp b2 0), (45, vb t10.2)] ?_
      refine xRe ?_
      refine wpq_then ?_
      refine xLetJ hS (fun g own sl t13 => ∃ (A13_1_input : Option Addr) (c13_1_input : Nat), own = [some ⟨b2, 50, (cHeard (⟨0, 0, (⟨0, 0⟩ : Want), ([] : List UInt8)⟩ : Heard) none 0)⟩, some ⟨b_n, 131, (cNode ({ n with alone := t13.1, next_ := 2, heard := t13.2, is_ := t10.2 }) An_input cn_input A13_1_input c13_1_input An_set__in_ cn_set__in_)⟩] ∧ sl = [(0, vp b_n 0), (6, vp b2 0)] ∧ Arr g.b tyU8 A13_1_input c13_1_input t13.2.input) ?_ ?_
      · rintro g14 _ _ t13 e15 ⟨A13_1_input, c13_1_input, rfl, rfl, f13_1_input⟩ hS
        have nf13_1_input := f13_1_input.len
        refine wpq_then ?_
        refine xSq ?_
        refine xRg ?_
        refine xB 5 [(3, 1)] [(0, vp b_n 0), (6, vp b2 0), (12, vy n.role)] ?_
        refine xRe ?_
        refine wpq_then ?_
        refine xSq ?_
        refine xDr 0 [4, 9, 13, 17, 22, 27] [31, 29, 30] [some ⟨b2, 50, (cHeard (⟨0, 0, (⟨0, 0⟩ : Want), ([] : List UInt8)⟩ : Heard) none 0)⟩, some ⟨b_n, 131, (cNode ({ n with alone := t13.1, next_ := 2, heard := t13.2, is_ := t10.2 }) An_input cn_input A13_1_input c13_1_input An_set__in_ cn_set__in_)⟩] 32 (fun RG => ?_) (fun _ _ _ _ _ h => h)
        refine xT 4 [0, 1, 2, 3, 4, 5, 6, 7, 8, 9, 10, 11, 12, 13, 14, 15, 16, 17, 18, 19, 20, 21, 22, 23, 24, 25, 26, 27] [(4, 1), (9, 1), (13, 1), (17, 1), (22, 1), (27, 1)] [some 0, some 1] [(0, vp b_n 0), (6, vp b2 0), (12, vy n.role), (64, vp b_n 0), (68, vi n.number), (69, vy n.role), (73, vi n.steps), (77, vi t13.1), (81, vb t10.2), (86, vy t13.2.role), (91, vi t13.2.steps)] RG (Psi.le.refl _) ?_
        obtain ⟨y16, hy16, hS⟩ := letJ_T hS
        refine xO1 (lds := [4, 9, 13, 17, 22, 27]) 28 ?_
        refine xIe (lds := [4, 9, 13, 17, 22, 27]) (Psi.le.refl _) (eC 0 (fun g' lr eb ln => c19 g' (n.number : Int) (n.role : Int) (n.steps : Int) (t13.1 : Int) (t10.2) (t13.2.role : Int) (t13.2.steps : Int) hy16)) ?_
        rintro _ g17 _ e18 ⟨_, rfl, rfl, rfl⟩
        refine kk [some 0, some 1] ?_
        refine xT 1 [29, 30] [] [some 0, some 1] [(0, vp b_n 0), (6, vp b2 0), (12, vy n.role), (92, vy y16), (94, vp b_n 1)] RG e18.r ?_
        refine xO1 (lds := [4, 9, 13, 17, 22, 27]) 31 ?_
        refine xId (lds := [4, 9, 13, 17, 22, 27]) e18.r (eStL b_n 1 1) ?_
        rintro _ _ _ - ⟨rfl, rfl⟩
        refine kf ?_
        refine xAe (lds := [4, 9, 13, 17, 22, 27]) ?_
        refine wpq_then ?_
        refine xSub [(0, vp b_n 0), (6, vp b2 0), (12, vy n.role)] ?_
        refine xSq ?_
        refine xSq ?_
        refine xRg ?_
        refine xB 5 [(3, 1)] [(0, vp b_n 0), (6, vp b2 0), (12, vy n.role), (99, vb (y16 == 1))] ?_
        refine xRe ?_
        refine wpq_then ?_
        refine xLetJ hS (fun g own sl t19 => ∃ (A19_0_input : Option Addr) (c19_0_input : Nat) (A19_0_heard_input : Option Addr) (c19_0_heard_input : Nat) (A19_0_set__in_ : Option Addr) (c19_0_set__in_ : Nat), own = [some ⟨b_n, 131, (cNode t19 A19_0_input c19_0_input A19_0_heard_input c19_0_heard_input A19_0_set__in_ c19_0_set__in_)⟩, some ⟨b2, 50, (cHeard (⟨0, 0, (⟨0, 0⟩ : Want), ([] : List UInt8)⟩ : Heard) none 0)⟩] ∧ sl = [(0, vp b_n 0), (6, vp b2 0), (12, vy n.role)] ∧ Arr g.b tyU8 A19_0_input c19_0_input t19.input ∧ Arr g.b tyU8 A19_0_heard_input c19_0_heard_input t19.heard.input ∧ Arr g.b tyU8 A19_0_set__in_ c19_0_set__in_ t19.set_.in_) ?_ ?_
        · rintro g20 _ _ t19 e21 ⟨A19_0_input, c19_0_input, A19_0_heard_input, c19_0_heard_input, A19_0_set__in_, c19_0_set__in_, rfl, rfl, f19_0_input, f19_0_heard_input, f19_0_set__in_⟩ hS
          have nf19_0_input := f19_0_input.len
          have nf19_0_heard_input := f19_0_heard_input.len
          have nf19_0_set__in_ := f19_0_set__in_.len
          refine wpq_then ?_
          refine xSq ?_
          refine xRg ?_
          refine xB 4 [] [(0, vp b_n 0), (6, vp b2 0), (102, vp b_n 0), (105, vb (n.role == 1))] ?_
          refine wpr_grp 10 [(0, vp b_n 0), (6, vp b2 0), (102, vp b_n 0), (111, vb ((n.role == 1) && (t19.role == 2)))] (fun hk3 => ?_) ?_
          · refine wpq_split 105 (b := (n.role == 1)) (by kernel_rfl) (fun q22 => ?_) (fun q22 => ?_)
            · have q22p : n.role = 1 := eq_of_beq q22
              refine xB 6 [(7, 0)] [(0, vp b_n 0), (6, vp b2 0), (102, vp b_n 0), (111, vb (t19.role == 2))] ?_
              refine wpq_re 111 (v := vb (t19.role == 2)) (Value.bool (((n.role == 1) && (t19.role == 2)))) (by kernel_rfl) (re_and1 q22) ?_
              exact wpq_sub _ (by kernel_rfl) hk3
            · have q22p : ¬ (n.role = 1) := ne_of_beq_false_ q22
              refine xB 6 [] [(0, vp b_n 0), (6, vp b2 0), (102, vp b_n 0), (111, vb false)] ?_
              refine wpq_re 111 (v := vb false) (Value.bool (((n.role == 1) && (t19.role == 2)))) (by kernel_rfl) (re_and0 q22) ?_
              exact wpq_sub _ (by kernel_rfl) hk3
          · refine xBo 3 [(12, 0)] [some ⟨b_n, 131, (cNode ({ t19 with fresh := ((n.role == 1) && (t19.role == 2)) }) A19_0_input c19_0_input A19_0_heard_input c19_0_heard_input A19_0_set__in_ c19_0_set__in_)⟩, some ⟨b2, 50, (cHeard (⟨0, 0, (⟨0, 0⟩ : Want), ([] : List UInt8)⟩ : Heard) none 0)⟩] [(0, vp b_n 0), (6, vp b2 0)] ?_
            refine xRe ?_
            refine wpq_then ?_
            refine xSq ?_
            refine xSq ?_
            refine xRg ?_
            refine xB 4 [(3, 0)] [(0, vp b_n 0), (6, vp b2 0), (117, vb ((n.role == 1) && (t19.role == 2)))] ?_
            refine xRe ?_
            refine wpq_then ?_
            refine xLetJ hS (fun g own sl t23 => own = [some ⟨b_n, 131, (cNode ({ t19 with steps := t23, fresh := ((n.role == 1) && (t19.role == 2)) }) A19_0_input c19_0_input A19_0_heard_input c19_0_heard_input A19_0_set__in_ c19_0_set__in_)⟩, some ⟨b2, 50, (cHeard (⟨0, 0, (⟨0, 0⟩ : Want), ([] : List UInt8)⟩ : Heard) none 0)⟩] ∧ sl = [(0, vp b_n 0), (6, vp b2 0)]) ?_ ?_
            · rintro g24 _ _ t23 e25 ⟨rfl, rfl⟩ hS
              refine wpq_then ?_
              refine xSq ?_
              refine xRg ?_
              refine xB 4 [(3, 0)] [(0, vp b_n 0), (6, vp b2 0), (124, Value.agg #[vy t19.heard.role, vi t19.heard.steps, vi t19.heard.want.base, vi t19.heard.want.have_, vs A19_0_heard_input t19.heard.input c19_0_heard_input])] ?_
              refine xE eB ?_
              rintro _ _ _ - ⟨b26, rfl, rfl, rfl⟩
              refine xBo 1 [(5, 0)] [some ⟨b26, 50, (cHeard t19.heard A19_0_heard_input c19_0_heard_input)⟩, some ⟨b_n, 131, (cNode ({ t19 with steps := t23, fresh := ((n.role == 1) && (t19.role == 2)) }) A19_0_input c19_0_input A19_0_heard_input c19_0_heard_input A19_0_set__in_ c19_0_set__in_)⟩, some ⟨b2, 50, (cHeard (⟨0, 0, (⟨0, 0⟩ : Want), ([] : List UInt8)⟩ : Heard) none 0)⟩] [(0, vp b_n 0), (6, vp b2 0), (13, vp b26 0)] ?_
              refine xRe ?_
              refine wpq_then ?_
              refine xSq ?_
              refine xRg ?_
              refine xB 2 [(1, 0)] [(0, vp b_n 0), (6, vp b2 0), (13, vp b26 0), (126, vs A19_0_heard_input t19.heard.input c19_0_heard_input)] ?_
              have f19_0_heard_input := f19_0_heard_input.mono e25.b
              obtain ⟨y27, hy27, hS⟩ := letJ_T hS
              refine xE (eC 0 (fun g' lr eb ln => c56 g' (t19.heard.input : List UInt8) A19_0_heard_input c19_0_heard_input ((f19_0_heard_input.mono g24.br).mono lr) hy27)) ?_
              rintro _ g28 _ e29 ⟨_, rfl, A27_0, c27_0, k27_0, rfl, rfl, h27_0⟩
              have nh27_0 := h27_0.len
              refine xBo 2 [(4, 1)] [k27_0, some ⟨b26, 50, (cHeard ({ t19.heard with input := y27 }) A27_0 c27_0)⟩, some ⟨b_n, 131, (cNode ({ t19 with steps := t23, fresh := ((n.role == 1) && (t19.role == 2)) }) A19_0_input c19_0_input A19_0_heard_input c19_0_heard_input A19_0_set__in_ c19_0_set__in_)⟩, some ⟨b2, 50, (cHeard (⟨0, 0, (⟨0, 0⟩ : Want), ([] : List UInt8)⟩ : Heard) none 0)⟩] [(0, vp b_n 0), (6, vp b2 0), (13, vp b26 0)] ?_
              refine xRe ?_
              refine wpq_then ?_
              refine xSq ?_
              refine xDr 0 [0, 4] [6, 7] [some ⟨b26, 50, (cHeard ({ t19.heard with input := y27 }) A27_0 c27_0)⟩, some ⟨b_n, 131, (cNode ({ t19 with steps := t23, fresh := ((n.role == 1) && (t19.role == 2)) }) A19_0_input c19_0_input A19_0_heard_input c19_0_heard_input A19_0_set__in_ c19_0_set__in_)⟩] 8 (fun RG => ?_) (fun _ _ _ _ _ h => h)
              refine xT 3 [0, 1, 2, 3, 4] [(0, 0), (4, 1)] [some 1, some 2] [(6, vp b2 0), (129, Value.agg #[vy t19.heard.role, vi t19.heard.steps, vi t19.heard.want.base, vi t19.heard.want.have_, vs A27_0 y27 c27_0]), (133, vb t19.is_)] RG (Psi.le.refl _) ?_
              refine xO1 (lds := [0, 4]) 5 ?_
              refine xId (lds := [0, 4]) (Psi.le.refl _) (eStL b2 0 3) ?_
              rintro _ _ _ - ⟨rfl, rfl⟩
              refine kk [some 1, some 2] ?_
              refine xT 0 [6, 7] [] [some 1, some 2] [(6, vp b2 0), (7, vb t19.is_), (8, vi 0)] RG (Psi.le.refl _) ?_
              refine xAe (lds := [0, 4]) ?_
              refine wpq_then ?_
              refine wpq_freeze 0 (by kernel_rfl) h27_0 (fun g30 e31 f32 => ?_)
              have f19_0_input := f19_0_input.mono (e25.trans (e29.trans e31)).b
              have f19_0_heard_input := f19_0_heard_input.mono (e29.trans e31).b
              have f19_0_set__in_ := f19_0_set__in_.mono (e25.trans (e29.trans e31)).b
              have eS := (Option.some.inj hS).symm
              subst eS
              exact xRetC [some 2] [(6, 3)] (e5.trans (e9.trans (e12.trans (e15.trans (e18.trans (e21.trans (e25.trans (e29.trans e31)))))))) ⟨A19_0_input, c19_0_input, A19_0_heard_input, c19_0_heard_input, A19_0_set__in_, c19_0_set__in_, A27_0, c27_0, by kernel_rfl, by kernel_rfl, f19_0_input, f19_0_heard_input, f19_0_set__in_, f32⟩ (fun _ _ h => h)
            · intro u23 hS hN23
              refine xCd (((n.role == 1) && (t19.role == 2))) (fun h33 => ?_) (fun h33 => ?_)
              · have hS := cond_T h33 hS
                have h33l := (and_true_ h33).1
                have h33r := (and_true_ h33).2
                have h33lp : n.role = 1 := eq_of_beq h33l
                have h33rp : t19.role = 2 := eq_of_beq h33r
                refine xRg ?_
                refine xBo 4 [(3, 0)] [some ⟨b_n, 131, (cNode ({ t19 with steps := 0, fresh := ((n.role == 1) && (t19.role == 2)) }) A19_0_input c19_0_input A19_0_heard_input c19_0_heard_input A19_0_set__in_ c19_0_set__in_)⟩, some ⟨b2, 50, (cHeard (⟨0, 0, (⟨0, 0⟩ : Want), ([] : List UInt8)⟩ : Heard) none 0)⟩] [(0, vp b_n 0), (6, vp b2 0)] ?_
                refine xRe ?_
                refine xSub [(0, vp b_n 0), (6, vp b2 0)] ?_
                have eS := hS.symm
                exact hN23 _ eS _ _ _ (Gh.le.refl _) ⟨by kernel_rfl, by kernel_rfl⟩
              · have hS := cond_F h33 hS
                refine xSk ?_
                refine xSub [(0, vp b_n 0), (6, vp b2 0)] ?_
                have eS := hS.symm
                exact hN23 _ eS _ _ _ (Gh.le.refl _) ⟨by kernel_rfl, by kernel_rfl⟩
        · intro u19 hS hN19
          refine xCd ((y16 == 1)) (fun h34 => ?_) (fun h34 => ?_)
          · have hS := cond_T h34 hS
            have h34p : y16 = 1 := eq_of_beq h34
            refine xRg ?_
            refine xB 1 [] [(0, vp b_n 0), (6, vp b2 0), (12, vy n.role), (100, vp b_n 0)] ?_
            refine xSel [some 1, some 0] ?_
            have fn_input := fn_input.mono (e9.trans (e12.trans (e15.trans e18))).b
            have f13_1_input := f13_1_input.mono e18.b
            have fn_set__in_ := fn_set__in_.mono (e9.trans (e12.trans (e15.trans e18))).b
            obtain ⟨y35, hy35, hS⟩ := letJ_T hS
            refine xE (eC 1 (fun g' lr eb ln => c68 g' b_n ({ n with role := y16, alone := t13.1, next_ := 2, heard := t13.2, is_ := t10.2 }) An_input cn_input A13_1_input c13_1_input An_set__in_ cn_set__in_ (by rw [eb]; exact fn_input) (by rw [eb]; exact f13_1_input) (by rw [eb]; exact fn_set__in_) hy35)) ?_
            rintro _ g36 _ e37 ⟨_, rfl, A35_n_input, c35_n_input, A35_n_heard_input, c35_n_heard_input, A35_n_set__in_, c35_n_set__in_, rfl, rfl, f35_n_input, f35_n_heard_input, f35_n_set__in_⟩
            have nf35_n_input := f35_n_input.len
            have nf35_n_heard_input := f35_n_heard_input.len
            have nf35_n_set__in_ := f35_n_set__in_.len
            refine xRe ?_
            refine xSub [(0, vp b_n 0), (6, vp b2 0), (12, vy n.role)] ?_
            have eS := hS.symm
            exact hN19 _ eS _ _ _ e37 ⟨A35_n_input, c35_n_input, A35_n_heard_input, c35_n_heard_input, A35_n_set__in_, c35_n_set__in_, by kernel_rfl, by kernel_rfl, f35_n_input, f35_n_heard_input, f35_n_set__in_⟩
          · have hS := cond_F h34 hS
            have h34p : ¬ (y16 = 1) := ne_of_beq_false_ h34
            refine xSk ?_
            have fn_input := fn_input.mono (e9.trans (e12.trans (e15.trans e18))).b
            have f13_1_input := f13_1_input.mono e18.b
            have fn_set__in_ := fn_set__in_.mono (e9.trans (e12.trans (e15.trans e18))).b
            refine xSel [some 1, some 0] ?_
            refine xSub [(0, vp b_n 0), (6, vp b2 0), (12, vy n.role)] ?_
            have eS := hS.symm
            exact hN19 _ eS _ _ _ (Gh.le.refl _) ⟨An_input, cn_input, A13_1_input, c13_1_input, An_set__in_, cn_set__in_, by kernel_rfl, by kernel_rfl, fn_input, f13_1_input, fn_set__in_⟩
      · intro u13 hS hN13
        refine xCd (t10.2) (fun h38 => ?_) (fun h38 => ?_)
        · have hS := cond_T h38 hS
          refine xRg ?_
          refine xBo 4 [(3, 1)] [some ⟨b2, 50, (cHeard (⟨0, 0, (⟨0, 0⟩ : Want), ([] : List UInt8)⟩ : Heard) none 0)⟩, some ⟨b_n, 131, (cNode ({ n with alone := 0, next_ := 2, heard := t10.1, is_ := t10.2 }) An_input cn_input A10_0_input c10_0_input An_set__in_ cn_set__in_)⟩] [(0, vp b_n 0), (6, vp b2 0)] ?_
          refine xRe ?_
          refine xSub [(0, vp b_n 0), (6, vp b2 0)] ?_
          have eS := hS.symm
          exact hN13 _ eS _ _ _ (Gh.le.refl _) ⟨A10_0_input, c10_0_input, by kernel_rfl, by kernel_rfl, f10_0_input⟩
        · have hS := cond_F h38 hS
          refine xSq ?_
          refine xRg ?_
          refine xBo 5 [(4, 1)] [some ⟨b2, 50, (cHeard (⟨0, 0, (⟨0, 0⟩ : Want), ([] : List UInt8)⟩ : Heard) none 0)⟩, some ⟨b_n, 131, (cNode ({ n with next_ := 2, heard := (⟨0, 0, (⟨0, 0⟩ : Want), ([] : List UInt8)⟩ : Heard), is_ := t10.2 }) An_input cn_input none 0 An_set__in_ cn_set__in_)⟩] [(0, vp b_n 0), (6, vp b2 0)] ?_
          refine xRe ?_
          refine wpq_then ?_
          refine xRg ?_
          refine xBo 8 [(3, 1), (7, 1)] [some ⟨b2, 50, (cHeard (⟨0, 0, (⟨0, 0⟩ : Want), ([] : List UInt8)⟩ : Heard) none 0)⟩, some ⟨b_n, 131, (cNode ({ n with alone := (IntKind.i64.wrap (n.alone + 1)), next_ := 2, heard := (⟨0, 0, (⟨0, 0⟩ : Want), ([] : List UInt8)⟩ : Heard), is_ := t10.2 }) An_input cn_input none 0 An_set__in_ cn_set__in_)⟩] [(0, vp b_n 0), (6, vp b2 0)] ?_
          refine xRe ?_
          refine xSub [(0, vp b_n 0), (6, vp b2 0)] ?_
          have eS := hS.symm
          exact hN13 _ eS _ _ _ (Gh.le.refl _) ⟨none, 0, by kernel_rfl, by kernel_rfl, Arr.nil⟩
    · intro u10 hS hN10
      refine xCd (y7) (fun h39 => ?_) (fun h39 => ?_)
      · have hS := cond_T h39 hS
        refine xSq ?_
        refine xRg ?_
        refine xB 2 [(1, 1)] [(0, vp b_n 0), (6, vp b2 0), (26, vs Af_payload f.payload cf_payload)] ?_
        have ff_payload := ff_payload.mono e9.r
        obtain ⟨y40, hy40, hS⟩ := bindO_T hS
        refine xE (eC 0 (fun g' lr eb ln => c28 g' (f.payload : List UInt8) Af_payload cf_payload (ff_payload.mono lr) hy40)) ?_
        rintro _ g41 _ e42 ⟨_, rfl, A40_0_input, c40_0_input, rfl, rfl, f40_0_input⟩
        have nf40_0_input := f40_0_input.len
        refine xB 3 [] [(0, vp b_n 0), (6, vp b2 0), (28, Value.agg #[vy y40.1.role, vi y40.1.steps, vi y40.1.want.base, vi y40.1.want.have_, vs A40_0_input y40.1.input c40_0_input]), (29, vi y40.2)] ?_
        refine xE eB ?_
        rintro _ _ _ - ⟨b43, rfl, rfl, rfl⟩
        refine xBo 2 [(7, 0)] [some ⟨b43, 50, (cHeard y40.1 A40_0_input c40_0_input)⟩, some ⟨b2, 50, (cHeard (⟨0, 0, (⟨0, 0⟩ : Want), ([] : List UInt8)⟩ : Heard) none 0)⟩, some ⟨b1, 100, (cFrame f Af_payload cf_payload)⟩, some ⟨b_n, 131, (cNode n An_input cn_input An_heard_input cn_heard_input An_set__in_ cn_set__in_)⟩] [(0, vp b_n 0), (6, vp b2 0), (10, vp b43 0), (11, vi y40.2)] ?_
        refine xRe ?_
        refine wpq_then ?_
        refine xRg ?_
        refine xBo 11 [(2, 0), (7, 3), (10, 3)] [some ⟨b43, 50, (cHeard y40.1 A40_0_input c40_0_input)⟩, some ⟨b2, 50, (cHeard (⟨0, 0, (⟨0, 0⟩ : Want), ([] : List UInt8)⟩ : Heard) none 0)⟩, some ⟨b1, 100, (cFrame f Af_payload cf_payload)⟩, some ⟨b_n, 131, (cNode ({ n with heard := y40.1, is_ := (y40.2 == 0) }) An_input cn_input A40_0_input c40_0_input An_set__in_ cn_set__in_)⟩] [(0, vp b_n 0), (6, vp b2 0)] ?_
        refine xRe ?_
        refine xSel [some 1, some 3] ?_
        refine xSub [(0, vp b_n 0), (6, vp b2 0)] ?_
        have eS := (Option.some.inj hS).symm
        exact hN10 _ eS _ _ _ e42 ⟨A40_0_input, c40_0_input, by kernel_rfl, by kernel_rfl, f40_0_input⟩
      · have hS := cond_F h39 hS
        refine xSk ?_
        have fn_heard_input := fn_heard_input.mono e9.b
        refine xSel [some 0, some 2] ?_
        refine xSub [(0, vp b_n 0), (6, vp b2 0)] ?_
        have eS := (Option.some.inj hS).symm
        exact hN10 _ eS _ _ _ (Gh.le.refl _) ⟨An_heard_input, cn_heard_input, by kernel_rfl, by kernel_rfl, fn_heard_input⟩

def o72 (n : Node) : Bool :=
  (((n.is_ && (n.heard.role == 3))))
set_option maxRecDepth 100000 in
theorem c72 (g : Gh) (a_n : Addr) (n : Node) (An_input : Option Addr) (cn_input : Nat) (An_heard_input : Option Addr) (cn_heard_input : Nat) (An_set__in_ : Option Addr) (cn_set__in_ : Nat) (hc_n : Cells g.r a_n (cNode n An_input cn_input An_heard_input cn_heard_input An_set__in_ cn_set__in_)) (fn_input : Arr g.r tyU8 An_input cn_input n.input) (fn_heard_input : Arr g.r tyU8 An_heard_input cn_heard_input n.heard.input) (fn_set__in_ : Arr g.r tyU8 An_set__in_ cn_set__in_ n.set_.in_) {r : Bool} (hS : o72 n = r) :
    Ctr Try.prog 72 [Value.pointer (some a_n)] g [] (fun v ψ o => v = vb r ∧ o = []) := by
  unfold o72 at hS
  refine xFn Try.f72 (Try.f72.body.getD .skip) 15 ?_
  have nfn_input := fn_input.len
  have nfn_heard_input := fn_heard_input.len
  have nfn_set__in_ := fn_set__in_.len
  refine xSq ?_
  refine xRg ?_
  refine xB 1 [] [(0, Value.pointer (some a_n))] ?_
  refine xRe ?_
  refine wpq_then ?_
  refine xSq ?_
  refine xRg ?_
  refine xB 3 [] [(0, Value.pointer (some a_n)), (5, Value.pointer (some (Addr.add a_n 12)))] ?_
  refine xV (qLdP a_n 12 hc_n) ?_
  refine xB 1 [] [(0, Value.pointer (some a_n)), (7, vb n.is_)] ?_
  refine wpr_grp 12 [(14, vb (n.is_ && (n.heard.role == 3)))] (fun hk4 => ?_) ?_
  · refine wpq_split 7 (b := n.is_) (by kernel_rfl) (fun q1 => ?_) (fun q1 => ?_)
    · refine xB 4 [] [(7, vb true), (11, Value.pointer (some (Addr.add a_n 7)))] ?_
      refine xV (qLdP a_n 7 hc_n) ?_
      refine xB 2 [] [(14, vb (n.heard.role == 3))] ?_
      refine wpq_re 14 (v := vb (n.heard.role == 3)) (Value.bool ((n.is_ && (n.heard.role == 3)))) (by kernel_rfl) (re_and1 q1) ?_
      exact wpq_sub _ (by kernel_rfl) hk4
    · refine xB 7 [] [(14, vb false)] ?_
      refine wpq_re 14 (v := vb false) (Value.bool ((n.is_ && (n.heard.role == 3)))) (by kernel_rfl) (re_and0 q1) ?_
      exact wpq_sub _ (by kernel_rfl) hk4
  · refine xB 1 [] [(2, vb (n.is_ && (n.heard.role == 3)))] ?_
    refine xRe ?_
    refine wpq_then ?_
    have eS := hS.symm
    subst eS
    exact xRet [] [2] (Gh.le.refl _) ⟨by kernel_rfl, by kernel_rfl⟩ (fun _ _ h => h)

def o31 (x : Sett) : Option ((List UInt8) × Int) :=
  (cond (decide (x.steps < 0)) (some ((([] : List UInt8), (1 : Int)))) (bindO (τ := (List UInt8) × Bool × (List UInt8) × Bool × Int) (o17 (x.in_ : List UInt8)) fun y3 => (cond ((y3.2.2.2.2 != 0)) (some ((([] : List UInt8), (y3.2.2.2.2 : Int)))) (letJ (τ := Nat) (cond (x.fresh) (1) (0)) fun t7 => (bindO (τ := (List UInt8)) (o53 ([] : List UInt8) (x.steps : Int) (8 : Int)) fun y11 => (grd (decide (((y11).length + (([(u8 ((t7 : Nat) : Int))] : List UInt8)).length) * 1 ≤ 140737488355328)) (grd (decide ((((y11 ++ ([(u8 ((t7 : Nat) : Int))] : List UInt8))).length + (x.in_).length) * 1 ≤ 140737488355328)) (some (((((y11 ++ ([(u8 ((t7 : Nat) : Int))] : List UInt8)) ++ x.in_) : List UInt8), (0 : Int)))))))))))
set_option maxRecDepth 100000 in
theorem c31 (g : Gh) (x : Sett) (Ax_in_ : Option Addr) (cx_in_ : Nat) (fx_in_ : Arr g.r tyU8 Ax_in_ cx_in_ x.in_) {r : (List UInt8) × Int} (hS : o31 x = some r) :
    Ctr Try.prog 31 [Value.agg #[vi x.steps, vi x.cycle, vb x.fresh, vs Ax_in_ x.in_ cx_in_]] g [] (fun v ψ o => ∃ (Ar_0 : Option Addr) (cr_0 : Nat) (kr_0 : Option Bk), v = Value.tuple #[vs Ar_0 r.1 cr_0, vi r.2] ∧ o = [kr_0] ∧ Buf ψ tyU8 5 (.slice Ar_0 (r.1).length cr_0) kr_0 r.1) := by
  unfold o31 at hS
  refine xFn Try.f31 (Try.f31.body.getD .skip) 36 ?_
  have nfx_in_ := fx_in_.len
  refine xSq ?_
  refine xRg ?_
  refine xE eB ?_
  rintro _ _ _ - ⟨b1, rfl, rfl, rfl⟩
  refine xB 2 [] [(1, vp b1 0)] ?_
  refine xRe ?_
  refine wpq_then ?_
  refine xSq ?_
  refine xSq ?_
  refine xRg ?_
  refine xB 3 [(1, 0)] [(1, vp b1 0), (12, vb (decide (x.steps < 0)))] ?_
  refine xRe ?_
  refine wpq_then ?_
  refine xCd (decide (x.steps < 0)) (fun h2 => ?_) (fun h2 => ?_)
  · have hS := cond_T h2 hS
    have h2p := of_decide_eq_true h2
    refine xSq ?_
    refine xRg ?_
    refine xB 2 [] [(2, Value.slice none 0 0), (3, vi 1)] ?_
    refine xRe ?_
    refine wpq_then ?_
    have eS := (Option.some.inj hS).symm
    subst eS
    exact xRet [none] [2, 3] (Gh.le.refl _) ⟨none, 0, none, by kernel_rfl, by kernel_rfl, Buf.nil⟩ (fun _ _ h => h)
  · have hS := cond_F h2 hS
    have h2p := of_decide_eq_false h2
    refine xSk ?_
    refine wpq_then ?_
    refine xSub [(1, vp b1 0)] ?_
    refine xSq ?_
    refine xSq ?_
    refine xRg ?_
    refine xB 2 [(1, 0)] [(1, vp b1 0), (15, vs Ax_in_ x.in_ cx_in_)] ?_
    obtain ⟨y3, hy3, hS⟩ := bindO_T hS
    refine xE (eC 0 (fun g' lr eb ln => c17 g' (x.in_ : List UInt8) Ax_in_ cx_in_ (fx_in_.mono lr) hy3)) ?_
    rintro _ g4 _ e5 ⟨_, rfl, A3_0, c3_0, k3_0, A3_2, c3_2, k3_2, rfl, rfl, h3_0, h3_2⟩
    have nh3_0 := h3_0.len
    have nh3_2 := h3_2.len
    refine xB 11 [] [(1, vp b1 0), (8, vi y3.2.2.2.2)] ?_
    refine xRe ?_
    refine wpq_then ?_
    refine xSq ?_
    refine xRg ?_
    refine xB 2 [] [(1, vp b1 0), (8, vi y3.2.2.2.2), (23, vb (y3.2.2.2.2 != 0))] ?_
    refine xRe ?_
    refine wpq_then ?_
    refine xCd ((y3.2.2.2.2 != 0)) (fun h6 => ?_) (fun h6 => ?_)
    · have hS := cond_T h6 hS
      have h6p : ¬ (y3.2.2.2.2 = 0) := ne_of_bne_ h6
      refine xSq ?_
      refine xRg ?_
      refine xB 3 [] [(2, Value.slice none 0 0), (3, vi y3.2.2.2.2)] ?_
      refine xRe ?_
      refine wpq_then ?_
      have eS := (Option.some.inj hS).symm
      subst eS
      exact xRet [none] [2, 3] e5 ⟨none, 0, none, by kernel_rfl, by kernel_rfl, Buf.nil⟩ (fun _ _ h => h)
    · have hS := cond_F h6 hS
      have h6p : y3.2.2.2.2 = 0 := eq_of_bne_false_ h6
      refine xSk ?_
      refine wpq_then ?_
      refine xSub [(1, vp b1 0)] ?_
      refine xSq ?_
      refine xRg ?_
      refine xB 1 [] [(1, vp b1 0), (9, vy 0)] ?_
      refine xRe ?_
      refine wpq_then ?_
      refine xSq ?_
      refine xSq ?_
      refine xRg ?_
      refine xB 2 [(1, 2)] [(1, vp b1 0), (9, vy 0), (26, vb x.fresh)] ?_
      refine xRe ?_
      refine wpq_then ?_
      refine xLetJ hS (fun g own sl t7 => own = [some ⟨b1, 64, (cSett x Ax_in_ cx_in_)⟩] ∧ sl = [(1, vp b1 0), (9, vy ((t7 : Nat) : Int))] ∧ (0 ≤ t7 ∧ t7 ≤ 1)) ?_ ?_
      · rintro g8 _ _ t7 e9 ⟨rfl, rfl, ⟨r7_0l, r7_0r⟩⟩ hS
        refine wpq_then ?_
        refine xSq ?_
        refine xDr 0 [1, 7] [9, 10] [some ⟨b1, 64, (cSett x Ax_in_ cx_in_)⟩] 11 (fun RG => ?_) (fun _ _ _ _ _ h => h)
        refine xT 6 [0, 1, 3, 6, 7] [(1, 0), (7, 0)] [some 0] [(28, vi x.steps), (30, vy ((t7 : Nat) : Int)), (34, vs Ax_in_ x.in_ cx_in_)] RG (Psi.le.refl _) ?_
        obtain ⟨y11, hy11, hS⟩ := bindO_T hS
        refine wpa_meet (fun g own sl => ∃ (A11_0 : Option Addr) (c11_0 : Nat) (k11_0 : Option Bk) (A14 : Option Addr) (c14 : Nat) (k14 : Option Bk), own = [k14, k11_0, some ⟨b1, 64, (cSett x Ax_in_ cx_in_)⟩] ∧ sl = [(29, vs A11_0 y11 c11_0), (31, vs A14 ([(u8 ((t7 : Nat) : Int))] : List UInt8) c14), (34, vs Ax_in_ x.in_ cx_in_)] ∧ Buf g.b tyU8 5 (.slice A11_0 (y11).length c11_0) k11_0 y11 ∧ Buf g.b tyU8 5 (.slice A14 (([(u8 ((t7 : Nat) : Int))] : List UInt8)).length c14) k14 ([(u8 ((t7 : Nat) : Int))] : List UInt8)) 4 [true, true, true, true, true, false, true, true, false, false, false] ?_ (fun hD10 => ?_)
        · rintro g211 _ _ e212 ⟨A11_0, c11_0, k11_0, A14, c14, k14, rfl, rfl, h11_0, h14⟩
          have nh11_0 := h11_0.len
          have nh14 := h14.len
          obtain ⟨nw213, hp213, hs213⟩ := h14.srcO (g := g211)
          obtain ⟨q214, hS⟩ := grd_T hS
          have q214p := of_decide_eq_true q214
          refine xO1 (lds := [1, 7]) 5 ?_
          refine xIe (lds := [1, 7]) e212.r (eApp (T := tyU8) (p := g211.b) (et := 5) (bytes := 1) (xs := (y11 : List UInt8)) (ys := (([(u8 ((t7 : Nat) : Int))] : List UInt8) : List UInt8)) 1 h11_0 rfl (fun w hs => hs213 0 w _ hs (by kernel_rfl)) hp213 (by first | omega | (simp only [List.length_cons, List.length_nil] at *; omega)) (by first | omega | (simp only [List.length_cons, List.length_nil] at *; omega))) ?_
          rintro _ _ _ - ⟨A213, c213, k213, rfl, rfl, rfl, h213⟩
          refine kk [some 2] ?_
          have nh213 := h213.len
          have hz213 : ((y11 ++ ([(u8 ((t7 : Nat) : Int))] : List UInt8)) : List UInt8).length = (y11).length + (([(u8 ((t7 : Nat) : Int))] : List UInt8)).length := List.length_append
          have fx_in_ := fx_in_.mono (e5.trans (e9.trans e212)).r
          obtain ⟨nw215, hp215, hs215⟩ := fx_in_.srcR
          obtain ⟨q216, hS⟩ := grd_T hS
          have q216p := of_decide_eq_true q216
          refine xO1 (lds := [1, 7]) 8 ?_
          refine xIe (lds := [1, 7]) e212.r (eApp (T := tyU8) (p := g211.b) (et := 5) (bytes := 1) (xs := ((y11 ++ ([(u8 ((t7 : Nat) : Int))] : List UInt8)) : List UInt8)) (ys := (x.in_ : List UInt8)) 1 h213 rfl (fun w hs => hs215 w _ hs) (flatU8.reps hp215) (by first | omega | (simp only [List.length_cons, List.length_nil] at *; omega)) (by first | omega | (simp only [List.length_cons, List.length_nil] at *; omega))) ?_
          rintro _ _ _ - ⟨A215, c215, k215, rfl, rfl, rfl, h215⟩
          refine kk [some 2] ?_
          have nh215 := h215.len
          have hz215 : (((y11 ++ ([(u8 ((t7 : Nat) : Int))] : List UInt8)) ++ x.in_) : List UInt8).length = ((y11 ++ ([(u8 ((t7 : Nat) : Int))] : List UInt8))).length + (x.in_).length := List.length_append
          refine xT 0 [9, 10] [] [some 2] [(2, vs A215 ((y11 ++ ([(u8 ((t7 : Nat) : Int))] : List UInt8)) ++ x.in_) c215), (3, vi 0)] RG e212.r ?_
          refine xAe (lds := [1, 7]) ?_
          refine wpq_then ?_
          have eS := (Option.some.inj hS).symm
          subst eS
          exact xRet [some 1] [2, 3] (e5.trans (e9.trans e212)) ⟨A215, c215, k215, by kernel_rfl, by kernel_rfl, h215⟩ (fun _ _ h => h)
        · refine xO2 (lds := [1, 7]) 2 4 ?_ ?_
          · refine xSel [none, some 0] ?_
            refine xIe (lds := [1, 7]) (Psi.le.refl _) (eC 1 (fun g' lr eb ln => c53 g' ([] : List UInt8) none 0 none (x.steps : Int) (8 : Int) Buf.nil hy11)) ?_
            rintro _ g218 _ e219 ⟨_, rfl, A11_0, c11_0, k11_0, rfl, rfl, h11_0⟩
            refine kk [some 1] ?_
            have nh11_0 := h11_0.len
            refine xO1 (lds := [1, 7]) 4 ?_
            refine xIe (lds := [1, 7]) e219.r (eBs (T := tyU8) (p := g218.b) (et := 5) (xs := ([(u8 ((t7 : Nat) : Int))] : List UInt8)) (reps_cons (c := [vy ((t7 : Nat) : Int)]) (u8_rep (by omega)) reps_nil) (by simp)) ?_
            rintro _ _ _ - ⟨A220, c220, k220, rfl, rfl, rfl, h220⟩
            refine kk [some 2] ?_
            refine xSub [(29, vs A11_0 y11 c11_0), (31, vs A220 ([(u8 ((t7 : Nat) : Int))] : List UInt8) c220), (34, vs Ax_in_ x.in_ cx_in_)] ?_
            exact hD10 _ _ _ e219 ⟨A11_0, c11_0, k11_0, A220, c220, k220, by kernel_rfl, by kernel_rfl, h11_0, h220⟩
          · refine xIe (lds := [1, 7]) (Psi.le.refl _) (eBs (T := tyU8) (p := g8.b) (et := 5) (xs := ([(u8 ((t7 : Nat) : Int))] : List UInt8)) (reps_cons (c := [vy ((t7 : Nat) : Int)]) (u8_rep (by omega)) reps_nil) (by simp)) ?_
            rintro _ _ _ - ⟨A221, c221, k221, rfl, rfl, rfl, h221⟩
            refine kk [some 1] ?_
            refine xSel [none, some 0, some 1] ?_
            refine xO1 (lds := [1, 7]) 2 ?_
            refine xIe (lds := [1, 7]) (Psi.le.refl _) (eC 1 (fun g' lr eb ln => c53 g' ([] : List UInt8) none 0 none (x.steps : Int) (8 : Int) Buf.nil hy11)) ?_
            rintro _ g223 _ e224 ⟨_, rfl, A11_0, c11_0, k11_0, rfl, rfl, h11_0⟩
            refine kk [some 2] ?_
            have nh11_0 := h11_0.len
            refine xSel [some 1, some 0, some 2] ?_
            refine xSub [(29, vs A11_0 y11 c11_0), (31, vs A221 ([(u8 ((t7 : Nat) : Int))] : List UInt8) c221), (34, vs Ax_in_ x.in_ cx_in_)] ?_
            have h221 := h221.mono e224.b
            exact hD10 _ _ _ e224 ⟨A11_0, c11_0, k11_0, A221, c221, k221, by kernel_rfl, by kernel_rfl, h11_0, h221⟩
      · intro u7 hS hN7
        refine xCd (x.fresh) (fun h225 => ?_) (fun h225 => ?_)
        · have hS := cond_T h225 hS
          refine xRg ?_
          refine xB 1 [] [(1, vp b1 0), (9, vy 1)] ?_
          refine xRe ?_
          refine xSel [some 2] ?_
          refine xSub [(1, vp b1 0), (9, vy 1)] ?_
          have eS := hS.symm
          exact hN7 _ eS _ _ _ (Gh.le.refl _) ⟨by kernel_rfl, by kernel_rfl, okI⟩
        · have hS := cond_F h225 hS
          refine xSk ?_
          refine xSel [some 2] ?_
          refine xSub [(1, vp b1 0), (9, vy 0)] ?_
          have eS := hS.symm
          exact hN7 _ eS _ _ _ (Gh.le.refl _) ⟨by kernel_rfl, by kernel_rfl, okI⟩

def o48 (n : Node) : Option (Node × Frame × Bool × Int) :=
  (cond ((n.number == 1)) (letJ (τ := Int) (o69 n (2 : Int)) fun y3 => (cond ((y3 != 0)) (some ((n, (⟨0, 0, 0, ([] : List UInt8)⟩ : Frame), (false), (y3 : Int)))) (cond ((n.role != 2)) (some ((({ n with next_ := 3 }), (⟨0, 0, 0, ([] : List UInt8)⟩ : Frame), (false), (0 : Int)))) (letJ (τ := Bool) (o72 ({ n with next_ := 3 })) fun y10 => (letJ (τ := Bool × (List UInt8)) (cond (y10) ((true, (n.heard.input : List UInt8))) ((false, ([] : List UInt8)))) fun t13 => (bindO (τ := (List UInt8) × Int) (o15 (n.input : List UInt8) (true) (t13.2 : List UInt8) (t13.1)) fun y16 => (bindO (τ := (List UInt8) × Int) (o31 ({ n with in_ := y16.1 })) fun y22 => (letJ (τ := Frame) (o70 ({ n with next_ := 3, set_ := { n with in_ := y16.1 } }) (2 : Int) (y22.1 : List UInt8)) fun y28 => (some ((({ n with next_ := 3, set_ := { n with in_ := y16.1 } }), y28, (true), (0 : Int)))))))))))) (grd ((n.number == 2)) (letJ (τ := Int) (o69 n (2 : Int)) fun y34 => (cond ((y34 != 0)) (some ((n, (⟨0, 0, 0, ([] : List UInt8)⟩ : Frame), (false), (y34 : Int)))) (cond ((n.role != 2)) (some ((({ n with next_ := 3 }), (⟨0, 0, 0, ([] : List UInt8)⟩ : Frame), (false), (0 : Int)))) (letJ (τ := Bool) (o72 ({ n with next_ := 3 })) fun y41 => (letJ (τ := Bool × (List UInt8)) (cond (y41) ((true, (n.heard.input : List UInt8))) ((false, ([] : List UInt8)))) fun t44 => (bindO (τ := (List UInt8) × Int) (o15 (t44.2 : List UInt8) (t44.1) (n.input : List UInt8) (true)) fun y47 => (bindO (τ := (List UInt8) × Int) (o31 ({ n with in_ := y47.1 })) fun y53 => (letJ (τ := Frame) (o70 ({ n with next_ := 3, set_ := { n with in_ := y47.1 } }) (2 : Int) (y53.1 : List UInt8)) fun y59 => (some ((({ n with next_ := 3, set_ := { n with in_ := y47.1 } }), y59, (true), (0 : Int))))))))))))))
set_option maxRecDepth 100000 in
theorem c48 (g : Gh) (b_n : Nat) (n : Node) (An_input : Option Addr) (cn_input : Nat) (An_heard_input : Option Addr) (cn_heard_input : Nat) (An_set__in_ : Option Addr) (cn_set__in_ : Nat) (fn_input : Arr g.b tyU8 An_input cn_input n.input) (fn_heard_input : Arr g.b tyU8 An_heard_input cn_heard_input n.heard.input) (fn_set__in_ : Arr g.b tyU8 An_set__in_ cn_set__in_ n.set_.in_) {r : Node × Frame × Bool × Int} (hS : o48 n = some r) :
    Ctr Try.prog 48 [vp b_n 0] g [some ⟨b_n, 131, (cNode n An_input cn_input An_heard_input cn_heard_input An_set__in_ cn_set__in_)⟩] (fun v ψ o => ∃ (Ao_n_input : Option Addr) (co_n_input : Nat) (Ao_n_heard_input : Option Addr) (co_n_heard_input : Nat) (Ao_n_set__in_ : Option Addr) (co_n_set__in_ : Nat) (Ar_0_payload : Option Addr) (cr_0_payload : Nat), v = Value.tuple #[Value.agg #[vy r.2.1.label, vy r.2.1.from_, vi r.2.1.cycle, vs Ar_0_payload r.2.1.payload cr_0_payload], vb r.2.2.1, vi r.2.2.2] ∧ o = [some ⟨b_n, 131, (cNode r.1 Ao_n_input co_n_input Ao_n_heard_input co_n_heard_input Ao_n_set__in_ co_n_set__in_)⟩] ∧ Arr ψ tyU8 Ao_n_input co_n_input r.1.input ∧ Arr ψ tyU8 Ao_n_heard_input co_n_heard_input r.1.heard.input ∧ Arr ψ tyU8 Ao_n_set__in_ co_n_set__in_ r.1.set_.in_ ∧ Arr ψ tyU8 Ar_0_payload cr_0_payload r.2.1.payload) := by
  unfold o48 at hS
  refine xFn Try.f48 (Try.f48.body.getD .skip) 102 ?_
  have nfn_input := fn_input.len
  have nfn_heard_input := fn_heard_input.len
  have nfn_set__in_ := fn_set__in_.len
  refine wpq_case ((n.number == 1)) (fun h1 => ?_) (fun h1 => ?_)
  · have hS := cond_T h1 hS
    have h1p : n.number = 1 := eq_of_beq h1
    refine xSq ?_
    refine xRg ?_
    refine xE eB ?_
    rintro _ _ _ - ⟨b2, rfl, rfl, rfl⟩
    refine xB 2 [] [(0, vp b_n 0), (2, vp b2 0)] ?_
    refine xRe ?_
    refine wpq_then ?_
    refine xSq ?_
    refine xSq ?_
    refine xRg ?_
    refine xB 1 [] [(0, vp b_n 0), (2, vp b2 0), (12, vp b_n 0)] ?_
    obtain ⟨y3, hy3, hS⟩ := letJ_T hS
    refine xE (eC 0 (fun g' lr eb ln => c69 g' ⟨b_n, 0, none⟩ n An_input cn_input An_heard_input cn_heard_input An_set__in_ cn_set__in_ (2 : Int) (cells_lent' 1 b_n 0 (cNode n An_input cn_input An_heard_input cn_heard_input An_set__in_ cn_set__in_) ln) ((fn_input.mono g.br).mono lr) ((fn_heard_input.mono g.br).mono lr) ((fn_set__in_.mono g.br).mono lr) hy3)) ?_
    rintro _ g4 _ e5 ⟨_, rfl, rfl, rfl⟩
    refine xB 1 [] [(0, vp b_n 0), (2, vp b2 0), (5, vi y3)] ?_
    refine xRe ?_
    refine wpq_then ?_
    refine xSq ?_
    refine xRg ?_
    refine xB 2 [] [(0, vp b_n 0), (2, vp b2 0), (5, vi y3), (15, vb (y3 != 0))] ?_
    refine xRe ?_
    refine wpq_then ?_
    refine xCd ((y3 != 0)) (fun h6 => ?_) (fun h6 => ?_)
    · have hS := cond_T h6 hS
      have h6p : ¬ (y3 = 0) := ne_of_bne_ h6
      refine xSq ?_
      refine xRg ?_
      refine xBo 5 [(2, 0)] [some ⟨b2, 100, (cFrame (⟨0, 0, 0, ([] : List UInt8)⟩ : Frame) none 0)⟩, some ⟨b_n, 131, (cNode n An_input cn_input An_heard_input cn_heard_input An_set__in_ cn_set__in_)⟩] [(2, vp b2 0), (3, vb false), (4, vi y3)] ?_
      refine xRe ?_
      refine wpq_then ?_
      have fn_input := fn_input.mono e5.b
      have fn_heard_input := fn_heard_input.mono e5.b
      have fn_set__in_ := fn_set__in_.mono e5.b
      have eS := (Option.some.inj hS).symm
      subst eS
      exact xRetC [some 1] [(2, 0)] e5 ⟨An_input, cn_input, An_heard_input, cn_heard_input, An_set__in_, cn_set__in_, none, 0, by kernel_rfl, by kernel_rfl, fn_input, fn_heard_input, fn_set__in_, Arr.nil⟩ (fun _ _ h => h)
    · have hS := cond_F h6 hS
      have h6p : y3 = 0 := eq_of_bne_false_ h6
      refine xSk ?_
      refine wpq_then ?_
      refine xSub [(0, vp b_n 0), (2, vp b2 0)] ?_
      refine xSq ?_
      refine xRg ?_
      refine xBo 4 [(3, 1)] [some ⟨b2, 100, (cFrame (⟨0, 0, 0, ([] : List UInt8)⟩ : Frame) none 0)⟩, some ⟨b_n, 131, (cNode ({ n with next_ := 3 }) An_input cn_input An_heard_input cn_heard_input An_set__in_ cn_set__in_)⟩] [(0, vp b_n 0), (2, vp b2 0)] ?_
      refine xRe ?_
      refine wpq_then ?_
      refine xSq ?_
      refine xSq ?_
      refine xRg ?_
      refine xB 5 [(3, 1)] [(0, vp b_n 0), (2, vp b2 0), (25, vb (n.role != 2))] ?_
      refine xRe ?_
      refine wpq_then ?_
      refine xCd ((n.role != 2)) (fun h7 => ?_) (fun h7 => ?_)
      · have hS := cond_T h7 hS
        have h7p : ¬ (n.role = 2) := ne_of_bne_ h7
        refine xSq ?_
        refine xRg ?_
        refine xBo 4 [(1, 0)] [some ⟨b2, 100, (cFrame (⟨0, 0, 0, ([] : List UInt8)⟩ : Frame) none 0)⟩, some ⟨b_n, 131, (cNode ({ n with next_ := 3 }) An_input cn_input An_heard_input cn_heard_input An_set__in_ cn_set__in_)⟩] [(2, vp b2 0), (3, vb false), (4, vi 0)] ?_
        refine xRe ?_
        refine wpq_then ?_
        have fn_input := fn_input.mono e5.b
        have fn_heard_input := fn_heard_input.mono e5.b
        have fn_set__in_ := fn_set__in_.mono e5.b
        have eS := (Option.some.inj hS).symm
        subst eS
        exact xRetC [some 1] [(2, 0)] e5 ⟨An_input, cn_input, An_heard_input, cn_heard_input, An_set__in_, cn_set__in_, none, 0, by kernel_rfl, by kernel_rfl, fn_input, fn_heard_input, fn_set__in_, Arr.nil⟩ (fun _ _ h => h)
      · have hS := cond_F h7 hS
        have h7p : n.role = 2 := eq_of_bne_false_ h7
        refine xSk ?_
        refine wpq_then ?_
        refine xSub [(0, vp b_n 0), (2, vp b2 0)] ?_
        refine xSq ?_
        refine xRg ?_
        refine xE eB ?_
        rintro _ _ _ - ⟨b8, rfl, rfl, rfl⟩
        refine xRe ?_
        refine wpq_then ?_
        refine xSq ?_
        refine xRg ?_
        refine xE eB ?_
        rintro _ _ _ - ⟨b9, rfl, rfl, rfl⟩
        refine xRe ?_
        refine wpq_then ?_
        refine xSq ?_
        refine xDr 0 [3, 8, 13] [17, 16] [some ⟨b2, 100, (cFrame (⟨0, 0, 0, ([] : List UInt8)⟩ : Frame) none 0)⟩, some ⟨b_n, 131, (cNode ({ n with next_ := 3 }) An_input cn_input An_heard_input cn_heard_input An_set__in_ cn_set__in_)⟩] 18 (fun RG => ?_) (fun _ _ _ _ _ h => h)
        refine xT 14 [0, 1, 2, 3] [(3, 1)] [some 2, some 3] [(0, vp b_n 0), (2, vp b2 0), (6, vp b8 0), (7, vp b9 0), (30, vi n.number)] RG (Psi.le.refl _) ?_
        refine xTp 4 RG (fun _ => (qSub .i64 (n.number) (1) (wr64 (by omega)))) ?_
        refine xT 9 [5, 6, 7, 8] [(8, 1)] [some 2, some 3] [(0, vp b_n 0), (2, vp b2 0), (6, vp b8 0), (7, vp b9 0), (31, vi (n.number - 1)), (35, vi n.number)] RG (Psi.le.refl _) ?_
        refine xTp 9 RG (fun _ => (qSub .i64 (n.number) (1) (wr64 (by omega)))) ?_
        refine xT 4 [10, 11, 12, 13] [(13, 1)] [some 2, some 3] [(0, vp b_n 0), (2, vp b2 0), (6, vp b8 0), (7, vp b9 0), (31, vi (n.number - 1)), (36, vi (n.number - 1)), (40, vs An_input n.input cn_input)] RG (Psi.le.refl _) ?_
        refine wpq_re 31 (v := vi (n.number - 1)) (vi 0) (by kernel_rfl) (congrArg (Value.int .i64) (by first | omega | (rw [IntKind.wrap_i64]; omega))) ?_
        refine xT 3 [14] [] [some 2, some 3] [(0, vp b_n 0), (2, vp b2 0), (6, vp b8 0), (7, vp b9 0), (36, vi (n.number - 1)), (40, vs An_input n.input cn_input), (41, vp b8 0)] RG (Psi.le.refl _) ?_
        refine xO1 (lds := [3, 8, 13]) 15 ?_
        refine xId (lds := [3, 8, 13]) (Psi.le.refl _) (eStL b8 0 1) ?_
        rintro _ _ _ - ⟨rfl, rfl⟩
        refine kk [some 2, some 3] ?_
        refine wpq_re 36 (v := vi (n.number - 1)) (vi 0) (by kernel_rfl) (congrArg (Value.int .i64) (by first | omega | (rw [IntKind.wrap_i64]; omega))) ?_
        refine xT 1 [16] [] [some 2, some 3] [(0, vp b_n 0), (2, vp b2 0), (6, vp b8 0), (7, vp b9 0), (42, vp b9 0)] RG (Psi.le.refl _) ?_
        refine xO1 (lds := [3, 8, 13]) 17 ?_
        refine xId (lds := [3, 8, 13]) (Psi.le.refl _) (eStL b9 0 0) ?_
        rintro _ _ _ - ⟨rfl, rfl⟩
        refine kf ?_
        refine xAe (lds := [3, 8, 13]) ?_
        refine wpq_then ?_
        refine xSub [(0, vp b_n 0), (2, vp b2 0), (6, vp b8 0), (7, vp b9 0)] ?_
        refine xSq ?_
        refine xSq ?_
        refine xRg ?_
        refine xB 1 [] [(0, vp b_n 0), (2, vp b2 0), (6, vp b8 0), (7, vp b9 0), (43, vp b_n 0)] ?_
        have fn_input := fn_input.mono e5.b
        have fn_heard_input := fn_heard_input.mono e5.b
        have fn_set__in_ := fn_set__in_.mono e5.b
        obtain ⟨y10, hy10, hS⟩ := letJ_T hS
        refine xE (eC 0 (fun g' lr eb ln => c72 g' ⟨b_n, 0, none⟩ ({ n with next_ := 3 }) An_input cn_input An_heard_input cn_heard_input An_set__in_ cn_set__in_ (cells_lent' 3 b_n 0 (cNode ({ n with next_ := 3 }) An_input cn_input An_heard_input cn_heard_input An_set__in_ cn_set__in_) ln) ((fn_input.mono g4.br).mono lr) ((fn_heard_input.mono g4.br).mono lr) ((fn_set__in_.mono g4.br).mono lr) hy10)) ?_
        rintro _ g11 _ e12 ⟨_, rfl, rfl, rfl⟩
        refine xRe ?_
        refine wpq_then ?_
        refine xSub [(0, vp b_n 0), (2, vp b2 0), (6, vp b8 0), (7, vp b9 0), (44, vb y10)] ?_
        refine xLetJ hS (fun g own sl t13 => ∃ (A13_1 : Option Addr) (c13_1 : Nat), own = [some ⟨b9, 82, [vb true, vb t13.1]⟩, some ⟨b8, 122, [vs An_input n.input cn_input, vs A13_1 t13.2 c13_1]⟩, some ⟨b2, 100, (cFrame (⟨0, 0, 0, ([] : List UInt8)⟩ : Frame) none 0)⟩, some ⟨b_n, 131, (cNode ({ n with next_ := 3 }) An_input cn_input An_heard_input cn_heard_input An_set__in_ cn_set__in_)⟩] ∧ sl = [(0, vp b_n 0), (2, vp b2 0), (6, vp b8 0), (7, vp b9 0)] ∧ Arr g.b tyU8 A13_1 c13_1 t13.2) ?_ ?_
        · rintro g14 _ _ t13 e15 ⟨A13_1, c13_1, rfl, rfl, f13_1⟩ hS
          have nf13_1 := f13_1.len
          refine wpq_then ?_
          refine xSq ?_
          refine xRg ?_
          refine xB 8 [(1, 1), (3, 0), (5, 1), (7, 0)] [(0, vp b_n 0), (2, vp b2 0), (64, vs An_input n.input cn_input), (66, vb true), (68, vs A13_1 t13.2 c13_1), (70, vb t13.1)] ?_
          have fn_input := fn_input.mono (e12.trans e15).b
          obtain ⟨y16, hy16, hS⟩ := bindO_T hS
          refine xE (eC 0 (fun g' lr eb ln => c15 g' (n.input : List UInt8) An_input cn_input (true) (t13.2 : List UInt8) A13_1 c13_1 (t13.1) ((fn_input.mono g14.br).mono lr) ((f13_1.mono g14.br).mono lr) hy16)) ?_
          rintro _ g17 _ e18 ⟨_, rfl, A16_0, c16_0, k16_0, rfl, rfl, h16_0⟩
          have nh16_0 := h16_0.len
          refine xB 5 [] [(0, vp b_n 0), (2, vp b2 0), (8, vs A16_0 y16.1 c16_0)] ?_
          refine xRe ?_
          refine wpq_then ?_
          refine xSq ?_
          refine xDr 0 [4, 8, 12] [17, 14, 15, 16] [some ⟨b9, 82, [vb true, vb t13.1]⟩, some ⟨b8, 122, [vs An_input n.input cn_input, vs A13_1 t13.2 c13_1]⟩, some ⟨b2, 100, (cFrame (⟨0, 0, 0, ([] : List UInt8)⟩ : Frame) none 0)⟩, some ⟨b_n, 131, (cNode ({ n with next_ := 3 }) An_input cn_input An_heard_input cn_heard_input An_set__in_ cn_set__in_)⟩] 18 (fun RG => ?_) (fun _ _ _ _ _ h => h)
          refine xT 1 [0, 1, 2, 3, 4, 5, 6, 7, 8, 9, 10, 11, 12, 13, 14, 15, 16] [(4, 3), (8, 3), (12, 3)] [some 1, some 2, some 3, some 4] [(0, vp b_n 0), (2, vp b2 0), (88, Value.agg #[vi n.steps, vi n.cycle, vb n.fresh, vs A16_0 y16.1 c16_0]), (90, vp b_n 14)] RG (Psi.le.refl _) ?_
          refine xO1 (lds := [4, 8, 12]) 17 ?_
          refine xId (lds := [4, 8, 12]) (Psi.le.refl _) (eStL b_n 14 4) ?_
          rintro _ _ _ - ⟨rfl, rfl⟩
          refine kf ?_
          refine xAe (lds := [4, 8, 12]) ?_
          refine wpq_then ?_
          refine xSub [(0, vp b_n 0), (2, vp b2 0)] ?_
          refine xSq ?_
          refine xRg ?_
          refine xB 4 [(3, 4)] [(0, vp b_n 0), (2, vp b2 0), (95, Value.agg #[vi n.steps, vi n.cycle, vb n.fresh, vs A16_0 y16.1 c16_0])] ?_
          refine wpq_freeze 0 (by kernel_rfl) h16_0 (fun g19 e20 f21 => ?_)
          obtain ⟨y22, hy22, hS⟩ := bindO_T hS
          refine xE (eC 0 (fun g' lr eb ln => c31 g' ({ n with in_ := y16.1 }) A16_0 c16_0 ((f21.mono g19.br).mono lr) hy22)) ?_
          rintro _ g23 _ e24 ⟨_, rfl, A22_0, c22_0, k22_0, rfl, rfl, h22_0⟩
          have nh22_0 := h22_0.len
          refine xB 5 [] [(0, vp b_n 0), (2, vp b2 0), (10, vs A22_0 y22.1 c22_0)] ?_
          refine xRe ?_
          refine wpq_then ?_
          refine xSq ?_
          refine xRg ?_
          refine xB 2 [] [(2, vp b2 0), (99, vp b_n 0), (100, vs A22_0 y22.1 c22_0)] ?_
          refine wpq_freeze 0 (by kernel_rfl) h22_0 (fun g25 e26 f27 => ?_)
          have fn_input := fn_input.mono (e18.trans (e20.trans (e24.trans e26))).b
          have fn_heard_input := fn_heard_input.mono (e12.trans (e15.trans (e18.trans (e20.trans (e24.trans e26))))).b
          have f21 := f21.mono (e24.trans e26).b
          obtain ⟨y28, hy28, hS⟩ := letJ_T hS
          refine xE (eC 0 (fun g' lr eb ln => c70 g' ⟨b_n, 0, none⟩ ({ n with next_ := 3, set_ := { n with in_ := y16.1 } }) An_input cn_input An_heard_input cn_heard_input A16_0 c16_0 (2 : Int) (y22.1 : List UInt8) A22_0 c22_0 (cells_lent' 5 b_n 0 (cNode ({ n with next_ := 3, set_ := { n with in_ := y16.1 } }) An_input cn_input An_heard_input cn_heard_input A16_0 c16_0) ln) ((fn_input.mono g25.br).mono lr) ((fn_heard_input.mono g25.br).mono lr) ((f21.mono g25.br).mono lr) (by rw [eb]; exact f27) hy28)) ?_
          rintro _ g29 _ e30 ⟨_, rfl, A28_0_payload, c28_0_payload, rfl, rfl, f28_0_payload⟩
          have nf28_0_payload := f28_0_payload.len
          refine xBo 3 [(3, 4)] [none, none, some ⟨b9, 82, [vb true, vb t13.1]⟩, some ⟨b8, 122, [vs An_input n.input cn_input, vs A13_1 t13.2 c13_1]⟩, some ⟨b2, 100, (cFrame y28 A28_0_payload c28_0_payload)⟩, some ⟨b_n, 131, (cNode ({ n with next_ := 3, set_ := { n with in_ := y16.1 } }) An_input cn_input An_heard_input cn_heard_input A16_0 c16_0)⟩] [(2, vp b2 0), (3, vb true), (4, vi 0)] ?_
          refine xRe ?_
          refine wpq_then ?_
          have fn_input := fn_input.mono e30.b
          have fn_heard_input := fn_heard_input.mono e30.b
          have f21 := f21.mono e30.b
          have eS := (Option.some.inj hS).symm
          subst eS
          exact xRetC [some 5] [(2, 4)] (e5.trans (e12.trans (e15.trans (e18.trans (e20.trans (e24.trans (e26.trans e30))))))) ⟨An_input, cn_input, An_heard_input, cn_heard_input, A16_0, c16_0, A28_0_payload, c28_0_payload, by kernel_rfl, by kernel_rfl, fn_input, fn_heard_input, f21, f28_0_payload⟩ (fun _ _ h => h)
        · intro u13 hS hN13
          refine xCd (y10) (fun h31 => ?_) (fun h31 => ?_)
          · have hS := cond_T h31 hS
            refine xDr 0 [3, 8, 14] [18, 17] [some ⟨b2, 100, (cFrame (⟨0, 0, 0, ([] : List UInt8)⟩ : Frame) none 0)⟩, some ⟨b_n, 131, (cNode ({ n with next_ := 3 }) An_input cn_input An_heard_input cn_heard_input An_set__in_ cn_set__in_)⟩] 19 (fun RG => ?_) (fun _ _ _ _ _ h => h)
            refine xT 15 [0, 1, 2, 3] [(3, 1)] [some 2, some 3] [(0, vp b_n 0), (2, vp b2 0), (6, vp b8 0), (7, vp b9 0), (48, vi n.number)] RG (Psi.le.refl _) ?_
            refine xTp 4 RG (fun _ => (qSub .i64 (2) (n.number) (wr64 (by omega)))) ?_
            refine xT 10 [5, 6, 7, 8] [(8, 1)] [some 2, some 3] [(0, vp b_n 0), (2, vp b2 0), (6, vp b8 0), (7, vp b9 0), (49, vi (2 - n.number)), (53, vi n.number)] RG (Psi.le.refl _) ?_
            refine xTp 9 RG (fun _ => (qSub .i64 (2) (n.number) (wr64 (by omega)))) ?_
            refine xT 4 [10, 11, 12, 13, 14] [(14, 1)] [some 2, some 3] [(0, vp b_n 0), (2, vp b2 0), (6, vp b8 0), (7, vp b9 0), (49, vi (2 - n.number)), (54, vi (2 - n.number)), (59, vs An_heard_input n.heard.input cn_heard_input)] RG (Psi.le.refl _) ?_
            refine wpq_re 49 (v := vi (2 - n.number)) (vi 1) (by kernel_rfl) (congrArg (Value.int .i64) (by first | omega | (rw [IntKind.wrap_i64]; omega))) ?_
            refine xT 3 [15] [] [some 2, some 3] [(0, vp b_n 0), (2, vp b2 0), (6, vp b8 0), (7, vp b9 0), (54, vi (2 - n.number)), (59, vs An_heard_input n.heard.input cn_heard_input), (60, vp b8 1)] RG (Psi.le.refl _) ?_
            refine xO1 (lds := [3, 8, 14]) 16 ?_
            refine xId (lds := [3, 8, 14]) (Psi.le.refl _) (eStL b8 1 1) ?_
            rintro _ _ _ - ⟨rfl, rfl⟩
            refine kk [some 2, some 3] ?_
            refine wpq_re 54 (v := vi (2 - n.number)) (vi 1) (by kernel_rfl) (congrArg (Value.int .i64) (by first | omega | (rw [IntKind.wrap_i64]; omega))) ?_
            refine xT 1 [17] [] [some 2, some 3] [(0, vp b_n 0), (2, vp b2 0), (6, vp b8 0), (7, vp b9 0), (61, vp b9 1)] RG (Psi.le.refl _) ?_
            refine xO1 (lds := [3, 8, 14]) 18 ?_
            refine xId (lds := [3, 8, 14]) (Psi.le.refl _) (eStL b9 1 0) ?_
            rintro _ _ _ - ⟨rfl, rfl⟩
            refine kf ?_
            refine xAe (lds := [3, 8, 14]) ?_
            have fn_heard_input := fn_heard_input.mono e12.b
            refine xSub [(0, vp b_n 0), (2, vp b2 0), (6, vp b8 0), (7, vp b9 0)] ?_
            have eS := hS.symm
            exact hN13 _ eS _ _ _ (Gh.le.refl _) ⟨An_heard_input, cn_heard_input, by kernel_rfl, by kernel_rfl, fn_heard_input⟩
          · have hS := cond_F h31 hS
            refine xSk ?_
            refine xSub [(0, vp b_n 0), (2, vp b2 0), (6, vp b8 0), (7, vp b9 0)] ?_
            have eS := hS.symm
            exact hN13 _ eS _ _ _ (Gh.le.refl _) ⟨none, 0, by kernel_rfl, by kernel_rfl, Arr.nil⟩
  · have hS := cond_F h1 hS
    obtain ⟨h32, hS⟩ := grd_T hS
    have h32p : n.number = 2 := eq_of_beq h32
    refine xSq ?_
    refine xRg ?_
    refine xE eB ?_
    rintro _ _ _ - ⟨b33, rfl, rfl, rfl⟩
    refine xB 2 [] [(0, vp b_n 0), (2, vp b33 0)] ?_
    refine xRe ?_
    refine wpq_then ?_
    refine xSq ?_
    refine xSq ?_
    refine xRg ?_
    refine xB 1 [] [(0, vp b_n 0), (2, vp b33 0), (12, vp b_n 0)] ?_
    obtain ⟨y34, hy34, hS⟩ := letJ_T hS
    refine xE (eC 0 (fun g' lr eb ln => c69 g' ⟨b_n, 0, none⟩ n An_input cn_input An_heard_input cn_heard_input An_set__in_ cn_set__in_ (2 : Int) (cells_lent' 1 b_n 0 (cNode n An_input cn_input An_heard_input cn_heard_input An_set__in_ cn_set__in_) ln) ((fn_input.mono g.br).mono lr) ((fn_heard_input.mono g.br).mono lr) ((fn_set__in_.mono g.br).mono lr) hy34)) ?_
    rintro _ g35 _ e36 ⟨_, rfl, rfl, rfl⟩
    refine xB 1 [] [(0, vp b_n 0), (2, vp b33 0), (5, vi y34)] ?_
    refine xRe ?_
    refine wpq_then ?_
    refine xSq ?_
    refine xRg ?_
    refine xB 2 [] [(0, vp b_n 0), (2, vp b33 0), (5, vi y34), (15, vb (y34 != 0))] ?_
    refine xRe ?_
    refine wpq_then ?_
    refine xCd ((y34 != 0)) (fun h37 => ?_) (fun h37 => ?_)
    · have hS := cond_T h37 hS
      have h37p : ¬ (y34 = 0) := ne_of_bne_ h37
      refine xSq ?_
      refine xRg ?_
      refine xBo 5 [(2, 0)] [some ⟨b33, 100, (cFrame (⟨0, 0, 0, ([] : List UInt8)⟩ : Frame) none 0)⟩, some ⟨b_n, 131, (cNode n An_input cn_input An_heard_input cn_heard_input An_set__in_ cn_set__in_)⟩] [(2, vp b33 0), (3, vb false), (4, vi y34)] ?_
      refine xRe ?_
      refine wpq_then ?_
      have fn_input := fn_input.mono e36.b
      have fn_heard_input := fn_heard_input.mono e36.b
      have fn_set__in_ := fn_set__in_.mono e36.b
      have eS := (Option.some.inj hS).symm
      subst eS
      exact xRetC [some 1] [(2, 0)] e36 ⟨An_input, cn_input, An_heard_input, cn_heard_input, An_set__in_, cn_set__in_, none, 0, by kernel_rfl, by kernel_rfl, fn_input, fn_heard_input, fn_set__in_, Arr.nil⟩ (fun _ _ h => h)
    · have hS := cond_F h37 hS
      have h37p : y34 = 0 := eq_of_bne_false_ h37
      refine xSk ?_
      refine wpq_then ?_
      refine xSub [(0, vp b_n 0), (2, vp b33 0)] ?_
      refine xSq ?_
      refine xRg ?_
      refine xBo 4 [(3, 1)] [some ⟨b33, 100, (cFrame (⟨0, 0, 0, ([] : List UInt8)⟩ : Frame) none 0)⟩, some ⟨b_n, 131, (cNode ({ n with next_ := 3 }) An_input cn_input An_heard_input cn_heard_input An_set__in_ cn_set__in_)⟩] [(0, vp b_n 0), (2, vp b33 0)] ?_
      refine xRe ?_
      refine wpq_then ?_
      refine xSq ?_
      refine xSq ?_
      refine xRg ?_
      refine xB 5 [(3, 1)] [(0, vp b_n 0), (2, vp b33 0), (25, vb (n.role != 2))] ?_
      refine xRe ?_
      refine wpq_then ?_
      refine xCd ((n.role != 2)) (fun h38 => ?_) (fun h38 => ?_)
      · have hS := cond_T h38 hS
        have h38p : ¬ (n.role = 2) := ne_of_bne_ h38
        refine xSq ?_
        refine xRg ?_
        refine xBo 4 [(1, 0)] [some ⟨b33, 100, (cFrame (⟨0, 0, 0, ([] : List UInt8)⟩ : Frame) none 0)⟩, some ⟨b_n, 131, (cNode ({ n with next_ := 3 }) An_input cn_input An_heard_input cn_heard_input An_set__in_ cn_set__in_)⟩] [(2, vp b33 0), (3, vb false), (4, vi 0)] ?_
        refine xRe ?_
        refine wpq_then ?_
        have fn_input := fn_input.mono e36.b
        have fn_heard_input := fn_heard_input.mono e36.b
        have fn_set__in_ := fn_set__in_.mono e36.b
        have eS := (Option.some.inj hS).symm
        subst eS
        exact xRetC [some 1] [(2, 0)] e36 ⟨An_input, cn_input, An_heard_input, cn_heard_input, An_set__in_, cn_set__in_, none, 0, by kernel_rfl, by kernel_rfl, fn_input, fn_heard_input, fn_set__in_, Arr.nil⟩ (fun _ _ h => h)
      · have hS := cond_F h38 hS
        have h38p : n.role = 2 := eq_of_bne_false_ h38
        refine xSk ?_
        refine wpq_then ?_
        refine xSub [(0, vp b_n 0), (2, vp b33 0)] ?_
        refine xSq ?_
        refine xRg ?_
        refine xE eB ?_
        rintro _ _ _ - ⟨b39, rfl, rfl, rfl⟩
        refine xRe ?_
        refine wpq_then ?_
        refine xSq ?_
        refine xRg ?_
        refine xE eB ?_
        rintro _ _ _ - ⟨b40, rfl, rfl, rfl⟩
        refine xRe ?_
        refine wpq_then ?_
        refine xSq ?_
        refine xDr 0 [3, 8, 13] [17, 16] [some ⟨b33, 100, (cFrame (⟨0, 0, 0, ([] : List UInt8)⟩ : Frame) none 0)⟩, some ⟨b_n, 131, (cNode ({ n with next_ := 3 }) An_input cn_input An_heard_input cn_heard_input An_set__in_ cn_set__in_)⟩] 18 (fun RG => ?_) (fun _ _ _ _ _ h => h)
        refine xT 14 [0, 1, 2, 3] [(3, 1)] [some 2, some 3] [(0, vp b_n 0), (2, vp b33 0), (6, vp b39 0), (7, vp b40 0), (30, vi n.number)] RG (Psi.le.refl _) ?_
        refine xTp 4 RG (fun _ => (qSub .i64 (n.number) (1) (wr64 (by omega)))) ?_
        refine xT 9 [5, 6, 7, 8] [(8, 1)] [some 2, some 3] [(0, vp b_n 0), (2, vp b33 0), (6, vp b39 0), (7, vp b40 0), (31, vi (n.number - 1)), (35, vi n.number)] RG (Psi.le.refl _) ?_
        refine xTp 9 RG (fun _ => (qSub .i64 (n.number) (1) (wr64 (by omega)))) ?_
        refine xT 4 [10, 11, 12, 13] [(13, 1)] [some 2, some 3] [(0, vp b_n 0), (2, vp b33 0), (6, vp b39 0), (7, vp b40 0), (31, vi (n.number - 1)), (36, vi (n.number - 1)), (40, vs An_input n.input cn_input)] RG (Psi.le.refl _) ?_
        refine wpq_re 31 (v := vi (n.number - 1)) (vi 1) (by kernel_rfl) (congrArg (Value.int .i64) (by first | omega | (rw [IntKind.wrap_i64]; omega))) ?_
        refine xT 3 [14] [] [some 2, some 3] [(0, vp b_n 0), (2, vp b33 0), (6, vp b39 0), (7, vp b40 0), (36, vi (n.number - 1)), (40, vs An_input n.input cn_input), (41, vp b39 1)] RG (Psi.le.refl _) ?_
        refine xO1 (lds := [3, 8, 13]) 15 ?_
        refine xId (lds := [3, 8, 13]) (Psi.le.refl _) (eStL b39 1 1) ?_
        rintro _ _ _ - ⟨rfl, rfl⟩
        refine kk [some 2, some 3] ?_
        refine wpq_re 36 (v := vi (n.number - 1)) (vi 1) (by kernel_rfl) (congrArg (Value.int .i64) (by first | omega | (rw [IntKind.wrap_i64]; omega))) ?_
        refine xT 1 [16] [] [some 2, some 3] [(0, vp b_n 0), (2, vp b33 0), (6, vp b39 0), (7, vp b40 0), (42, vp b40 1)] RG (Psi.le.refl _) ?_
        refine xO1 (lds := [3, 8, 13]) 17 ?_
        refine xId (lds := [3, 8, 13]) (Psi.le.refl _) (eStL b40 1 0) ?_
        rintro _ _ _ - ⟨rfl, rfl⟩
        refine kf ?_
        refine xAe (lds := [3, 8, 13]) ?_
        refine wpq_then ?_
        refine xSub [(0, vp b_n 0), (2, vp b33 0), (6, vp b39 0), (7, vp b40 0)] ?_
        refine xSq ?_
        refine xSq ?_
        refine xRg ?_
        refine xB 1 [] [(0, vp b_n 0), (2, vp b33 0), (6, vp b39 0), (7, vp b40 0), (43, vp b_n 0)] ?_
        have fn_input := fn_input.mono e36.b
        have fn_heard_input := fn_heard_input.mono e36.b
        have fn_set__in_ := fn_set__in_.mono e36.b
        obtain ⟨y41, hy41, hS⟩ := letJ_T hS
        refine xE (eC 0 (fun g' lr eb ln => c72 g' ⟨b_n, 0, none⟩ ({ n with next_ := 3 }) An_input cn_input An_heard_input cn_heard_input An_set__in_ cn_set__in_ (cells_lent' 3 b_n 0 (cNode ({ n with next_ := 3 }) An_input cn_input An_heard_input cn_heard_input An_set__in_ cn_set__in_) ln) ((fn_input.mono g35.br).mono lr) ((fn_heard_input.mono g35.br).mono lr) ((fn_set__in_.mono g35.br).mono lr) hy41)) ?_
        rintro _ g42 _ e43 ⟨_, rfl, rfl, rfl⟩
        refine xRe ?_
        refine wpq_then ?_
        refine xSub [(0, vp b_n 0), (2, vp b33 0), (6, vp b39 0), (7, vp b40 0), (44, vb y41)] ?_
        refine xLetJ hS (fun g own sl t44 => ∃ (A44_1 : Option Addr) (c44_1 : Nat), own = [some ⟨b40, 82, [vb t44.1, vb true]⟩, some ⟨b39, 122, [vs A44_1 t44.2 c44_1, vs An_input n.input cn_input]⟩, some ⟨b33, 100, (cFrame (⟨0, 0, 0, ([] : List UInt8)⟩ : Frame) none 0)⟩, some ⟨b_n, 131, (cNode ({ n with next_ := 3 }) An_input cn_input An_heard_input cn_heard_input An_set__in_ cn_set__in_)⟩] ∧ sl = [(0, vp b_n 0), (2, vp b33 0), (6, vp b39 0), (7, vp b40 0)] ∧ Arr g.b tyU8 A44_1 c44_1 t44.2) ?_ ?_
        · rintro g45 _ _ t44 e46 ⟨A44_1, c44_1, rfl, rfl, f44_1⟩ hS
          have nf44_1 := f44_1.len
          refine wpq_then ?_
          refine xSq ?_
          refine xRg ?_
          refine xB 8 [(1, 1), (3, 0), (5, 1), (7, 0)] [(0, vp b_n 0), (2, vp b33 0), (64, vs A44_1 t44.2 c44_1), (66, vb t44.1), (68, vs An_input n.input cn_input), (70, vb true)] ?_
          have fn_input := fn_input.mono (e43.trans e46).b
          obtain ⟨y47, hy47, hS⟩ := bindO_T hS
          refine xE (eC 0 (fun g' lr eb ln => c15 g' (t44.2 : List UInt8) A44_1 c44_1 (t44.1) (n.input : List UInt8) An_input cn_input (true) ((f44_1.mono g45.br).mono lr) ((fn_input.mono g45.br).mono lr) hy47)) ?_
          rintro _ g48 _ e49 ⟨_, rfl, A47_0, c47_0, k47_0, rfl, rfl, h47_0⟩
          have nh47_0 := h47_0.len
          refine xB 5 [] [(0, vp b_n 0), (2, vp b33 0), (8, vs A47_0 y47.1 c47_0)] ?_
          refine xRe ?_
          refine wpq_then ?_
          refine xSq ?_
          refine xDr 0 [4, 8, 12] [17, 14, 15, 16] [some ⟨b40, 82, [vb t44.1, vb true]⟩, some ⟨b39, 122, [vs A44_1 t44.2 c44_1, vs An_input n.input cn_input]⟩, some ⟨b33, 100, (cFrame (⟨0, 0, 0, ([] : List UInt8)⟩ : Frame) none 0)⟩, some ⟨b_n, 131, (cNode ({ n with next_ := 3 }) An_input cn_input An_heard_input cn_heard_input An_set__in_ cn_set__in_)⟩] 18 (fun RG => ?_) (fun _ _ _ _ _ h => h)
          refine xT 1 [0, 1, 2, 3, 4, 5, 6, 7, 8, 9, 10, 11, 12, 13, 14, 15, 16] [(4, 3), (8, 3), (12, 3)] [some 1, some 2, some 3, some 4] [(0, vp b_n 0), (2, vp b33 0), (88, Value.agg #[vi n.steps, vi n.cycle, vb n.fresh, vs A47_0 y47.1 c47_0]), (90, vp b_n 14)] RG (Psi.le.refl _) ?_
          refine xO1 (lds := [4, 8, 12]) 17 ?_
          refine xId (lds := [4, 8, 12]) (Psi.le.refl _) (eStL b_n 14 4) ?_
          rintro _ _ _ - ⟨rfl, rfl⟩
          refine kf ?_
          refine xAe (lds := [4, 8, 12]) ?_
          refine wpq_then ?_
          refine xSub [(0, vp b_n 0), (2, vp b33 0)] ?_
          refine xSq ?_
          refine xRg ?_
          refine xB 4 [(3, 4)] [(0, vp b_n 0), (2, vp b33 0), (95, Value.agg #[vi n.steps, vi n.cycle, vb n.fresh, vs A47_0 y47.1 c47_0])] ?_
          refine wpq_freeze 0 (by kernel_rfl) h47_0 (fun g50 e51 f52 => ?_)
          obtain ⟨y53, hy53, hS⟩ := bindO_T hS
          refine xE (eC 0 (fun g' lr eb ln => c31 g' ({ n with in_ := y47.1 }) A47_0 c47_0 ((f52.mono g50.br).mono lr) hy53)) ?_
          rintro _ g54 _ e55 ⟨_, rfl, A53_0, c53_0, k53_0, rfl, rfl, h53_0⟩
          have nh53_0 := h53_0.len
          refine xB 5 [] [(0, vp b_n 0), (2, vp b33 0), (10, vs A53_0 y53.1 c53_0)] ?_
          refine xRe ?_
          refine wpq_then ?_
          refine xSq ?_
          refine xRg ?_
          refine xB 2 [] [(2, vp b33 0), (99, vp b_n 0), (100, vs A53_0 y53.1 c53_0)] ?_
          refine wpq_freeze 0 (by kernel_rfl) h53_0 (fun g56 e57 f58 => ?_)
          have fn_input := fn_input.mono (e49.trans (e51.trans (e55.trans e57))).b
          have fn_heard_input := fn_heard_input.mono (e43.trans (e46.trans (e49.trans (e51.trans (e55.trans e57))))).b
          have f52 := f52.mono (e55.trans e57).b
          obtain ⟨y59, hy59, hS⟩ := letJ_T hS
          refine xE (eC 0 (fun g' lr eb ln => c70 g' ⟨b_n, 0, none⟩ ({ n with next_ := 3, set_ := { n with in_ := y47.1 } }) An_input cn_input An_heard_input cn_heard_input A47_0 c47_0 (2 : Int) (y53.1 : List UInt8) A53_0 c53_0 (cells_lent' 5 b_n 0 (cNode ({ n with next_ := 3, set_ := { n with in_ := y47.1 } }) An_input cn_input An_heard_input cn_heard_input A47_0 c47_0) ln) ((fn_input.mono g56.br).mono lr) ((fn_heard_input.mono g56.br).mono lr) ((f52.mono g56.br).mono lr) (by rw [eb]; exact f58) hy59)) ?_
          rintro _ g60 _ e61 ⟨_, rfl, A59_0_payload, c59_0_payload, rfl, rfl, f59_0_payload⟩
          have nf59_0_payload := f59_0_payload.len
          refine xBo 3 [(3, 4)] [none, none, some ⟨b40, 82, [vb t44.1, vb true]⟩, some ⟨b39, 122, [vs A44_1 t44.2 c44_1, vs An_input n.input cn_input]⟩, some ⟨b33, 100, (cFrame y59 A59_0_payload c59_0_payload)⟩, some ⟨b_n, 131, (cNode ({ n with next_ := 3, set_ := { n with in_ := y47.1 } }) An_input cn_input An_heard_input cn_heard_input A47_0 c47_0)⟩] [(2, vp b33 0), (3, vb true), (4, vi 0)] ?_
          refine xRe ?_
          refine wpq_then ?_
          have fn_input := fn_input.mono e61.b
          have fn_heard_input := fn_heard_input.mono e61.b
          have f52 := f52.mono e61.b
          have eS := (Option.some.inj hS).symm
          subst eS
          exact xRetC [some 5] [(2, 4)] (e36.trans (e43.trans (e46.trans (e49.trans (e51.trans (e55.trans (e57.trans e61))))))) ⟨An_input, cn_input, An_heard_input, cn_heard_input, A47_0, c47_0, A59_0_payload, c59_0_payload, by kernel_rfl, by kernel_rfl, fn_input, fn_heard_input, f52, f59_0_payload⟩ (fun _ _ h => h)
        · intro u44 hS hN44
          refine xCd (y41) (fun h62 => ?_) (fun h62 => ?_)
          · have hS := cond_T h62 hS
            refine xDr 0 [3, 8, 14] [18, 17] [some ⟨b33, 100, (cFrame (⟨0, 0, 0, ([] : List UInt8)⟩ : Frame) none 0)⟩, some ⟨b_n, 131, (cNode ({ n with next_ := 3 }) An_input cn_input An_heard_input cn_heard_input An_set__in_ cn_set__in_)⟩] 19 (fun RG => ?_) (fun _ _ _ _ _ h => h)
            refine xT 15 [0, 1, 2, 3] [(3, 1)] [some 2, some 3] [(0, vp b_n 0), (2, vp b33 0), (6, vp b39 0), (7, vp b40 0), (48, vi n.number)] RG (Psi.le.refl _) ?_
            refine xTp 4 RG (fun _ => (qSub .i64 (2) (n.number) (wr64 (by omega)))) ?_
            refine xT 10 [5, 6, 7, 8] [(8, 1)] [some 2, some 3] [(0, vp b_n 0), (2, vp b33 0), (6, vp b39 0), (7, vp b40 0), (49, vi (2 - n.number)), (53, vi n.number)] RG (Psi.le.refl _) ?_
            refine xTp 9 RG (fun _ => (qSub .i64 (2) (n.number) (wr64 (by omega)))) ?_
            refine xT 4 [10, 11, 12, 13, 14] [(14, 1)] [some 2, some 3] [(0, vp b_n 0), (2, vp b33 0), (6, vp b39 0), (7, vp b40 0), (49, vi (2 - n.number)), (54, vi (2 - n.number)), (59, vs An_heard_input n.heard.input cn_heard_input)] RG (Psi.le.refl _) ?_
            refine wpq_re 49 (v := vi (2 - n.number)) (vi 0) (by kernel_rfl) (congrArg (Value.int .i64) (by first | omega | (rw [IntKind.wrap_i64]; omega))) ?_
            refine xT 3 [15] [] [some 2, some 3] [(0, vp b_n 0), (2, vp b33 0), (6, vp b39 0), (7, vp b40 0), (54, vi (2 - n.number)), (59, vs An_heard_input n.heard.input cn_heard_input), (60, vp b39 0)] RG (Psi.le.refl _) ?_
            refine xO1 (lds := [3, 8, 14]) 16 ?_
            refine xId (lds := [3, 8, 14]) (Psi.le.refl _) (eStL b39 0 1) ?_
            rintro _ _ _ - ⟨rfl, rfl⟩
            refine kk [some 2, some 3] ?_
            refine wpq_re 54 (v := vi (2 - n.number)) (vi 0) (by kernel_rfl) (congrArg (Value.int .i64) (by first | omega | (rw [IntKind.wrap_i64]; omega))) ?_
            refine xT 1 [17] [] [some 2, some 3] [(0, vp b_n 0), (2, vp b33 0), (6, vp b39 0), (7, vp b40 0), (61, vp b40 0)] RG (Psi.le.refl _) ?_
            refine xO1 (lds := [3, 8, 14]) 18 ?_
            refine xId (lds := [3, 8, 14]) (Psi.le.refl _) (eStL b40 0 0) ?_
            rintro _ _ _ - ⟨rfl, rfl⟩
            refine kf ?_
            refine xAe (lds := [3, 8, 14]) ?_
            have fn_heard_input := fn_heard_input.mono e43.b
            refine xSub [(0, vp b_n 0), (2, vp b33 0), (6, vp b39 0), (7, vp b40 0)] ?_
            have eS := hS.symm
            exact hN44 _ eS _ _ _ (Gh.le.refl _) ⟨An_heard_input, cn_heard_input, by kernel_rfl, by kernel_rfl, fn_heard_input⟩
          · have hS := cond_F h62 hS
            refine xSk ?_
            refine xSub [(0, vp b_n 0), (2, vp b33 0), (6, vp b39 0), (7, vp b40 0)] ?_
            have eS := hS.symm
            exact hN44 _ eS _ _ _ (Gh.le.refl _) ⟨none, 0, by kernel_rfl, by kernel_rfl, Arr.nil⟩

def o34 (cycle : Int) (p : List UInt8) : Option (Sett × Int) :=
  (cond ((decide ((((p).length : Nat) : Int) < 9) || decide (((List.getD p 8 0).toNat : Int) > 1))) (some (((⟨0, 0, false, ([] : List UInt8)⟩ : Sett), (4 : Int)))) (bindO (τ := Int) (o55 (p : List UInt8) (8 : Int)) fun y10 => (letJ (τ := (List UInt8)) (o56 ((List.drop 9 p) : List UInt8)) fun y13 => (bindO (τ := (List UInt8) × Int) (o31 (⟨y10, cycle, (((List.getD p 8 0).toNat : Int) == 1), y13⟩ : Sett)) fun y215 => (cond ((y215.2 != 0)) (some (((⟨0, 0, false, ([] : List UInt8)⟩ : Sett), (4 : Int)))) (some (((⟨y10, cycle, (((List.getD p 8 0).toNat : Int) == 1), y13⟩ : Sett), (0 : Int)))))))))
set_option maxRecDepth 100000 in
theorem c34 (g : Gh) (cycle : Int) (p : List UInt8) (Ap : Option Addr) (cp : Nat) (fp : Arr g.r tyU8 Ap cp p) {r : Sett × Int} (hS : o34 cycle p = some r) :
    Ctr Try.prog 34 [vi cycle, vs Ap p cp] g [] (fun v ψ o => ∃ (Ar_0_in_ : Option Addr) (cr_0_in_ : Nat), v = Value.tuple #[Value.agg #[vi r.1.steps, vi r.1.cycle, vb r.1.fresh, vs Ar_0_in_ r.1.in_ cr_0_in_], vi r.2] ∧ o = [] ∧ Arr ψ tyU8 Ar_0_in_ cr_0_in_ r.1.in_) := by
  unfold o34 at hS
  refine xFn Try.f34 (Try.f34.body.getD .skip) 39 ?_
  have nfp := fp.len
  refine xSq ?_
  refine xRg ?_
  refine xE eB ?_
  rintro _ _ _ - ⟨b1, rfl, rfl, rfl⟩
  refine xB 1 [] [(0, vi cycle), (1, vs Ap p cp), (4, vp b1 0)] ?_
  refine xRe ?_
  refine wpq_then ?_
  refine xSq ?_
  refine xSq ?_
  refine xRg ?_
  refine xB 4 [] [(0, vi cycle), (1, vs Ap p cp), (4, vp b1 0), (12, vb (decide ((((p).length : Nat) : Int) < 9)))] ?_
  refine wpr_grp 9 [(0, vi cycle), (1, vs Ap p cp), (4, vp b1 0), (17, vb (decide ((((p).length : Nat) : Int) < 9) || decide (((List.getD p 8 0).toNat : Int) > 1)))] (fun hk3 => ?_) ?_
  · refine wpq_split 12 (b := decide ((((p).length : Nat) : Int) < 9)) (by kernel_rfl) (fun q2 => ?_) (fun q2 => ?_)
    · have q2p := of_decide_eq_true q2
      refine xB 5 [] [(0, vi cycle), (1, vs Ap p cp), (4, vp b1 0), (17, vb true)] ?_
      refine wpq_re 17 (v := vb true) (Value.bool ((decide ((((p).length : Nat) : Int) < 9) || decide (((List.getD p 8 0).toNat : Int) > 1)))) (by kernel_rfl) (re_or1 q2) ?_
      exact wpq_sub _ (by kernel_rfl) hk3
    · have q2p := of_decide_eq_false q2
      have i4 : 8 < (p).length := by omega
      obtain ⟨ad3, cs3, hA3, hr3, hc3⟩ := fp.at_ (get_getD (d := 0) i4)
      have hr3 : cs3 = [vy ((List.getD p 8 0).toNat : Int)] := hr3
      subst hr3
      have nb3 := UInt8.toNat_lt (List.getD p 8 0)
      refine xB 1 [] [(0, vi cycle), (1, vs Ap p cp), (4, vp b1 0), (12, vb false), (13, vs Ap p cp)] ?_
      refine xV (qIx 8 1 hA3 rfl i4) ?_
      refine xV (qLdP (Addr.add ad3 (8 * 1)) 0 hc3) ?_
      refine xB 2 [] [(0, vi cycle), (1, vs Ap p cp), (4, vp b1 0), (17, vb (decide (((List.getD p 8 0).toNat : Int) > 1)))] ?_
      refine wpq_re 17 (v := vb (decide (((List.getD p 8 0).toNat : Int) > 1))) (Value.bool ((decide ((((p).length : Nat) : Int) < 9) || decide (((List.getD p 8 0).toNat : Int) > 1)))) (by kernel_rfl) (re_or0 q2) ?_
      exact wpq_sub _ (by kernel_rfl) hk3
  · refine xRe ?_
    refine wpq_then ?_
    refine xCd ((decide ((((p).length : Nat) : Int) < 9) || decide (((List.getD p 8 0).toNat : Int) > 1))) (fun h5 => ?_) (fun h5 => ?_)
    · have hS := cond_T h5 hS
      refine xSq ?_
      refine xRg ?_
      refine xBo 3 [(1, 0)] [some ⟨b1, 64, (cSett (⟨0, 0, false, ([] : List UInt8)⟩ : Sett) none 0)⟩] [(4, vp b1 0), (5, vi 4)] ?_
      refine xRe ?_
      refine wpq_then ?_
      have eS := (Option.some.inj hS).symm
      subst eS
      exact xRetC [] [(4, 0)] (Gh.le.refl _) ⟨none, 0, by kernel_rfl, by kernel_rfl, Arr.nil⟩ (fun _ _ h => h)
    · have hS := cond_F h5 hS
      have h5l := (or_false_ h5).1
      have h5r := (or_false_ h5).2
      have h5lp := of_decide_eq_false h5l
      have h5rp := of_decide_eq_false h5r
      refine xSk ?_
      refine wpq_then ?_
      refine xSub [(0, vi cycle), (1, vs Ap p cp), (4, vp b1 0)] ?_
      refine xSq ?_
      refine xDr 0 [5] [12, 6] [some ⟨b1, 64, (cSett (⟨0, 0, false, ([] : List UInt8)⟩ : Sett) none 0)⟩] 13 (fun RG => ?_) (fun _ _ _ _ _ h => h)
      have i7 : 8 < (p).length := by omega
      obtain ⟨ad6, cs6, hA6, hr6, hc6⟩ := fp.at_ (get_getD (d := 0) i7)
      have hr6 : cs6 = [vy ((List.getD p 8 0).toNat : Int)] := hr6
      subst hr6
      have nb6 := UInt8.toNat_lt (List.getD p 8 0)
      refine xT 10 [0, 2, 3] [] [some 0] [(1, vs Ap p cp), (4, vp b1 0), (19, vs Ap p cp), (21, vi cycle), (22, vs Ap p cp)] RG (Psi.le.refl _) ?_
      refine xTp 4 RG (fun _ => (qIx 8 1 hA6 rfl i7)) ?_
      refine xTv 5 [some 0] RG (Psi.le.refl _) (qLdP (Addr.add ad6 (8 * 1)) 0 hc6) ?_
      have ncapf8 := fp.cap
      have f8 : Arr g.r tyU8 (offA Ap cp 9 1) (cp - 9) (List.drop 9 p) := fp.cut_from 9 (by omega)
      have nf8 := f8.len
      have hlf8 : (p).length - 9 = ((List.drop 9 p)).length := by simp only [List.length_take, List.length_drop] <;> omega
      have hvf8 : ((((List.drop 9 p)).length : Nat) : Int) = (((p).length : Nat) : Int) - 9 := by omega
      refine xT 6 [6, 7] [] [some 0] [(4, vp b1 0), (19, vs Ap p cp), (21, vi cycle), (25, vb (((List.getD p 8 0).toNat : Int) == 1)), (26, vs Ap p cp)] RG (Psi.le.refl _) ?_
      refine xTp 8 RG (fun _ => (qSl (m := 1) (A := Ap) (len := (p).length) (c := cp) 9 (p).length (some 9) none ((List.drop 9 p)).length rfl rfl (by omega) (by omega) hlf8)) ?_
      obtain ⟨y10, hy10, hS⟩ := bindO_T hS
      obtain ⟨y13, hy13, hS⟩ := letJ_T hS
      refine wpa_meet (fun g own sl => ∃ (A13_0 : Option Addr) (c13_0 : Nat) (k13_0 : Option Bk) (b16 : Nat), own = [some ⟨b16, 64, (cSett (⟨0, 0, false, ([] : List UInt8)⟩ : Sett) none 0)⟩, k13_0, some ⟨b1, 64, (cSett (⟨0, 0, false, ([] : List UInt8)⟩ : Sett) none 0)⟩] ∧ sl = [(4, vp b1 0), (6, vp b16 0), (29, Value.agg #[vi y10, vi cycle, vb (((List.getD p 8 0).toNat : Int) == 1), vs A13_0 y13 c13_0])] ∧ Buf g.b tyU8 5 (.slice A13_0 (y13).length c13_0) k13_0 y13) 1 [true, true, true, true, true, true, true, true, true, true, true, true, false] ?_ (fun hD9 => ?_)
      · rintro g210 _ _ e211 ⟨A13_0, c13_0, k13_0, b16, rfl, rfl, h13_0⟩
        have nh13_0 := h13_0.len
        refine xO1 (lds := [5]) 12 ?_
        refine xId (lds := [5]) e211.r (eStL b16 0 0) ?_
        rintro _ _ _ - ⟨rfl, rfl⟩
        refine kf ?_
        refine xAe (lds := [5]) ?_
        refine wpq_then ?_
        refine xSub [(4, vp b1 0), (6, vp b16 0)] ?_
        refine xSq ?_
        refine xSq ?_
        refine xRg ?_
        refine xB 1 [(0, 0)] [(4, vp b1 0), (6, vp b16 0), (31, Value.agg #[vi y10, vi cycle, vb (((List.getD p 8 0).toNat : Int) == 1), vs A13_0 y13 c13_0])] ?_
        refine wpq_freeze 1 (by kernel_rfl) h13_0 (fun g212 e213 f214 => ?_)
        obtain ⟨y215, hy215, hS⟩ := bindO_T hS
        refine xE (eC 0 (fun g' lr eb ln => c31 g' (⟨y10, cycle, (((List.getD p 8 0).toNat : Int) == 1), y13⟩ : Sett) A13_0 c13_0 ((f214.mono g212.br).mono lr) hy215)) ?_
        rintro _ g216 _ e217 ⟨_, rfl, A215_0, c215_0, k215_0, rfl, rfl, h215_0⟩
        have nh215_0 := h215_0.len
        refine xB 5 [] [(4, vp b1 0), (6, vp b16 0), (8, vi y215.2)] ?_
        refine xRe ?_
        refine wpq_then ?_
        refine xSq ?_
        refine xRg ?_
        refine xB 2 [] [(4, vp b1 0), (6, vp b16 0), (36, vb (y215.2 != 0))] ?_
        refine xRe ?_
        refine wpq_then ?_
        refine xCd ((y215.2 != 0)) (fun h218 => ?_) (fun h218 => ?_)
        · have hS := cond_T h218 hS
          have h218p : ¬ (y215.2 = 0) := ne_of_bne_ h218
          refine xSq ?_
          refine xRg ?_
          refine xBo 3 [(1, 3)] [k215_0, some ⟨b16, 64, (cSett (⟨y10, cycle, (((List.getD p 8 0).toNat : Int) == 1), y13⟩ : Sett) A13_0 c13_0)⟩, none, some ⟨b1, 64, (cSett (⟨0, 0, false, ([] : List UInt8)⟩ : Sett) none 0)⟩] [(4, vp b1 0), (5, vi 4)] ?_
          refine xRe ?_
          refine wpq_then ?_
          have eS := (Option.some.inj hS).symm
          subst eS
          exact xRetC [] [(4, 3)] (e211.trans (e213.trans e217)) ⟨none, 0, by kernel_rfl, by kernel_rfl, Arr.nil⟩ (fun _ _ h => h)
        · have hS := cond_F h218 hS
          have h218p : y215.2 = 0 := eq_of_bne_false_ h218
          refine xSk ?_
          refine wpq_then ?_
          refine xSub [(4, vp b1 0), (6, vp b16 0)] ?_
          refine xSq ?_
          refine xRg ?_
          refine xBo 3 [(0, 1), (1, 3)] [k215_0, some ⟨b16, 64, (cSett (⟨y10, cycle, (((List.getD p 8 0).toNat : Int) == 1), y13⟩ : Sett) A13_0 c13_0)⟩, none, some ⟨b1, 64, (cSett (⟨y10, cycle, (((List.getD p 8 0).toNat : Int) == 1), y13⟩ : Sett) A13_0 c13_0)⟩] [(4, vp b1 0), (5, vi 0)] ?_
          refine xRe ?_
          refine wpq_then ?_
          have f214 := f214.mono e217.b
          have eS := (Option.some.inj hS).symm
          subst eS
          exact xRetC [] [(4, 3)] (e211.trans (e213.trans e217)) ⟨A13_0, c13_0, by kernel_rfl, by kernel_rfl, f214⟩ (fun _ _ h => h)
      · refine xO2 (lds := [5]) 1 11 ?_ ?_
        · refine xIe (lds := [5]) (Psi.le.refl _) (eC 0 (fun g' lr eb ln => c55 g' (p : List UInt8) Ap cp (8 : Int) (fp.mono lr) hy10)) ?_
          rintro _ g220 _ e221 ⟨_, rfl, rfl, rfl⟩
          refine kk [some 0] ?_
          refine xO2 (lds := [5]) 9 11 ?_ ?_
          · have f8 := f8.mono e221.r
            refine xIe (lds := [5]) e221.r (eC 0 (fun g' lr eb ln => c56 g' ((List.drop 9 p) : List UInt8) (offA Ap cp 9 1) (cp - 9) (f8.mono lr) hy13)) ?_
            rintro _ g223 _ e224 ⟨_, rfl, A13_0, c13_0, k13_0, rfl, rfl, h13_0⟩
            refine kk [some 1] ?_
            have nh13_0 := h13_0.len
            refine xT 2 [10] [] [some 1] [(4, vp b1 0), (29, Value.agg #[vi y10, vi cycle, vb (((List.getD p 8 0).toNat : Int) == 1), vs A13_0 y13 c13_0])] RG (e221.trans e224).r ?_
            refine xO1 (lds := [5]) 11 ?_
            refine xIe (lds := [5]) (e221.trans e224).r eB ?_
            rintro _ _ _ - ⟨b225, rfl, rfl, rfl⟩
            refine kk [some 2] ?_
            refine xSub [(4, vp b1 0), (6, vp b225 0), (29, Value.agg #[vi y10, vi cycle, vb (((List.getD p 8 0).toNat : Int) == 1), vs A13_0 y13 c13_0])] ?_
            exact hD9 _ _ _ (e221.trans e224) ⟨A13_0, c13_0, k13_0, b225, by kernel_rfl, by kernel_rfl, h13_0⟩
          · refine xIe (lds := [5]) e221.r eB ?_
            rintro _ _ _ - ⟨b226, rfl, rfl, rfl⟩
            refine kk [some 1] ?_
            have f8 := f8.mono e221.r
            refine xO1 (lds := [5]) 9 ?_
            refine xIe (lds := [5]) e221.r (eC 0 (fun g' lr eb ln => c56 g' ((List.drop 9 p) : List UInt8) (offA Ap cp 9 1) (cp - 9) (f8.mono lr) hy13)) ?_
            rintro _ g228 _ e229 ⟨_, rfl, A13_0, c13_0, k13_0, rfl, rfl, h13_0⟩
            refine kk [some 2] ?_
            have nh13_0 := h13_0.len
            refine xT 1 [10] [] [some 2] [(4, vp b1 0), (6, vp b226 0), (29, Value.agg #[vi y10, vi cycle, vb (((List.getD p 8 0).toNat : Int) == 1), vs A13_0 y13 c13_0])] RG (e221.trans e229).r ?_
            refine xSel [some 1, some 0, some 2] ?_
            refine xSub [(4, vp b1 0), (6, vp b226 0), (29, Value.agg #[vi y10, vi cycle, vb (((List.getD p 8 0).toNat : Int) == 1), vs A13_0 y13 c13_0])] ?_
            exact hD9 _ _ _ (e221.trans e229) ⟨A13_0, c13_0, k13_0, b226, by kernel_rfl, by kernel_rfl, h13_0⟩
        · refine xIe (lds := [5]) (Psi.le.refl _) eB ?_
          rintro _ _ _ - ⟨b230, rfl, rfl, rfl⟩
          refine kk [some 1] ?_
          refine xO1 (lds := [5]) 1 ?_
          refine xIe (lds := [5]) (Psi.le.refl _) (eC 0 (fun g' lr eb ln => c55 g' (p : List UInt8) Ap cp (8 : Int) (fp.mono lr) hy10)) ?_
          rintro _ g232 _ e233 ⟨_, rfl, rfl, rfl⟩
          refine kk [some 1] ?_
          have f8 := f8.mono e233.r
          refine xO1 (lds := [5]) 9 ?_
          refine xIe (lds := [5]) e233.r (eC 0 (fun g' lr eb ln => c56 g' ((List.drop 9 p) : List UInt8) (offA Ap cp 9 1) (cp - 9) (f8.mono lr) hy13)) ?_
          rintro _ g235 _ e236 ⟨_, rfl, A13_0, c13_0, k13_0, rfl, rfl, h13_0⟩
          refine kk [some 2] ?_
          have nh13_0 := h13_0.len
          refine xT 1 [10] [] [some 2] [(4, vp b1 0), (6, vp b230 0), (29, Value.agg #[vi y10, vi cycle, vb (((List.getD p 8 0).toNat : Int) == 1), vs A13_0 y13 c13_0])] RG (e233.trans e236).r ?_
          refine xSel [some 1, some 0, some 2] ?_
          refine xSub [(4, vp b1 0), (6, vp b230 0), (29, Value.agg #[vi y10, vi cycle, vb (((List.getD p 8 0).toNat : Int) == 1), vs A13_0 y13 c13_0])] ?_
          exact hD9 _ _ _ (e233.trans e236) ⟨A13_0, c13_0, k13_0, b230, by kernel_rfl, by kernel_rfl, h13_0⟩

def o49 (n : Node) (f : Frame) (came : Bool) : Option (Node × Sett × Bool × Int) :=
  (letJ (τ := Int) (o69 n (3 : Int)) fun y3 => (cond ((y3 != 0)) (some ((n, (⟨0, 0, false, ([] : List UInt8)⟩ : Sett), (false), (y3 : Int)))) (bindO (τ := Node) (cond ((n.role == 2)) (some ((({ n with next_ := 4, has := true }) : Node))) (bindO (τ := Node) (cond ((n.role == 3)) (letJ (τ := Bool) (o71 ({ n with next_ := 4 }) f (came) (2 : Int)) fun y23 => (bindO (τ := Sett × Bool) (cond (y23) (bindO (τ := Sett × Int) (o34 (n.cycle : Int) (f.payload : List UInt8)) fun y38 => (letJ (τ := Sett × Bool) (cond ((((y38.2 == 0) && (!y38.1.fresh)) && (y38.1.steps == n.steps))) (((y38.1 : Sett), true)) (((n.set_ : Sett), n.has))) fun t242 => (some (((t242.1 : Sett), t242.2))))) (some (((n.set_ : Sett), n.has)))) fun t26 => (letJ (τ := Node) (cond ((!t26.2)) (letJ (τ := Node) (o68 ({ n with next_ := 4, set_ := t26.1, has := t26.2 })) fun y33 => ((y33 : Node))) ((({ n with next_ := 4, set_ := t26.1, has := t26.2 }) : Node))) fun t29 => (some ((t29 : Node)))))) (some ((({ n with next_ := 4 }) : Node)))) fun t19 => (some ((t19 : Node))))) fun t7 => (cond ((!t7.has)) (some ((t7, (⟨0, 0, false, ([] : List UInt8)⟩ : Sett), (false), (0 : Int)))) (letJ (τ := (List UInt8)) (o56 (t7.set_.in_ : List UInt8)) fun y12 => (some ((({ t7 with steps := (IntKind.i64.wrap (t7.steps + 1)) }), ({ t7.set_ with in_ := y12 }), (true), (0 : Int)))))))))
set_option maxRecDepth 100000 in
theorem c49 (g : Gh) (b_n : Nat) (n : Node) (An_input : Option Addr) (cn_input : Nat) (An_heard_input : Option Addr) (cn_heard_input : Nat) (An_set__in_ : Option Addr) (cn_set__in_ : Nat) (f : Frame) (Af_payload : Option Addr) (cf_payload : Nat) (came : Bool) (fn_input : Arr g.b tyU8 An_input cn_input n.input) (fn_heard_input : Arr g.b tyU8 An_heard_input cn_heard_input n.heard.input) (fn_set__in_ : Arr g.b tyU8 An_set__in_ cn_set__in_ n.set_.in_) (ff_payload : Arr g.r tyU8 Af_payload cf_payload f.payload) {r : Node × Sett × Bool × Int} (hS : o49 n f came = some r) :
    Ctr Try.prog 49 [vp b_n 0, Value.agg #[vy f.label, vy f.from_, vi f.cycle, vs Af_payload f.payload cf_payload], vb came] g [some ⟨b_n, 131, (cNode n An_input cn_input An_heard_input cn_heard_input An_set__in_ cn_set__in_)⟩] (fun v ψ o => ∃ (Ao_n_input : Option Addr) (co_n_input : Nat) (Ao_n_heard_input : Option Addr) (co_n_heard_input : Nat) (Ao_n_set__in_ : Option Addr) (co_n_set__in_ : Nat) (Ar_0_in_ : Option Addr) (cr_0_in_ : Nat), v = Value.tuple #[Value.agg #[vi r.2.1.steps, vi r.2.1.cycle, vb r.2.1.fresh, vs Ar_0_in_ r.2.1.in_ cr_0_in_], vb r.2.2.1, vi r.2.2.2] ∧ o = [some ⟨b_n, 131, (cNode r.1 Ao_n_input co_n_input Ao_n_heard_input co_n_heard_input Ao_n_set__in_ co_n_set__in_)⟩] ∧ Arr ψ tyU8 Ao_n_input co_n_input r.1.input ∧ Arr ψ tyU8 Ao_n_heard_input co_n_heard_input r.1.heard.input ∧ Arr ψ tyU8 Ao_n_set__in_ co_n_set__in_ r.1.set_.in_ ∧ Arr ψ tyU8 Ar_0_in_ cr_0_in_ r.2.1.in_) := by
  unfold o49 at hS
  refine xFn Try.f49 (Try.f49.body.getD .skip) 99 ?_
  have nfn_input := fn_input.len
  have nfn_heard_input := fn_heard_input.len
  have nfn_set__in_ := fn_set__in_.len
  have nff_payload := ff_payload.len
  refine xSq ?_
  refine xRg ?_
  refine xE eB ?_
  rintro _ _ _ - ⟨b1, rfl, rfl, rfl⟩
  refine xE eB ?_
  rintro _ _ _ - ⟨b2, rfl, rfl, rfl⟩
  refine xB 2 [] [(0, vp b_n 0), (2, vb came), (4, vp b1 0), (6, vp b2 0)] ?_
  refine xRe ?_
  refine wpq_then ?_
  refine xSq ?_
  refine xSq ?_
  refine xRg ?_
  refine xB 1 [] [(0, vp b_n 0), (2, vb came), (4, vp b1 0), (6, vp b2 0), (13, vp b_n 0)] ?_
  obtain ⟨y3, hy3, hS⟩ := letJ_T hS
  refine xE (eC 0 (fun g' lr eb ln => c69 g' ⟨b_n, 0, none⟩ n An_input cn_input An_heard_input cn_heard_input An_set__in_ cn_set__in_ (3 : Int) (cells_lent' 2 b_n 0 (cNode n An_input cn_input An_heard_input cn_heard_input An_set__in_ cn_set__in_) ln) ((fn_input.mono g.br).mono lr) ((fn_heard_input.mono g.br).mono lr) ((fn_set__in_.mono g.br).mono lr) hy3)) ?_
  rintro _ g4 _ e5 ⟨_, rfl, rfl, rfl⟩
  refine xB 1 [] [(0, vp b_n 0), (2, vb came), (4, vp b1 0), (6, vp b2 0), (9, vi y3)] ?_
  refine xRe ?_
  refine wpq_then ?_
  refine xSq ?_
  refine xRg ?_
  refine xB 2 [] [(0, vp b_n 0), (2, vb came), (4, vp b1 0), (6, vp b2 0), (9, vi y3), (16, vb (y3 != 0))] ?_
  refine xRe ?_
  refine wpq_then ?_
  refine xCd ((y3 != 0)) (fun h6 => ?_) (fun h6 => ?_)
  · have hS := cond_T h6 hS
    have h6p : ¬ (y3 = 0) := ne_of_bne_ h6
    refine xSq ?_
    refine xRg ?_
    refine xBo 5 [(2, 0)] [some ⟨b2, 64, (cSett (⟨0, 0, false, ([] : List UInt8)⟩ : Sett) none 0)⟩, some ⟨b1, 100, (cFrame f Af_payload cf_payload)⟩, some ⟨b_n, 131, (cNode n An_input cn_input An_heard_input cn_heard_input An_set__in_ cn_set__in_)⟩] [(6, vp b2 0), (7, vb false), (8, vi y3)] ?_
    refine xRe ?_
    refine wpq_then ?_
    have fn_input := fn_input.mono e5.b
    have fn_heard_input := fn_heard_input.mono e5.b
    have fn_set__in_ := fn_set__in_.mono e5.b
    have eS := (Option.some.inj hS).symm
    subst eS
    exact xRetC [some 2] [(6, 0)] e5 ⟨An_input, cn_input, An_heard_input, cn_heard_input, An_set__in_, cn_set__in_, none, 0, by kernel_rfl, by kernel_rfl, fn_input, fn_heard_input, fn_set__in_, Arr.nil⟩ (fun _ _ h => h)
  · have hS := cond_F h6 hS
    have h6p : y3 = 0 := eq_of_bne_false_ h6
    refine xSk ?_
    refine wpq_then ?_
    refine xSub [(0, vp b_n 0), (2, vb came), (4, vp b1 0), (6, vp b2 0)] ?_
    refine xSq ?_
    refine xRg ?_
    refine xBo 4 [(3, 2)] [some ⟨b2, 64, (cSett (⟨0, 0, false, ([] : List UInt8)⟩ : Sett) none 0)⟩, some ⟨b1, 100, (cFrame f Af_payload cf_payload)⟩, some ⟨b_n, 131, (cNode ({ n with next_ := 4 }) An_input cn_input An_heard_input cn_heard_input An_set__in_ cn_set__in_)⟩] [(0, vp b_n 0), (2, vb came), (4, vp b1 0), (6, vp b2 0)] ?_
    refine xRe ?_
    refine wpq_then ?_
    refine xSq ?_
    refine xSq ?_
    refine xRg ?_
    refine xB 4 [(3, 2)] [(0, vp b_n 0), (2, vb came), (4, vp b1 0), (6, vp b2 0), (25, vy n.role)] ?_
    refine xRe ?_
    refine wpq_then ?_
    refine xBl 0 ?_
    refine xSq ?_
    refine xRg ?_
    refine xB 2 [] [(0, vp b_n 0), (2, vb came), (4, vp b1 0), (6, vp b2 0), (25, vy n.role), (26, vb (n.role == 2))] ?_
    refine xRe ?_
    refine wpq_then ?_
    refine xBindO hS (fun g own sl t7 => ∃ (A7_0_input : Option Addr) (c7_0_input : Nat) (A7_0_heard_input : Option Addr) (c7_0_heard_input : Nat) (A7_0_set__in_ : Option Addr) (c7_0_set__in_ : Nat), own = [some ⟨b2, 64, (cSett (⟨0, 0, false, ([] : List UInt8)⟩ : Sett) none 0)⟩, some ⟨b_n, 131, (cNode t7 A7_0_input c7_0_input A7_0_heard_input c7_0_heard_input A7_0_set__in_ c7_0_set__in_)⟩] ∧ sl = [(0, vp b_n 0), (6, vp b2 0)] ∧ Arr g.b tyU8 A7_0_input c7_0_input t7.input ∧ Arr g.b tyU8 A7_0_heard_input c7_0_heard_input t7.heard.input ∧ Arr g.b tyU8 A7_0_set__in_ c7_0_set__in_ t7.set_.in_) ?_ ?_
    · rintro g8 _ _ t7 e9 ⟨A7_0_input, c7_0_input, A7_0_heard_input, c7_0_heard_input, A7_0_set__in_, c7_0_set__in_, rfl, rfl, f7_0_input, f7_0_heard_input, f7_0_set__in_⟩ hS
      have nf7_0_input := f7_0_input.len
      have nf7_0_heard_input := f7_0_heard_input.len
      have nf7_0_set__in_ := f7_0_set__in_.len
      refine wpq_blockN ?_
      refine wpq_then ?_
      refine xSq ?_
      refine xSq ?_
      refine xRg ?_
      refine xB 5 [(3, 1)] [(0, vp b_n 0), (6, vp b2 0), (81, vb (!t7.has))] ?_
      refine xRe ?_
      refine wpq_then ?_
      refine xCd ((!t7.has)) (fun h10 => ?_) (fun h10 => ?_)
      · have hS := cond_T h10 hS
        have h10n := not_eq_true_ h10
        refine xSq ?_
        refine xRg ?_
        refine xBo 4 [(1, 0)] [some ⟨b2, 64, (cSett (⟨0, 0, false, ([] : List UInt8)⟩ : Sett) none 0)⟩, some ⟨b_n, 131, (cNode t7 A7_0_input c7_0_input A7_0_heard_input c7_0_heard_input A7_0_set__in_ c7_0_set__in_)⟩] [(6, vp b2 0), (7, vb false), (8, vi 0)] ?_
        refine xRe ?_
        refine wpq_then ?_
        have eS := (Option.some.inj hS).symm
        subst eS
        exact xRetC [some 1] [(6, 0)] (e5.trans e9) ⟨A7_0_input, c7_0_input, A7_0_heard_input, c7_0_heard_input, A7_0_set__in_, c7_0_set__in_, none, 0, by kernel_rfl, by kernel_rfl, f7_0_input, f7_0_heard_input, f7_0_set__in_, Arr.nil⟩ (fun _ _ h => h)
      · have hS := cond_F h10 hS
        have h10n := not_eq_false_ h10
        refine xSk ?_
        refine wpq_then ?_
        refine xSub [(0, vp b_n 0), (6, vp b2 0)] ?_
        refine xSq ?_
        refine xRg ?_
        refine xBo 8 [(3, 1), (7, 1)] [some ⟨b2, 64, (cSett (⟨0, 0, false, ([] : List UInt8)⟩ : Sett) none 0)⟩, some ⟨b_n, 131, (cNode ({ t7 with steps := (IntKind.i64.wrap (t7.steps + 1)) }) A7_0_input c7_0_input A7_0_heard_input c7_0_heard_input A7_0_set__in_ c7_0_set__in_)⟩] [(0, vp b_n 0), (6, vp b2 0)] ?_
        refine xRe ?_
        refine wpq_then ?_
        refine xSq ?_
        refine xRg ?_
        refine xB 4 [(3, 1)] [(6, vp b2 0), (93, Value.agg #[vi t7.set_.steps, vi t7.set_.cycle, vb t7.set_.fresh, vs A7_0_set__in_ t7.set_.in_ c7_0_set__in_])] ?_
        refine xE eB ?_
        rintro _ _ _ - ⟨b11, rfl, rfl, rfl⟩
        refine xBo 1 [(5, 0)] [some ⟨b11, 64, (cSett t7.set_ A7_0_set__in_ c7_0_set__in_)⟩, some ⟨b2, 64, (cSett (⟨0, 0, false, ([] : List UInt8)⟩ : Sett) none 0)⟩, some ⟨b_n, 131, (cNode ({ t7 with steps := (IntKind.i64.wrap (t7.steps + 1)) }) A7_0_input c7_0_input A7_0_heard_input c7_0_heard_input A7_0_set__in_ c7_0_set__in_)⟩] [(6, vp b2 0), (12, vp b11 0)] ?_
        refine xRe ?_
        refine wpq_then ?_
        refine xSq ?_
        refine xRg ?_
        refine xB 2 [(1, 0)] [(6, vp b2 0), (12, vp b11 0), (95, vs A7_0_set__in_ t7.set_.in_ c7_0_set__in_)] ?_
        obtain ⟨y12, hy12, hS⟩ := letJ_T hS
        refine xE (eC 0 (fun g' lr eb ln => c56 g' (t7.set_.in_ : List UInt8) A7_0_set__in_ c7_0_set__in_ ((f7_0_set__in_.mono g8.br).mono lr) hy12)) ?_
        rintro _ g13 _ e14 ⟨_, rfl, A12_0, c12_0, k12_0, rfl, rfl, h12_0⟩
        have nh12_0 := h12_0.len
        refine xBo 2 [(4, 1)] [k12_0, some ⟨b11, 64, (cSett ({ t7.set_ with in_ := y12 }) A12_0 c12_0)⟩, some ⟨b2, 64, (cSett (⟨0, 0, false, ([] : List UInt8)⟩ : Sett) none 0)⟩, some ⟨b_n, 131, (cNode ({ t7 with steps := (IntKind.i64.wrap (t7.steps + 1)) }) A7_0_input c7_0_input A7_0_heard_input c7_0_heard_input A7_0_set__in_ c7_0_set__in_)⟩] [(6, vp b2 0), (12, vp b11 0)] ?_
        refine xRe ?_
        refine wpq_then ?_
        refine xSq ?_
        refine xRg ?_
        refine xBo 4 [(0, 1), (1, 2)] [k12_0, some ⟨b11, 64, (cSett ({ t7.set_ with in_ := y12 }) A12_0 c12_0)⟩, some ⟨b2, 64, (cSett ({ t7.set_ with in_ := y12 }) A12_0 c12_0)⟩, some ⟨b_n, 131, (cNode ({ t7 with steps := (IntKind.i64.wrap (t7.steps + 1)) }) A7_0_input c7_0_input A7_0_heard_input c7_0_heard_input A7_0_set__in_ c7_0_set__in_)⟩] [(6, vp b2 0), (7, vb true), (8, vi 0)] ?_
        refine xRe ?_
        refine wpq_then ?_
        refine wpq_freeze 0 (by kernel_rfl) h12_0 (fun g15 e16 f17 => ?_)
        have f7_0_input := f7_0_input.mono (e14.trans e16).b
        have f7_0_heard_input := f7_0_heard_input.mono (e14.trans e16).b
        have f7_0_set__in_ := f7_0_set__in_.mono (e14.trans e16).b
        have eS := (Option.some.inj hS).symm
        subst eS
        exact xRetC [some 3] [(6, 2)] (e5.trans (e9.trans (e14.trans e16))) ⟨A7_0_input, c7_0_input, A7_0_heard_input, c7_0_heard_input, A7_0_set__in_, c7_0_set__in_, A12_0, c12_0, by kernel_rfl, by kernel_rfl, f7_0_input, f7_0_heard_input, f7_0_set__in_, f17⟩ (fun _ _ h => h)
    · intro u7 hS hN7
      refine xCd ((n.role == 2)) (fun h18 => ?_) (fun h18 => ?_)
      · have hS := cond_T h18 hS
        have h18p : n.role = 2 := eq_of_beq h18
        refine xRg ?_
        refine xBo 4 [(3, 2)] [some ⟨b2, 64, (cSett (⟨0, 0, false, ([] : List UInt8)⟩ : Sett) none 0)⟩, some ⟨b1, 100, (cFrame f Af_payload cf_payload)⟩, some ⟨b_n, 131, (cNode ({ n with next_ := 4, has := true }) An_input cn_input An_heard_input cn_heard_input An_set__in_ cn_set__in_)⟩] [(0, vp b_n 0), (6, vp b2 0)] ?_
        refine xRe ?_
        have fn_input := fn_input.mono e5.b
        have fn_heard_input := fn_heard_input.mono e5.b
        have fn_set__in_ := fn_set__in_.mono e5.b
        refine xSel [some 0, some 2] ?_
        refine xSub [(0, vp b_n 0), (6, vp b2 0)] ?_
        have eS := (Option.some.inj hS).symm
        exact hN7 _ eS _ _ _ (Gh.le.refl _) ⟨An_input, cn_input, An_heard_input, cn_heard_input, An_set__in_, cn_set__in_, by kernel_rfl, by kernel_rfl, fn_input, fn_heard_input, fn_set__in_⟩
      · have hS := cond_F h18 hS
        have h18p : ¬ (n.role = 2) := ne_of_beq_false_ h18
        refine xSq ?_
        refine xRg ?_
        refine xB 2 [] [(0, vp b_n 0), (2, vb came), (4, vp b1 0), (6, vp b2 0), (31, vb (n.role == 3))] ?_
        refine xRe ?_
        refine wpq_then ?_
        refine xBindO hS (fun g own sl t19 => ∃ (A19_0_input : Option Addr) (c19_0_input : Nat) (A19_0_heard_input : Option Addr) (c19_0_heard_input : Nat) (A19_0_set__in_ : Option Addr) (c19_0_set__in_ : Nat), own = [some ⟨b_n, 131, (cNode t19 A19_0_input c19_0_input A19_0_heard_input c19_0_heard_input A19_0_set__in_ c19_0_set__in_)⟩, some ⟨b2, 64, (cSett (⟨0, 0, false, ([] : List UInt8)⟩ : Sett) none 0)⟩] ∧ sl = [(0, vp b_n 0), (6, vp b2 0)] ∧ Arr g.b tyU8 A19_0_input c19_0_input t19.input ∧ Arr g.b tyU8 A19_0_heard_input c19_0_heard_input t19.heard.input ∧ Arr g.b tyU8 A19_0_set__in_ c19_0_set__in_ t19.set_.in_) ?_ ?_
        · rintro g20 _ _ t19 e21 ⟨A19_0_input, c19_0_input, A19_0_heard_input, c19_0_heard_input, A19_0_set__in_, c19_0_set__in_, rfl, rfl, f19_0_input, f19_0_heard_input, f19_0_set__in_⟩ hS
          have nf19_0_input := f19_0_input.len
          have nf19_0_heard_input := f19_0_heard_input.len
          have nf19_0_set__in_ := f19_0_set__in_.len
          refine xSel [some 1, some 0] ?_
          refine xSub [(0, vp b_n 0), (6, vp b2 0)] ?_
          have eS := (Option.some.inj hS).symm
          exact hN7 _ eS _ _ _ e21 ⟨A19_0_input, c19_0_input, A19_0_heard_input, c19_0_heard_input, A19_0_set__in_, c19_0_set__in_, by kernel_rfl, by kernel_rfl, f19_0_input, f19_0_heard_input, f19_0_set__in_⟩
        · intro u19 hS hN19
          refine xCd ((n.role == 3)) (fun h22 => ?_) (fun h22 => ?_)
          · have hS := cond_T h22 hS
            have h22p : n.role = 3 := eq_of_beq h22
            refine xSq ?_
            refine xSq ?_
            refine xRg ?_
            refine xB 3 [(1, 1)] [(0, vp b_n 0), (4, vp b1 0), (6, vp b2 0), (33, vp b_n 0), (34, Value.agg #[vy f.label, vy f.from_, vi f.cycle, vs Af_payload f.payload cf_payload]), (35, vb came)] ?_
            have fn_input := fn_input.mono e5.b
            have fn_heard_input := fn_heard_input.mono e5.b
            have fn_set__in_ := fn_set__in_.mono e5.b
            have ff_payload := ff_payload.mono e5.r
            obtain ⟨y23, hy23, hS⟩ := letJ_T hS
            refine xE (eC 0 (fun g' lr eb ln => c71 g' ⟨b_n, 0, none⟩ ({ n with next_ := 4 }) An_input cn_input An_heard_input cn_heard_input An_set__in_ cn_set__in_ f Af_payload cf_payload (came) (2 : Int) (cells_lent' 2 b_n 0 (cNode ({ n with next_ := 4 }) An_input cn_input An_heard_input cn_heard_input An_set__in_ cn_set__in_) ln) ((fn_input.mono g4.br).mono lr) ((fn_heard_input.mono g4.br).mono lr) ((fn_set__in_.mono g4.br).mono lr) (ff_payload.mono lr) hy23)) ?_
            rintro _ g24 _ e25 ⟨_, rfl, rfl, rfl⟩
            refine xRe ?_
            refine wpq_then ?_
            refine xSub [(0, vp b_n 0), (4, vp b1 0), (6, vp b2 0), (36, vb y23)] ?_
            refine xBindO hS (fun g own sl t26 => ∃ (A26_0_in_ : Option Addr) (c26_0_in_ : Nat), own = [some ⟨b2, 64, (cSett (⟨0, 0, false, ([] : List UInt8)⟩ : Sett) none 0)⟩, some ⟨b_n, 131, (cNode ({ n with next_ := 4, set_ := t26.1, has := t26.2 }) An_input cn_input An_heard_input cn_heard_input A26_0_in_ c26_0_in_)⟩] ∧ sl = [(0, vp b_n 0), (6, vp b2 0)] ∧ Arr g.b tyU8 A26_0_in_ c26_0_in_ t26.1.in_) ?_ ?_
            · rintro g27 _ _ t26 e28 ⟨A26_0_in_, c26_0_in_, rfl, rfl, f26_0_in_⟩ hS
              have nf26_0_in_ := f26_0_in_.len
              refine wpq_then ?_
              refine xSq ?_
              refine xRg ?_
              refine xB 5 [(3, 1)] [(0, vp b_n 0), (6, vp b2 0), (74, vb (!t26.2))] ?_
              refine xRe ?_
              refine wpq_then ?_
              refine xLetJ hS (fun g own sl t29 => ∃ (A29_0_input : Option Addr) (c29_0_input : Nat) (A29_0_heard_input : Option Addr) (c29_0_heard_input : Nat) (A29_0_set__in_ : Option Addr) (c29_0_set__in_ : Nat), own = [some ⟨b_n, 131, (cNode t29 A29_0_input c29_0_input A29_0_heard_input c29_0_heard_input A29_0_set__in_ c29_0_set__in_)⟩, some ⟨b2, 64, (cSett (⟨0, 0, false, ([] : List UInt8)⟩ : Sett) none 0)⟩] ∧ sl = [(0, vp b_n 0), (6, vp b2 0)] ∧ Arr g.b tyU8 A29_0_input c29_0_input t29.input ∧ Arr g.b tyU8 A29_0_heard_input c29_0_heard_input t29.heard.input ∧ Arr g.b tyU8 A29_0_set__in_ c29_0_set__in_ t29.set_.in_) ?_ ?_
              · rintro g30 _ _ t29 e31 ⟨A29_0_input, c29_0_input, A29_0_heard_input, c29_0_heard_input, A29_0_set__in_, c29_0_set__in_, rfl, rfl, f29_0_input, f29_0_heard_input, f29_0_set__in_⟩ hS
                have nf29_0_input := f29_0_input.len
                have nf29_0_heard_input := f29_0_heard_input.len
                have nf29_0_set__in_ := f29_0_set__in_.len
                refine xSub [(0, vp b_n 0), (6, vp b2 0)] ?_
                have eS := (Option.some.inj hS).symm
                exact hN19 _ eS _ _ _ (e25.trans (e28.trans e31)) ⟨A29_0_input, c29_0_input, A29_0_heard_input, c29_0_heard_input, A29_0_set__in_, c29_0_set__in_, by kernel_rfl, by kernel_rfl, f29_0_input, f29_0_heard_input, f29_0_set__in_⟩
              · intro u29 hS hN29
                refine xCd ((!t26.2)) (fun h32 => ?_) (fun h32 => ?_)
                · have hS := cond_T h32 hS
                  have h32n := not_eq_true_ h32
                  refine xRg ?_
                  refine xB 1 [] [(0, vp b_n 0), (6, vp b2 0), (75, vp b_n 0)] ?_
                  refine xSel [some 1, some 0] ?_
                  have fn_input := fn_input.mono (e25.trans e28).b
                  have fn_heard_input := fn_heard_input.mono (e25.trans e28).b
                  obtain ⟨y33, hy33, hS⟩ := letJ_T hS
                  refine xE (eC 1 (fun g' lr eb ln => c68 g' b_n ({ n with next_ := 4, set_ := t26.1, has := t26.2 }) An_input cn_input An_heard_input cn_heard_input A26_0_in_ c26_0_in_ (by rw [eb]; exact fn_input) (by rw [eb]; exact fn_heard_input) (by rw [eb]; exact f26_0_in_) hy33)) ?_
                  rintro _ g34 _ e35 ⟨_, rfl, A33_n_input, c33_n_input, A33_n_heard_input, c33_n_heard_input, A33_n_set__in_, c33_n_set__in_, rfl, rfl, f33_n_input, f33_n_heard_input, f33_n_set__in_⟩
                  have nf33_n_input := f33_n_input.len
                  have nf33_n_heard_input := f33_n_heard_input.len
                  have nf33_n_set__in_ := f33_n_set__in_.len
                  refine xRe ?_
                  refine xSub [(0, vp b_n 0), (6, vp b2 0)] ?_
                  have eS := hS.symm
                  exact hN29 _ eS _ _ _ e35 ⟨A33_n_input, c33_n_input, A33_n_heard_input, c33_n_heard_input, A33_n_set__in_, c33_n_set__in_, by kernel_rfl, by kernel_rfl, f33_n_input, f33_n_heard_input, f33_n_set__in_⟩
                · have hS := cond_F h32 hS
                  have h32n := not_eq_false_ h32
                  refine xSk ?_
                  have fn_input := fn_input.mono (e25.trans e28).b
                  have fn_heard_input := fn_heard_input.mono (e25.trans e28).b
                  refine xSel [some 1, some 0] ?_
                  refine xSub [(0, vp b_n 0), (6, vp b2 0)] ?_
                  have eS := hS.symm
                  exact hN29 _ eS _ _ _ (Gh.le.refl _) ⟨An_input, cn_input, An_heard_input, cn_heard_input, A26_0_in_, c26_0_in_, by kernel_rfl, by kernel_rfl, fn_input, fn_heard_input, f26_0_in_⟩
            · intro u26 hS hN26
              refine xCd (y23) (fun h36 => ?_) (fun h36 => ?_)
              · have hS := cond_T h36 hS
                refine xSq ?_
                refine xDr 0 [3, 5] [11, 12] [some ⟨b2, 64, (cSett (⟨0, 0, false, ([] : List UInt8)⟩ : Sett) none 0)⟩, some ⟨b1, 100, (cFrame f Af_payload cf_payload)⟩, some ⟨b_n, 131, (cNode ({ n with next_ := 4 }) An_input cn_input An_heard_input cn_heard_input An_set__in_ cn_set__in_)⟩] 13 (fun RG => ?_) (fun _ _ _ _ _ h => h)
                refine xT 7 [0, 1, 2, 3, 4, 5] [(3, 2), (5, 1)] [some 0, some 1, some 2] [(0, vp b_n 0), (6, vp b2 0), (41, vi n.cycle), (43, vs Af_payload f.payload cf_payload)] RG (Psi.le.refl _) ?_
                obtain ⟨y38, hy38, hS⟩ := bindO_T hS
                refine wpa_meet (fun g own sl => ∃ (A38_0_in_ : Option Addr) (c38_0_in_ : Nat) (b41 : Nat), own = [some ⟨b41, 64, (cSett y38.1 A38_0_in_ c38_0_in_)⟩, some ⟨b2, 64, (cSett (⟨0, 0, false, ([] : List UInt8)⟩ : Sett) none 0)⟩, some ⟨b1, 100, (cFrame f Af_payload cf_payload)⟩, some ⟨b_n, 131, (cNode ({ n with next_ := 4 }) An_input cn_input An_heard_input cn_heard_input An_set__in_ cn_set__in_)⟩] ∧ sl = [(0, vp b_n 0), (6, vp b2 0), (10, vp b41 0), (46, vi y38.2)] ∧ Arr g.b tyU8 A38_0_in_ c38_0_in_ y38.1.in_) 1 [true, true, true, true, true, true, true, true, true, true, true, true, false] ?_ (fun hD37 => ?_)
                · rintro g238 _ _ e239 ⟨A38_0_in_, c38_0_in_, b41, rfl, rfl, f38_0_in_⟩
                  have nf38_0_in_ := f38_0_in_.len
                  refine xT 0 [12] [] [some 1, some 2, some 3] [(0, vp b_n 0), (6, vp b2 0), (10, vp b41 0), (11, vi y38.2)] RG e239.r ?_
                  refine xAe (lds := [3, 5]) ?_
                  refine wpq_then ?_
                  refine xSq ?_
                  refine xDr 0 [4, 9, 13] [] [some ⟨b41, 64, (cSett y38.1 A38_0_in_ c38_0_in_)⟩, some ⟨b2, 64, (cSett (⟨0, 0, false, ([] : List UInt8)⟩ : Sett) none 0)⟩, some ⟨b1, 100, (cFrame f Af_payload cf_payload)⟩, some ⟨b_n, 131, (cNode ({ n with next_ := 4 }) An_input cn_input An_heard_input cn_heard_input An_set__in_ cn_set__in_)⟩] 16 (fun RG => ?_) (fun _ _ _ _ _ h => h)
                  refine xT 13 [0, 1, 2] [] [some 0, some 1, some 2, some 3] [(0, vp b_n 0), (6, vp b2 0), (10, vp b41 0), (49, vb (y38.2 == 0))] RG (Psi.le.refl _) ?_
                  refine wpa_grp 9 [true, true, true, true, true, true, true, false, false, false, false, false, false, false, false, false] [(0, vp b_n 0), (6, vp b2 0), (10, vp b41 0), (53, vb ((y38.2 == 0) && (!y38.1.fresh)))] (fun hk2 => ?_) ?_
                  · refine wpq_split 49 (b := (y38.2 == 0)) (by kernel_rfl) (fun q240 => ?_) (fun q240 => ?_)
                    · have q240p : y38.2 = 0 := eq_of_beq q240
                      refine xT 9 [3, 4, 5, 6] [(4, 0)] [some 0, some 1, some 2, some 3] [(0, vp b_n 0), (6, vp b2 0), (10, vp b41 0), (53, vb (!y38.1.fresh))] RG (Psi.le.refl _) ?_
                      refine wpq_re 53 (v := vb (!y38.1.fresh)) (Value.bool (((y38.2 == 0) && (!y38.1.fresh)))) (by kernel_rfl) (re_and1 q240) ?_
                      exact wpq_sub _ (by kernel_rfl) hk2
                    · have q240p : ¬ (y38.2 = 0) := ne_of_beq_false_ q240
                      refine xT 9 [3, 4, 5, 6] [] [some 0, some 1, some 2, some 3] [(0, vp b_n 0), (6, vp b2 0), (10, vp b41 0), (53, vb false)] RG (Psi.le.refl _) ?_
                      refine wpq_re 53 (v := vb false) (Value.bool (((y38.2 == 0) && (!y38.1.fresh)))) (by kernel_rfl) (re_and0 q240) ?_
                      exact wpq_sub _ (by kernel_rfl) hk2
                  · refine xT 8 [7] [] [some 0, some 1, some 2, some 3] [(0, vp b_n 0), (6, vp b2 0), (10, vp b41 0), (54, vb ((y38.2 == 0) && (!y38.1.fresh)))] RG (Psi.le.refl _) ?_
                    refine wpa_grp 0 [true, true, true, true, true, true, true, true, true, true, true, true, true, true, true, true] [(0, vp b_n 0), (6, vp b2 0), (10, vp b41 0), (62, vb (((y38.2 == 0) && (!y38.1.fresh)) && (y38.1.steps == n.steps)))] (fun hk7 => ?_) ?_
                    · refine wpq_split 54 (b := ((y38.2 == 0) && (!y38.1.fresh))) (by kernel_rfl) (fun q241 => ?_) (fun q241 => ?_)
                      · have q241l := (and_true_ q241).1
                        have q241r := (and_true_ q241).2
                        have q241lp : y38.2 = 0 := eq_of_beq q241l
                        have q241rn := not_eq_true_ q241r
                        refine xT 0 [8, 9, 10, 11, 12, 13, 14, 15] [(9, 0), (13, 3)] [some 0, some 1, some 2, some 3] [(0, vp b_n 0), (6, vp b2 0), (10, vp b41 0), (62, vb (y38.1.steps == n.steps))] RG (Psi.le.refl _) ?_
                        refine wpq_re 62 (v := vb (y38.1.steps == n.steps)) (Value.bool ((((y38.2 == 0) && (!y38.1.fresh)) && (y38.1.steps == n.steps)))) (by kernel_rfl) (re_and1 q241) ?_
                        exact wpq_sub _ (by kernel_rfl) hk7
                      · refine xT 0 [8, 9, 10, 11, 12, 13, 14, 15] [] [some 0, some 1, some 2, some 3] [(0, vp b_n 0), (6, vp b2 0), (10, vp b41 0), (62, vb false)] RG (Psi.le.refl _) ?_
                        refine wpq_re 62 (v := vb false) (Value.bool ((((y38.2 == 0) && (!y38.1.fresh)) && (y38.1.steps == n.steps)))) (by kernel_rfl) (re_and0 q241) ?_
                        exact wpq_sub _ (by kernel_rfl) hk7
                    · refine xAe (lds := [4, 9, 13]) ?_
                      refine wpq_then ?_
                      refine xLetJ hS (fun g own sl t242 => ∃ (A242_0_in_ : Option Addr) (c242_0_in_ : Nat), own = [some ⟨b2, 64, (cSett (⟨0, 0, false, ([] : List UInt8)⟩ : Sett) none 0)⟩, some ⟨b_n, 131, (cNode ({ n with next_ := 4, set_ := t242.1, has := t242.2 }) An_input cn_input An_heard_input cn_heard_input A242_0_in_ c242_0_in_)⟩] ∧ sl = [(0, vp b_n 0), (6, vp b2 0)] ∧ Arr g.b tyU8 A242_0_in_ c242_0_in_ t242.1.in_) ?_ ?_
                      · rintro g243 _ _ t242 e244 ⟨A242_0_in_, c242_0_in_, rfl, rfl, f242_0_in_⟩ hS
                        have nf242_0_in_ := f242_0_in_.len
                        refine xSub [(0, vp b_n 0), (6, vp b2 0)] ?_
                        have eS := (Option.some.inj hS).symm
                        exact hN26 _ eS _ _ _ (e239.trans e244) ⟨A242_0_in_, c242_0_in_, by kernel_rfl, by kernel_rfl, f242_0_in_⟩
                      · intro u242 hS hN242
                        refine xCd ((((y38.2 == 0) && (!y38.1.fresh)) && (y38.1.steps == n.steps))) (fun h245 => ?_) (fun h245 => ?_)
                        · have hS := cond_T h245 hS
                          have h245l := (and_true_ h245).1
                          have h245r := (and_true_ h245).2
                          have h245ll := (and_true_ h245l).1
                          have h245lr := (and_true_ h245l).2
                          have h245llp : y38.2 = 0 := eq_of_beq h245ll
                          have h245lrn := not_eq_true_ h245lr
                          have h245rp : y38.1.steps = n.steps := eq_of_beq h245r
                          refine xRg ?_
                          refine xBo 9 [(2, 0), (5, 3), (8, 3)] [some ⟨b41, 64, (cSett y38.1 A38_0_in_ c38_0_in_)⟩, some ⟨b2, 64, (cSett (⟨0, 0, false, ([] : List UInt8)⟩ : Sett) none 0)⟩, some ⟨b1, 100, (cFrame f Af_payload cf_payload)⟩, some ⟨b_n, 131, (cNode ({ n with next_ := 4, set_ := y38.1, has := true }) An_input cn_input An_heard_input cn_heard_input A38_0_in_ c38_0_in_)⟩] [(0, vp b_n 0), (6, vp b2 0)] ?_
                          refine xRe ?_
                          refine xSel [some 1, some 3] ?_
                          refine xSub [(0, vp b_n 0), (6, vp b2 0)] ?_
                          have eS := hS.symm
                          exact hN242 _ eS _ _ _ (Gh.le.refl _) ⟨A38_0_in_, c38_0_in_, by kernel_rfl, by kernel_rfl, f38_0_in_⟩
                        · have hS := cond_F h245 hS
                          refine xSk ?_
                          have fn_set__in_ := fn_set__in_.mono (e25.trans e239).b
                          refine xSel [some 1, some 3] ?_
                          refine xSub [(0, vp b_n 0), (6, vp b2 0)] ?_
                          have eS := hS.symm
                          exact hN242 _ eS _ _ _ (Gh.le.refl _) ⟨An_set__in_, cn_set__in_, by kernel_rfl, by kernel_rfl, fn_set__in_⟩
                · refine xO2 (lds := [3, 5]) 6 10 ?_ ?_
                  · have ff_payload := ff_payload.mono e25.r
                    refine xIe (lds := [3, 5]) (Psi.le.refl _) (eC 0 (fun g' lr eb ln => c34 g' (n.cycle : Int) (f.payload : List UInt8) Af_payload cf_payload (ff_payload.mono lr) hy38)) ?_
                    rintro _ g247 _ e248 ⟨_, rfl, A38_0_in_, c38_0_in_, rfl, rfl, f38_0_in_⟩
                    refine kk [some 0, some 1, some 2] ?_
                    have nf38_0_in_ := f38_0_in_.len
                    refine xT 3 [7, 8, 9] [] [some 0, some 1, some 2] [(0, vp b_n 0), (6, vp b2 0), (45, Value.agg #[vi y38.1.steps, vi y38.1.cycle, vb y38.1.fresh, vs A38_0_in_ y38.1.in_ c38_0_in_]), (46, vi y38.2)] RG e248.r ?_
                    refine xO1 (lds := [3, 5]) 10 ?_
                    refine xIe (lds := [3, 5]) e248.r eB ?_
                    rintro _ _ _ - ⟨b249, rfl, rfl, rfl⟩
                    refine kk [some 1, some 2, some 3] ?_
                    refine xO1 (lds := [3, 5]) 11 ?_
                    refine xId (lds := [3, 5]) e248.r (eStL b249 0 0) ?_
                    rintro _ _ _ - ⟨rfl, rfl⟩
                    refine kf ?_
                    refine xSub [(0, vp b_n 0), (6, vp b2 0), (10, vp b249 0), (46, vi y38.2)] ?_
                    exact hD37 _ _ _ e248 ⟨A38_0_in_, c38_0_in_, b249, by kernel_rfl, by kernel_rfl, f38_0_in_⟩
                  · refine xIe (lds := [3, 5]) (Psi.le.refl _) eB ?_
                    rintro _ _ _ - ⟨b250, rfl, rfl, rfl⟩
                    refine kk [some 1, some 2, some 3] ?_
                    have ff_payload := ff_payload.mono e25.r
                    refine xO1 (lds := [3, 5]) 6 ?_
                    refine xIe (lds := [3, 5]) (Psi.le.refl _) (eC 0 (fun g' lr eb ln => c34 g' (n.cycle : Int) (f.payload : List UInt8) Af_payload cf_payload (ff_payload.mono lr) hy38)) ?_
                    rintro _ g252 _ e253 ⟨_, rfl, A38_0_in_, c38_0_in_, rfl, rfl, f38_0_in_⟩
                    refine kk [some 1, some 2, some 3] ?_
                    have nf38_0_in_ := f38_0_in_.len
                    refine xT 2 [7, 8, 9] [] [some 1, some 2, some 3] [(0, vp b_n 0), (6, vp b2 0), (10, vp b250 0), (45, Value.agg #[vi y38.1.steps, vi y38.1.cycle, vb y38.1.fresh, vs A38_0_in_ y38.1.in_ c38_0_in_]), (46, vi y38.2)] RG e253.r ?_
                    refine xO1 (lds := [3, 5]) 11 ?_
                    refine xId (lds := [3, 5]) e253.r (eStL b250 0 0) ?_
                    rintro _ _ _ - ⟨rfl, rfl⟩
                    refine kf ?_
                    refine xSub [(0, vp b_n 0), (6, vp b2 0), (10, vp b250 0), (46, vi y38.2)] ?_
                    exact hD37 _ _ _ e253 ⟨A38_0_in_, c38_0_in_, b250, by kernel_rfl, by kernel_rfl, f38_0_in_⟩
              · have hS := cond_F h36 hS
                refine xSk ?_
                have fn_set__in_ := fn_set__in_.mono e25.b
                refine xSel [some 0, some 2] ?_
                refine xSub [(0, vp b_n 0), (6, vp b2 0)] ?_
                have eS := (Option.some.inj hS).symm
                exact hN26 _ eS _ _ _ (Gh.le.refl _) ⟨An_set__in_, cn_set__in_, by kernel_rfl, by kernel_rfl, fn_set__in_⟩
          · have hS := cond_F h22 hS
            have h22p : ¬ (n.role = 3) := ne_of_beq_false_ h22
            refine xSk ?_
            have fn_input := fn_input.mono e5.b
            have fn_heard_input := fn_heard_input.mono e5.b
            have fn_set__in_ := fn_set__in_.mono e5.b
            refine xSel [some 2, some 0] ?_
            refine xSub [(0, vp b_n 0), (6, vp b2 0)] ?_
            have eS := (Option.some.inj hS).symm
            exact hN19 _ eS _ _ _ (Gh.le.refl _) ⟨An_input, cn_input, An_heard_input, cn_heard_input, An_set__in_, cn_set__in_, by kernel_rfl, by kernel_rfl, fn_input, fn_heard_input, fn_set__in_⟩

def o21_L0 (r_ : Result) (s214 : (List UInt8) × Nat) : Option (Ctl ((List UInt8) × Nat) ((List UInt8))) :=
  (cond (decide (((s214.2 : Nat) : Int) < (((([(r_.targets.bank : Int), (r_.targets.speed : Int), (r_.targets.alt : Int), (r_.targets.vs : Int)] : List Int)).length : Nat) : Int))) (bindO (τ := (List UInt8)) (o53 (s214.1 : List UInt8) ((List.getD ([(r_.targets.bank : Int), (r_.targets.speed : Int), (r_.targets.alt : Int), (r_.targets.vs : Int)] : List Int) s214.2 0) : Int) (8 : Int)) fun y220 => (grd (decide (((s214.2 : Nat) : Int) + 1 ≤ 9223372036854775807)) (some (Ctl.go ((y220 : List UInt8), (s214.2 + 1)))))) (some (Ctl.done ((s214.1 : List UInt8)))))
def o21 (r_ : Result) : Option ((List UInt8)) :=
  (bindO (τ := (List UInt8)) (o53 ([] : List UInt8) (r_.steps : Int) (8 : Int)) fun y4 => (grd (decide (0 ≤ r_.targets.lateral ∧ r_.targets.lateral ≤ 255)) (grd (decide (0 ≤ r_.targets.vertical ∧ r_.targets.vertical ≤ 255)) (grd (decide (0 ≤ r_.targets.phase ∧ r_.targets.phase ≤ 255)) (grd (decide (((y4).length + (([(u8 r_.targets.lateral), (u8 r_.targets.vertical), (u8 r_.targets.phase)] : List UInt8)).length) * 1 ≤ 140737488355328)) (bindO (τ := (List UInt8)) (loopO (σ := (List UInt8) × Nat) (ρ := (List UInt8)) fuelN (o21_L0 r_) (((y4 ++ ([(u8 r_.targets.lateral), (u8 r_.targets.vertical), (u8 r_.targets.phase)] : List UInt8)) : List UInt8), 0)) fun t209 => (some ((t209 : List UInt8)))))))))
set_option maxRecDepth 100000 in
theorem c21 (g : Gh) (r_ : Result) {r : (List UInt8)} (hS : o21 r_ = some r) :
    Ctr Try.prog 21 [Value.agg #[vi r_.steps, vy r_.targets.lateral, vy r_.targets.vertical, vy r_.targets.phase, vi r_.targets.bank, vi r_.targets.speed, vi r_.targets.alt, vi r_.targets.vs]] g [] (fun v ψ o => ∃ (Ar_0 : Option Addr) (cr_0 : Nat) (kr_0 : Option Bk), v = vs Ar_0 r cr_0 ∧ o = [kr_0] ∧ Buf ψ tyU8 5 (.slice Ar_0 (r).length cr_0) kr_0 r) := by
  unfold o21 at hS
  refine xFn Try.f21 (Try.f21.body.getD .skip) 39 ?_
  refine xSq ?_
  refine xRg ?_
  refine xE eB ?_
  rintro _ _ _ - ⟨b1, rfl, rfl, rfl⟩
  refine xB 1 [] [(1, vp b1 0)] ?_
  refine xRe ?_
  refine wpq_then ?_
  refine xSq ?_
  refine xRg ?_
  refine xB 2 [(1, 0)] [(1, vp b1 0), (8, Value.agg #[vy r_.targets.lateral, vy r_.targets.vertical, vy r_.targets.phase, vi r_.targets.bank, vi r_.targets.speed, vi r_.targets.alt, vi r_.targets.vs])] ?_
  refine xE eB ?_
  rintro _ _ _ - ⟨b2, rfl, rfl, rfl⟩
  refine xBo 1 [(3, 0)] [some ⟨b2, 36, (cTargets r_.targets)⟩, some ⟨b1, 38, (cResult r_)⟩] [(1, vp b1 0), (3, vp b2 0)] ?_
  refine xRe ?_
  refine wpq_then ?_
  refine xSq ?_
  refine xDr 0 [1, 4, 6, 8] [11] [some ⟨b2, 36, (cTargets r_.targets)⟩, some ⟨b1, 38, (cResult r_)⟩] 12 (fun RG => ?_) (fun _ _ _ _ _ h => h)
  refine xT 4 [0, 1, 3, 4, 5, 6, 7, 8] [(1, 1), (4, 0), (6, 0), (8, 0)] [some 0, some 1] [(3, vp b2 0), (10, vi r_.steps), (13, vy r_.targets.lateral), (15, vy r_.targets.vertical), (17, vy r_.targets.phase)] RG (Psi.le.refl _) ?_
  obtain ⟨y4, hy4, hS⟩ := bindO_T hS
  obtain ⟨q7, hS⟩ := grd_T hS
  have q7p := of_decide_eq_true q7
  obtain ⟨q8, hS⟩ := grd_T hS
  have q8p := of_decide_eq_true q8
  obtain ⟨q9, hS⟩ := grd_T hS
  have q9p := of_decide_eq_true q9
  refine wpa_meet (fun g own sl => ∃ (A4_0 : Option Addr) (c4_0 : Nat) (k4_0 : Option Bk) (A10 : Option Addr) (c10 : Nat) (k10 : Option Bk), own = [k10, k4_0, some ⟨b2, 36, (cTargets r_.targets)⟩, some ⟨b1, 38, (cResult r_)⟩] ∧ sl = [(3, vp b2 0), (11, vs A4_0 y4 c4_0), (18, vs A10 ([(u8 r_.targets.lateral), (u8 r_.targets.vertical), (u8 r_.targets.phase)] : List UInt8) c10)] ∧ Buf g.b tyU8 5 (.slice A4_0 (y4).length c4_0) k4_0 y4 ∧ Buf g.b tyU8 5 (.slice A10 (([(u8 r_.targets.lateral), (u8 r_.targets.vertical), (u8 r_.targets.phase)] : List UInt8)).length c10) k10 ([(u8 r_.targets.lateral), (u8 r_.targets.vertical), (u8 r_.targets.phase)] : List UInt8)) 2 [true, true, true, true, true, true, true, true, true, true, false, false] ?_ (fun hD3 => ?_)
  · rintro g204 _ _ e205 ⟨A4_0, c4_0, k4_0, A10, c10, k10, rfl, rfl, h4_0, h10⟩
    have nh4_0 := h4_0.len
    have nh10 := h10.len
    obtain ⟨nw206, hp206, hs206⟩ := h10.srcO (g := g204)
    obtain ⟨q207, hS⟩ := grd_T hS
    have q207p := of_decide_eq_true q207
    refine xO1 (lds := [1, 4, 6, 8]) 10 ?_
    refine xIe (lds := [1, 4, 6, 8]) e205.r (eApp (T := tyU8) (p := g204.b) (et := 5) (bytes := 1) (xs := (y4 : List UInt8)) (ys := (([(u8 r_.targets.lateral), (u8 r_.targets.vertical), (u8 r_.targets.phase)] : List UInt8) : List UInt8)) 1 h4_0 rfl (fun w hs => hs206 0 w _ hs (by kernel_rfl)) hp206 (by first | omega | (simp only [List.length_cons, List.length_nil] at *; omega)) (by first | omega | (simp only [List.length_cons, List.length_nil] at *; omega))) ?_
    rintro _ _ _ - ⟨A206, c206, k206, rfl, rfl, rfl, h206⟩
    refine kk [some 2, some 3] ?_
    have nh206 := h206.len
    have hz206 : ((y4 ++ ([(u8 r_.targets.lateral), (u8 r_.targets.vertical), (u8 r_.targets.phase)] : List UInt8)) : List UInt8).length = (y4).length + (([(u8 r_.targets.lateral), (u8 r_.targets.vertical), (u8 r_.targets.phase)] : List UInt8)).length := List.length_append
    refine xT 0 [11] [] [some 2, some 3] [(3, vp b2 0), (4, vs A206 (y4 ++ ([(u8 r_.targets.lateral), (u8 r_.targets.vertical), (u8 r_.targets.phase)] : List UInt8)) c206)] RG e205.r ?_
    refine xAe (lds := [1, 4, 6, 8]) ?_
    refine wpq_then ?_
    refine xSq ?_
    refine xSq ?_
    refine xRg ?_
    refine xB 8 [(1, 2), (3, 2), (5, 2), (7, 2)] [(4, vs A206 (y4 ++ ([(u8 r_.targets.lateral), (u8 r_.targets.vertical), (u8 r_.targets.phase)] : List UInt8)) c206), (21, vi r_.targets.bank), (23, vi r_.targets.speed), (25, vi r_.targets.alt), (27, vi r_.targets.vs)] ?_
    refine xE (eBs (T := (tyI .i64)) (p := g204.b) (et := 2) (xs := ([(r_.targets.bank : Int), (r_.targets.speed : Int), (r_.targets.alt : Int), (r_.targets.vs : Int)] : List Int)) (reps_cons (c := [vi r_.targets.bank]) (show (tyI .i64).rep _ _ _ from rfl) (reps_cons (c := [vi r_.targets.speed]) (show (tyI .i64).rep _ _ _ from rfl) (reps_cons (c := [vi r_.targets.alt]) (show (tyI .i64).rep _ _ _ from rfl) (reps_cons (c := [vi r_.targets.vs]) (show (tyI .i64).rep _ _ _ from rfl) reps_nil)))) (by simp)) ?_
    rintro _ _ _ - ⟨A208, c208, k208, rfl, rfl, rfl, h208⟩
    refine xB 2 [] [(4, vs A206 (y4 ++ ([(u8 r_.targets.lateral), (u8 r_.targets.vertical), (u8 r_.targets.phase)] : List UInt8)) c206), (28, vs A208 ([(r_.targets.bank : Int), (r_.targets.speed : Int), (r_.targets.alt : Int), (r_.targets.vs : Int)] : List Int) c208), (29, vi (((([(r_.targets.bank : Int), (r_.targets.speed : Int), (r_.targets.alt : Int), (r_.targets.vs : Int)] : List Int)).length : Nat) : Int)), (30, vi 0)] ?_
    refine xRe ?_
    refine wpq_then ?_
    refine xBindO hS (fun g own sl t209 => ∃ (A209_0 : Option Addr) (c209_0 : Nat) (k209_0 : Option Bk), own = [k209_0] ∧ sl = [(4, vs A209_0 t209 c209_0)] ∧ Buf g.b tyU8 5 (.slice A209_0 (t209).length c209_0) k209_0 t209) ?_ ?_
    · rintro g210 _ _ t209 e211 ⟨A209_0, c209_0, k209_0, rfl, rfl, h209_0⟩ hS
      have nh209_0 := h209_0.len
      refine wpq_then ?_
      refine xSq ?_
      refine xRg ?_
      refine xB 2 [] [(2, vs A209_0 t209 c209_0)] ?_
      refine xRe ?_
      refine wpq_then ?_
      have eS := (Option.some.inj hS).symm
      subst eS
      exact xRet [some 0] [2] (e205.trans e211) ⟨A209_0, c209_0, k209_0, by kernel_rfl, by kernel_rfl, h209_0⟩ (fun _ _ h => h)
    · intro u209 hS hN209
      refine xBl 0 ?_
      refine xSel [some 2, some 0] ?_
      refine xSub [(4, vs A206 (y4 ++ ([(u8 r_.targets.lateral), (u8 r_.targets.vertical), (u8 r_.targets.phase)] : List UInt8)) c206), (28, vs A208 ([(r_.targets.bank : Int), (r_.targets.speed : Int), (r_.targets.alt : Int), (r_.targets.vs : Int)] : List Int) c208), (29, vi (((([(r_.targets.bank : Int), (r_.targets.speed : Int), (r_.targets.alt : Int), (r_.targets.vs : Int)] : List Int)).length : Nat) : Int)), (30, vi 0)] ?_
      refine xLo hS (fun g own sl s214 => ∃ (A214_0 : Option Addr) (c214_0 : Nat) (k214_0 : Option Bk), own = [k214_0, k208] ∧ sl = [(4, vs A214_0 s214.1 c214_0), (28, vs A208 ([(r_.targets.bank : Int), (r_.targets.speed : Int), (r_.targets.alt : Int), (r_.targets.vs : Int)] : List Int) c208), (29, vi (((([(r_.targets.bank : Int), (r_.targets.speed : Int), (r_.targets.alt : Int), (r_.targets.vs : Int)] : List Int)).length : Nat) : Int)), (30, vi ((s214.2 : Nat) : Int))] ∧ Buf g.b tyU8 5 (.slice A214_0 (s214.1).length c214_0) k214_0 s214.1) ⟨A206, c206, k206, by kernel_rfl, by kernel_rfl, h206⟩ ?_
      rintro g215 _ _ s214 u214 e216 ⟨A214_0, c214_0, k214_0, rfl, rfl, h214_0⟩ hS Qr214 hN214 hD214
      have nh214_0 := h214_0.len
      unfold o21_L0 at hS
      refine xSq ?_
      refine xRg ?_
      refine xB 1 [] [(4, vs A214_0 s214.1 c214_0), (28, vs A208 ([(r_.targets.bank : Int), (r_.targets.speed : Int), (r_.targets.alt : Int), (r_.targets.vs : Int)] : List Int) c208), (29, vi (((([(r_.targets.bank : Int), (r_.targets.speed : Int), (r_.targets.alt : Int), (r_.targets.vs : Int)] : List Int)).length : Nat) : Int)), (30, vi ((s214.2 : Nat) : Int)), (31, vb (decide (((s214.2 : Nat) : Int) < (((([(r_.targets.bank : Int), (r_.targets.speed : Int), (r_.targets.alt : Int), (r_.targets.vs : Int)] : List Int)).length : Nat) : Int))))] ?_
      refine xRe ?_
      refine wpq_then ?_
      refine xSq ?_
      refine xCd (decide (((s214.2 : Nat) : Int) < (((([(r_.targets.bank : Int), (r_.targets.speed : Int), (r_.targets.alt : Int), (r_.targets.vs : Int)] : List Int)).length : Nat) : Int))) (fun h217 => ?_) (fun h217 => ?_)
      · have hS := cond_T h217 hS
        have h217p := of_decide_eq_true h217
        refine xSk ?_
        refine wpq_then ?_
        refine xSub [(4, vs A214_0 s214.1 c214_0), (28, vs A208 ([(r_.targets.bank : Int), (r_.targets.speed : Int), (r_.targets.alt : Int), (r_.targets.vs : Int)] : List Int) c208), (29, vi (((([(r_.targets.bank : Int), (r_.targets.speed : Int), (r_.targets.alt : Int), (r_.targets.vs : Int)] : List Int)).length : Nat) : Int)), (30, vi ((s214.2 : Nat) : Int))] ?_
        refine xSq ?_
        refine xBl 1 ?_
        refine xSq ?_
        refine xRg ?_
        have h208 := h208.mono e216.b
        have i219 : s214.2 < (([(r_.targets.bank : Int), (r_.targets.speed : Int), (r_.targets.alt : Int), (r_.targets.vs : Int)] : List Int)).length := by omega
        obtain ⟨kc218, cs218, hA218, hk218, hr218, hw218⟩ := h208.open_ i219 0
        obtain ⟨kb218, rfl⟩ : ∃ z, z = kc218 := ⟨_, rfl⟩
        subst hk218
        have hr218 : cs218 = [vi (List.getD ([(r_.targets.bank : Int), (r_.targets.speed : Int), (r_.targets.alt : Int), (r_.targets.vs : Int)] : List Int) s214.2 0)] := hr218
        subst hr218
        refine xV (qIxB s214.2 1 kb218.g hA218 rfl i219) ?_
        refine xV (qLdB s214.2 1 0 1 hw218) ?_
        refine xB 1 [] [(4, vs A214_0 s214.1 c214_0), (6, vi (List.getD ([(r_.targets.bank : Int), (r_.targets.speed : Int), (r_.targets.alt : Int), (r_.targets.vs : Int)] : List Int) s214.2 0)), (28, vs A208 ([(r_.targets.bank : Int), (r_.targets.speed : Int), (r_.targets.alt : Int), (r_.targets.vs : Int)] : List Int) c208), (29, vi (((([(r_.targets.bank : Int), (r_.targets.speed : Int), (r_.targets.alt : Int), (r_.targets.vs : Int)] : List Int)).length : Nat) : Int)), (30, vi ((s214.2 : Nat) : Int))] ?_
        refine xRe ?_
        refine wpq_then ?_
        refine xRg ?_
        refine xB 2 [] [(4, vs A214_0 s214.1 c214_0), (28, vs A208 ([(r_.targets.bank : Int), (r_.targets.speed : Int), (r_.targets.alt : Int), (r_.targets.vs : Int)] : List Int) c208), (29, vi (((([(r_.targets.bank : Int), (r_.targets.speed : Int), (r_.targets.alt : Int), (r_.targets.vs : Int)] : List Int)).length : Nat) : Int)), (30, vi ((s214.2 : Nat) : Int)), (34, vs A214_0 s214.1 c214_0), (35, vi (List.getD ([(r_.targets.bank : Int), (r_.targets.speed : Int), (r_.targets.alt : Int), (r_.targets.vs : Int)] : List Int) s214.2 0))] ?_
        obtain ⟨y220, hy220, hS⟩ := bindO_T hS
        refine xE (eC 1 (fun g' lr eb ln => c53 g' (s214.1 : List UInt8) A214_0 c214_0 k214_0 ((List.getD ([(r_.targets.bank : Int), (r_.targets.speed : Int), (r_.targets.alt : Int), (r_.targets.vs : Int)] : List Int) s214.2 0) : Int) (8 : Int) (by rw [eb]; exact h214_0) hy220)) ?_
        rintro _ g221 _ e222 ⟨_, rfl, A220_0, c220_0, k220_0, rfl, rfl, h220_0⟩
        have nh220_0 := h220_0.len
        refine xB 1 [] [(4, vs A220_0 y220 c220_0), (28, vs A208 ([(r_.targets.bank : Int), (r_.targets.speed : Int), (r_.targets.alt : Int), (r_.targets.vs : Int)] : List Int) c208), (29, vi (((([(r_.targets.bank : Int), (r_.targets.speed : Int), (r_.targets.alt : Int), (r_.targets.vs : Int)] : List Int)).length : Nat) : Int)), (30, vi ((s214.2 : Nat) : Int))] ?_
        refine xRe ?_
        refine wpq_blockN ?_
        refine wpq_then ?_
        refine xRg ?_
        obtain ⟨q223, hS⟩ := grd_T hS
        have q223p := of_decide_eq_true q223
        refine xV (qAdd .i64 (((s214.2 : Nat) : Int)) (1) (wr64 (by omega))) ?_
        refine xB 1 [] [(4, vs A220_0 y220 c220_0), (28, vs A208 ([(r_.targets.bank : Int), (r_.targets.speed : Int), (r_.targets.alt : Int), (r_.targets.vs : Int)] : List Int) c208), (29, vi (((([(r_.targets.bank : Int), (r_.targets.speed : Int), (r_.targets.alt : Int), (r_.targets.vs : Int)] : List Int)).length : Nat) : Int)), (30, vi (((s214.2 : Nat) : Int) + 1))] ?_
        refine xRe ?_
        refine wpq_thenN ?_
        refine xSub [(4, vs A220_0 y220 c220_0), (28, vs A208 ([(r_.targets.bank : Int), (r_.targets.speed : Int), (r_.targets.alt : Int), (r_.targets.vs : Int)] : List Int) c208), (29, vi (((([(r_.targets.bank : Int), (r_.targets.speed : Int), (r_.targets.alt : Int), (r_.targets.vs : Int)] : List Int)).length : Nat) : Int)), (30, vi (((s214.2 : Nat) : Int) + 1))] ?_
        have eS := (Option.some.inj hS).symm
        exact hN214 _ eS _ _ _ e222 ⟨A220_0, c220_0, k220_0, by kernel_rfl, by kernel_rfl, h220_0⟩
      · have hS := cond_F h217 hS
        have h217p := of_decide_eq_false h217
        refine xEx 0 ?_
        refine wpq_thenX ?_
        refine wpq_thenX ?_
        refine wpq_blockE ?_
        refine xSel [some 0] ?_
        refine xSub [(4, vs A214_0 s214.1 c214_0)] ?_
        have eS := (Option.some.inj hS).symm
        have eS := (hD214 _ eS).symm
        exact hN209 _ eS _ _ _ e216 ⟨A214_0, c214_0, k214_0, by kernel_rfl, by kernel_rfl, h214_0⟩
  · refine xO2 (lds := [1, 4, 6, 8]) 2 9 ?_ ?_
    · refine xSel [none, some 0, some 1] ?_
      refine xIe (lds := [1, 4, 6, 8]) (Psi.le.refl _) (eC 1 (fun g' lr eb ln => c53 g' ([] : List UInt8) none 0 none (r_.steps : Int) (8 : Int) Buf.nil hy4)) ?_
      rintro _ g225 _ e226 ⟨_, rfl, A4_0, c4_0, k4_0, rfl, rfl, h4_0⟩
      refine kk [some 1, some 2] ?_
      have nh4_0 := h4_0.len
      refine xO1 (lds := [1, 4, 6, 8]) 9 ?_
      refine xIe (lds := [1, 4, 6, 8]) e226.r (eBs (T := tyU8) (p := g225.b) (et := 5) (xs := ([(u8 r_.targets.lateral), (u8 r_.targets.vertical), (u8 r_.targets.phase)] : List UInt8)) (reps_cons (c := [vy r_.targets.lateral]) (u8_rep (by omega)) (reps_cons (c := [vy r_.targets.vertical]) (u8_rep (by omega)) (reps_cons (c := [vy r_.targets.phase]) (u8_rep (by omega)) reps_nil))) (by simp)) ?_
      rintro _ _ _ - ⟨A230, c230, k230, rfl, rfl, rfl, h230⟩
      refine kk [some 2, some 3] ?_
      refine xSub [(3, vp b2 0), (11, vs A4_0 y4 c4_0), (18, vs A230 ([(u8 r_.targets.lateral), (u8 r_.targets.vertical), (u8 r_.targets.phase)] : List UInt8) c230)] ?_
      exact hD3 _ _ _ e226 ⟨A4_0, c4_0, k4_0, A230, c230, k230, by kernel_rfl, by kernel_rfl, h4_0, h230⟩
    · refine xIe (lds := [1, 4, 6, 8]) (Psi.le.refl _) (eBs (T := tyU8) (p := g.b) (et := 5) (xs := ([(u8 r_.targets.lateral), (u8 r_.targets.vertical), (u8 r_.targets.phase)] : List UInt8)) (reps_cons (c := [vy r_.targets.lateral]) (u8_rep (by omega)) (reps_cons (c := [vy r_.targets.vertical]) (u8_rep (by omega)) (reps_cons (c := [vy r_.targets.phase]) (u8_rep (by omega)) reps_nil))) (by simp)) ?_
      rintro _ _ _ - ⟨A234, c234, k234, rfl, rfl, rfl, h234⟩
      refine kk [some 1, some 2] ?_
      refine xSel [none, some 0, some 1, some 2] ?_
      refine xO1 (lds := [1, 4, 6, 8]) 2 ?_
      refine xIe (lds := [1, 4, 6, 8]) (Psi.le.refl _) (eC 1 (fun g' lr eb ln => c53 g' ([] : List UInt8) none 0 none (r_.steps : Int) (8 : Int) Buf.nil hy4)) ?_
      rintro _ g236 _ e237 ⟨_, rfl, A4_0, c4_0, k4_0, rfl, rfl, h4_0⟩
      refine kk [some 2, some 3] ?_
      have nh4_0 := h4_0.len
      refine xSel [some 1, some 0, some 2, some 3] ?_
      refine xSub [(3, vp b2 0), (11, vs A4_0 y4 c4_0), (18, vs A234 ([(u8 r_.targets.lateral), (u8 r_.targets.vertical), (u8 r_.targets.phase)] : List UInt8) c234)] ?_
      have h234 := h234.mono e237.b
      exact hD3 _ _ _ e237 ⟨A4_0, c4_0, k4_0, A234, c234, k234, by kernel_rfl, by kernel_rfl, h4_0, h234⟩

def o50 (n : Node) (t : Targets) : Option (Node × Frame × Bool × Int) :=
  (letJ (τ := Int) (o69 n (4 : Int)) fun y3 => (cond ((y3 != 0)) (some ((n, (⟨0, 0, 0, ([] : List UInt8)⟩ : Frame), (false), (y3 : Int)))) (cond ((!n.has)) (some ((({ n with next_ := 5 }), (⟨0, 0, 0, ([] : List UInt8)⟩ : Frame), (false), (0 : Int)))) (bindO (τ := (List UInt8)) (o21 ({ n with targets := t })) fun y8 => (letJ (τ := Frame) (o70 ({ n with next_ := 5, told := { n with targets := t } }) (3 : Int) (y8 : List UInt8)) fun y14 => (some ((({ n with next_ := 5, told := { n with targets := t } }), y14, (true), (0 : Int)))))))))
set_option maxRecDepth 100000 in
theorem c50 (g : Gh) (b_n : Nat) (n : Node) (An_input : Option Addr) (cn_input : Nat) (An_heard_input : Option Addr) (cn_heard_input : Nat) (An_set__in_ : Option Addr) (cn_set__in_ : Nat) (t : Targets) (fn_input : Arr g.b tyU8 An_input cn_input n.input) (fn_heard_input : Arr g.b tyU8 An_heard_input cn_heard_input n.heard.input) (fn_set__in_ : Arr g.b tyU8 An_set__in_ cn_set__in_ n.set_.in_) {r : Node × Frame × Bool × Int} (hS : o50 n t = some r) :
    Ctr Try.prog 50 [vp b_n 0, Value.agg #[vy t.lateral, vy t.vertical, vy t.phase, vi t.bank, vi t.speed, vi t.alt, vi t.vs]] g [some ⟨b_n, 131, (cNode n An_input cn_input An_heard_input cn_heard_input An_set__in_ cn_set__in_)⟩] (fun v ψ o => ∃ (Ao_n_input : Option Addr) (co_n_input : Nat) (Ao_n_heard_input : Option Addr) (co_n_heard_input : Nat) (Ao_n_set__in_ : Option Addr) (co_n_set__in_ : Nat) (Ar_0_payload : Option Addr) (cr_0_payload : Nat), v = Value.tuple #[Value.agg #[vy r.2.1.label, vy r.2.1.from_, vi r.2.1.cycle, vs Ar_0_payload r.2.1.payload cr_0_payload], vb r.2.2.1, vi r.2.2.2] ∧ o = [some ⟨b_n, 131, (cNode r.1 Ao_n_input co_n_input Ao_n_heard_input co_n_heard_input Ao_n_set__in_ co_n_set__in_)⟩] ∧ Arr ψ tyU8 Ao_n_input co_n_input r.1.input ∧ Arr ψ tyU8 Ao_n_heard_input co_n_heard_input r.1.heard.input ∧ Arr ψ tyU8 Ao_n_set__in_ co_n_set__in_ r.1.set_.in_ ∧ Arr ψ tyU8 Ar_0_payload cr_0_payload r.2.1.payload) := by
  unfold o50 at hS
  refine xFn Try.f50 (Try.f50.body.getD .skip) 39 ?_
  have nfn_input := fn_input.len
  have nfn_heard_input := fn_heard_input.len
  have nfn_set__in_ := fn_set__in_.len
  refine xSq ?_
  refine xRg ?_
  refine xE eB ?_
  rintro _ _ _ - ⟨b1, rfl, rfl, rfl⟩
  refine xE eB ?_
  rintro _ _ _ - ⟨b2, rfl, rfl, rfl⟩
  refine xB 2 [] [(0, vp b_n 0), (3, vp b1 0), (4, vp b2 0)] ?_
  refine xRe ?_
  refine wpq_then ?_
  refine xSq ?_
  refine xSq ?_
  refine xRg ?_
  refine xB 1 [] [(0, vp b_n 0), (3, vp b1 0), (4, vp b2 0), (8, vp b_n 0)] ?_
  obtain ⟨y3, hy3, hS⟩ := letJ_T hS
  refine xE (eC 0 (fun g' lr eb ln => c69 g' ⟨b_n, 0, none⟩ n An_input cn_input An_heard_input cn_heard_input An_set__in_ cn_set__in_ (4 : Int) (cells_lent' 2 b_n 0 (cNode n An_input cn_input An_heard_input cn_heard_input An_set__in_ cn_set__in_) ln) ((fn_input.mono g.br).mono lr) ((fn_heard_input.mono g.br).mono lr) ((fn_set__in_.mono g.br).mono lr) hy3)) ?_
  rintro _ g4 _ e5 ⟨_, rfl, rfl, rfl⟩
  refine xB 1 [] [(0, vp b_n 0), (3, vp b1 0), (4, vp b2 0), (7, vi y3)] ?_
  refine xRe ?_
  refine wpq_then ?_
  refine xSq ?_
  refine xRg ?_
  refine xB 2 [] [(0, vp b_n 0), (3, vp b1 0), (4, vp b2 0), (7, vi y3), (11, vb (y3 != 0))] ?_
  refine xRe ?_
  refine wpq_then ?_
  refine xCd ((y3 != 0)) (fun h6 => ?_) (fun h6 => ?_)
  · have hS := cond_T h6 hS
    have h6p : ¬ (y3 = 0) := ne_of_bne_ h6
    refine xSq ?_
    refine xRg ?_
    refine xBo 5 [(2, 0)] [some ⟨b2, 100, (cFrame (⟨0, 0, 0, ([] : List UInt8)⟩ : Frame) none 0)⟩, some ⟨b1, 36, (cTargets t)⟩, some ⟨b_n, 131, (cNode n An_input cn_input An_heard_input cn_heard_input An_set__in_ cn_set__in_)⟩] [(4, vp b2 0), (5, vb false), (6, vi y3)] ?_
    refine xRe ?_
    refine wpq_then ?_
    have fn_input := fn_input.mono e5.b
    have fn_heard_input := fn_heard_input.mono e5.b
    have fn_set__in_ := fn_set__in_.mono e5.b
    have eS := (Option.some.inj hS).symm
    subst eS
    exact xRetC [some 2] [(4, 0)] e5 ⟨An_input, cn_input, An_heard_input, cn_heard_input, An_set__in_, cn_set__in_, none, 0, by kernel_rfl, by kernel_rfl, fn_input, fn_heard_input, fn_set__in_, Arr.nil⟩ (fun _ _ h => h)
  · have hS := cond_F h6 hS
    have h6p : y3 = 0 := eq_of_bne_false_ h6
    refine xSk ?_
    refine wpq_then ?_
    refine xSub [(0, vp b_n 0), (3, vp b1 0), (4, vp b2 0)] ?_
    refine xSq ?_
    refine xRg ?_
    refine xBo 4 [(3, 2)] [some ⟨b2, 100, (cFrame (⟨0, 0, 0, ([] : List UInt8)⟩ : Frame) none 0)⟩, some ⟨b1, 36, (cTargets t)⟩, some ⟨b_n, 131, (cNode ({ n with next_ := 5 }) An_input cn_input An_heard_input cn_heard_input An_set__in_ cn_set__in_)⟩] [(0, vp b_n 0), (3, vp b1 0), (4, vp b2 0)] ?_
    refine xRe ?_
    refine wpq_then ?_
    refine xSq ?_
    refine xSq ?_
    refine xRg ?_
    refine xB 5 [(3, 2)] [(0, vp b_n 0), (3, vp b1 0), (4, vp b2 0), (21, vb (!n.has))] ?_
    refine xRe ?_
    refine wpq_then ?_
    refine xCd ((!n.has)) (fun h7 => ?_) (fun h7 => ?_)
    · have hS := cond_T h7 hS
      have h7n := not_eq_true_ h7
      refine xSq ?_
      refine xRg ?_
      refine xBo 4 [(1, 0)] [some ⟨b2, 100, (cFrame (⟨0, 0, 0, ([] : List UInt8)⟩ : Frame) none 0)⟩, some ⟨b1, 36, (cTargets t)⟩, some ⟨b_n, 131, (cNode ({ n with next_ := 5 }) An_input cn_input An_heard_input cn_heard_input An_set__in_ cn_set__in_)⟩] [(4, vp b2 0), (5, vb false), (6, vi 0)] ?_
      refine xRe ?_
      refine wpq_then ?_
      have fn_input := fn_input.mono e5.b
      have fn_heard_input := fn_heard_input.mono e5.b
      have fn_set__in_ := fn_set__in_.mono e5.b
      have eS := (Option.some.inj hS).symm
      subst eS
      exact xRetC [some 2] [(4, 0)] e5 ⟨An_input, cn_input, An_heard_input, cn_heard_input, An_set__in_, cn_set__in_, none, 0, by kernel_rfl, by kernel_rfl, fn_input, fn_heard_input, fn_set__in_, Arr.nil⟩ (fun _ _ h => h)
    · have hS := cond_F h7 hS
      have h7n := not_eq_false_ h7
      refine xSk ?_
      refine wpq_then ?_
      refine xSub [(0, vp b_n 0), (3, vp b1 0), (4, vp b2 0)] ?_
      refine xSq ?_
      refine xDr 0 [4, 5] [9, 6, 7, 8] [some ⟨b2, 100, (cFrame (⟨0, 0, 0, ([] : List UInt8)⟩ : Frame) none 0)⟩, some ⟨b1, 36, (cTargets t)⟩, some ⟨b_n, 131, (cNode ({ n with next_ := 5 }) An_input cn_input An_heard_input cn_heard_input An_set__in_ cn_set__in_)⟩] 10 (fun RG => ?_) (fun _ _ _ _ _ h => h)
      refine xT 1 [0, 1, 2, 3, 4, 5, 6, 7, 8] [(4, 2), (5, 1)] [some 0, some 1, some 2] [(0, vp b_n 0), (4, vp b2 0), (29, Value.agg #[vi n.steps, vy t.lateral, vy t.vertical, vy t.phase, vi t.bank, vi t.speed, vi t.alt, vi t.vs]), (31, vp b_n 19)] RG (Psi.le.refl _) ?_
      refine xO1 (lds := [4, 5]) 9 ?_
      refine xId (lds := [4, 5]) (Psi.le.refl _) (eStL b_n 19 2) ?_
      rintro _ _ _ - ⟨rfl, rfl⟩
      refine kf ?_
      refine xAe (lds := [4, 5]) ?_
      refine wpq_then ?_
      refine xSub [(0, vp b_n 0), (4, vp b2 0)] ?_
      refine xSq ?_
      refine xRg ?_
      refine xB 5 [(4, 2)] [(4, vp b2 0), (32, vp b_n 0), (36, Value.agg #[vi n.steps, vy t.lateral, vy t.vertical, vy t.phase, vi t.bank, vi t.speed, vi t.alt, vi t.vs])] ?_
      obtain ⟨y8, hy8, hS⟩ := bindO_T hS
      refine xE (eC 0 (fun g' lr eb ln => c21 g' ({ n with targets := t }) hy8)) ?_
      rintro _ g9 _ e10 ⟨_, rfl, A8_0, c8_0, k8_0, rfl, rfl, h8_0⟩
      have nh8_0 := h8_0.len
      refine wpq_freeze 0 (by kernel_rfl) h8_0 (fun g11 e12 f13 => ?_)
      have fn_input := fn_input.mono (e5.trans (e10.trans e12)).b
      have fn_heard_input := fn_heard_input.mono (e5.trans (e10.trans e12)).b
      have fn_set__in_ := fn_set__in_.mono (e5.trans (e10.trans e12)).b
      obtain ⟨y14, hy14, hS⟩ := letJ_T hS
      refine xE (eC 0 (fun g' lr eb ln => c70 g' ⟨b_n, 0, none⟩ ({ n with next_ := 5, told := { n with targets := t } }) An_input cn_input An_heard_input cn_heard_input An_set__in_ cn_set__in_ (3 : Int) (y8 : List UInt8) A8_0 c8_0 (cells_lent' 3 b_n 0 (cNode ({ n with next_ := 5, told := { n with targets := t } }) An_input cn_input An_heard_input cn_heard_input An_set__in_ cn_set__in_) ln) ((fn_input.mono g11.br).mono lr) ((fn_heard_input.mono g11.br).mono lr) ((fn_set__in_.mono g11.br).mono lr) (by rw [eb]; exact f13) hy14)) ?_
      rintro _ g15 _ e16 ⟨_, rfl, A14_0_payload, c14_0_payload, rfl, rfl, f14_0_payload⟩
      have nf14_0_payload := f14_0_payload.len
      refine xBo 3 [(7, 1)] [none, some ⟨b2, 100, (cFrame y14 A14_0_payload c14_0_payload)⟩, some ⟨b1, 36, (cTargets t)⟩, some ⟨b_n, 131, (cNode ({ n with next_ := 5, told := { n with targets := t } }) An_input cn_input An_heard_input cn_heard_input An_set__in_ cn_set__in_)⟩] [(4, vp b2 0), (5, vb true), (6, vi 0)] ?_
      refine xRe ?_
      refine wpq_then ?_
      have fn_input := fn_input.mono e16.b
      have fn_heard_input := fn_heard_input.mono e16.b
      have fn_set__in_ := fn_set__in_.mono e16.b
      have eS := (Option.some.inj hS).symm
      subst eS
      exact xRetC [some 3] [(4, 1)] (e5.trans (e10.trans (e12.trans e16))) ⟨An_input, cn_input, An_heard_input, cn_heard_input, An_set__in_, cn_set__in_, A14_0_payload, c14_0_payload, by kernel_rfl, by kernel_rfl, fn_input, fn_heard_input, fn_set__in_, f14_0_payload⟩ (fun _ _ h => h)

def o22 (p : List UInt8) : Option (Result × Int) :=
  (cond (((((p).length : Nat) : Int) != 43)) (some (((⟨0, (⟨0, 0, 0, 0, 0, 0, 0⟩ : Targets)⟩ : Result), (4 : Int)))) (bindO (τ := Int) (o55 (p : List UInt8) (8 : Int)) fun y13 => (bindO (τ := Int) (o55 ((List.drop 11 p) : List UInt8) (8 : Int)) fun y16 => (bindO (τ := Int) (o55 ((List.drop 19 p) : List UInt8) (8 : Int)) fun y19 => (bindO (τ := Int) (o55 ((List.drop 27 p) : List UInt8) (8 : Int)) fun y22 => (bindO (τ := Int) (o55 ((List.drop 35 p) : List UInt8) (8 : Int)) fun y25 => (some (((⟨y13, (⟨((List.getD p 8 0).toNat : Int), ((List.getD p 9 0).toNat : Int), ((List.getD p 10 0).toNat : Int), y16, y19, y22, y25⟩ : Targets)⟩ : Result), (0 : Int))))))))))
set_option maxRecDepth 100000 in
theorem c22 (g : Gh) (p : List UInt8) (Ap : Option Addr) (cp : Nat) (fp : Arr g.r tyU8 Ap cp p) {r : Result × Int} (hS : o22 p = some r) :
    Ctr Try.prog 22 [vs Ap p cp] g [] (fun v ψ o => v = Value.tuple #[Value.agg #[vi r.1.steps, vy r.1.targets.lateral, vy r.1.targets.vertical, vy r.1.targets.phase, vi r.1.targets.bank, vi r.1.targets.speed, vi r.1.targets.alt, vi r.1.targets.vs], vi r.2] ∧ o = []) := by
  unfold o22 at hS
  refine xFn Try.f22 (Try.f22.body.getD .skip) 33 ?_
  have nfp := fp.len
  refine xSq ?_
  refine xRg ?_
  refine xE eB ?_
  rintro _ _ _ - ⟨b1, rfl, rfl, rfl⟩
  refine xB 1 [] [(0, vs Ap p cp), (2, vp b1 0)] ?_
  refine xRe ?_
  refine wpq_then ?_
  refine xSq ?_
  refine xSq ?_
  refine xRg ?_
  refine xB 3 [] [(0, vs Ap p cp), (2, vp b1 0), (6, vb ((((p).length : Nat) : Int) != 43))] ?_
  refine xRe ?_
  refine wpq_then ?_
  refine xCd (((((p).length : Nat) : Int) != 43)) (fun h2 => ?_) (fun h2 => ?_)
  · have hS := cond_T h2 hS
    have h2p : ¬ ((((p).length : Nat) : Int) = 43) := ne_of_bne_ h2
    refine xSq ?_
    refine xRg ?_
    refine xBo 3 [(1, 0)] [some ⟨b1, 38, (cResult (⟨0, (⟨0, 0, 0, 0, 0, 0, 0⟩ : Targets)⟩ : Result))⟩] [(2, vp b1 0), (3, vi 4)] ?_
    refine xRe ?_
    refine wpq_then ?_
    have eS := (Option.some.inj hS).symm
    subst eS
    exact xRetC [] [(2, 0)] (Gh.le.refl _) ⟨by kernel_rfl, by kernel_rfl⟩ (fun _ _ h => h)
  · have hS := cond_F h2 hS
    have h2p : (((p).length : Nat) : Int) = 43 := eq_of_bne_false_ h2
    refine xSk ?_
    refine wpq_then ?_
    refine xSub [(0, vs Ap p cp), (2, vp b1 0)] ?_
    refine xSq ?_
    refine xDr 0 [4, 7, 10] [25, 23, 26] [] 27 (fun RG => ?_) (fun _ _ _ _ _ h => h)
    have i4 : 8 < (p).length := by omega
    obtain ⟨ad3, cs3, hA3, hr3, hc3⟩ := fp.at_ (get_getD (d := 0) i4)
    have hr3 : cs3 = [vy ((List.getD p 8 0).toNat : Int)] := hr3
    subst hr3
    have nb3 := UInt8.toNat_lt (List.getD p 8 0)
    refine xT 25 [0, 2] [] [] [(0, vs Ap p cp), (2, vp b1 0), (8, vs Ap p cp), (10, vs Ap p cp)] RG (Psi.le.refl _) ?_
    refine xTp 3 RG (fun _ => (qIx 8 1 hA3 rfl i4)) ?_
    refine xTv 4 [] RG (Psi.le.refl _) (qLdP (Addr.add ad3 (8 * 1)) 0 hc3) ?_
    have i6 : 9 < (p).length := by omega
    obtain ⟨ad5, cs5, hA5, hr5, hc5⟩ := fp.at_ (get_getD (d := 0) i6)
    have hr5 : cs5 = [vy ((List.getD p 9 0).toNat : Int)] := hr5
    subst hr5
    have nb5 := UInt8.toNat_lt (List.getD p 9 0)
    refine xT 22 [5] [] [] [(0, vs Ap p cp), (2, vp b1 0), (8, vs Ap p cp), (12, vy ((List.getD p 8 0).toNat : Int)), (13, vs Ap p cp)] RG (Psi.le.refl _) ?_
    refine xTp 6 RG (fun _ => (qIx 9 1 hA5 rfl i6)) ?_
    refine xTv 7 [] RG (Psi.le.refl _) (qLdP (Addr.add ad5 (9 * 1)) 0 hc5) ?_
    have i8 : 10 < (p).length := by omega
    obtain ⟨ad7, cs7, hA7, hr7, hc7⟩ := fp.at_ (get_getD (d := 0) i8)
    have hr7 : cs7 = [vy ((List.getD p 10 0).toNat : Int)] := hr7
    subst hr7
    have nb7 := UInt8.toNat_lt (List.getD p 10 0)
    refine xT 19 [8] [] [] [(0, vs Ap p cp), (2, vp b1 0), (8, vs Ap p cp), (12, vy ((List.getD p 8 0).toNat : Int)), (15, vy ((List.getD p 9 0).toNat : Int)), (16, vs Ap p cp)] RG (Psi.le.refl _) ?_
    refine xTp 9 RG (fun _ => (qIx 10 1 hA7 rfl i8)) ?_
    refine xTv 10 [] RG (Psi.le.refl _) (qLdP (Addr.add ad7 (10 * 1)) 0 hc7) ?_
    have ncapf9 := fp.cap
    have f9 : Arr g.r tyU8 (offA Ap cp 11 1) (cp - 11) (List.drop 11 p) := fp.cut_from 11 (by omega)
    have nf9 := f9.len
    have hlf9 : (p).length - 11 = ((List.drop 11 p)).length := by simp only [List.length_take, List.length_drop] <;> omega
    have hvf9 : ((((List.drop 11 p)).length : Nat) : Int) = (((p).length : Nat) : Int) - 11 := by omega
    refine xT 16 [11] [] [] [(0, vs Ap p cp), (2, vp b1 0), (8, vs Ap p cp), (12, vy ((List.getD p 8 0).toNat : Int)), (15, vy ((List.getD p 9 0).toNat : Int)), (18, vy ((List.getD p 10 0).toNat : Int)), (19, vs Ap p cp)] RG (Psi.le.refl _) ?_
    refine xTp 12 RG (fun _ => (qSl (m := 1) (A := Ap) (len := (p).length) (c := cp) 11 (p).length (some 11) none ((List.drop 11 p)).length rfl rfl (by omega) (by omega) hlf9)) ?_
    have ncapf10 := fp.cap
    have f10 : Arr g.r tyU8 (offA Ap cp 19 1) (cp - 19) (List.drop 19 p) := fp.cut_from 19 (by omega)
    have nf10 := f10.len
    have hlf10 : (p).length - 19 = ((List.drop 19 p)).length := by simp only [List.length_take, List.length_drop] <;> omega
    have hvf10 : ((((List.drop 19 p)).length : Nat) : Int) = (((p).length : Nat) : Int) - 19 := by omega
    refine xT 14 [14] [] [] [(0, vs Ap p cp), (2, vp b1 0), (8, vs Ap p cp), (12, vy ((List.getD p 8 0).toNat : Int)), (15, vy ((List.getD p 9 0).toNat : Int)), (18, vy ((List.getD p 10 0).toNat : Int)), (20, vs (offA Ap cp 11 1) (List.drop 11 p) (cp - 11)), (22, vs Ap p cp)] RG (Psi.le.refl _) ?_
    refine xTp 15 RG (fun _ => (qSl (m := 1) (A := Ap) (len := (p).length) (c := cp) 19 (p).length (some 19) none ((List.drop 19 p)).length rfl rfl (by omega) (by omega) hlf10)) ?_
    have ncapf11 := fp.cap
    have f11 : Arr g.r tyU8 (offA Ap cp 27 1) (cp - 27) (List.drop 27 p) := fp.cut_from 27 (by omega)
    have nf11 := f11.len
    have hlf11 : (p).length - 27 = ((List.drop 27 p)).length := by simp only [List.length_take, List.length_drop] <;> omega
    have hvf11 : ((((List.drop 27 p)).length : Nat) : Int) = (((p).length : Nat) : Int) - 27 := by omega
    refine xT 12 [17] [] [] [(0, vs Ap p cp), (2, vp b1 0), (8, vs Ap p cp), (12, vy ((List.getD p 8 0).toNat : Int)), (15, vy ((List.getD p 9 0).toNat : Int)), (18, vy ((List.getD p 10 0).toNat : Int)), (20, vs (offA Ap cp 11 1) (List.drop 11 p) (cp - 11)), (23, vs (offA Ap cp 19 1) (List.drop 19 p) (cp - 19)), (25, vs Ap p cp)] RG (Psi.le.refl _) ?_
    refine xTp 18 RG (fun _ => (qSl (m := 1) (A := Ap) (len := (p).length) (c := cp) 27 (p).length (some 27) none ((List.drop 27 p)).length rfl rfl (by omega) (by omega) hlf11)) ?_
    have ncapf12 := fp.cap
    have f12 : Arr g.r tyU8 (offA Ap cp 35 1) (cp - 35) (List.drop 35 p) := fp.cut_from 35 (by omega)
    have nf12 := f12.len
    have hlf12 : (p).length - 35 = ((List.drop 35 p)).length := by simp only [List.length_take, List.length_drop] <;> omega
    have hvf12 : ((((List.drop 35 p)).length : Nat) : Int) = (((p).length : Nat) : Int) - 35 := by omega
    refine xT 10 [20] [] [] [(2, vp b1 0), (8, vs Ap p cp), (12, vy ((List.getD p 8 0).toNat : Int)), (15, vy ((List.getD p 9 0).toNat : Int)), (18, vy ((List.getD p 10 0).toNat : Int)), (20, vs (offA Ap cp 11 1) (List.drop 11 p) (cp - 11)), (23, vs (offA Ap cp 19 1) (List.drop 19 p) (cp - 19)), (26, vs (offA Ap cp 27 1) (List.drop 27 p) (cp - 27)), (28, vs Ap p cp)] RG (Psi.le.refl _) ?_
    refine xTp 21 RG (fun _ => (qSl (m := 1) (A := Ap) (len := (p).length) (c := cp) 35 (p).length (some 35) none ((List.drop 35 p)).length rfl rfl (by omega) (by omega) hlf12)) ?_
    obtain ⟨y13, hy13, hS⟩ := bindO_T hS
    refine xO1 (lds := [4, 7, 10]) 1 ?_
    refine xIe (lds := [4, 7, 10]) (Psi.le.refl _) (eC 0 (fun g' lr eb ln => c55 g' (p : List UInt8) Ap cp (8 : Int) (fp.mono lr) hy13)) ?_
    rintro _ g14 _ e15 ⟨_, rfl, rfl, rfl⟩
    refine kk [] ?_
    have f9 := f9.mono e15.r
    obtain ⟨y16, hy16, hS⟩ := bindO_T hS
    refine xO1 (lds := [4, 7, 10]) 13 ?_
    refine xIe (lds := [4, 7, 10]) e15.r (eC 0 (fun g' lr eb ln => c55 g' ((List.drop 11 p) : List UInt8) (offA Ap cp 11 1) (cp - 11) (8 : Int) (f9.mono lr) hy16)) ?_
    rintro _ g17 _ e18 ⟨_, rfl, rfl, rfl⟩
    refine kk [] ?_
    have f10 := f10.mono (e15.trans e18).r
    obtain ⟨y19, hy19, hS⟩ := bindO_T hS
    refine xO1 (lds := [4, 7, 10]) 16 ?_
    refine xIe (lds := [4, 7, 10]) (e15.trans e18).r (eC 0 (fun g' lr eb ln => c55 g' ((List.drop 19 p) : List UInt8) (offA Ap cp 19 1) (cp - 19) (8 : Int) (f10.mono lr) hy19)) ?_
    rintro _ g20 _ e21 ⟨_, rfl, rfl, rfl⟩
    refine kk [] ?_
    have f11 := f11.mono (e15.trans (e18.trans e21)).r
    obtain ⟨y22, hy22, hS⟩ := bindO_T hS
    refine xO1 (lds := [4, 7, 10]) 19 ?_
    refine xIe (lds := [4, 7, 10]) (e15.trans (e18.trans e21)).r (eC 0 (fun g' lr eb ln => c55 g' ((List.drop 27 p) : List UInt8) (offA Ap cp 27 1) (cp - 27) (8 : Int) (f11.mono lr) hy22)) ?_
    rintro _ g23 _ e24 ⟨_, rfl, rfl, rfl⟩
    refine kk [] ?_
    have f12 := f12.mono (e15.trans (e18.trans (e21.trans e24))).r
    obtain ⟨y25, hy25, hS⟩ := bindO_T hS
    refine xO1 (lds := [4, 7, 10]) 22 ?_
    refine xIe (lds := [4, 7, 10]) (e15.trans (e18.trans (e21.trans e24))).r (eC 0 (fun g' lr eb ln => c55 g' ((List.drop 35 p) : List UInt8) (offA Ap cp 35 1) (cp - 35) (8 : Int) (f12.mono lr) hy25)) ?_
    rintro _ g26 _ e27 ⟨_, rfl, rfl, rfl⟩
    refine kk [] ?_
    refine xT 2 [23, 24] [] [] [(2, vp b1 0), (32, Value.agg #[vi y13, vy ((List.getD p 8 0).toNat : Int), vy ((List.getD p 9 0).toNat : Int), vy ((List.getD p 10 0).toNat : Int), vi y16, vi y19, vi y22, vi y25])] RG (e15.trans (e18.trans (e21.trans (e24.trans e27)))).r ?_
    refine xO1 (lds := [4, 7, 10]) 25 ?_
    refine xId (lds := [4, 7, 10]) (e15.trans (e18.trans (e21.trans (e24.trans e27)))).r (eStL b1 0 0) ?_
    rintro _ _ _ - ⟨rfl, rfl⟩
    refine kf ?_
    refine xT 0 [26] [] [] [(2, vp b1 0), (3, vi 0)] RG (e15.trans (e18.trans (e21.trans (e24.trans e27)))).r ?_
    refine xAe (lds := [4, 7, 10]) ?_
    refine wpq_then ?_
    have eS := (Option.some.inj hS).symm
    subst eS
    exact xRetC [] [(2, 0)] (e15.trans (e18.trans (e21.trans (e24.trans e27)))) ⟨by kernel_rfl, by kernel_rfl⟩ (fun _ _ h => h)

def o51 (n : Node) (f : Frame) (came : Bool) : Option (Node × Int × Int) :=
  (letJ (τ := Int) (o69 n (5 : Int)) fun y2 => (cond ((y2 != 0)) (some ((n, (0 : Int), (y2 : Int)))) (cond ((!n.has)) (some ((({ n with next_ := 0 }), (2 : Int), (0 : Int)))) (bindO (τ := Result × Int) (o22 (f.payload : List UInt8)) fun y7 => (letJ (τ := Bool) (o71 ({ n with next_ := 0 }) f (came) (3 : Int)) fun y11 => (cond ((!(y11 && (y7.2 == 0)))) (some ((({ n with next_ := 0 }), (3 : Int), (0 : Int)))) (letJ (τ := Bool) (cond ((n.role == 3)) (true) (letJ (τ := Bool) (o72 ({ n with next_ := 0 })) fun y22 => y22)) fun t16 => (cond ((t16 && ((y7.1.steps == n.told.steps) && ((y7.1.targets.lateral == n.told.targets.lateral) && ((y7.1.targets.vertical == n.told.targets.vertical) && ((y7.1.targets.phase == n.told.targets.phase) && ((y7.1.targets.bank == n.told.targets.bank) && ((y7.1.targets.speed == n.told.targets.speed) && ((y7.1.targets.alt == n.told.targets.alt) && (y7.1.targets.vs == n.told.targets.vs)))))))))) (some ((({ n with next_ := 0 }), (4 : Int), (0 : Int)))) (some ((({ n with next_ := 0 }), (2 : Int), (0 : Int))))))))))))
set_option maxRecDepth 100000 in
theorem c51 (g : Gh) (b_n : Nat) (n : Node) (An_input : Option Addr) (cn_input : Nat) (An_heard_input : Option Addr) (cn_heard_input : Nat) (An_set__in_ : Option Addr) (cn_set__in_ : Nat) (f : Frame) (Af_payload : Option Addr) (cf_payload : Nat) (came : Bool) (fn_input : Arr g.b tyU8 An_input cn_input n.input) (fn_heard_input : Arr g.b tyU8 An_heard_input cn_heard_input n.heard.input) (fn_set__in_ : Arr g.b tyU8 An_set__in_ cn_set__in_ n.set_.in_) (ff_payload : Arr g.r tyU8 Af_payload cf_payload f.payload) {r : Node × Int × Int} (hS : o51 n f came = some r) :
    Ctr Try.prog 51 [vp b_n 0, Value.agg #[vy f.label, vy f.from_, vi f.cycle, vs Af_payload f.payload cf_payload], vb came] g [some ⟨b_n, 131, (cNode n An_input cn_input An_heard_input cn_heard_input An_set__in_ cn_set__in_)⟩] (fun v ψ o => ∃ (Ao_n_input : Option Addr) (co_n_input : Nat) (Ao_n_heard_input : Option Addr) (co_n_heard_input : Nat) (Ao_n_set__in_ : Option Addr) (co_n_set__in_ : Nat), v = Value.tuple #[vy r.2.1, vi r.2.2] ∧ o = [some ⟨b_n, 131, (cNode r.1 Ao_n_input co_n_input Ao_n_heard_input co_n_heard_input Ao_n_set__in_ co_n_set__in_)⟩] ∧ Arr ψ tyU8 Ao_n_input co_n_input r.1.input ∧ Arr ψ tyU8 Ao_n_heard_input co_n_heard_input r.1.heard.input ∧ Arr ψ tyU8 Ao_n_set__in_ co_n_set__in_ r.1.set_.in_) := by
  unfold o51 at hS
  refine xFn Try.f51 (Try.f51.body.getD .skip) 60 ?_
  have nfn_input := fn_input.len
  have nfn_heard_input := fn_heard_input.len
  have nfn_set__in_ := fn_set__in_.len
  have nff_payload := ff_payload.len
  refine xSq ?_
  refine xRg ?_
  refine xE eB ?_
  rintro _ _ _ - ⟨b1, rfl, rfl, rfl⟩
  refine xB 2 [] [(0, vp b_n 0), (2, vb came), (4, vp b1 0)] ?_
  refine xRe ?_
  refine wpq_then ?_
  refine xSq ?_
  refine xSq ?_
  refine xRg ?_
  refine xB 1 [] [(0, vp b_n 0), (2, vb came), (4, vp b1 0), (12, vp b_n 0)] ?_
  obtain ⟨y2, hy2, hS⟩ := letJ_T hS
  refine xE (eC 0 (fun g' lr eb ln => c69 g' ⟨b_n, 0, none⟩ n An_input cn_input An_heard_input cn_heard_input An_set__in_ cn_set__in_ (5 : Int) (cells_lent' 1 b_n 0 (cNode n An_input cn_input An_heard_input cn_heard_input An_set__in_ cn_set__in_) ln) ((fn_input.mono g.br).mono lr) ((fn_heard_input.mono g.br).mono lr) ((fn_set__in_.mono g.br).mono lr) hy2)) ?_
  rintro _ g3 _ e4 ⟨_, rfl, rfl, rfl⟩
  refine xB 1 [] [(0, vp b_n 0), (2, vb came), (4, vp b1 0), (8, vi y2)] ?_
  refine xRe ?_
  refine wpq_then ?_
  refine xSq ?_
  refine xRg ?_
  refine xB 2 [] [(0, vp b_n 0), (2, vb came), (4, vp b1 0), (8, vi y2), (15, vb (y2 != 0))] ?_
  refine xRe ?_
  refine wpq_then ?_
  refine xCd ((y2 != 0)) (fun h5 => ?_) (fun h5 => ?_)
  · have hS := cond_T h5 hS
    have h5p : ¬ (y2 = 0) := ne_of_bne_ h5
    refine xSq ?_
    refine xRg ?_
    refine xB 3 [] [(6, vy 0), (7, vi y2)] ?_
    refine xRe ?_
    refine wpq_then ?_
    have fn_input := fn_input.mono e4.b
    have fn_heard_input := fn_heard_input.mono e4.b
    have fn_set__in_ := fn_set__in_.mono e4.b
    have eS := (Option.some.inj hS).symm
    subst eS
    exact xRet [some 1] [6, 7] e4 ⟨An_input, cn_input, An_heard_input, cn_heard_input, An_set__in_, cn_set__in_, by kernel_rfl, by kernel_rfl, fn_input, fn_heard_input, fn_set__in_⟩ (fun _ _ h => h)
  · have hS := cond_F h5 hS
    have h5p : y2 = 0 := eq_of_bne_false_ h5
    refine xSk ?_
    refine wpq_then ?_
    refine xSub [(0, vp b_n 0), (2, vb came), (4, vp b1 0)] ?_
    refine xSq ?_
    refine xRg ?_
    refine xBo 4 [(3, 1)] [some ⟨b1, 100, (cFrame f Af_payload cf_payload)⟩, some ⟨b_n, 131, (cNode ({ n with next_ := 0 }) An_input cn_input An_heard_input cn_heard_input An_set__in_ cn_set__in_)⟩] [(0, vp b_n 0), (2, vb came), (4, vp b1 0)] ?_
    refine xRe ?_
    refine wpq_then ?_
    refine xSq ?_
    refine xSq ?_
    refine xRg ?_
    refine xB 5 [(3, 1)] [(0, vp b_n 0), (2, vb came), (4, vp b1 0), (24, vb (!n.has))] ?_
    refine xRe ?_
    refine wpq_then ?_
    refine xCd ((!n.has)) (fun h6 => ?_) (fun h6 => ?_)
    · have hS := cond_T h6 hS
      have h6n := not_eq_true_ h6
      refine xSq ?_
      refine xRg ?_
      refine xB 2 [] [(6, vy 2), (7, vi 0)] ?_
      refine xRe ?_
      refine wpq_then ?_
      have fn_input := fn_input.mono e4.b
      have fn_heard_input := fn_heard_input.mono e4.b
      have fn_set__in_ := fn_set__in_.mono e4.b
      have eS := (Option.some.inj hS).symm
      subst eS
      exact xRet [some 1] [6, 7] e4 ⟨An_input, cn_input, An_heard_input, cn_heard_input, An_set__in_, cn_set__in_, by kernel_rfl, by kernel_rfl, fn_input, fn_heard_input, fn_set__in_⟩ (fun _ _ h => h)
    · have hS := cond_F h6 hS
      have h6n := not_eq_false_ h6
      refine xSk ?_
      refine wpq_then ?_
      refine xSub [(0, vp b_n 0), (2, vb came), (4, vp b1 0)] ?_
      refine xSq ?_
      refine xRg ?_
      refine xB 2 [(1, 0)] [(0, vp b_n 0), (2, vb came), (4, vp b1 0), (27, vs Af_payload f.payload cf_payload)] ?_
      have ff_payload := ff_payload.mono e4.r
      obtain ⟨y7, hy7, hS⟩ := bindO_T hS
      refine xE (eC 0 (fun g' lr eb ln => c22 g' (f.payload : List UInt8) Af_payload cf_payload (ff_payload.mono lr) hy7)) ?_
      rintro _ g8 _ e9 ⟨_, rfl, rfl, rfl⟩
      refine xB 3 [] [(0, vp b_n 0), (2, vb came), (4, vp b1 0), (29, Value.agg #[vi y7.1.steps, vy y7.1.targets.lateral, vy y7.1.targets.vertical, vy y7.1.targets.phase, vi y7.1.targets.bank, vi y7.1.targets.speed, vi y7.1.targets.alt, vi y7.1.targets.vs]), (30, vi y7.2)] ?_
      refine xE eB ?_
      rintro _ _ _ - ⟨b10, rfl, rfl, rfl⟩
      refine xBo 2 [(7, 0)] [some ⟨b10, 38, (cResult y7.1)⟩, some ⟨b1, 100, (cFrame f Af_payload cf_payload)⟩, some ⟨b_n, 131, (cNode ({ n with next_ := 0 }) An_input cn_input An_heard_input cn_heard_input An_set__in_ cn_set__in_)⟩] [(0, vp b_n 0), (2, vb came), (4, vp b1 0), (9, vp b10 0), (10, vi y7.2)] ?_
      refine xRe ?_
      refine wpq_then ?_
      refine xSq ?_
      refine xRg ?_
      refine xB 3 [(1, 1)] [(0, vp b_n 0), (9, vp b10 0), (10, vi y7.2), (31, vp b_n 0), (32, Value.agg #[vy f.label, vy f.from_, vi f.cycle, vs Af_payload f.payload cf_payload]), (33, vb came)] ?_
      have fn_input := fn_input.mono (e4.trans e9).b
      have fn_heard_input := fn_heard_input.mono (e4.trans e9).b
      have fn_set__in_ := fn_set__in_.mono (e4.trans e9).b
      have ff_payload := ff_payload.mono e9.r
      obtain ⟨y11, hy11, hS⟩ := letJ_T hS
      refine xE (eC 0 (fun g' lr eb ln => c71 g' ⟨b_n, 0, none⟩ ({ n with next_ := 0 }) An_input cn_input An_heard_input cn_heard_input An_set__in_ cn_set__in_ f Af_payload cf_payload (came) (3 : Int) (cells_lent' 2 b_n 0 (cNode ({ n with next_ := 0 }) An_input cn_input An_heard_input cn_heard_input An_set__in_ cn_set__in_) ln) ((fn_input.mono g8.br).mono lr) ((fn_heard_input.mono g8.br).mono lr) ((fn_set__in_.mono g8.br).mono lr) (ff_payload.mono lr) hy11)) ?_
      rintro _ g12 _ e13 ⟨_, rfl, rfl, rfl⟩
      refine xB 1 [] [(0, vp b_n 0), (9, vp b10 0), (10, vi y7.2), (35, vb y11)] ?_
      refine wpr_grp 8 [(0, vp b_n 0), (9, vp b10 0), (38, vb (y11 && (y7.2 == 0)))] (fun hk4 => ?_) ?_
      · refine wpq_split 35 (b := y11) (by kernel_rfl) (fun q14 => ?_) (fun q14 => ?_)
        · refine xB 3 [] [(0, vp b_n 0), (9, vp b10 0), (38, vb (y7.2 == 0))] ?_
          refine wpq_re 38 (v := vb (y7.2 == 0)) (Value.bool ((y11 && (y7.2 == 0)))) (by kernel_rfl) (re_and1 q14) ?_
          exact wpq_sub _ (by kernel_rfl) hk4
        · refine xB 3 [] [(0, vp b_n 0), (9, vp b10 0), (38, vb false)] ?_
          refine wpq_re 38 (v := vb false) (Value.bool ((y11 && (y7.2 == 0)))) (by kernel_rfl) (re_and0 q14) ?_
          exact wpq_sub _ (by kernel_rfl) hk4
      · refine xB 1 [] [(0, vp b_n 0), (9, vp b10 0), (11, vb (y11 && (y7.2 == 0)))] ?_
        refine xRe ?_
        refine wpq_then ?_
        refine xSq ?_
        refine xBl 0 ?_
        refine xSq ?_
        refine xRg ?_
        refine xB 3 [] [(0, vp b_n 0), (9, vp b10 0), (39, vb (!(y11 && (y7.2 == 0))))] ?_
        refine xRe ?_
        refine wpq_then ?_
        refine xCd ((!(y11 && (y7.2 == 0)))) (fun h15 => ?_) (fun h15 => ?_)
        · have hS := cond_T h15 hS
          have h15n := not_eq_true_ h15
          refine xSq ?_
          refine xRg ?_
          refine xB 2 [] [(6, vy 3), (7, vi 0)] ?_
          refine xRe ?_
          refine wpq_then ?_
          have fn_input := fn_input.mono e13.b
          have fn_heard_input := fn_heard_input.mono e13.b
          have fn_set__in_ := fn_set__in_.mono e13.b
          have eS := (Option.some.inj hS).symm
          subst eS
          exact xRet [some 2] [6, 7] (e4.trans (e9.trans e13)) ⟨An_input, cn_input, An_heard_input, cn_heard_input, An_set__in_, cn_set__in_, by kernel_rfl, by kernel_rfl, fn_input, fn_heard_input, fn_set__in_⟩ (fun _ _ h => h)
        · have hS := cond_F h15 hS
          have h15n := not_eq_false_ h15
          have h15nl := (and_true_ h15n).1
          have h15nr := (and_true_ h15n).2
          have h15nrp : y7.2 = 0 := eq_of_beq h15nr
          refine xSq ?_
          refine xDr 0 [3, 10, 14] [] [some ⟨b10, 38, (cResult y7.1)⟩, some ⟨b1, 100, (cFrame f Af_payload cf_payload)⟩, some ⟨b_n, 131, (cNode ({ n with next_ := 0 }) An_input cn_input An_heard_input cn_heard_input An_set__in_ cn_set__in_)⟩] 18 (fun RG => ?_) (fun _ _ _ _ _ h => h)
          refine xT 12 [0, 1, 2, 3, 4, 5] [(3, 2)] [some 0, some 1, some 2] [(0, vp b_n 0), (9, vp b10 0), (48, vb (n.role == 3))] RG (Psi.le.refl _) ?_
          refine xGJlA hS 9 [true, true, true, true, true, true, true, true, true, false, false, false, false, false, false, false, false, false] (fun g own sl t16 => own = [some ⟨b10, 38, (cResult y7.1)⟩, some ⟨b1, 100, (cFrame f Af_payload cf_payload)⟩, some ⟨b_n, 131, (cNode ({ n with next_ := 0 }) An_input cn_input An_heard_input cn_heard_input An_set__in_ cn_set__in_)⟩] ∧ sl = [(0, vp b_n 0), (9, vp b10 0), (51, vb t16)]) ?_ ?_
          · rintro g17 _ _ t16 e18 ⟨rfl, rfl⟩ hS
            refine xT 8 [9] [] [some 0, some 1, some 2] [(0, vp b_n 0), (9, vp b10 0), (52, vb t16)] RG e18.r ?_
            refine wpa_grp 1 [true, true, true, true, true, true, true, true, true, true, true, true, true, true, true, true, true, false] [(59, vb (t16 && ((y7.1.steps == n.told.steps) && ((y7.1.targets.lateral == n.told.targets.lateral) && ((y7.1.targets.vertical == n.told.targets.vertical) && ((y7.1.targets.phase == n.told.targets.phase) && ((y7.1.targets.bank == n.told.targets.bank) && ((y7.1.targets.speed == n.told.targets.speed) && ((y7.1.targets.alt == n.told.targets.alt) && (y7.1.targets.vs == n.told.targets.vs))))))))))] (fun hk9 => ?_) ?_
            · refine wpq_split 52 (b := t16) (by kernel_rfl) (fun q19 => ?_) (fun q19 => ?_)
              · refine xT 3 [10, 11, 12, 13, 14] [(10, 0), (14, 2)] [some 0, some 1, some 2] [(52, vb true), (53, Value.agg #[vi y7.1.steps, vy y7.1.targets.lateral, vy y7.1.targets.vertical, vy y7.1.targets.phase, vi y7.1.targets.bank, vi y7.1.targets.speed, vi y7.1.targets.alt, vi y7.1.targets.vs]), (57, Value.agg #[vi n.told.steps, vy n.told.targets.lateral, vy n.told.targets.vertical, vy n.told.targets.phase, vi n.told.targets.bank, vi n.told.targets.speed, vi n.told.targets.alt, vi n.told.targets.vs])] RG e18.r ?_
                refine xTp 15 RG (fun _ => (qEqA (((y7.1.steps == n.told.steps) && ((y7.1.targets.lateral == n.told.targets.lateral) && ((y7.1.targets.vertical == n.told.targets.vertical) && ((y7.1.targets.phase == n.told.targets.phase) && ((y7.1.targets.bank == n.told.targets.bank) && ((y7.1.targets.speed == n.told.targets.speed) && ((y7.1.targets.alt == n.told.targets.alt) && (y7.1.targets.vs == n.told.targets.vs))))))))))) ?_
                refine xT 1 [16] [] [some 0, some 1, some 2] [(59, vb ((y7.1.steps == n.told.steps) && ((y7.1.targets.lateral == n.told.targets.lateral) && ((y7.1.targets.vertical == n.told.targets.vertical) && ((y7.1.targets.phase == n.told.targets.phase) && ((y7.1.targets.bank == n.told.targets.bank) && ((y7.1.targets.speed == n.told.targets.speed) && ((y7.1.targets.alt == n.told.targets.alt) && (y7.1.targets.vs == n.told.targets.vs)))))))))] RG e18.r ?_
                refine wpq_re 59 (v := vb ((y7.1.steps == n.told.steps) && ((y7.1.targets.lateral == n.told.targets.lateral) && ((y7.1.targets.vertical == n.told.targets.vertical) && ((y7.1.targets.phase == n.told.targets.phase) && ((y7.1.targets.bank == n.told.targets.bank) && ((y7.1.targets.speed == n.told.targets.speed) && ((y7.1.targets.alt == n.told.targets.alt) && (y7.1.targets.vs == n.told.targets.vs))))))))) (Value.bool ((t16 && ((y7.1.steps == n.told.steps) && ((y7.1.targets.lateral == n.told.targets.lateral) && ((y7.1.targets.vertical == n.told.targets.vertical) && ((y7.1.targets.phase == n.told.targets.phase) && ((y7.1.targets.bank == n.told.targets.bank) && ((y7.1.targets.speed == n.told.targets.speed) && ((y7.1.targets.alt == n.told.targets.alt) && (y7.1.targets.vs == n.told.targets.vs))))))))))) (by kernel_rfl) (re_and1 q19) ?_
                exact wpq_sub _ (by kernel_rfl) hk9
              · refine xT 1 [10, 11, 12, 13, 14, 15, 16] [] [some 0, some 1, some 2] [(59, vb false)] RG e18.r ?_
                refine wpq_re 59 (v := vb false) (Value.bool ((t16 && ((y7.1.steps == n.told.steps) && ((y7.1.targets.lateral == n.told.targets.lateral) && ((y7.1.targets.vertical == n.told.targets.vertical) && ((y7.1.targets.phase == n.told.targets.phase) && ((y7.1.targets.bank == n.told.targets.bank) && ((y7.1.targets.speed == n.told.targets.speed) && ((y7.1.targets.alt == n.told.targets.alt) && (y7.1.targets.vs == n.told.targets.vs))))))))))) (by kernel_rfl) (re_and0 q19) ?_
                exact wpq_sub _ (by kernel_rfl) hk9
            · refine xT 0 [17] [] [some 0, some 1, some 2] [(42, vb (t16 && ((y7.1.steps == n.told.steps) && ((y7.1.targets.lateral == n.told.targets.lateral) && ((y7.1.targets.vertical == n.told.targets.vertical) && ((y7.1.targets.phase == n.told.targets.phase) && ((y7.1.targets.bank == n.told.targets.bank) && ((y7.1.targets.speed == n.told.targets.speed) && ((y7.1.targets.alt == n.told.targets.alt) && (y7.1.targets.vs == n.told.targets.vs))))))))))] RG e18.r ?_
              refine xAe (lds := [3, 10, 14]) ?_
              refine wpq_then ?_
              refine xCd ((t16 && ((y7.1.steps == n.told.steps) && ((y7.1.targets.lateral == n.told.targets.lateral) && ((y7.1.targets.vertical == n.told.targets.vertical) && ((y7.1.targets.phase == n.told.targets.phase) && ((y7.1.targets.bank == n.told.targets.bank) && ((y7.1.targets.speed == n.told.targets.speed) && ((y7.1.targets.alt == n.told.targets.alt) && (y7.1.targets.vs == n.told.targets.vs)))))))))) (fun h20 => ?_) (fun h20 => ?_)
              · have hS := cond_T h20 hS
                have h20l := (and_true_ h20).1
                have h20r := (and_true_ h20).2
                have h20rl := (and_true_ h20r).1
                have h20rr := (and_true_ h20r).2
                have h20rlp : y7.1.steps = n.told.steps := eq_of_beq h20rl
                have h20rrl := (and_true_ h20rr).1
                have h20rrr := (and_true_ h20rr).2
                have h20rrlp : y7.1.targets.lateral = n.told.targets.lateral := eq_of_beq h20rrl
                have h20rrrl := (and_true_ h20rrr).1
                have h20rrrr := (and_true_ h20rrr).2
                have h20rrrlp : y7.1.targets.vertical = n.told.targets.vertical := eq_of_beq h20rrrl
                have h20rrrrl := (and_true_ h20rrrr).1
                have h20rrrrr := (and_true_ h20rrrr).2
                have h20rrrrlp : y7.1.targets.phase = n.told.targets.phase := eq_of_beq h20rrrrl
                have h20rrrrrl := (and_true_ h20rrrrr).1
                have h20rrrrrr := (and_true_ h20rrrrr).2
                have h20rrrrrlp : y7.1.targets.bank = n.told.targets.bank := eq_of_beq h20rrrrrl
                have h20rrrrrrl := (and_true_ h20rrrrrr).1
                have h20rrrrrrr := (and_true_ h20rrrrrr).2
                have h20rrrrrrlp : y7.1.targets.speed = n.told.targets.speed := eq_of_beq h20rrrrrrl
                have h20rrrrrrrl := (and_true_ h20rrrrrrr).1
                have h20rrrrrrrr := (and_true_ h20rrrrrrr).2
                have h20rrrrrrrlp : y7.1.targets.alt = n.told.targets.alt := eq_of_beq h20rrrrrrrl
                have h20rrrrrrrrp : y7.1.targets.vs = n.told.targets.vs := eq_of_beq h20rrrrrrrr
                refine xSq ?_
                refine xRg ?_
                refine xB 2 [] [(6, vy 4), (7, vi 0)] ?_
                refine xRe ?_
                refine wpq_then ?_
                have fn_input := fn_input.mono (e13.trans e18).b
                have fn_heard_input := fn_heard_input.mono (e13.trans e18).b
                have fn_set__in_ := fn_set__in_.mono (e13.trans e18).b
                have eS := (Option.some.inj hS).symm
                subst eS
                exact xRet [some 2] [6, 7] (e4.trans (e9.trans (e13.trans e18))) ⟨An_input, cn_input, An_heard_input, cn_heard_input, An_set__in_, cn_set__in_, by kernel_rfl, by kernel_rfl, fn_input, fn_heard_input, fn_set__in_⟩ (fun _ _ h => h)
              · have hS := cond_F h20 hS
                refine xSk ?_
                refine wpq_blockN ?_
                refine wpq_then ?_
                refine xSub [] ?_
                refine xSq ?_
                refine xRg ?_
                refine xB 2 [] [(6, vy 2), (7, vi 0)] ?_
                refine xRe ?_
                refine wpq_then ?_
                have fn_input := fn_input.mono (e13.trans e18).b
                have fn_heard_input := fn_heard_input.mono (e13.trans e18).b
                have fn_set__in_ := fn_set__in_.mono (e13.trans e18).b
                have eS := (Option.some.inj hS).symm
                subst eS
                exact xRet [some 2] [6, 7] (e4.trans (e9.trans (e13.trans e18))) ⟨An_input, cn_input, An_heard_input, cn_heard_input, An_set__in_, cn_set__in_, by kernel_rfl, by kernel_rfl, fn_input, fn_heard_input, fn_set__in_⟩ (fun _ _ h => h)
          · intro u16 hS hN16
            refine wpq_split 48 (b := (n.role == 3)) (by kernel_rfl) (fun q21 => ?_) (fun q21 => ?_)
            · have hS := cond_T q21 hS
              have q21p : n.role = 3 := eq_of_beq q21
              refine xT 11 [6] [] [some 0, some 1, some 2] [(0, vp b_n 0), (9, vp b10 0), (48, vb true), (49, undef)] RG (Psi.le.refl _) ?_
              refine xO1 (lds := [3, 10, 14]) 7 ?_
              refine xIb (lds := [3, 10, 14]) [] ?_
              refine xT 9 [8] [] [some 0, some 1, some 2] [(0, vp b_n 0), (9, vp b10 0), (51, vb true)] RG (Psi.le.refl _) ?_
              refine xSub [(0, vp b_n 0), (9, vp b10 0), (51, vb true)] ?_
              exact hN16 _ hS.symm _ _ _ (Gh.le.refl _) ⟨by kernel_rfl, by kernel_rfl⟩
            · have hS := cond_F q21 hS
              have q21p : ¬ (n.role = 3) := ne_of_beq_false_ q21
              refine xT 11 [6] [] [some 0, some 1, some 2] [(0, vp b_n 0), (9, vp b10 0), (48, vb false), (49, vp b_n 0)] RG (Psi.le.refl _) ?_
              have fn_input := fn_input.mono e13.b
              have fn_heard_input := fn_heard_input.mono e13.b
              have fn_set__in_ := fn_set__in_.mono e13.b
              obtain ⟨y22, hy22, hS⟩ := letJ_T hS
              refine xO1 (lds := [3, 10, 14]) 7 ?_
              refine xIe (lds := [3, 10, 14]) (Psi.le.refl _) (eC 0 (fun g' lr eb ln => c72 g' ⟨b_n, 0, none⟩ ({ n with next_ := 0 }) An_input cn_input An_heard_input cn_heard_input An_set__in_ cn_set__in_ (cells_lent' 2 b_n 0 (cNode ({ n with next_ := 0 }) An_input cn_input An_heard_input cn_heard_input An_set__in_ cn_set__in_) ln) ((fn_input.mono g12.br).mono lr) ((fn_heard_input.mono g12.br).mono lr) ((fn_set__in_.mono g12.br).mono lr) hy22)) ?_
              rintro _ g23 _ e24 ⟨_, rfl, rfl, rfl⟩
              refine kk [some 0, some 1, some 2] ?_
              refine xT 9 [8] [] [some 0, some 1, some 2] [(0, vp b_n 0), (9, vp b10 0), (51, vb y22)] RG e24.r ?_
              refine xSub [(0, vp b_n 0), (9, vp b10 0), (51, vb y22)] ?_
              exact hN16 _ hS.symm _ _ _ e24 ⟨by kernel_rfl, by kernel_rfl⟩

end Go.Proofs.Ytgnajpoebooafaa
