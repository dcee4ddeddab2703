/-
Walks, printed by wip/gen. Conditions: each theorem's own.
-/
import Derived.Test.YtgnajpoebooafaaN4
namespace Go.Proofs.Ytgnajpoebooafaa
set_option linter.unusedVariables false
set_option linter.unusedSimpArgs false
open Go.RowKit
def o11_L0 (calls : List CallT) (s20 : Nat × RNode × Node) : Option (Ctl (Nat × RNode × Node) (Ctl (Unit) (Bool))) :=
  (cond ((decide (((s20.1 : Nat) : Int) < (((calls).length : Nat) : Int)) && decide (((s20.1 : Nat) : Int) < 24))) (bindO (τ := (List UInt8)) (o14 ((List.getD calls s20.1 default).frame.payload : List UInt8) (900 : Int)) fun y28 => (bindO (τ := Node × RNode × Bool) (o43 s20.2.2 s20.2.1 ({ (List.getD calls s20.1 default) with frame := (⟨(List.getD calls s20.1 default).frame.label, (List.getD calls s20.1 default).frame.from_, (List.getD calls s20.1 default).frame.cycle, y28⟩ : Frame) })) fun y31 => (letJ (τ := Bool) (cond ((!y31.2.2)) (true) (letJ (τ := Int) (o41 y31.1) fun y48 => (y48 != y31.2.1.role))) fun t35 => (letJ (τ := Bool) (cond (t35) (true) (letJ (τ := Int) (o40 y31.1) fun y44 => (y44 != y31.2.1.steps))) fun t38 => (cond (t38) (some (Ctl.done (Ctl.done ((false))))) (grd (decide (((s20.1 : Nat) : Int) + 1 ≤ 9223372036854775807)) (some (Ctl.go ((s20.1 + 1), (y31.2.1 : RNode), (y31.1 : Node)))))))))) (some (Ctl.done (Ctl.go ()))))
def o11 (number : Int) (calls : List CallT) : Option (Bool) :=
  (bindO (τ := Bool) (o13) fun y1 => (cond ((!y1)) (some ((false))) (letJ (τ := (Option Node) × Int) (o37 (number : Int)) fun y5 => (letJ (τ := RNode × Int) (o42 (number : Int)) fun y8 => (cond ((y5.2 != y8.2)) (some ((false))) (cond ((y5.2 != 0)) (some (((Option.isNone (y5.1))))) (joinO (τ := Unit) (ρ := Bool) (bindO (τ := Node) (y5.1) fun d17 => (loopO (σ := Nat × RNode × Node) (ρ := Ctl (Unit) (Bool)) fuelN (o11_L0 calls) (0, (y8.1 : RNode), (d17 : Node)))) fun t14 => (some ((true))))))))))
set_option maxRecDepth 100000 in
theorem c11 (g : Gh) (number : Int) (calls : List CallT) (Acalls : Option Addr) (ccalls : Nat) (fcalls : Arr g.b tyCallT Acalls ccalls calls) {r : Bool} (hS : o11 number calls = some r) :
    Ctr Try.prog 11 [vi number, vs Acalls calls ccalls] g [] (fun v ψ o => v = vb r ∧ o = []) := by
  unfold o11 at hS
  refine xFn Try.f11 (Try.f11.body.getD .skip) 76 ?_
  have nfcalls := fcalls.len
  refine xSq ?_
  refine xRg ?_
  refine xB 1 [] [(0, vi number), (1, vs Acalls calls ccalls)] ?_
  refine xRe ?_
  refine wpq_then ?_
  refine xSq ?_
  refine xSq ?_
  refine xRg ?_
  obtain ⟨y1, hy1, hS⟩ := bindO_T hS
  refine xE (eC 0 (fun g' lr eb ln => c13 g'  hy1)) ?_
  rintro _ g2 _ e3 ⟨_, rfl, rfl, rfl⟩
  refine xB 1 [] [(0, vi number), (1, vs Acalls calls ccalls), (14, vb (!y1))] ?_
  refine xRe ?_
  refine wpq_then ?_
  refine xCd ((!y1)) (fun h4 => ?_) (fun h4 => ?_)
  · have hS := cond_T h4 hS
    have h4n := not_eq_true_ h4
    refine xSq ?_
    refine xRg ?_
    refine xB 1 [] [(4, vb false)] ?_
    refine xRe ?_
    refine wpq_then ?_
    have eS := (Option.some.inj hS).symm
    subst eS
    exact xRet [] [4] e3 ⟨by kernel_rfl, by kernel_rfl⟩ (fun _ _ h => h)
  · have hS := cond_F h4 hS
    have h4n := not_eq_false_ h4
    refine xSk ?_
    refine wpq_then ?_
    refine xSub [(0, vi number), (1, vs Acalls calls ccalls)] ?_
    refine xSq ?_
    refine xRg ?_
    refine xB 1 [] [(0, vi number), (1, vs Acalls calls ccalls), (16, vi number)] ?_
    obtain ⟨y5, hy5, hS⟩ := letJ_T hS
    refine xE (eC 0 (fun g' lr eb ln => c37 g' (number : Int) hy5)) ?_
    rintro _ g6 _ e7 ⟨_, rfl, v5_0, k5_0, rfl, rfl, hn5_0, hs5_0⟩
    refine xB 5 [] [(0, vi number), (1, vs Acalls calls ccalls), (5, v5_0), (6, vi y5.2)] ?_
    refine xRe ?_
    refine wpq_then ?_
    refine xSq ?_
    refine xRg ?_
    refine xB 1 [] [(1, vs Acalls calls ccalls), (5, v5_0), (6, vi y5.2), (21, vi number)] ?_
    obtain ⟨y8, hy8, hS⟩ := letJ_T hS
    refine xE (eC 0 (fun g' lr eb ln => c42 g' (number : Int) hy8)) ?_
    rintro _ g9 _ e10 ⟨_, rfl, A8_0_input, c8_0_input, A8_0_heard_input, c8_0_heard_input, rfl, rfl, f8_0_input, f8_0_heard_input⟩
    have nf8_0_input := f8_0_input.len
    have nf8_0_heard_input := f8_0_heard_input.len
    refine xB 3 [] [(1, vs Acalls calls ccalls), (5, v5_0), (6, vi y5.2), (23, Value.agg #[vi y8.1.number, vy y8.1.role, vi y8.1.steps, vi y8.1.alone, vi y8.1.stage, vi y8.1.cycle, vs A8_0_input y8.1.input c8_0_input, vb y8.1.fresh, vb y8.1.isHeard, vy y8.1.heard.role, vi y8.1.heard.steps, vi y8.1.heard.want.base, vi y8.1.heard.want.have_, vs A8_0_heard_input y8.1.heard.input c8_0_heard_input, vb y8.1.stepped, vy y8.1.told.lateral, vy y8.1.told.vertical, vy y8.1.told.phase, vi y8.1.told.bank, vi y8.1.told.speed, vi y8.1.told.alt, vi y8.1.told.vs]), (24, vi y8.2)] ?_
    refine xE eB ?_
    rintro _ _ _ - ⟨b11, rfl, rfl, rfl⟩
    refine xBo 2 [(6, 0)] [some ⟨b11, 96, (cRNode y8.1 A8_0_input c8_0_input A8_0_heard_input c8_0_heard_input)⟩, k5_0] [(1, vs Acalls calls ccalls), (5, v5_0), (6, vi y5.2), (7, vp b11 0), (8, vi y8.2)] ?_
    refine xRe ?_
    refine wpq_then ?_
    refine xSq ?_
    refine xSq ?_
    refine xRg ?_
    refine xB 3 [] [(1, vs Acalls calls ccalls), (5, v5_0), (6, vi y5.2), (7, vp b11 0), (27, vb (y5.2 != y8.2))] ?_
    refine xRe ?_
    refine wpq_then ?_
    refine xCd ((y5.2 != y8.2)) (fun h12 => ?_) (fun h12 => ?_)
    · have hS := cond_T h12 hS
      have h12p : ¬ (y5.2 = y8.2) := ne_of_bne_ h12
      refine xSq ?_
      refine xRg ?_
      refine xB 1 [] [(4, vb false)] ?_
      refine xRe ?_
      refine wpq_then ?_
      have eS := (Option.some.inj hS).symm
      subst eS
      exact xRet [] [4] (e3.trans (e7.trans e10)) ⟨by kernel_rfl, by kernel_rfl⟩ (fun _ _ h => h)
    · have hS := cond_F h12 hS
      have h12p : y5.2 = y8.2 := eq_of_bne_false_ h12
      refine xSk ?_
      refine wpq_then ?_
      refine xSub [(1, vs Acalls calls ccalls), (5, v5_0), (6, vi y5.2), (7, vp b11 0)] ?_
      refine xSq ?_
      refine xSq ?_
      refine xRg ?_
      refine xB 2 [] [(1, vs Acalls calls ccalls), (5, v5_0), (7, vp b11 0), (29, vb (y5.2 != 0))] ?_
      refine xRe ?_
      refine wpq_then ?_
      refine xCd ((y5.2 != 0)) (fun h13 => ?_) (fun h13 => ?_)
      · have hS := cond_T h13 hS
        have h13p : ¬ (y5.2 = 0) := ne_of_bne_ h13
        refine xSq ?_
        refine xRg ?_
        refine xB 1 [] [(30, v5_0)] ?_
        refine xV (qPn hn5_0 (fun d h => by obtain ⟨_, _, _, _, _, _, _, h1, _⟩ := hs5_0 d h; exact ⟨_, h1⟩)) ?_
        refine xB 1 [] [(4, vb (Option.isNone (y5.1)))] ?_
        refine xRe ?_
        refine wpq_then ?_
        have eS := (Option.some.inj hS).symm
        subst eS
        exact xRet [] [4] (e3.trans (e7.trans e10)) ⟨by kernel_rfl, by kernel_rfl⟩ (fun _ _ h => h)
      · have hS := cond_F h13 hS
        have h13p : y5.2 = 0 := eq_of_bne_false_ h13
        refine xSk ?_
        refine wpq_then ?_
        refine xSub [(1, vs Acalls calls ccalls), (5, v5_0), (7, vp b11 0)] ?_
        refine xSq ?_
        refine xSq ?_
        refine xRg ?_
        refine xB 1 [] [(1, vs Acalls calls ccalls), (5, v5_0), (7, vp b11 0), (9, vi 0)] ?_
        refine xRe ?_
        refine wpq_then ?_
        refine xJoinO hS (fun g own sl t14 => own = [] ∧ sl = []) ?_ ?_
        · rintro g15 _ _ t14 e16 ⟨rfl, rfl⟩ hS
          refine wpq_then ?_
          refine xSq ?_
          refine xRg ?_
          refine xB 1 [] [(4, vb true)] ?_
          refine xRe ?_
          refine wpq_then ?_
          have eS := (Option.some.inj hS).symm
          subst eS
          exact xRet [] [4] (e3.trans (e7.trans (e10.trans e16))) ⟨by kernel_rfl, by kernel_rfl⟩ (fun _ _ h => h)
        · intro u14 hS hN14 hD14
          refine xBl 0 ?_
          obtain ⟨d17, ed17, hS⟩ := bindO_T hS
          obtain ⟨bd17, Ad17_input, cd17_input, Ad17_heard_input, cd17_heard_input, Ad17_set__in_, cd17_set__in_, rfl, rfl, fd17_input, fd17_heard_input, fd17_set__in_⟩ := hs5_0 d17 ed17
          have nfd17_input := fd17_input.len
          have nfd17_heard_input := fd17_heard_input.len
          have nfd17_set__in_ := fd17_set__in_.len
          have fd17_input := fd17_input.mono e10.b
          have fd17_heard_input := fd17_heard_input.mono e10.b
          have fd17_set__in_ := fd17_set__in_.mono e10.b
          refine xSub [(1, vs Acalls calls ccalls), (5, vp bd17 0), (7, vp b11 0), (9, vi 0)] ?_
          refine xLo hS (fun g own sl s20 => ∃ (A20_1_input : Option Addr) (c20_1_input : Nat) (A20_1_heard_input : Option Addr) (c20_1_heard_input : Nat) (A20_2_input : Option Addr) (c20_2_input : Nat) (A20_2_heard_input : Option Addr) (c20_2_heard_input : Nat) (A20_2_set__in_ : Option Addr) (c20_2_set__in_ : Nat), own = [some ⟨b11, 96, (cRNode s20.2.1 A20_1_input c20_1_input A20_1_heard_input c20_1_heard_input)⟩, some ⟨bd17, 131, (cNode s20.2.2 A20_2_input c20_2_input A20_2_heard_input c20_2_heard_input A20_2_set__in_ c20_2_set__in_)⟩] ∧ sl = [(1, vs Acalls calls ccalls), (5, vp bd17 0), (7, vp b11 0), (9, vi ((s20.1 : Nat) : Int))] ∧ Arr g.b tyU8 A20_1_input c20_1_input s20.2.1.input ∧ Arr g.b tyU8 A20_1_heard_input c20_1_heard_input s20.2.1.heard.input ∧ Arr g.b tyU8 A20_2_input c20_2_input s20.2.2.input ∧ Arr g.b tyU8 A20_2_heard_input c20_2_heard_input s20.2.2.heard.input ∧ Arr g.b tyU8 A20_2_set__in_ c20_2_set__in_ s20.2.2.set_.in_) ⟨A8_0_input, c8_0_input, A8_0_heard_input, c8_0_heard_input, Ad17_input, cd17_input, Ad17_heard_input, cd17_heard_input, Ad17_set__in_, cd17_set__in_, by kernel_rfl, by kernel_rfl, f8_0_input, f8_0_heard_input, fd17_input, fd17_heard_input, fd17_set__in_⟩ ?_
          rintro g21 _ _ s20 u20 e22 ⟨A20_1_input, c20_1_input, A20_1_heard_input, c20_1_heard_input, A20_2_input, c20_2_input, A20_2_heard_input, c20_2_heard_input, A20_2_set__in_, c20_2_set__in_, rfl, rfl, f20_1_input, f20_1_heard_input, f20_2_input, f20_2_heard_input, f20_2_set__in_⟩ hS Qr20 hN20 hD20
          have nf20_1_input := f20_1_input.len
          have nf20_1_heard_input := f20_1_heard_input.len
          have nf20_2_input := f20_2_input.len
          have nf20_2_heard_input := f20_2_heard_input.len
          have nf20_2_set__in_ := f20_2_set__in_.len
          unfold o11_L0 at hS
          refine xSq ?_
          refine xSq ?_
          refine xRg ?_
          refine xB 5 [] [(1, vs Acalls calls ccalls), (5, vp bd17 0), (7, vp b11 0), (9, vi ((s20.1 : Nat) : Int)), (36, vb (decide (((s20.1 : Nat) : Int) < (((calls).length : Nat) : Int))))] ?_
          refine wpr_grp 8 [(1, vs Acalls calls ccalls), (5, vp bd17 0), (7, vp b11 0), (9, vi ((s20.1 : Nat) : Int)), (39, vb (decide (((s20.1 : Nat) : Int) < (((calls).length : Nat) : Int)) && decide (((s20.1 : Nat) : Int) < 24)))] (fun hk4 => ?_) ?_
          · refine wpq_split 36 (b := decide (((s20.1 : Nat) : Int) < (((calls).length : Nat) : Int))) (by kernel_rfl) (fun q23 => ?_) (fun q23 => ?_)
            · have q23p := of_decide_eq_true q23
              refine xB 3 [] [(1, vs Acalls calls ccalls), (5, vp bd17 0), (7, vp b11 0), (9, vi ((s20.1 : Nat) : Int)), (37, vi ((s20.1 : Nat) : Int)), (38, vb (decide (((s20.1 : Nat) : Int) < 24))), (39, vb (decide (((s20.1 : Nat) : Int) < 24)))] ?_
              refine wpq_re 39 (v := vb (decide (((s20.1 : Nat) : Int) < 24))) (Value.bool ((decide (((s20.1 : Nat) : Int) < (((calls).length : Nat) : Int)) && decide (((s20.1 : Nat) : Int) < 24)))) (by kernel_rfl) (re_and1 q23) ?_
              exact wpq_sub _ (by kernel_rfl) hk4
            · have q23p := of_decide_eq_false q23
              refine xB 3 [] [(1, vs Acalls calls ccalls), (5, vp bd17 0), (7, vp b11 0), (9, vi ((s20.1 : Nat) : Int)), (37, undef), (38, undef), (39, vb false)] ?_
              refine wpq_re 39 (v := vb false) (Value.bool ((decide (((s20.1 : Nat) : Int) < (((calls).length : Nat) : Int)) && decide (((s20.1 : Nat) : Int) < 24)))) (by kernel_rfl) (re_and0 q23) ?_
              exact wpq_sub _ (by kernel_rfl) hk4
          · refine xRe ?_
            refine wpq_then ?_
            refine xCd ((decide (((s20.1 : Nat) : Int) < (((calls).length : Nat) : Int)) && decide (((s20.1 : Nat) : Int) < 24))) (fun h24 => ?_) (fun h24 => ?_)
            · have hS := cond_T h24 hS
              have h24l := (and_true_ h24).1
              have h24r := (and_true_ h24).2
              have h24lp := of_decide_eq_true h24l
              have h24rp := of_decide_eq_true h24r
              refine xSk ?_
              refine wpq_then ?_
              refine xSub [(1, vs Acalls calls ccalls), (5, vp bd17 0), (7, vp b11 0), (9, vi ((s20.1 : Nat) : Int))] ?_
              refine xSq ?_
              refine xBl 1 ?_
              refine xSq ?_
              refine xRg ?_
              have fcalls := fcalls.mono (e3.trans (e7.trans (e10.trans e22))).b
              have i26 : s20.1 < (calls).length := by omega
              obtain ⟨ad25, cs25, hA25, hr25, hc25⟩ := fcalls.at_ (get_getD (d := default) i26)
              obtain ⟨A25_input, c25_input, A25_frame_payload, c25_frame_payload, rfl, f25_input, f25_frame_payload⟩ := hr25
              have nf25_input := f25_input.len
              have nf25_frame_payload := f25_frame_payload.len
              refine xB 2 [] [(1, vs Acalls calls ccalls), (5, vp bd17 0), (7, vp b11 0), (9, vi ((s20.1 : Nat) : Int)), (42, vs Acalls calls ccalls), (43, vi ((s20.1 : Nat) : Int))] ?_
              refine xV (qIx s20.1 18 hA25 rfl i26) ?_
              refine xV (qLdP (Addr.add ad25 (s20.1 * 18)) 0 (hc25.mono g21.br)) ?_
              refine xE eB ?_
              rintro _ _ _ - ⟨b27, rfl, rfl, rfl⟩
              refine xBo 1 [(5, 0)] [some ⟨b27, 102, (cCallT (List.getD calls s20.1 default) A25_input c25_input A25_frame_payload c25_frame_payload)⟩, some ⟨b11, 96, (cRNode s20.2.1 A20_1_input c20_1_input A20_1_heard_input c20_1_heard_input)⟩, some ⟨bd17, 131, (cNode s20.2.2 A20_2_input c20_2_input A20_2_heard_input c20_2_heard_input A20_2_set__in_ c20_2_set__in_)⟩] [(1, vs Acalls calls ccalls), (5, vp bd17 0), (7, vp b11 0), (9, vi ((s20.1 : Nat) : Int)), (10, vp b27 0)] ?_
              refine xRe ?_
              refine wpq_then ?_
              refine xSq ?_
              refine xRg ?_
              refine xB 3 [(2, 0)] [(1, vs Acalls calls ccalls), (5, vp bd17 0), (7, vp b11 0), (9, vi ((s20.1 : Nat) : Int)), (10, vp b27 0), (48, vs A25_frame_payload ((List.getD calls s20.1 default).frame.payload) c25_frame_payload)] ?_
              obtain ⟨y28, hy28, hS⟩ := bindO_T hS
              refine xE (eC 0 (fun g' lr eb ln => c14 g' ((List.getD calls s20.1 default).frame.payload : List UInt8) A25_frame_payload c25_frame_payload (900 : Int) (by rw [eb]; exact f25_frame_payload) hy28)) ?_
              rintro _ g29 _ e30 ⟨_, rfl, A28_0, c28_0, rfl, rfl, f28_0⟩
              have nf28_0 := f28_0.len
              refine xBo 3 [(6, 0)] [some ⟨b27, 102, (cCallT ({ (List.getD calls s20.1 default) with frame := (⟨(List.getD calls s20.1 default).frame.label, (List.getD calls s20.1 default).frame.from_, (List.getD calls s20.1 default).frame.cycle, y28⟩ : Frame) }) A25_input c25_input A28_0 c28_0)⟩, some ⟨b11, 96, (cRNode s20.2.1 A20_1_input c20_1_input A20_1_heard_input c20_1_heard_input)⟩, some ⟨bd17, 131, (cNode s20.2.2 A20_2_input c20_2_input A20_2_heard_input c20_2_heard_input A20_2_set__in_ c20_2_set__in_)⟩] [(1, vs Acalls calls ccalls), (5, vp bd17 0), (7, vp b11 0), (9, vi ((s20.1 : Nat) : Int)), (10, vp b27 0)] ?_
              refine xRe ?_
              refine wpq_then ?_
              refine xSq ?_
              refine xRg ?_
              refine xB 3 [(1, 1), (2, 0)] [(1, vs Acalls calls ccalls), (5, vp bd17 0), (7, vp b11 0), (9, vi ((s20.1 : Nat) : Int)), (53, vp bd17 0), (54, Value.agg #[vi s20.2.1.number, vy s20.2.1.role, vi s20.2.1.steps, vi s20.2.1.alone, vi s20.2.1.stage, vi s20.2.1.cycle, vs A20_1_input s20.2.1.input c20_1_input, vb s20.2.1.fresh, vb s20.2.1.isHeard, vy s20.2.1.heard.role, vi s20.2.1.heard.steps, vi s20.2.1.heard.want.base, vi s20.2.1.heard.want.have_, vs A20_1_heard_input s20.2.1.heard.input c20_1_heard_input, vb s20.2.1.stepped, vy s20.2.1.told.lateral, vy s20.2.1.told.vertical, vy s20.2.1.told.phase, vi s20.2.1.told.bank, vi s20.2.1.told.speed, vi s20.2.1.told.alt, vi s20.2.1.told.vs]), (55, Value.agg #[vy ((List.getD calls s20.1 default).kind), vb ((List.getD calls s20.1 default).next_), vi ((List.getD calls s20.1 default).cycle), vs A25_input ((List.getD calls s20.1 default).input) c25_input, vi ((List.getD calls s20.1 default).want.base), vi ((List.getD calls s20.1 default).want.have_), vy ((List.getD calls s20.1 default).frame.label), vy ((List.getD calls s20.1 default).frame.from_), vi ((List.getD calls s20.1 default).frame.cycle), vs A28_0 y28 c28_0, vb ((List.getD calls s20.1 default).came), vy ((List.getD calls s20.1 default).targets.lateral), vy ((List.getD calls s20.1 default).targets.vertical), vy ((List.getD calls s20.1 default).targets.phase), vi ((List.getD calls s20.1 default).targets.bank), vi ((List.getD calls s20.1 default).targets.speed), vi ((List.getD calls s20.1 default).targets.alt), vi ((List.getD calls s20.1 default).targets.vs)])] ?_
              refine xSel [some 2, some 0, some 1] ?_
              have f20_2_input := f20_2_input.mono e30.b
              have f20_2_heard_input := f20_2_heard_input.mono e30.b
              have f20_2_set__in_ := f20_2_set__in_.mono e30.b
              have f20_1_input := f20_1_input.mono e30.b
              have f20_1_heard_input := f20_1_heard_input.mono e30.b
              have f25_input := f25_input.mono e30.b
              obtain ⟨y31, hy31, hS⟩ := bindO_T hS
              refine xE (eC 1 (fun g' lr eb ln => c43 g' bd17 s20.2.2 A20_2_input c20_2_input A20_2_heard_input c20_2_heard_input A20_2_set__in_ c20_2_set__in_ s20.2.1 A20_1_input c20_1_input A20_1_heard_input c20_1_heard_input ({ (List.getD calls s20.1 default) with frame := (⟨(List.getD calls s20.1 default).frame.label, (List.getD calls s20.1 default).frame.from_, (List.getD calls s20.1 default).frame.cycle, y28⟩ : Frame) }) A25_input c25_input A28_0 c28_0 (by rw [eb]; exact f20_2_input) (by rw [eb]; exact f20_2_heard_input) (by rw [eb]; exact f20_2_set__in_) (by rw [eb]; exact f20_1_input) (by rw [eb]; exact f20_1_heard_input) (by rw [eb]; exact f25_input) (by rw [eb]; exact f28_0) hy31)) ?_
              rintro _ g32 _ e33 ⟨_, rfl, A31_n_input, c31_n_input, A31_n_heard_input, c31_n_heard_input, A31_n_set__in_, c31_n_set__in_, A31_0_input, c31_0_input, A31_0_heard_input, c31_0_heard_input, rfl, rfl, f31_n_input, f31_n_heard_input, f31_n_set__in_, f31_0_input, f31_0_heard_input⟩
              have nf31_n_input := f31_n_input.len
              have nf31_n_heard_input := f31_n_heard_input.len
              have nf31_n_set__in_ := f31_n_set__in_.len
              have nf31_0_input := f31_0_input.len
              have nf31_0_heard_input := f31_0_heard_input.len
              refine xB 3 [] [(1, vs Acalls calls ccalls), (5, vp bd17 0), (7, vp b11 0), (9, vi ((s20.1 : Nat) : Int)), (57, Value.agg #[vi y31.2.1.number, vy y31.2.1.role, vi y31.2.1.steps, vi y31.2.1.alone, vi y31.2.1.stage, vi y31.2.1.cycle, vs A31_0_input y31.2.1.input c31_0_input, vb y31.2.1.fresh, vb y31.2.1.isHeard, vy y31.2.1.heard.role, vi y31.2.1.heard.steps, vi y31.2.1.heard.want.base, vi y31.2.1.heard.want.have_, vs A31_0_heard_input y31.2.1.heard.input c31_0_heard_input, vb y31.2.1.stepped, vy y31.2.1.told.lateral, vy y31.2.1.told.vertical, vy y31.2.1.told.phase, vi y31.2.1.told.bank, vi y31.2.1.told.speed, vi y31.2.1.told.alt, vi y31.2.1.told.vs]), (58, vb y31.2.2)] ?_
              refine xE eB ?_
              rintro _ _ _ - ⟨b34, rfl, rfl, rfl⟩
              refine xBo 2 [(8, 0)] [some ⟨b34, 96, (cRNode y31.2.1 A31_0_input c31_0_input A31_0_heard_input c31_0_heard_input)⟩, some ⟨bd17, 131, (cNode y31.1 A31_n_input c31_n_input A31_n_heard_input c31_n_heard_input A31_n_set__in_ c31_n_set__in_)⟩, some ⟨b27, 102, (cCallT ({ (List.getD calls s20.1 default) with frame := (⟨(List.getD calls s20.1 default).frame.label, (List.getD calls s20.1 default).frame.from_, (List.getD calls s20.1 default).frame.cycle, y28⟩ : Frame) }) A25_input c25_input A28_0 c28_0)⟩, some ⟨b11, 96, (cRNode s20.2.1 A20_1_input c20_1_input A20_1_heard_input c20_1_heard_input)⟩] [(1, vs Acalls calls ccalls), (5, vp bd17 0), (7, vp b11 0), (9, vi ((s20.1 : Nat) : Int)), (11, vp b34 0), (12, vb y31.2.2)] ?_
              refine xRe ?_
              refine wpq_then ?_
              refine xSq ?_
              refine xSq ?_
              refine xDr 0 [6, 13] [] [some ⟨b34, 96, (cRNode y31.2.1 A31_0_input c31_0_input A31_0_heard_input c31_0_heard_input)⟩, some ⟨b27, 102, (cCallT ({ (List.getD calls s20.1 default) with frame := (⟨(List.getD calls s20.1 default).frame.label, (List.getD calls s20.1 default).frame.from_, (List.getD calls s20.1 default).frame.cycle, y28⟩ : Frame) }) A25_input c25_input A28_0 c28_0)⟩, some ⟨b11, 96, (cRNode s20.2.1 A20_1_input c20_1_input A20_1_heard_input c20_1_heard_input)⟩] 16 (fun RG => ?_) (fun _ _ _ _ _ h => h)
              refine xT 13 [0, 1, 2] [] [some 0, some 2, some 3] [(1, vs Acalls calls ccalls), (5, vp bd17 0), (7, vp b11 0), (9, vi ((s20.1 : Nat) : Int)), (11, vp b34 0), (61, vb (!y31.2.2))] RG (Psi.le.refl _) ?_
              refine xGJlA hS 7 [true, true, true, true, true, true, true, true, true, false, false, false, false, false, false, false] (fun g own sl t35 => own = [some ⟨b34, 96, (cRNode y31.2.1 A31_0_input c31_0_input A31_0_heard_input c31_0_heard_input)⟩, some ⟨bd17, 131, (cNode y31.1 A31_n_input c31_n_input A31_n_heard_input c31_n_heard_input A31_n_set__in_ c31_n_set__in_)⟩, some ⟨b27, 102, (cCallT ({ (List.getD calls s20.1 default) with frame := (⟨(List.getD calls s20.1 default).frame.label, (List.getD calls s20.1 default).frame.from_, (List.getD calls s20.1 default).frame.cycle, y28⟩ : Frame) }) A25_input c25_input A28_0 c28_0)⟩, some ⟨b11, 96, (cRNode s20.2.1 A20_1_input c20_1_input A20_1_heard_input c20_1_heard_input)⟩] ∧ sl = [(1, vs Acalls calls ccalls), (5, vp bd17 0), (7, vp b11 0), (9, vi ((s20.1 : Nat) : Int)), (11, vp b34 0), (67, vb t35)]) ?_ ?_
              · rintro g36 _ _ t35 e37 ⟨rfl, rfl⟩ hS
                refine xT 6 [9] [] [some 0, some 2, some 3] [(1, vs Acalls calls ccalls), (5, vp bd17 0), (7, vp b11 0), (9, vi ((s20.1 : Nat) : Int)), (11, vp b34 0), (68, vb t35)] RG e37.r ?_
                refine xGJlA hS 0 [true, true, true, true, true, true, true, true, true, true, true, true, true, true, true, true] (fun g own sl t38 => own = [some ⟨b34, 96, (cRNode y31.2.1 A31_0_input c31_0_input A31_0_heard_input c31_0_heard_input)⟩, some ⟨bd17, 131, (cNode y31.1 A31_n_input c31_n_input A31_n_heard_input c31_n_heard_input A31_n_set__in_ c31_n_set__in_)⟩, some ⟨b27, 102, (cCallT ({ (List.getD calls s20.1 default) with frame := (⟨(List.getD calls s20.1 default).frame.label, (List.getD calls s20.1 default).frame.from_, (List.getD calls s20.1 default).frame.cycle, y28⟩ : Frame) }) A25_input c25_input A28_0 c28_0)⟩, some ⟨b11, 96, (cRNode s20.2.1 A20_1_input c20_1_input A20_1_heard_input c20_1_heard_input)⟩] ∧ sl = [(1, vs Acalls calls ccalls), (5, vp bd17 0), (7, vp b11 0), (9, vi ((s20.1 : Nat) : Int)), (11, vp b34 0), (74, vb t38)]) ?_ ?_
                · rintro g39 _ _ t38 e40 ⟨rfl, rfl⟩ hS
                  refine xAe (lds := [6, 13]) ?_
                  refine wpq_then ?_
                  refine xCd (t38) (fun h41 => ?_) (fun h41 => ?_)
                  · have hS := cond_T h41 hS
                    refine xSq ?_
                    refine xRg ?_
                    refine xB 1 [] [(4, vb false)] ?_
                    refine xRe ?_
                    refine wpq_then ?_
                    have eS := (Option.some.inj hS).symm
                    have eS := (hD20 _ eS).symm
                    have eS := (hD14 _ eS).symm
                    subst eS
                    exact xRet [] [4] (e3.trans (e7.trans (e10.trans (e22.trans (e30.trans (e33.trans (e37.trans e40))))))) ⟨by kernel_rfl, by kernel_rfl⟩ (fun _ _ h => h)
                  · have hS := cond_F h41 hS
                    refine xSk ?_
                    refine wpq_then ?_
                    refine xSub [(1, vs Acalls calls ccalls), (5, vp bd17 0), (7, vp b11 0), (9, vi ((s20.1 : Nat) : Int)), (11, vp b34 0)] ?_
                    refine xRg ?_
                    refine xBo 2 [(0, 0), (1, 3)] [some ⟨b34, 96, (cRNode y31.2.1 A31_0_input c31_0_input A31_0_heard_input c31_0_heard_input)⟩, some ⟨bd17, 131, (cNode y31.1 A31_n_input c31_n_input A31_n_heard_input c31_n_heard_input A31_n_set__in_ c31_n_set__in_)⟩, some ⟨b27, 102, (cCallT ({ (List.getD calls s20.1 default) with frame := (⟨(List.getD calls s20.1 default).frame.label, (List.getD calls s20.1 default).frame.from_, (List.getD calls s20.1 default).frame.cycle, y28⟩ : Frame) }) A25_input c25_input A28_0 c28_0)⟩, some ⟨b11, 96, (cRNode y31.2.1 A31_0_input c31_0_input A31_0_heard_input c31_0_heard_input)⟩] [(1, vs Acalls calls ccalls), (5, vp bd17 0), (7, vp b11 0), (9, vi ((s20.1 : Nat) : Int))] ?_
                    refine xRe ?_
                    refine wpq_blockN ?_
                    refine wpq_then ?_
                    refine xRg ?_
                    obtain ⟨q42, hS⟩ := grd_T hS
                    have q42p := of_decide_eq_true q42
                    refine xB 1 [] [(1, vs Acalls calls ccalls), (5, vp bd17 0), (7, vp b11 0), (9, vi ((s20.1 : Nat) : Int)), (40, vi ((s20.1 : Nat) : Int))] ?_
                    refine xV (qAdd .i64 (((s20.1 : Nat) : Int)) (1) (wr64 (by omega))) ?_
                    refine xB 1 [] [(1, vs Acalls calls ccalls), (5, vp bd17 0), (7, vp b11 0), (9, vi (((s20.1 : Nat) : Int) + 1))] ?_
                    refine xRe ?_
                    refine wpq_thenN ?_
                    have f31_0_input := f31_0_input.mono (e37.trans e40).b
                    have f31_0_heard_input := f31_0_heard_input.mono (e37.trans e40).b
                    have f31_n_input := f31_n_input.mono (e37.trans e40).b
                    have f31_n_heard_input := f31_n_heard_input.mono (e37.trans e40).b
                    have f31_n_set__in_ := f31_n_set__in_.mono (e37.trans e40).b
                    refine xSel [some 3, some 1] ?_
                    refine xSub [(1, vs Acalls calls ccalls), (5, vp bd17 0), (7, vp b11 0), (9, vi (((s20.1 : Nat) : Int) + 1))] ?_
                    have eS := (Option.some.inj hS).symm
                    exact hN20 _ eS _ _ _ (e30.trans (e33.trans (e37.trans e40))) ⟨A31_0_input, c31_0_input, A31_0_heard_input, c31_0_heard_input, A31_n_input, c31_n_input, A31_n_heard_input, c31_n_heard_input, A31_n_set__in_, c31_n_set__in_, by kernel_rfl, by kernel_rfl, f31_0_input, f31_0_heard_input, f31_n_input, f31_n_heard_input, f31_n_set__in_⟩
                · intro u38 hS hN38
                  refine wpq_split 68 (b := t35) (by kernel_rfl) (fun q43 => ?_) (fun q43 => ?_)
                  · have hS := cond_T q43 hS
                    refine xT 3 [10, 12, 13] [] [some 0, some 2, some 3] [(1, vs Acalls calls ccalls), (5, vp bd17 0), (7, vp b11 0), (9, vi ((s20.1 : Nat) : Int)), (11, vp b34 0), (68, vb true), (69, undef), (71, undef), (72, undef)] RG e37.r ?_
                    refine xO1 (lds := [6, 13]) 11 ?_
                    refine xIb (lds := [6, 13]) [] ?_
                    refine xT 0 [14, 15] [] [some 0, some 2, some 3] [(1, vs Acalls calls ccalls), (5, vp bd17 0), (7, vp b11 0), (9, vi ((s20.1 : Nat) : Int)), (11, vp b34 0), (69, undef), (70, undef), (71, undef), (72, undef), (73, undef), (74, vb true)] RG e37.r ?_
                    refine xSub [(1, vs Acalls calls ccalls), (5, vp bd17 0), (7, vp b11 0), (9, vi ((s20.1 : Nat) : Int)), (11, vp b34 0), (74, vb true)] ?_
                    exact hN38 _ hS.symm _ _ _ (Gh.le.refl _) ⟨by kernel_rfl, by kernel_rfl⟩
                  · have hS := cond_F q43 hS
                    refine xT 3 [10, 12, 13] [(13, 0)] [some 0, some 2, some 3] [(1, vs Acalls calls ccalls), (5, vp bd17 0), (7, vp b11 0), (9, vi ((s20.1 : Nat) : Int)), (11, vp b34 0), (68, vb false), (69, vp bd17 0), (71, vp b34 2), (72, vi y31.2.1.steps)] RG e37.r ?_
                    have f31_n_input := f31_n_input.mono e37.b
                    have f31_n_heard_input := f31_n_heard_input.mono e37.b
                    have f31_n_set__in_ := f31_n_set__in_.mono e37.b
                    obtain ⟨y44, hy44, hS⟩ := letJ_T hS
                    refine xO1 (lds := [6, 13]) 11 ?_
                    refine xIe (lds := [6, 13]) e37.r (eC 0 (fun g' lr eb ln => c40 g' ⟨bd17, 0, none⟩ y31.1 A31_n_input c31_n_input A31_n_heard_input c31_n_heard_input A31_n_set__in_ c31_n_set__in_ (cells_lent' 1 bd17 0 (cNode y31.1 A31_n_input c31_n_input A31_n_heard_input c31_n_heard_input A31_n_set__in_ c31_n_set__in_) ln) ((f31_n_input.mono g36.br).mono lr) ((f31_n_heard_input.mono g36.br).mono lr) ((f31_n_set__in_.mono g36.br).mono lr) hy44)) ?_
                    rintro _ g45 _ e46 ⟨_, rfl, rfl, rfl⟩
                    refine kk [some 0, some 2, some 3] ?_
                    refine xT 0 [14, 15] [] [some 0, some 2, some 3] [(1, vs Acalls calls ccalls), (5, vp bd17 0), (7, vp b11 0), (9, vi ((s20.1 : Nat) : Int)), (11, vp b34 0), (69, vp bd17 0), (70, vi y44), (71, vp b34 2), (72, vi y31.2.1.steps), (73, vb (y44 != y31.2.1.steps)), (74, vb (y44 != y31.2.1.steps))] RG (e37.trans e46).r ?_
                    refine xSub [(1, vs Acalls calls ccalls), (5, vp bd17 0), (7, vp b11 0), (9, vi ((s20.1 : Nat) : Int)), (11, vp b34 0), (74, vb (y44 != y31.2.1.steps))] ?_
                    exact hN38 _ hS.symm _ _ _ e46 ⟨by kernel_rfl, by kernel_rfl⟩
              · intro u35 hS hN35
                refine wpq_split 61 (b := (!y31.2.2)) (by kernel_rfl) (fun q47 => ?_) (fun q47 => ?_)
                · have hS := cond_T q47 hS
                  have q47n := not_eq_true_ q47
                  refine xT 10 [3, 5, 6] [] [some 0, some 2, some 3] [(1, vs Acalls calls ccalls), (5, vp bd17 0), (7, vp b11 0), (9, vi ((s20.1 : Nat) : Int)), (11, vp b34 0), (61, vb true), (62, undef), (64, undef), (65, undef)] RG (Psi.le.refl _) ?_
                  refine xO1 (lds := [6, 13]) 4 ?_
                  refine xIb (lds := [6, 13]) [] ?_
                  refine xT 7 [7, 8] [] [some 0, some 2, some 3] [(1, vs Acalls calls ccalls), (5, vp bd17 0), (7, vp b11 0), (9, vi ((s20.1 : Nat) : Int)), (11, vp b34 0), (62, undef), (63, undef), (64, undef), (65, undef), (66, undef), (67, vb true)] RG (Psi.le.refl _) ?_
                  refine xSub [(1, vs Acalls calls ccalls), (5, vp bd17 0), (7, vp b11 0), (9, vi ((s20.1 : Nat) : Int)), (11, vp b34 0), (67, vb true)] ?_
                  exact hN35 _ hS.symm _ _ _ (Gh.le.refl _) ⟨by kernel_rfl, by kernel_rfl⟩
                · have hS := cond_F q47 hS
                  have q47n := not_eq_false_ q47
                  refine xT 10 [3, 5, 6] [(6, 0)] [some 0, some 2, some 3] [(1, vs Acalls calls ccalls), (5, vp bd17 0), (7, vp b11 0), (9, vi ((s20.1 : Nat) : Int)), (11, vp b34 0), (61, vb false), (62, vp bd17 0), (64, vp b34 1), (65, vy y31.2.1.role)] RG (Psi.le.refl _) ?_
                  obtain ⟨y48, hy48, hS⟩ := letJ_T hS
                  refine xO1 (lds := [6, 13]) 4 ?_
                  refine xIe (lds := [6, 13]) (Psi.le.refl _) (eC 0 (fun g' lr eb ln => c41 g' ⟨bd17, 0, none⟩ y31.1 A31_n_input c31_n_input A31_n_heard_input c31_n_heard_input A31_n_set__in_ c31_n_set__in_ (cells_lent' 1 bd17 0 (cNode y31.1 A31_n_input c31_n_input A31_n_heard_input c31_n_heard_input A31_n_set__in_ c31_n_set__in_) ln) ((f31_n_input.mono g32.br).mono lr) ((f31_n_heard_input.mono g32.br).mono lr) ((f31_n_set__in_.mono g32.br).mono lr) hy48)) ?_
                  rintro _ g49 _ e50 ⟨_, rfl, rfl, rfl⟩
                  refine kk [some 0, some 2, some 3] ?_
                  refine xT 7 [7, 8] [] [some 0, some 2, some 3] [(1, vs Acalls calls ccalls), (5, vp bd17 0), (7, vp b11 0), (9, vi ((s20.1 : Nat) : Int)), (11, vp b34 0), (62, vp bd17 0), (63, vy y48), (64, vp b34 1), (65, vy y31.2.1.role), (66, vb (y48 != y31.2.1.role)), (67, vb (y48 != y31.2.1.role))] RG e50.r ?_
                  refine xSub [(1, vs Acalls calls ccalls), (5, vp bd17 0), (7, vp b11 0), (9, vi ((s20.1 : Nat) : Int)), (11, vp b34 0), (67, vb (y48 != y31.2.1.role))] ?_
                  exact hN35 _ hS.symm _ _ _ e50 ⟨by kernel_rfl, by kernel_rfl⟩
            · have hS := cond_F h24 hS
              refine xEx 0 ?_
              refine wpq_thenX ?_
              refine wpq_thenX ?_
              refine wpq_blockE ?_
              refine xSel [] ?_
              refine xSub [] ?_
              have eS := (Option.some.inj hS).symm
              have eS := (hD20 _ eS).symm
              exact hN14 _ eS _ _ _ e22 ⟨by kernel_rfl, by kernel_rfl⟩

end Go.Proofs.Ytgnajpoebooafaa
