/-
Walks, printed by wip/gen. Conditions: each theorem's own.
-/
import Derived.Test.YtgnajpoebooafaaV1
namespace Go.Proofs.Ytgnajpoebooafaa
set_option linter.unusedVariables false
set_option linter.unusedSimpArgs false
open Go.RowKit
def o39 (la : Node) (lb : Node) (cycle : Int) (r_ : Round) : Option (Node × Node × TwoS × TwoB × TwoT × TwoU × Bool) :=
  (bindO (τ := (List UInt8)) (o14 (r_.one : List UInt8) (20 : Int)) fun y8 => (bindO (τ := (List UInt8)) (o14 (r_.two : List UInt8) (20 : Int)) fun y11 => (joinO (τ := Node × Node × Int × Int × Int × (List UInt8) × Int × Int × Int × (List UInt8)) (ρ := Node × Node × TwoS × TwoB × TwoT × TwoU × Bool) (bindO (τ := Node × Frame × Int) (o46 la (cycle : Int) (y8 : List UInt8) (⟨0, 0⟩ : Want)) fun y276 => (cond ((y276.2.2 != 0)) (some (Ctl.done ((y276.1, lb, (⟨(⟨0, 0, false, ([] : List UInt8)⟩ : Sett), (⟨0, 0, false, ([] : List UInt8)⟩ : Sett)⟩ : TwoS), (⟨false, false⟩ : TwoB), (⟨(⟨0, 0, 0, 0, 0, 0, 0⟩ : Targets), (⟨0, 0, 0, 0, 0, 0, 0⟩ : Targets)⟩ : TwoT), (⟨0, 0⟩ : TwoU), (false))))) (bindO (τ := Node × Frame × Int) (o46 lb (cycle : Int) (y11 : List UInt8) (⟨0, 0⟩ : Want)) fun y280 => (cond ((y280.2.2 != 0)) (some (Ctl.done ((y276.1, y280.1, (⟨(⟨0, 0, false, ([] : List UInt8)⟩ : Sett), (⟨0, 0, false, ([] : List UInt8)⟩ : Sett)⟩ : TwoS), (⟨false, false⟩ : TwoB), (⟨(⟨0, 0, 0, 0, 0, 0, 0⟩ : Targets), (⟨0, 0, 0, 0, 0, 0, 0⟩ : Targets)⟩ : TwoT), (⟨0, 0⟩ : TwoU), (false))))) (some (Ctl.go ((y280.1 : Node), (y276.1 : Node), y276.2.1.label, y276.2.1.from_, y276.2.1.cycle, (y276.2.1.payload : List UInt8), y280.2.1.label, y280.2.1.from_, y280.2.1.cycle, (y280.2.1.payload : List UInt8)))))))) fun t212 => (bindO (τ := Node × Node) (bindO (τ := Node × Heard × Bool × Int) (o47 t212.2.1 (⟨t212.2.2.2.2.2.2.1, t212.2.2.2.2.2.2.2.1, t212.2.2.2.2.2.2.2.2.1, t212.2.2.2.2.2.2.2.2.2⟩ : Frame) (((landK .u8 r_.lost.a1 1) == 0))) fun y270 => (bindO (τ := Node × Heard × Bool × Int) (o47 t212.1 (⟨t212.2.2.1, t212.2.2.2.1, t212.2.2.2.2.1, t212.2.2.2.2.2.1⟩ : Frame) (((landK .u8 r_.lost.a0 1) == 0))) fun y273 => (some (((y273.1 : Node), (y270.1 : Node)))))) fun t215 => (bindO (τ := Node × Node × Bool × Bool × Int × Int × Int × (List UInt8) × Int × Int × Int × (List UInt8)) (bindO (τ := Node × Frame × Bool × Int) (o48 t215.2) fun y264 => (bindO (τ := Node × Frame × Bool × Int) (o48 t215.1) fun y267 => (some (((y267.1 : Node), (y264.1 : Node), y264.2.2.1, y267.2.2.1, y264.2.1.label, y264.2.1.from_, y264.2.1.cycle, (y264.2.1.payload : List UInt8), y267.2.1.label, y267.2.1.from_, y267.2.1.cycle, (y267.2.1.payload : List UInt8)))))) fun t218 => (bindO (τ := Node × Node × Int × Int × Int × Int × Bool × Bool × Int × Int × Bool × (List UInt8) × Int × Int × Bool × (List UInt8)) (letJ (τ := Bool) (cond (t218.2.2.2.1) ((landK .u8 r_.lost.a1 2) == 0) (false)) fun t250 => (bindO (τ := Node × Sett × Bool × Int) (o49 t218.2.1 (⟨t218.2.2.2.2.2.2.2.2.1, t218.2.2.2.2.2.2.2.2.2.1, t218.2.2.2.2.2.2.2.2.2.2.1, t218.2.2.2.2.2.2.2.2.2.2.2⟩ : Frame) (t250)) fun y253 => (letJ (τ := Bool) (cond (t218.2.2.1) ((landK .u8 r_.lost.a0 2) == 0) (false)) fun t256 => (bindO (τ := Node × Sett × Bool × Int) (o49 t218.1 (⟨t218.2.2.2.2.1, t218.2.2.2.2.2.1, t218.2.2.2.2.2.2.1, t218.2.2.2.2.2.2.2.1⟩ : Frame) (t256)) fun y259 => (some (((y259.1 : Node), (y253.1 : Node), (IntKind.u8.wrap (((y253.2.1.in_).length : Nat) : Int)), (IntKind.i64.wrap (y253.2.1.steps + r_.wrong.a0)), (IntKind.u8.wrap (((y259.2.1.in_).length : Nat) : Int)), (IntKind.i64.wrap (y259.2.1.steps + r_.wrong.a1)), y253.2.2.1, y259.2.2.1, y253.2.1.steps, y253.2.1.cycle, y253.2.1.fresh, (y253.2.1.in_ : List UInt8), y259.2.1.steps, y259.2.1.cycle, y259.2.1.fresh, (y259.2.1.in_ : List UInt8)))))))) fun t221 => (bindO (τ := Node × Node × Bool × Bool × Int × Int × Int × (List UInt8) × Int × Int × Int × (List UInt8)) (bindO (τ := Node × Frame × Bool × Int) (o50 t221.2.1 (⟨t221.2.2.1, 0, 0, t221.2.2.2.1, 0, 0, 0⟩ : Targets)) fun y244 => (bindO (τ := Node × Frame × Bool × Int) (o50 t221.1 (⟨t221.2.2.2.2.1, 0, 0, t221.2.2.2.2.2.1, 0, 0, 0⟩ : Targets)) fun y247 => (some (((y247.1 : Node), (y244.1 : Node), y244.2.2.1, y247.2.2.1, y244.2.1.label, y244.2.1.from_, y244.2.1.cycle, (y244.2.1.payload : List UInt8), y247.2.1.label, y247.2.1.from_, y247.2.1.cycle, (y247.2.1.payload : List UInt8)))))) fun t224 => (bindO (τ := Node × Node × Int × Int) (letJ (τ := Bool) (cond (t224.2.2.2.1) ((landK .u8 r_.lost.a1 4) == 0) (false)) fun t230 => (bindO (τ := Node × Int × Int) (o51 t224.2.1 (⟨t224.2.2.2.2.2.2.2.2.1, t224.2.2.2.2.2.2.2.2.2.1, t224.2.2.2.2.2.2.2.2.2.2.1, t224.2.2.2.2.2.2.2.2.2.2.2⟩ : Frame) (t230)) fun y233 => (letJ (τ := Bool) (cond (t224.2.2.1) ((landK .u8 r_.lost.a0 4) == 0) (false)) fun t236 => (bindO (τ := Node × Int × Int) (o51 t224.1 (⟨t224.2.2.2.2.1, t224.2.2.2.2.2.1, t224.2.2.2.2.2.2.1, t224.2.2.2.2.2.2.2.1⟩ : Frame) (t236)) fun y239 => (some (((y239.1 : Node), (y233.1 : Node), y233.2.1, y239.2.1))))))) fun t227 => (some ((t227.2.1, t227.1, (⟨(⟨t221.2.2.2.2.2.2.2.2.1, t221.2.2.2.2.2.2.2.2.2.1, t221.2.2.2.2.2.2.2.2.2.2.1, t221.2.2.2.2.2.2.2.2.2.2.2.1⟩ : Sett), (⟨t221.2.2.2.2.2.2.2.2.2.2.2.2.1, t221.2.2.2.2.2.2.2.2.2.2.2.2.2.1, t221.2.2.2.2.2.2.2.2.2.2.2.2.2.2.1, t221.2.2.2.2.2.2.2.2.2.2.2.2.2.2.2⟩ : Sett)⟩ : TwoS), (⟨t221.2.2.2.2.2.2.1, t221.2.2.2.2.2.2.2.1⟩ : TwoB), (⟨(⟨t221.2.2.1, 0, 0, t221.2.2.2.1, 0, 0, 0⟩ : Targets), (⟨t221.2.2.2.2.1, 0, 0, t221.2.2.2.2.2.1, 0, 0, 0⟩ : Targets)⟩ : TwoT), (⟨t227.2.2.1, t227.2.2.2⟩ : TwoU), (true))))))))))))
set_option maxHeartbeats 8000000 in
set_option maxRecDepth 100000 in
theorem c39 (g : Gh) (b_la : Nat) (la : Node) (Ala_input : Option Addr) (cla_input : Nat) (Ala_heard_input : Option Addr) (cla_heard_input : Nat) (Ala_set__in_ : Option Addr) (cla_set__in_ : Nat) (b_lb : Nat) (lb : Node) (Alb_input : Option Addr) (clb_input : Nat) (Alb_heard_input : Option Addr) (clb_heard_input : Nat) (Alb_set__in_ : Option Addr) (clb_set__in_ : Nat) (cycle : Int) (r_ : Round) (Ar__one : Option Addr) (cr__one : Nat) (Ar__two : Option Addr) (cr__two : Nat) (fla_input : Arr g.b tyU8 Ala_input cla_input la.input) (fla_heard_input : Arr g.b tyU8 Ala_heard_input cla_heard_input la.heard.input) (fla_set__in_ : Arr g.b tyU8 Ala_set__in_ cla_set__in_ la.set_.in_) (flb_input : Arr g.b tyU8 Alb_input clb_input lb.input) (flb_heard_input : Arr g.b tyU8 Alb_heard_input clb_heard_input lb.heard.input) (flb_set__in_ : Arr g.b tyU8 Alb_set__in_ clb_set__in_ lb.set_.in_) (fr__one : Arr g.b tyU8 Ar__one cr__one r_.one) (fr__two : Arr g.b tyU8 Ar__two cr__two r_.two) {r : Node × Node × TwoS × TwoB × TwoT × TwoU × Bool} (hS : o39 la lb cycle r_ = some r) :
    Ctr Try.prog 39 [Value.agg #[vp b_la 0, vp b_lb 0], vi cycle, Value.agg #[vs Ar__one r_.one cr__one, vs Ar__two r_.two cr__two, vy r_.lost.a0, vy r_.lost.a1, vi r_.wrong.a0, vi r_.wrong.a1]] g [some ⟨b_la, 131, (cNode la Ala_input cla_input Ala_heard_input cla_heard_input Ala_set__in_ cla_set__in_)⟩, some ⟨b_lb, 131, (cNode lb Alb_input clb_input Alb_heard_input clb_heard_input Alb_set__in_ clb_set__in_)⟩] (fun v ψ o => ∃ (Ao_la_input : Option Addr) (co_la_input : Nat) (Ao_la_heard_input : Option Addr) (co_la_heard_input : Nat) (Ao_la_set__in_ : Option Addr) (co_la_set__in_ : Nat) (Ao_lb_input : Option Addr) (co_lb_input : Nat) (Ao_lb_heard_input : Option Addr) (co_lb_heard_input : Nat) (Ao_lb_set__in_ : Option Addr) (co_lb_set__in_ : Nat) (Ar_0_a0_in_ : Option Addr) (cr_0_a0_in_ : Nat) (Ar_0_a1_in_ : Option Addr) (cr_0_a1_in_ : Nat), v = Value.tuple #[Value.agg #[vi r.2.2.1.a0.steps, vi r.2.2.1.a0.cycle, vb r.2.2.1.a0.fresh, vs Ar_0_a0_in_ r.2.2.1.a0.in_ cr_0_a0_in_, vi r.2.2.1.a1.steps, vi r.2.2.1.a1.cycle, vb r.2.2.1.a1.fresh, vs Ar_0_a1_in_ r.2.2.1.a1.in_ cr_0_a1_in_], Value.agg #[vb r.2.2.2.1.a0, vb r.2.2.2.1.a1], Value.agg #[vy r.2.2.2.2.1.a0.lateral, vy r.2.2.2.2.1.a0.vertical, vy r.2.2.2.2.1.a0.phase, vi r.2.2.2.2.1.a0.bank, vi r.2.2.2.2.1.a0.speed, vi r.2.2.2.2.1.a0.alt, vi r.2.2.2.2.1.a0.vs, vy r.2.2.2.2.1.a1.lateral, vy r.2.2.2.2.1.a1.vertical, vy r.2.2.2.2.1.a1.phase, vi r.2.2.2.2.1.a1.bank, vi r.2.2.2.2.1.a1.speed, vi r.2.2.2.2.1.a1.alt, vi r.2.2.2.2.1.a1.vs], Value.agg #[vy r.2.2.2.2.2.1.a0, vy r.2.2.2.2.2.1.a1], vb r.2.2.2.2.2.2] ∧ o = [some ⟨b_la, 131, (cNode r.1 Ao_la_input co_la_input Ao_la_heard_input co_la_heard_input Ao_la_set__in_ co_la_set__in_)⟩, some ⟨b_lb, 131, (cNode r.2.1 Ao_lb_input co_lb_input Ao_lb_heard_input co_lb_heard_input Ao_lb_set__in_ co_lb_set__in_)⟩] ∧ Arr ψ tyU8 Ao_la_input co_la_input r.1.input ∧ Arr ψ tyU8 Ao_la_heard_input co_la_heard_input r.1.heard.input ∧ Arr ψ tyU8 Ao_la_set__in_ co_la_set__in_ r.1.set_.in_ ∧ Arr ψ tyU8 Ao_lb_input co_lb_input r.2.1.input ∧ Arr ψ tyU8 Ao_lb_heard_input co_lb_heard_input r.2.1.heard.input ∧ Arr ψ tyU8 Ao_lb_set__in_ co_lb_set__in_ r.2.1.set_.in_ ∧ Arr ψ tyU8 Ar_0_a0_in_ cr_0_a0_in_ r.2.2.1.a0.in_ ∧ Arr ψ tyU8 Ar_0_a1_in_ cr_0_a1_in_ r.2.2.1.a1.in_) := by
  unfold o39 at hS
  refine xFn Try.f39 (Try.f39.body.getD .skip) 187 ?_
  have nfla_input := fla_input.len
  have nfla_heard_input := fla_heard_input.len
  have nfla_set__in_ := fla_set__in_.len
  have nflb_input := flb_input.len
  have nflb_heard_input := flb_heard_input.len
  have nflb_set__in_ := flb_set__in_.len
  have nfr__one := fr__one.len
  have nfr__two := fr__two.len
  refine xSq ?_
  refine xRg ?_
  refine xE eB ?_
  rintro _ _ _ - ⟨b1, rfl, rfl, rfl⟩
  refine xE eB ?_
  rintro _ _ _ - ⟨b2, rfl, rfl, rfl⟩
  refine xE eB ?_
  rintro _ _ _ - ⟨b3, rfl, rfl, rfl⟩
  refine xE eB ?_
  rintro _ _ _ - ⟨b4, rfl, rfl, rfl⟩
  refine xE eB ?_
  rintro _ _ _ - ⟨b5, rfl, rfl, rfl⟩
  refine xE eB ?_
  rintro _ _ _ - ⟨b6, rfl, rfl, rfl⟩
  refine xB 1 [] [(1, vi cycle), (3, vp b1 0), (5, vp b2 0), (6, vp b3 0), (7, vp b4 0), (8, vp b5 0), (9, vp b6 0), (10, vb false)] ?_
  refine xRe ?_
  refine wpq_then ?_
  refine xSq ?_
  refine xDr 0 [1, 4] [8] [some ⟨b6, 84, [vy 0, vy 0]⟩, some ⟨b5, 83, [vy 0, vy 0, vy 0, vi 0, vi 0, vi 0, vi 0, vy 0, vy 0, vy 0, vi 0, vi 0, vi 0, vi 0]⟩, some ⟨b4, 82, [vb false, vb false]⟩, some ⟨b3, 81, [vi 0, vi 0, vb false, Value.slice none 0 0, vi 0, vi 0, vb false, Value.slice none 0 0]⟩, some ⟨b2, 89, (cRound r_ Ar__one cr__one Ar__two cr__two)⟩, some ⟨b1, 87, [vp b_la 0, vp b_lb 0]⟩, some ⟨b_la, 131, (cNode la Ala_input cla_input Ala_heard_input cla_heard_input Ala_set__in_ cla_set__in_)⟩, some ⟨b_lb, 131, (cNode lb Alb_input clb_input Alb_heard_input clb_heard_input Alb_set__in_ clb_set__in_)⟩] 9 (fun RG => ?_) (fun _ _ _ _ _ h => h)
  refine xT 5 [0, 1, 3, 4] [(1, 4), (4, 4)] [some 0, some 1, some 2, some 3, some 4, some 5, some 6, some 7] [(1, vi cycle), (3, vp b1 0), (5, vp b2 0), (6, vp b3 0), (7, vp b4 0), (8, vp b5 0), (9, vp b6 0), (10, vb false), (22, vs Ar__one r_.one cr__one), (25, vs Ar__two r_.two cr__two)] RG (Psi.le.refl _) ?_
  obtain ⟨y8, hy8, hS⟩ := bindO_T hS
  obtain ⟨y11, hy11, hS⟩ := bindO_T hS
  refine wpa_meet (fun g own sl => ∃ (A8_0 : Option Addr) (c8_0 : Nat) (A11_0 : Option Addr) (c11_0 : Nat) (b14 : Nat), own = [some ⟨b14, 122, [Value.slice none 0 0, Value.slice none 0 0]⟩, some ⟨b6, 84, [vy 0, vy 0]⟩, some ⟨b5, 83, [vy 0, vy 0, vy 0, vi 0, vi 0, vi 0, vi 0, vy 0, vy 0, vy 0, vi 0, vi 0, vi 0, vi 0]⟩, some ⟨b4, 82, [vb false, vb false]⟩, some ⟨b3, 81, [vi 0, vi 0, vb false, Value.slice none 0 0, vi 0, vi 0, vb false, Value.slice none 0 0]⟩, some ⟨b2, 89, (cRound r_ Ar__one cr__one Ar__two cr__two)⟩, some ⟨b1, 87, [vp b_la 0, vp b_lb 0]⟩, some ⟨b_la, 131, (cNode la Ala_input cla_input Ala_heard_input cla_heard_input Ala_set__in_ cla_set__in_)⟩, some ⟨b_lb, 131, (cNode lb Alb_input clb_input Alb_heard_input clb_heard_input Alb_set__in_ clb_set__in_)⟩] ∧ sl = [(1, vi cycle), (3, vp b1 0), (5, vp b2 0), (6, vp b3 0), (7, vp b4 0), (8, vp b5 0), (9, vp b6 0), (10, vb false), (11, vp b14 0), (27, Value.agg #[vs A8_0 y8 c8_0, vs A11_0 y11 c11_0])] ∧ Arr g.b tyU8 A8_0 c8_0 y8 ∧ Arr g.b tyU8 A11_0 c11_0 y11) 1 [true, true, true, true, true, true, true, true, false] ?_ (fun hD7 => ?_)
  · rintro g208 _ _ e209 ⟨A8_0, c8_0, A11_0, c11_0, b14, rfl, rfl, f8_0, f11_0⟩
    have nf8_0 := f8_0.len
    have nf11_0 := f11_0.len
    refine xO1 (lds := [1, 4]) 8 ?_
    refine xId (lds := [1, 4]) e209.r (eStL b14 0 0) ?_
    rintro _ _ _ - ⟨rfl, rfl⟩
    refine kf ?_
    refine xAe (lds := [1, 4]) ?_
    refine wpq_then ?_
    refine xSub [(1, vi cycle), (3, vp b1 0), (5, vp b2 0), (6, vp b3 0), (7, vp b4 0), (8, vp b5 0), (9, vp b6 0), (10, vb false), (11, vp b14 0)] ?_
    refine xSq ?_
    refine xRg ?_
    refine xE eB ?_
    rintro _ _ _ - ⟨b210, rfl, rfl, rfl⟩
    refine xRe ?_
    refine wpq_then ?_
    refine xSq ?_
    refine xRg ?_
    refine xE eB ?_
    rintro _ _ _ - ⟨b211, rfl, rfl, rfl⟩
    refine xRe ?_
    refine wpq_then ?_
    refine xSq ?_
    refine xSq ?_
    refine xRg ?_
    refine xB 1 [] [(1, vi cycle), (3, vp b1 0), (5, vp b2 0), (6, vp b3 0), (7, vp b4 0), (8, vp b5 0), (9, vp b6 0), (10, vb false), (11, vp b14 0), (12, vp b210 0), (13, vp b211 0), (28, vi 0)] ?_
    refine xRe ?_
    refine wpq_then ?_
    refine xJoinO hS (fun g own sl t212 => ∃ (A212_0_input : Option Addr) (c212_0_input : Nat) (A212_0_heard_input : Option Addr) (c212_0_heard_input : Nat) (A212_0_set__in_ : Option Addr) (c212_0_set__in_ : Nat) (A212_1_input : Option Addr) (c212_1_input : Nat) (A212_1_heard_input : Option Addr) (c212_1_heard_input : Nat) (A212_1_set__in_ : Option Addr) (c212_1_set__in_ : Nat) (A212_5 : Option Addr) (c212_5 : Nat) (A212_9 : Option Addr) (c212_9 : Nat), own = [some ⟨b_lb, 131, (cNode t212.1 A212_0_input c212_0_input A212_0_heard_input c212_0_heard_input A212_0_set__in_ c212_0_set__in_)⟩, some ⟨b_la, 131, (cNode t212.2.1 A212_1_input c212_1_input A212_1_heard_input c212_1_heard_input A212_1_set__in_ c212_1_set__in_)⟩, some ⟨b211, 82, [vb false, vb false]⟩, some ⟨b210, 132, [vy t212.2.2.1, vy t212.2.2.2.1, vi t212.2.2.2.2.1, vs A212_5 t212.2.2.2.2.2.1 c212_5, vy t212.2.2.2.2.2.2.1, vy t212.2.2.2.2.2.2.2.1, vi t212.2.2.2.2.2.2.2.2.1, vs A212_9 t212.2.2.2.2.2.2.2.2.2 c212_9]⟩, some ⟨b6, 84, [vy 0, vy 0]⟩, some ⟨b5, 83, [vy 0, vy 0, vy 0, vi 0, vi 0, vi 0, vi 0, vy 0, vy 0, vy 0, vi 0, vi 0, vi 0, vi 0]⟩, some ⟨b4, 82, [vb false, vb false]⟩, some ⟨b3, 81, [vi 0, vi 0, vb false, Value.slice none 0 0, vi 0, vi 0, vb false, Value.slice none 0 0]⟩, some ⟨b2, 89, (cRound r_ Ar__one cr__one Ar__two cr__two)⟩, some ⟨b1, 87, [vp b_la 0, vp b_lb 0]⟩] ∧ sl = [(3, vp b1 0), (5, vp b2 0), (6, vp b3 0), (7, vp b4 0), (8, vp b5 0), (9, vp b6 0), (12, vp b210 0), (13, vp b211 0)] ∧ Arr g.b tyU8 A212_0_input c212_0_input t212.1.input ∧ Arr g.b tyU8 A212_0_heard_input c212_0_heard_input t212.1.heard.input ∧ Arr g.b tyU8 A212_0_set__in_ c212_0_set__in_ t212.1.set_.in_ ∧ Arr g.b tyU8 A212_1_input c212_1_input t212.2.1.input ∧ Arr g.b tyU8 A212_1_heard_input c212_1_heard_input t212.2.1.heard.input ∧ Arr g.b tyU8 A212_1_set__in_ c212_1_set__in_ t212.2.1.set_.in_ ∧ Arr g.b tyU8 A212_5 c212_5 t212.2.2.2.2.2.1 ∧ Arr g.b tyU8 A212_9 c212_9 t212.2.2.2.2.2.2.2.2.2) ?_ ?_
    · rintro g213 _ _ t212 e214 ⟨A212_0_input, c212_0_input, A212_0_heard_input, c212_0_heard_input, A212_0_set__in_, c212_0_set__in_, A212_1_input, c212_1_input, A212_1_heard_input, c212_1_heard_input, A212_1_set__in_, c212_1_set__in_, A212_5, c212_5, A212_9, c212_9, rfl, rfl, f212_0_input, f212_0_heard_input, f212_0_set__in_, f212_1_input, f212_1_heard_input, f212_1_set__in_, f212_5, f212_9⟩ hS
      have nf212_0_input := f212_0_input.len
      have nf212_0_heard_input := f212_0_heard_input.len
      have nf212_0_set__in_ := f212_0_set__in_.len
      have nf212_1_input := f212_1_input.len
      have nf212_1_heard_input := f212_1_heard_input.len
      have nf212_1_set__in_ := f212_1_set__in_.len
      have nf212_5 := f212_5.len
      have nf212_9 := f212_9.len
      refine wpq_then ?_
      refine xSq ?_
      refine xSq ?_
      refine xRg ?_
      refine xB 1 [] [(3, vp b1 0), (5, vp b2 0), (6, vp b3 0), (7, vp b4 0), (8, vp b5 0), (9, vp b6 0), (12, vp b210 0), (13, vp b211 0), (48, vi 0)] ?_
      refine xRe ?_
      refine wpq_then ?_
      refine xBindO hS (fun g own sl t215 => ∃ (A215_0_input : Option Addr) (c215_0_input : Nat) (A215_0_heard_input : Option Addr) (c215_0_heard_input : Nat) (A215_0_set__in_ : Option Addr) (c215_0_set__in_ : Nat) (A215_1_input : Option Addr) (c215_1_input : Nat) (A215_1_heard_input : Option Addr) (c215_1_heard_input : Nat) (A215_1_set__in_ : Option Addr) (c215_1_set__in_ : Nat), own = [some ⟨b_lb, 131, (cNode t215.1 A215_0_input c215_0_input A215_0_heard_input c215_0_heard_input A215_0_set__in_ c215_0_set__in_)⟩, some ⟨b_la, 131, (cNode t215.2 A215_1_input c215_1_input A215_1_heard_input c215_1_heard_input A215_1_set__in_ c215_1_set__in_)⟩, some ⟨b211, 82, [vb false, vb false]⟩, some ⟨b210, 132, [vy t212.2.2.1, vy t212.2.2.2.1, vi t212.2.2.2.2.1, vs A212_5 t212.2.2.2.2.2.1 c212_5, vy t212.2.2.2.2.2.2.1, vy t212.2.2.2.2.2.2.2.1, vi t212.2.2.2.2.2.2.2.2.1, vs A212_9 t212.2.2.2.2.2.2.2.2.2 c212_9]⟩, some ⟨b6, 84, [vy 0, vy 0]⟩, some ⟨b5, 83, [vy 0, vy 0, vy 0, vi 0, vi 0, vi 0, vi 0, vy 0, vy 0, vy 0, vi 0, vi 0, vi 0, vi 0]⟩, some ⟨b4, 82, [vb false, vb false]⟩, some ⟨b3, 81, [vi 0, vi 0, vb false, Value.slice none 0 0, vi 0, vi 0, vb false, Value.slice none 0 0]⟩, some ⟨b2, 89, (cRound r_ Ar__one cr__one Ar__two cr__two)⟩, some ⟨b1, 87, [vp b_la 0, vp b_lb 0]⟩] ∧ sl = [(3, vp b1 0), (5, vp b2 0), (6, vp b3 0), (7, vp b4 0), (8, vp b5 0), (9, vp b6 0), (12, vp b210 0), (13, vp b211 0)] ∧ Arr g.b tyU8 A215_0_input c215_0_input t215.1.input ∧ Arr g.b tyU8 A215_0_heard_input c215_0_heard_input t215.1.heard.input ∧ Arr g.b tyU8 A215_0_set__in_ c215_0_set__in_ t215.1.set_.in_ ∧ Arr g.b tyU8 A215_1_input c215_1_input t215.2.input ∧ Arr g.b tyU8 A215_1_heard_input c215_1_heard_input t215.2.heard.input ∧ Arr g.b tyU8 A215_1_set__in_ c215_1_set__in_ t215.2.set_.in_) ?_ ?_
      · rintro g216 _ _ t215 e217 ⟨A215_0_input, c215_0_input, A215_0_heard_input, c215_0_heard_input, A215_0_set__in_, c215_0_set__in_, A215_1_input, c215_1_input, A215_1_heard_input, c215_1_heard_input, A215_1_set__in_, c215_1_set__in_, rfl, rfl, f215_0_input, f215_0_heard_input, f215_0_set__in_, f215_1_input, f215_1_heard_input, f215_1_set__in_⟩ hS
        have nf215_0_input := f215_0_input.len
        have nf215_0_heard_input := f215_0_heard_input.len
        have nf215_0_set__in_ := f215_0_set__in_.len
        have nf215_1_input := f215_1_input.len
        have nf215_1_heard_input := f215_1_heard_input.len
        have nf215_1_set__in_ := f215_1_set__in_.len
        refine wpq_then ?_
        refine xSq ?_
        refine xSq ?_
        refine xRg ?_
        refine xB 1 [] [(3, vp b1 0), (5, vp b2 0), (6, vp b3 0), (7, vp b4 0), (8, vp b5 0), (9, vp b6 0), (12, vp b210 0), (13, vp b211 0), (67, vi 0)] ?_
        refine xRe ?_
        refine wpq_then ?_
        refine xBindO hS (fun g own sl t218 => ∃ (A218_0_input : Option Addr) (c218_0_input : Nat) (A218_0_heard_input : Option Addr) (c218_0_heard_input : Nat) (A218_0_set__in_ : Option Addr) (c218_0_set__in_ : Nat) (A218_1_input : Option Addr) (c218_1_input : Nat) (A218_1_heard_input : Option Addr) (c218_1_heard_input : Nat) (A218_1_set__in_ : Option Addr) (c218_1_set__in_ : Nat) (A218_7 : Option Addr) (c218_7 : Nat) (A218_11 : Option Addr) (c218_11 : Nat), own = [some ⟨b_lb, 131, (cNode t218.1 A218_0_input c218_0_input A218_0_heard_input c218_0_heard_input A218_0_set__in_ c218_0_set__in_)⟩, some ⟨b_la, 131, (cNode t218.2.1 A218_1_input c218_1_input A218_1_heard_input c218_1_heard_input A218_1_set__in_ c218_1_set__in_)⟩, some ⟨b211, 82, [vb t218.2.2.1, vb t218.2.2.2.1]⟩, some ⟨b210, 132, [vy t218.2.2.2.2.1, vy t218.2.2.2.2.2.1, vi t218.2.2.2.2.2.2.1, vs A218_7 t218.2.2.2.2.2.2.2.1 c218_7, vy t218.2.2.2.2.2.2.2.2.1, vy t218.2.2.2.2.2.2.2.2.2.1, vi t218.2.2.2.2.2.2.2.2.2.2.1, vs A218_11 t218.2.2.2.2.2.2.2.2.2.2.2 c218_11]⟩, some ⟨b6, 84, [vy 0, vy 0]⟩, some ⟨b5, 83, [vy 0, vy 0, vy 0, vi 0, vi 0, vi 0, vi 0, vy 0, vy 0, vy 0, vi 0, vi 0, vi 0, vi 0]⟩, some ⟨b4, 82, [vb false, vb false]⟩, some ⟨b3, 81, [vi 0, vi 0, vb false, Value.slice none 0 0, vi 0, vi 0, vb false, Value.slice none 0 0]⟩, some ⟨b2, 89, (cRound r_ Ar__one cr__one Ar__two cr__two)⟩, some ⟨b1, 87, [vp b_la 0, vp b_lb 0]⟩] ∧ sl = [(3, vp b1 0), (5, vp b2 0), (6, vp b3 0), (7, vp b4 0), (8, vp b5 0), (9, vp b6 0), (12, vp b210 0), (13, vp b211 0)] ∧ Arr g.b tyU8 A218_0_input c218_0_input t218.1.input ∧ Arr g.b tyU8 A218_0_heard_input c218_0_heard_input t218.1.heard.input ∧ Arr g.b tyU8 A218_0_set__in_ c218_0_set__in_ t218.1.set_.in_ ∧ Arr g.b tyU8 A218_1_input c218_1_input t218.2.1.input ∧ Arr g.b tyU8 A218_1_heard_input c218_1_heard_input t218.2.1.heard.input ∧ Arr g.b tyU8 A218_1_set__in_ c218_1_set__in_ t218.2.1.set_.in_ ∧ Arr g.b tyU8 A218_7 c218_7 t218.2.2.2.2.2.2.2.1 ∧ Arr g.b tyU8 A218_11 c218_11 t218.2.2.2.2.2.2.2.2.2.2.2) ?_ ?_
        · rintro g219 _ _ t218 e220 ⟨A218_0_input, c218_0_input, A218_0_heard_input, c218_0_heard_input, A218_0_set__in_, c218_0_set__in_, A218_1_input, c218_1_input, A218_1_heard_input, c218_1_heard_input, A218_1_set__in_, c218_1_set__in_, A218_7, c218_7, A218_11, c218_11, rfl, rfl, f218_0_input, f218_0_heard_input, f218_0_set__in_, f218_1_input, f218_1_heard_input, f218_1_set__in_, f218_7, f218_11⟩ hS
          have nf218_0_input := f218_0_input.len
          have nf218_0_heard_input := f218_0_heard_input.len
          have nf218_0_set__in_ := f218_0_set__in_.len
          have nf218_1_input := f218_1_input.len
          have nf218_1_heard_input := f218_1_heard_input.len
          have nf218_1_set__in_ := f218_1_set__in_.len
          have nf218_7 := f218_7.len
          have nf218_11 := f218_11.len
          refine wpq_then ?_
          refine xSq ?_
          refine xSq ?_
          refine xRg ?_
          refine xB 1 [] [(3, vp b1 0), (5, vp b2 0), (6, vp b3 0), (7, vp b4 0), (8, vp b5 0), (9, vp b6 0), (12, vp b210 0), (13, vp b211 0), (83, vi 0)] ?_
          refine xRe ?_
          refine wpq_then ?_
          refine xBindO hS (fun g own sl t221 => ∃ (A221_0_input : Option Addr) (c221_0_input : Nat) (A221_0_heard_input : Option Addr) (c221_0_heard_input : Nat) (A221_0_set__in_ : Option Addr) (c221_0_set__in_ : Nat) (A221_1_input : Option Addr) (c221_1_input : Nat) (A221_1_heard_input : Option Addr) (c221_1_heard_input : Nat) (A221_1_set__in_ : Option Addr) (c221_1_set__in_ : Nat) (A221_11 : Option Addr) (c221_11 : Nat) (A221_15 : Option Addr) (c221_15 : Nat), own = [some ⟨b_lb, 131, (cNode t221.1 A221_0_input c221_0_input A221_0_heard_input c221_0_heard_input A221_0_set__in_ c221_0_set__in_)⟩, some ⟨b_la, 131, (cNode t221.2.1 A221_1_input c221_1_input A221_1_heard_input c221_1_heard_input A221_1_set__in_ c221_1_set__in_)⟩, some ⟨b211, 82, [vb t218.2.2.1, vb t218.2.2.2.1]⟩, some ⟨b210, 132, [vy t218.2.2.2.2.1, vy t218.2.2.2.2.2.1, vi t218.2.2.2.2.2.2.1, vs A218_7 t218.2.2.2.2.2.2.2.1 c218_7, vy t218.2.2.2.2.2.2.2.2.1, vy t218.2.2.2.2.2.2.2.2.2.1, vi t218.2.2.2.2.2.2.2.2.2.2.1, vs A218_11 t218.2.2.2.2.2.2.2.2.2.2.2 c218_11]⟩, some ⟨b6, 84, [vy 0, vy 0]⟩, some ⟨b5, 83, [vy t221.2.2.1, vy 0, vy 0, vi t221.2.2.2.1, vi 0, vi 0, vi 0, vy t221.2.2.2.2.1, vy 0, vy 0, vi t221.2.2.2.2.2.1, vi 0, vi 0, vi 0]⟩, some ⟨b4, 82, [vb t221.2.2.2.2.2.2.1, vb t221.2.2.2.2.2.2.2.1]⟩, some ⟨b3, 81, [vi t221.2.2.2.2.2.2.2.2.1, vi t221.2.2.2.2.2.2.2.2.2.1, vb t221.2.2.2.2.2.2.2.2.2.2.1, vs A221_11 t221.2.2.2.2.2.2.2.2.2.2.2.1 c221_11, vi t221.2.2.2.2.2.2.2.2.2.2.2.2.1, vi t221.2.2.2.2.2.2.2.2.2.2.2.2.2.1, vb t221.2.2.2.2.2.2.2.2.2.2.2.2.2.2.1, vs A221_15 t221.2.2.2.2.2.2.2.2.2.2.2.2.2.2.2 c221_15]⟩, some ⟨b2, 89, (cRound r_ Ar__one cr__one Ar__two cr__two)⟩, some ⟨b1, 87, [vp b_la 0, vp b_lb 0]⟩] ∧ sl = [(3, vp b1 0), (5, vp b2 0), (6, vp b3 0), (7, vp b4 0), (8, vp b5 0), (9, vp b6 0), (12, vp b210 0), (13, vp b211 0)] ∧ Arr g.b tyU8 A221_0_input c221_0_input t221.1.input ∧ Arr g.b tyU8 A221_0_heard_input c221_0_heard_input t221.1.heard.input ∧ Arr g.b tyU8 A221_0_set__in_ c221_0_set__in_ t221.1.set_.in_ ∧ Arr g.b tyU8 A221_1_input c221_1_input t221.2.1.input ∧ Arr g.b tyU8 A221_1_heard_input c221_1_heard_input t221.2.1.heard.input ∧ Arr g.b tyU8 A221_1_set__in_ c221_1_set__in_ t221.2.1.set_.in_ ∧ Arr g.b tyU8 A221_11 c221_11 t221.2.2.2.2.2.2.2.2.2.2.2.1 ∧ Arr g.b tyU8 A221_15 c221_15 t221.2.2.2.2.2.2.2.2.2.2.2.2.2.2.2 ∧ (0 ≤ t221.2.2.1 ∧ t221.2.2.1 ≤ 255) ∧ (0 ≤ t221.2.2.2.2.1 ∧ t221.2.2.2.2.1 ≤ 255)) ?_ ?_
          · rintro g222 _ _ t221 e223 ⟨A221_0_input, c221_0_input, A221_0_heard_input, c221_0_heard_input, A221_0_set__in_, c221_0_set__in_, A221_1_input, c221_1_input, A221_1_heard_input, c221_1_heard_input, A221_1_set__in_, c221_1_set__in_, A221_11, c221_11, A221_15, c221_15, rfl, rfl, f221_0_input, f221_0_heard_input, f221_0_set__in_, f221_1_input, f221_1_heard_input, f221_1_set__in_, f221_11, f221_15, ⟨r221_0l, r221_0r⟩, ⟨r221_1l, r221_1r⟩⟩ hS
            have nf221_0_input := f221_0_input.len
            have nf221_0_heard_input := f221_0_heard_input.len
            have nf221_0_set__in_ := f221_0_set__in_.len
            have nf221_1_input := f221_1_input.len
            have nf221_1_heard_input := f221_1_heard_input.len
            have nf221_1_set__in_ := f221_1_set__in_.len
            have nf221_11 := f221_11.len
            have nf221_15 := f221_15.len
            refine wpq_then ?_
            refine xSq ?_
            refine xSq ?_
            refine xRg ?_
            refine xB 1 [] [(3, vp b1 0), (5, vp b2 0), (6, vp b3 0), (7, vp b4 0), (8, vp b5 0), (9, vp b6 0), (12, vp b210 0), (13, vp b211 0), (134, vi 0)] ?_
            refine xRe ?_
            refine wpq_then ?_
            refine xBindO hS (fun g own sl t224 => ∃ (A224_0_input : Option Addr) (c224_0_input : Nat) (A224_0_heard_input : Option Addr) (c224_0_heard_input : Nat) (A224_0_set__in_ : Option Addr) (c224_0_set__in_ : Nat) (A224_1_input : Option Addr) (c224_1_input : Nat) (A224_1_heard_input : Option Addr) (c224_1_heard_input : Nat) (A224_1_set__in_ : Option Addr) (c224_1_set__in_ : Nat) (A224_7 : Option Addr) (c224_7 : Nat) (A224_11 : Option Addr) (c224_11 : Nat), own = [some ⟨b_lb, 131, (cNode t224.1 A224_0_input c224_0_input A224_0_heard_input c224_0_heard_input A224_0_set__in_ c224_0_set__in_)⟩, some ⟨b_la, 131, (cNode t224.2.1 A224_1_input c224_1_input A224_1_heard_input c224_1_heard_input A224_1_set__in_ c224_1_set__in_)⟩, some ⟨b211, 82, [vb t224.2.2.1, vb t224.2.2.2.1]⟩, some ⟨b210, 132, [vy t224.2.2.2.2.1, vy t224.2.2.2.2.2.1, vi t224.2.2.2.2.2.2.1, vs A224_7 t224.2.2.2.2.2.2.2.1 c224_7, vy t224.2.2.2.2.2.2.2.2.1, vy t224.2.2.2.2.2.2.2.2.2.1, vi t224.2.2.2.2.2.2.2.2.2.2.1, vs A224_11 t224.2.2.2.2.2.2.2.2.2.2.2 c224_11]⟩, some ⟨b6, 84, [vy 0, vy 0]⟩, some ⟨b5, 83, [vy t221.2.2.1, vy 0, vy 0, vi t221.2.2.2.1, vi 0, vi 0, vi 0, vy t221.2.2.2.2.1, vy 0, vy 0, vi t221.2.2.2.2.2.1, vi 0, vi 0, vi 0]⟩, some ⟨b4, 82, [vb t221.2.2.2.2.2.2.1, vb t221.2.2.2.2.2.2.2.1]⟩, some ⟨b3, 81, [vi t221.2.2.2.2.2.2.2.2.1, vi t221.2.2.2.2.2.2.2.2.2.1, vb t221.2.2.2.2.2.2.2.2.2.2.1, vs A221_11 t221.2.2.2.2.2.2.2.2.2.2.2.1 c221_11, vi t221.2.2.2.2.2.2.2.2.2.2.2.2.1, vi t221.2.2.2.2.2.2.2.2.2.2.2.2.2.1, vb t221.2.2.2.2.2.2.2.2.2.2.2.2.2.2.1, vs A221_15 t221.2.2.2.2.2.2.2.2.2.2.2.2.2.2.2 c221_15]⟩, some ⟨b2, 89, (cRound r_ Ar__one cr__one Ar__two cr__two)⟩, some ⟨b1, 87, [vp b_la 0, vp b_lb 0]⟩] ∧ sl = [(3, vp b1 0), (5, vp b2 0), (6, vp b3 0), (7, vp b4 0), (8, vp b5 0), (9, vp b6 0), (12, vp b210 0), (13, vp b211 0)] ∧ Arr g.b tyU8 A224_0_input c224_0_input t224.1.input ∧ Arr g.b tyU8 A224_0_heard_input c224_0_heard_input t224.1.heard.input ∧ Arr g.b tyU8 A224_0_set__in_ c224_0_set__in_ t224.1.set_.in_ ∧ Arr g.b tyU8 A224_1_input c224_1_input t224.2.1.input ∧ Arr g.b tyU8 A224_1_heard_input c224_1_heard_input t224.2.1.heard.input ∧ Arr g.b tyU8 A224_1_set__in_ c224_1_set__in_ t224.2.1.set_.in_ ∧ Arr g.b tyU8 A224_7 c224_7 t224.2.2.2.2.2.2.2.1 ∧ Arr g.b tyU8 A224_11 c224_11 t224.2.2.2.2.2.2.2.2.2.2.2) ?_ ?_
            · rintro g225 _ _ t224 e226 ⟨A224_0_input, c224_0_input, A224_0_heard_input, c224_0_heard_input, A224_0_set__in_, c224_0_set__in_, A224_1_input, c224_1_input, A224_1_heard_input, c224_1_heard_input, A224_1_set__in_, c224_1_set__in_, A224_7, c224_7, A224_11, c224_11, rfl, rfl, f224_0_input, f224_0_heard_input, f224_0_set__in_, f224_1_input, f224_1_heard_input, f224_1_set__in_, f224_7, f224_11⟩ hS
              have nf224_0_input := f224_0_input.len
              have nf224_0_heard_input := f224_0_heard_input.len
              have nf224_0_set__in_ := f224_0_set__in_.len
              have nf224_1_input := f224_1_input.len
              have nf224_1_heard_input := f224_1_heard_input.len
              have nf224_1_set__in_ := f224_1_set__in_.len
              have nf224_7 := f224_7.len
              have nf224_11 := f224_11.len
              refine wpq_then ?_
              refine xSq ?_
              refine xSq ?_
              refine xRg ?_
              refine xB 1 [] [(3, vp b1 0), (5, vp b2 0), (6, vp b3 0), (7, vp b4 0), (8, vp b5 0), (9, vp b6 0), (12, vp b210 0), (13, vp b211 0), (153, vi 0)] ?_
              refine xRe ?_
              refine wpq_then ?_
              refine xBindO hS (fun g own sl t227 => ∃ (A227_0_input : Option Addr) (c227_0_input : Nat) (A227_0_heard_input : Option Addr) (c227_0_heard_input : Nat) (A227_0_set__in_ : Option Addr) (c227_0_set__in_ : Nat) (A227_1_input : Option Addr) (c227_1_input : Nat) (A227_1_heard_input : Option Addr) (c227_1_heard_input : Nat) (A227_1_set__in_ : Option Addr) (c227_1_set__in_ : Nat), own = [some ⟨b_lb, 131, (cNode t227.1 A227_0_input c227_0_input A227_0_heard_input c227_0_heard_input A227_0_set__in_ c227_0_set__in_)⟩, some ⟨b_la, 131, (cNode t227.2.1 A227_1_input c227_1_input A227_1_heard_input c227_1_heard_input A227_1_set__in_ c227_1_set__in_)⟩, some ⟨b6, 84, [vy t227.2.2.1, vy t227.2.2.2]⟩, some ⟨b5, 83, [vy t221.2.2.1, vy 0, vy 0, vi t221.2.2.2.1, vi 0, vi 0, vi 0, vy t221.2.2.2.2.1, vy 0, vy 0, vi t221.2.2.2.2.2.1, vi 0, vi 0, vi 0]⟩, some ⟨b4, 82, [vb t221.2.2.2.2.2.2.1, vb t221.2.2.2.2.2.2.2.1]⟩, some ⟨b3, 81, [vi t221.2.2.2.2.2.2.2.2.1, vi t221.2.2.2.2.2.2.2.2.2.1, vb t221.2.2.2.2.2.2.2.2.2.2.1, vs A221_11 t221.2.2.2.2.2.2.2.2.2.2.2.1 c221_11, vi t221.2.2.2.2.2.2.2.2.2.2.2.2.1, vi t221.2.2.2.2.2.2.2.2.2.2.2.2.2.1, vb t221.2.2.2.2.2.2.2.2.2.2.2.2.2.2.1, vs A221_15 t221.2.2.2.2.2.2.2.2.2.2.2.2.2.2.2 c221_15]⟩] ∧ sl = [(6, vp b3 0), (7, vp b4 0), (8, vp b5 0), (9, vp b6 0)] ∧ Arr g.b tyU8 A227_0_input c227_0_input t227.1.input ∧ Arr g.b tyU8 A227_0_heard_input c227_0_heard_input t227.1.heard.input ∧ Arr g.b tyU8 A227_0_set__in_ c227_0_set__in_ t227.1.set_.in_ ∧ Arr g.b tyU8 A227_1_input c227_1_input t227.2.1.input ∧ Arr g.b tyU8 A227_1_heard_input c227_1_heard_input t227.2.1.heard.input ∧ Arr g.b tyU8 A227_1_set__in_ c227_1_set__in_ t227.2.1.set_.in_) ?_ ?_
              · rintro g228 _ _ t227 e229 ⟨A227_0_input, c227_0_input, A227_0_heard_input, c227_0_heard_input, A227_0_set__in_, c227_0_set__in_, A227_1_input, c227_1_input, A227_1_heard_input, c227_1_heard_input, A227_1_set__in_, c227_1_set__in_, rfl, rfl, f227_0_input, f227_0_heard_input, f227_0_set__in_, f227_1_input, f227_1_heard_input, f227_1_set__in_⟩ hS
                have nf227_0_input := f227_0_input.len
                have nf227_0_heard_input := f227_0_heard_input.len
                have nf227_0_set__in_ := f227_0_set__in_.len
                have nf227_1_input := f227_1_input.len
                have nf227_1_heard_input := f227_1_heard_input.len
                have nf227_1_set__in_ := f227_1_set__in_.len
                refine wpq_then ?_
                refine xSq ?_
                refine xDr 0 [0, 1, 2, 3] [7, 8] [some ⟨b_lb, 131, (cNode t227.1 A227_0_input c227_0_input A227_0_heard_input c227_0_heard_input A227_0_set__in_ c227_0_set__in_)⟩, some ⟨b_la, 131, (cNode t227.2.1 A227_1_input c227_1_input A227_1_heard_input c227_1_heard_input A227_1_set__in_ c227_1_set__in_)⟩, some ⟨b6, 84, [vy t227.2.2.1, vy t227.2.2.2]⟩, some ⟨b5, 83, [vy t221.2.2.1, vy 0, vy 0, vi t221.2.2.2.1, vi 0, vi 0, vi 0, vy t221.2.2.2.2.1, vy 0, vy 0, vi t221.2.2.2.2.2.1, vi 0, vi 0, vi 0]⟩, some ⟨b4, 82, [vb t221.2.2.2.2.2.2.1, vb t221.2.2.2.2.2.2.2.1]⟩, some ⟨b3, 81, [vi t221.2.2.2.2.2.2.2.2.1, vi t221.2.2.2.2.2.2.2.2.2.1, vb t221.2.2.2.2.2.2.2.2.2.2.1, vs A221_11 t221.2.2.2.2.2.2.2.2.2.2.2.1 c221_11, vi t221.2.2.2.2.2.2.2.2.2.2.2.2.1, vi t221.2.2.2.2.2.2.2.2.2.2.2.2.2.1, vb t221.2.2.2.2.2.2.2.2.2.2.2.2.2.2.1, vs A221_15 t221.2.2.2.2.2.2.2.2.2.2.2.2.2.2.2 c221_15]⟩] 9 (fun RG => ?_) (fun _ _ _ _ _ h => h)
                refine xT 5 [0, 1, 2, 3] [(0, 5), (1, 4), (2, 3), (3, 2)] [some 0, some 1, some 2, some 3, some 4, some 5] [(6, vp b3 0), (7, vp b4 0), (8, vp b5 0), (9, vp b6 0), (183, Value.agg #[vi t221.2.2.2.2.2.2.2.2.1, vi t221.2.2.2.2.2.2.2.2.2.1, vb t221.2.2.2.2.2.2.2.2.2.2.1, vs A221_11 t221.2.2.2.2.2.2.2.2.2.2.2.1 c221_11, vi t221.2.2.2.2.2.2.2.2.2.2.2.2.1, vi t221.2.2.2.2.2.2.2.2.2.2.2.2.2.1, vb t221.2.2.2.2.2.2.2.2.2.2.2.2.2.2.1, vs A221_15 t221.2.2.2.2.2.2.2.2.2.2.2.2.2.2.2 c221_15]), (184, Value.agg #[vb t221.2.2.2.2.2.2.1, vb t221.2.2.2.2.2.2.2.1]), (185, Value.agg #[vy t221.2.2.1, vy 0, vy 0, vi t221.2.2.2.1, vi 0, vi 0, vi 0, vy t221.2.2.2.2.1, vy 0, vy 0, vi t221.2.2.2.2.2.1, vi 0, vi 0, vi 0]), (186, Value.agg #[vy t227.2.2.1, vy t227.2.2.2])] RG (Psi.le.refl _) ?_
                refine xO1 (lds := [0, 1, 2, 3]) 4 ?_
                refine xId (lds := [0, 1, 2, 3]) (Psi.le.refl _) (eStL b3 0 5) ?_
                rintro _ _ _ - ⟨rfl, rfl⟩
                refine kk [some 0, some 1, some 2, some 3, some 4, some 5] ?_
                refine xO1 (lds := [0, 1, 2, 3]) 5 ?_
                refine xId (lds := [0, 1, 2, 3]) (Psi.le.refl _) (eStL b4 0 4) ?_
                rintro _ _ _ - ⟨rfl, rfl⟩
                refine kk [some 0, some 1, some 2, some 3, some 4, some 5] ?_
                refine xO1 (lds := [0, 1, 2, 3]) 6 ?_
                refine xId (lds := [0, 1, 2, 3]) (Psi.le.refl _) (eStL b5 0 3) ?_
                rintro _ _ _ - ⟨rfl, rfl⟩
                refine kk [some 0, some 1, some 2, some 3, some 4, some 5] ?_
                refine xO1 (lds := [0, 1, 2, 3]) 7 ?_
                refine xId (lds := [0, 1, 2, 3]) (Psi.le.refl _) (eStL b6 0 2) ?_
                rintro _ _ _ - ⟨rfl, rfl⟩
                refine kf ?_
                refine xT 0 [8] [] [some 0, some 1, some 2, some 3, some 4, some 5] [(6, vp b3 0), (7, vp b4 0), (8, vp b5 0), (9, vp b6 0), (10, vb true)] RG (Psi.le.refl _) ?_
                refine xAe (lds := [0, 1, 2, 3]) ?_
                refine wpq_then ?_
                have f221_11 := f221_11.mono (e226.trans e229).b
                have f221_15 := f221_15.mono (e226.trans e229).b
                have eS := (Option.some.inj hS).symm
                subst eS
                exact xRetC [some 1, some 0] [(6, 5), (7, 4), (8, 3), (9, 2)] (e209.trans (e214.trans (e217.trans (e220.trans (e223.trans (e226.trans e229)))))) ⟨A227_1_input, c227_1_input, A227_1_heard_input, c227_1_heard_input, A227_1_set__in_, c227_1_set__in_, A227_0_input, c227_0_input, A227_0_heard_input, c227_0_heard_input, A227_0_set__in_, c227_0_set__in_, A221_11, c221_11, A221_15, c221_15, by kernel_rfl, by kernel_rfl, f227_1_input, f227_1_heard_input, f227_1_set__in_, f227_0_input, f227_0_heard_input, f227_0_set__in_, f221_11, f221_15⟩ (fun _ _ h => h)
              · intro u227 hS hN227
                refine xBl 10 ?_
                refine xSub [(3, vp b1 0), (5, vp b2 0), (6, vp b3 0), (7, vp b4 0), (8, vp b5 0), (9, vp b6 0), (12, vp b210 0), (13, vp b211 0), (153, vi 0)] ?_
                refine xUn 3 ?_
                refine xRd ?_
                refine xSq ?_
                refine xRg ?_
                refine xB 1 [] [(3, vp b1 0), (5, vp b2 0), (6, vp b3 0), (7, vp b4 0), (8, vp b5 0), (9, vp b6 0), (12, vp b210 0), (13, vp b211 0), (153, vi 0), (154, vb true)] ?_
                refine xRe ?_
                refine wpq_then ?_
                refine xSq ?_
                refine xCt ?_
                refine xSk ?_
                refine wpq_then ?_
                refine xSub [(3, vp b1 0), (5, vp b2 0), (6, vp b3 0), (7, vp b4 0), (8, vp b5 0), (9, vp b6 0), (12, vp b210 0), (13, vp b211 0), (153, vi 0)] ?_
                refine xSq ?_
                refine xBl 11 ?_
                refine xSq ?_
                refine xRg ?_
                refine xB 2 [] [(3, vp b1 0), (5, vp b2 0), (6, vp b3 0), (7, vp b4 0), (8, vp b5 0), (9, vp b6 0), (12, vp b210 0), (13, vp b211 0), (20, vi 0), (153, vi 0)] ?_
                refine xRe ?_
                refine wpq_then ?_
                refine xDr 0 [3, 7, 11, 17] [26, 25] [some ⟨b211, 82, [vb t224.2.2.1, vb t224.2.2.2.1]⟩, some ⟨b210, 132, [vy t224.2.2.2.2.1, vy t224.2.2.2.2.2.1, vi t224.2.2.2.2.2.2.1, vs A224_7 t224.2.2.2.2.2.2.2.1 c224_7, vy t224.2.2.2.2.2.2.2.2.1, vy t224.2.2.2.2.2.2.2.2.2.1, vi t224.2.2.2.2.2.2.2.2.2.2.1, vs A224_11 t224.2.2.2.2.2.2.2.2.2.2.2 c224_11]⟩, some ⟨b5, 83, [vy t221.2.2.1, vy 0, vy 0, vi t221.2.2.2.1, vi 0, vi 0, vi 0, vy t221.2.2.2.2.1, vy 0, vy 0, vi t221.2.2.2.2.2.1, vi 0, vi 0, vi 0]⟩, some ⟨b4, 82, [vb t221.2.2.2.2.2.2.1, vb t221.2.2.2.2.2.2.2.1]⟩, some ⟨b3, 81, [vi t221.2.2.2.2.2.2.2.2.1, vi t221.2.2.2.2.2.2.2.2.2.1, vb t221.2.2.2.2.2.2.2.2.2.2.1, vs A221_11 t221.2.2.2.2.2.2.2.2.2.2.2.1 c221_11, vi t221.2.2.2.2.2.2.2.2.2.2.2.2.1, vi t221.2.2.2.2.2.2.2.2.2.2.2.2.2.1, vb t221.2.2.2.2.2.2.2.2.2.2.2.2.2.2.1, vs A221_15 t221.2.2.2.2.2.2.2.2.2.2.2.2.2.2.2 c221_15]⟩, some ⟨b2, 89, (cRound r_ Ar__one cr__one Ar__two cr__two)⟩, some ⟨b1, 87, [vp b_la 0, vp b_lb 0]⟩] 27 (fun RG => ?_) (fun _ _ _ _ _ h => h)
                refine xT 14 [0, 1, 2, 3, 4, 5, 6, 7, 8, 9, 10, 11, 12] [(3, 6), (7, 1), (11, 0)] [some 2, some 3, some 5, some 6, some 7, some 8, some 9] [(3, vp b1 0), (5, vp b2 0), (6, vp b3 0), (7, vp b4 0), (8, vp b5 0), (9, vp b6 0), (12, vp b210 0), (13, vp b211 0), (20, vi 0), (153, vi 0), (157, vi 0), (160, vp b_la 0), (164, Value.agg #[vy t224.2.2.2.2.2.2.2.2.1, vy t224.2.2.2.2.2.2.2.2.2.1, vi t224.2.2.2.2.2.2.2.2.2.2.1, vs A224_11 t224.2.2.2.2.2.2.2.2.2.2.2 c224_11]), (169, vb t224.2.2.2.1)] RG (Psi.le.refl _) ?_
                refine xGJlA hS 6 [true, true, true, true, true, true, true, true, true, true, true, true, true, true, true, true, true, true, true, true, true, false, false, false, false, false, false] (fun g own sl t230 => own = [some ⟨b_lb, 131, (cNode t224.1 A224_0_input c224_0_input A224_0_heard_input c224_0_heard_input A224_0_set__in_ c224_0_set__in_)⟩, some ⟨b_la, 131, (cNode t224.2.1 A224_1_input c224_1_input A224_1_heard_input c224_1_heard_input A224_1_set__in_ c224_1_set__in_)⟩, some ⟨b211, 82, [vb t224.2.2.1, vb t224.2.2.2.1]⟩, some ⟨b210, 132, [vy t224.2.2.2.2.1, vy t224.2.2.2.2.2.1, vi t224.2.2.2.2.2.2.1, vs A224_7 t224.2.2.2.2.2.2.2.1 c224_7, vy t224.2.2.2.2.2.2.2.2.1, vy t224.2.2.2.2.2.2.2.2.2.1, vi t224.2.2.2.2.2.2.2.2.2.2.1, vs A224_11 t224.2.2.2.2.2.2.2.2.2.2.2 c224_11]⟩, some ⟨b6, 84, [vy 0, vy 0]⟩, some ⟨b5, 83, [vy t221.2.2.1, vy 0, vy 0, vi t221.2.2.2.1, vi 0, vi 0, vi 0, vy t221.2.2.2.2.1, vy 0, vy 0, vi t221.2.2.2.2.2.1, vi 0, vi 0, vi 0]⟩, some ⟨b4, 82, [vb t221.2.2.2.2.2.2.1, vb t221.2.2.2.2.2.2.2.1]⟩, some ⟨b3, 81, [vi t221.2.2.2.2.2.2.2.2.1, vi t221.2.2.2.2.2.2.2.2.2.1, vb t221.2.2.2.2.2.2.2.2.2.2.1, vs A221_11 t221.2.2.2.2.2.2.2.2.2.2.2.1 c221_11, vi t221.2.2.2.2.2.2.2.2.2.2.2.2.1, vi t221.2.2.2.2.2.2.2.2.2.2.2.2.2.1, vb t221.2.2.2.2.2.2.2.2.2.2.2.2.2.2.1, vs A221_15 t221.2.2.2.2.2.2.2.2.2.2.2.2.2.2.2 c221_15]⟩, some ⟨b2, 89, (cRound r_ Ar__one cr__one Ar__two cr__two)⟩, some ⟨b1, 87, [vp b_la 0, vp b_lb 0]⟩] ∧ sl = [(3, vp b1 0), (5, vp b2 0), (6, vp b3 0), (7, vp b4 0), (8, vp b5 0), (9, vp b6 0), (12, vp b210 0), (13, vp b211 0), (153, vi 0), (157, vi 0), (160, vp b_la 0), (164, Value.agg #[vy t224.2.2.2.2.2.2.2.2.1, vy t224.2.2.2.2.2.2.2.2.2.1, vi t224.2.2.2.2.2.2.2.2.2.2.1, vs A224_11 t224.2.2.2.2.2.2.2.2.2.2.2 c224_11]), (177, vb t230)]) ?_ ?_
                · rintro g231 _ _ t230 e232 ⟨rfl, rfl⟩ hS
                  refine xSel [some 1, some 0, some 2, some 3, some 4, some 5, some 6, some 7, some 8, some 9] ?_
                  have f224_1_input := f224_1_input.mono e232.b
                  have f224_1_heard_input := f224_1_heard_input.mono e232.b
                  have f224_1_set__in_ := f224_1_set__in_.mono e232.b
                  have f224_11 := f224_11.mono e232.b
                  obtain ⟨y233, hy233, hS⟩ := bindO_T hS
                  refine xO1 (lds := [3, 7, 11, 17]) 21 ?_
                  refine xIe (lds := [3, 7, 11, 17]) e232.r (eC 1 (fun g' lr eb ln => c51 g' b_la t224.2.1 A224_1_input c224_1_input A224_1_heard_input c224_1_heard_input A224_1_set__in_ c224_1_set__in_ (⟨t224.2.2.2.2.2.2.2.2.1, t224.2.2.2.2.2.2.2.2.2.1, t224.2.2.2.2.2.2.2.2.2.2.1, t224.2.2.2.2.2.2.2.2.2.2.2⟩ : Frame) A224_11 c224_11 (t230) (by rw [eb]; exact f224_1_input) (by rw [eb]; exact f224_1_heard_input) (by rw [eb]; exact f224_1_set__in_) ((f224_11.mono g231.br).mono lr) hy233)) ?_
                  rintro _ g234 _ e235 ⟨_, rfl, A233_n_input, c233_n_input, A233_n_heard_input, c233_n_heard_input, A233_n_set__in_, c233_n_set__in_, rfl, rfl, f233_n_input, f233_n_heard_input, f233_n_set__in_⟩
                  refine kk [some 2, some 3, some 5, some 6, some 7, some 8, some 9] ?_
                  have nf233_n_input := f233_n_input.len
                  have nf233_n_heard_input := f233_n_heard_input.len
                  have nf233_n_set__in_ := f233_n_set__in_.len
                  refine xT 1 [22, 23, 24, 25] [] [some 2, some 3, some 5, some 6, some 7, some 8, some 9] [(3, vp b1 0), (5, vp b2 0), (6, vp b3 0), (7, vp b4 0), (8, vp b5 0), (9, vp b6 0), (12, vp b210 0), (13, vp b211 0), (153, vi 0), (179, vy y233.2.1), (181, vp b6 0)] RG (e232.trans e235).r ?_
                  refine xO1 (lds := [3, 7, 11, 17]) 26 ?_
                  refine xId (lds := [3, 7, 11, 17]) (e232.trans e235).r (eStL b6 0 4) ?_
                  rintro _ _ _ - ⟨rfl, rfl⟩
                  refine kf ?_
                  refine xAe (lds := [3, 7, 11, 17]) ?_
                  refine wpq_blockN ?_
                  refine wpq_then ?_
                  refine xSub [(3, vp b1 0), (5, vp b2 0), (6, vp b3 0), (7, vp b4 0), (8, vp b5 0), (9, vp b6 0), (12, vp b210 0), (13, vp b211 0), (153, vi 0)] ?_
                  refine xRg ?_
                  refine xB 2 [] [(3, vp b1 0), (5, vp b2 0), (6, vp b3 0), (7, vp b4 0), (8, vp b5 0), (9, vp b6 0), (12, vp b210 0), (13, vp b211 0), (153, vi 1)] ?_
                  refine xRe ?_
                  refine wpq_thenN ?_
                  refine xSub [(3, vp b1 0), (5, vp b2 0), (6, vp b3 0), (7, vp b4 0), (8, vp b5 0), (9, vp b6 0), (12, vp b210 0), (13, vp b211 0), (153, vi 1)] ?_
                  refine xRd ?_
                  refine xSq ?_
                  refine xRg ?_
                  refine xB 1 [] [(3, vp b1 0), (5, vp b2 0), (6, vp b3 0), (7, vp b4 0), (8, vp b5 0), (9, vp b6 0), (12, vp b210 0), (13, vp b211 0), (153, vi 1), (154, vb true)] ?_
                  refine xRe ?_
                  refine wpq_then ?_
                  refine xSq ?_
                  refine xCt ?_
                  refine xSk ?_
                  refine wpq_then ?_
                  refine xSub [(3, vp b1 0), (5, vp b2 0), (6, vp b3 0), (7, vp b4 0), (8, vp b5 0), (9, vp b6 0), (12, vp b210 0), (13, vp b211 0), (153, vi 1)] ?_
                  refine xSq ?_
                  refine xBl 11 ?_
                  refine xSq ?_
                  refine xRg ?_
                  refine xB 2 [] [(3, vp b1 0), (5, vp b2 0), (6, vp b3 0), (7, vp b4 0), (8, vp b5 0), (9, vp b6 0), (12, vp b210 0), (13, vp b211 0), (20, vi 1), (153, vi 1)] ?_
                  refine xRe ?_
                  refine wpq_then ?_
                  refine xDr 0 [3, 7, 11, 17] [26, 25] [some ⟨b211, 82, [vb t224.2.2.1, vb t224.2.2.2.1]⟩, some ⟨b210, 132, [vy t224.2.2.2.2.1, vy t224.2.2.2.2.2.1, vi t224.2.2.2.2.2.2.1, vs A224_7 t224.2.2.2.2.2.2.2.1 c224_7, vy t224.2.2.2.2.2.2.2.2.1, vy t224.2.2.2.2.2.2.2.2.2.1, vi t224.2.2.2.2.2.2.2.2.2.2.1, vs A224_11 t224.2.2.2.2.2.2.2.2.2.2.2 c224_11]⟩, some ⟨b5, 83, [vy t221.2.2.1, vy 0, vy 0, vi t221.2.2.2.1, vi 0, vi 0, vi 0, vy t221.2.2.2.2.1, vy 0, vy 0, vi t221.2.2.2.2.2.1, vi 0, vi 0, vi 0]⟩, some ⟨b4, 82, [vb t221.2.2.2.2.2.2.1, vb t221.2.2.2.2.2.2.2.1]⟩, some ⟨b3, 81, [vi t221.2.2.2.2.2.2.2.2.1, vi t221.2.2.2.2.2.2.2.2.2.1, vb t221.2.2.2.2.2.2.2.2.2.2.1, vs A221_11 t221.2.2.2.2.2.2.2.2.2.2.2.1 c221_11, vi t221.2.2.2.2.2.2.2.2.2.2.2.2.1, vi t221.2.2.2.2.2.2.2.2.2.2.2.2.2.1, vb t221.2.2.2.2.2.2.2.2.2.2.2.2.2.2.1, vs A221_15 t221.2.2.2.2.2.2.2.2.2.2.2.2.2.2.2 c221_15]⟩, some ⟨b2, 89, (cRound r_ Ar__one cr__one Ar__two cr__two)⟩, some ⟨b1, 87, [vp b_la 0, vp b_lb 0]⟩] 27 (fun RG => ?_) (fun _ _ _ _ _ h => h)
                  refine xT 14 [0, 1, 2, 3, 4, 5, 6, 7, 8, 9, 10, 11, 12] [(3, 6), (7, 1), (11, 0)] [some 2, some 3, some 5, some 6, some 7, some 8, some 9] [(3, vp b1 0), (5, vp b2 0), (6, vp b3 0), (7, vp b4 0), (8, vp b5 0), (9, vp b6 0), (12, vp b210 0), (13, vp b211 0), (20, vi 1), (153, vi 1), (157, vi 1), (160, vp b_lb 0), (164, Value.agg #[vy t224.2.2.2.2.1, vy t224.2.2.2.2.2.1, vi t224.2.2.2.2.2.2.1, vs A224_7 t224.2.2.2.2.2.2.2.1 c224_7]), (169, vb t224.2.2.1)] RG (Psi.le.refl _) ?_
                  refine xGJlA hS 6 [true, true, true, true, true, true, true, true, true, true, true, true, true, true, true, true, true, true, true, true, true, false, false, false, false, false, false] (fun g own sl t236 => own = [some ⟨b_la, 131, (cNode y233.1 A233_n_input c233_n_input A233_n_heard_input c233_n_heard_input A233_n_set__in_ c233_n_set__in_)⟩, some ⟨b_lb, 131, (cNode t224.1 A224_0_input c224_0_input A224_0_heard_input c224_0_heard_input A224_0_set__in_ c224_0_set__in_)⟩, some ⟨b211, 82, [vb t224.2.2.1, vb t224.2.2.2.1]⟩, some ⟨b210, 132, [vy t224.2.2.2.2.1, vy t224.2.2.2.2.2.1, vi t224.2.2.2.2.2.2.1, vs A224_7 t224.2.2.2.2.2.2.2.1 c224_7, vy t224.2.2.2.2.2.2.2.2.1, vy t224.2.2.2.2.2.2.2.2.2.1, vi t224.2.2.2.2.2.2.2.2.2.2.1, vs A224_11 t224.2.2.2.2.2.2.2.2.2.2.2 c224_11]⟩, some ⟨b6, 84, [vy y233.2.1, vy 0]⟩, some ⟨b5, 83, [vy t221.2.2.1, vy 0, vy 0, vi t221.2.2.2.1, vi 0, vi 0, vi 0, vy t221.2.2.2.2.1, vy 0, vy 0, vi t221.2.2.2.2.2.1, vi 0, vi 0, vi 0]⟩, some ⟨b4, 82, [vb t221.2.2.2.2.2.2.1, vb t221.2.2.2.2.2.2.2.1]⟩, some ⟨b3, 81, [vi t221.2.2.2.2.2.2.2.2.1, vi t221.2.2.2.2.2.2.2.2.2.1, vb t221.2.2.2.2.2.2.2.2.2.2.1, vs A221_11 t221.2.2.2.2.2.2.2.2.2.2.2.1 c221_11, vi t221.2.2.2.2.2.2.2.2.2.2.2.2.1, vi t221.2.2.2.2.2.2.2.2.2.2.2.2.2.1, vb t221.2.2.2.2.2.2.2.2.2.2.2.2.2.2.1, vs A221_15 t221.2.2.2.2.2.2.2.2.2.2.2.2.2.2.2 c221_15]⟩, some ⟨b2, 89, (cRound r_ Ar__one cr__one Ar__two cr__two)⟩, some ⟨b1, 87, [vp b_la 0, vp b_lb 0]⟩] ∧ sl = [(3, vp b1 0), (5, vp b2 0), (6, vp b3 0), (7, vp b4 0), (8, vp b5 0), (9, vp b6 0), (12, vp b210 0), (13, vp b211 0), (153, vi 1), (157, vi 1), (160, vp b_lb 0), (164, Value.agg #[vy t224.2.2.2.2.1, vy t224.2.2.2.2.2.1, vi t224.2.2.2.2.2.2.1, vs A224_7 t224.2.2.2.2.2.2.2.1 c224_7]), (177, vb t236)]) ?_ ?_
                  · rintro g237 _ _ t236 e238 ⟨rfl, rfl⟩ hS
                    refine xSel [some 1, some 0, some 2, some 3, some 4, some 5, some 6, some 7, some 8, some 9] ?_
                    have f224_0_input := f224_0_input.mono (e232.trans (e235.trans e238)).b
                    have f224_0_heard_input := f224_0_heard_input.mono (e232.trans (e235.trans e238)).b
                    have f224_0_set__in_ := f224_0_set__in_.mono (e232.trans (e235.trans e238)).b
                    have f224_7 := f224_7.mono (e232.trans (e235.trans e238)).b
                    obtain ⟨y239, hy239, hS⟩ := bindO_T hS
                    refine xO1 (lds := [3, 7, 11, 17]) 21 ?_
                    refine xIe (lds := [3, 7, 11, 17]) e238.r (eC 1 (fun g' lr eb ln => c51 g' b_lb t224.1 A224_0_input c224_0_input A224_0_heard_input c224_0_heard_input A224_0_set__in_ c224_0_set__in_ (⟨t224.2.2.2.2.1, t224.2.2.2.2.2.1, t224.2.2.2.2.2.2.1, t224.2.2.2.2.2.2.2.1⟩ : Frame) A224_7 c224_7 (t236) (by rw [eb]; exact f224_0_input) (by rw [eb]; exact f224_0_heard_input) (by rw [eb]; exact f224_0_set__in_) ((f224_7.mono g237.br).mono lr) hy239)) ?_
                    rintro _ g240 _ e241 ⟨_, rfl, A239_n_input, c239_n_input, A239_n_heard_input, c239_n_heard_input, A239_n_set__in_, c239_n_set__in_, rfl, rfl, f239_n_input, f239_n_heard_input, f239_n_set__in_⟩
                    refine kk [some 2, some 3, some 5, some 6, some 7, some 8, some 9] ?_
                    have nf239_n_input := f239_n_input.len
                    have nf239_n_heard_input := f239_n_heard_input.len
                    have nf239_n_set__in_ := f239_n_set__in_.len
                    refine xT 1 [22, 23, 24, 25] [] [some 2, some 3, some 5, some 6, some 7, some 8, some 9] [(3, vp b1 0), (5, vp b2 0), (6, vp b3 0), (7, vp b4 0), (8, vp b5 0), (9, vp b6 0), (12, vp b210 0), (13, vp b211 0), (153, vi 1), (179, vy y239.2.1), (181, vp b6 1)] RG (e238.trans e241).r ?_
                    refine xO1 (lds := [3, 7, 11, 17]) 26 ?_
                    refine xId (lds := [3, 7, 11, 17]) (e238.trans e241).r (eStL b6 1 4) ?_
                    rintro _ _ _ - ⟨rfl, rfl⟩
                    refine kf ?_
                    refine xAe (lds := [3, 7, 11, 17]) ?_
                    refine wpq_blockN ?_
                    refine wpq_then ?_
                    refine xSub [(3, vp b1 0), (5, vp b2 0), (6, vp b3 0), (7, vp b4 0), (8, vp b5 0), (9, vp b6 0), (12, vp b210 0), (13, vp b211 0), (153, vi 1)] ?_
                    refine xRg ?_
                    refine xB 2 [] [(3, vp b1 0), (5, vp b2 0), (6, vp b3 0), (7, vp b4 0), (8, vp b5 0), (9, vp b6 0), (12, vp b210 0), (13, vp b211 0), (153, vi 2)] ?_
                    refine xRe ?_
                    refine wpq_thenN ?_
                    refine xSub [(3, vp b1 0), (5, vp b2 0), (6, vp b3 0), (7, vp b4 0), (8, vp b5 0), (9, vp b6 0), (12, vp b210 0), (13, vp b211 0), (153, vi 2)] ?_
                    refine xRd ?_
                    refine xSq ?_
                    refine xRg ?_
                    refine xB 1 [] [(3, vp b1 0), (5, vp b2 0), (6, vp b3 0), (7, vp b4 0), (8, vp b5 0), (9, vp b6 0), (12, vp b210 0), (13, vp b211 0), (153, vi 2), (154, vb false)] ?_
                    refine xRe ?_
                    refine wpq_then ?_
                    refine xSq ?_
                    refine xCf ?_
                    refine xEx 10 ?_
                    refine wpq_thenX ?_
                    refine wpq_thenX ?_
                    refine wpq_blockE ?_
                    have f233_n_input := f233_n_input.mono (e238.trans e241).b
                    have f233_n_heard_input := f233_n_heard_input.mono (e238.trans e241).b
                    have f233_n_set__in_ := f233_n_set__in_.mono (e238.trans e241).b
                    refine xSel [some 0, some 1, some 4, some 5, some 6, some 7] ?_
                    refine xSub [(6, vp b3 0), (7, vp b4 0), (8, vp b5 0), (9, vp b6 0)] ?_
                    have eS := (Option.some.inj hS).symm
                    exact hN227 _ eS _ _ _ (e232.trans (e235.trans (e238.trans e241))) ⟨A239_n_input, c239_n_input, A239_n_heard_input, c239_n_heard_input, A239_n_set__in_, c239_n_set__in_, A233_n_input, c233_n_input, A233_n_heard_input, c233_n_heard_input, A233_n_set__in_, c233_n_set__in_, by kernel_rfl, by kernel_rfl, f239_n_input, f239_n_heard_input, f239_n_set__in_, f233_n_input, f233_n_heard_input, f233_n_set__in_⟩
                  · intro u236 hS hN236
                    refine wpq_split 169 (b := t224.2.2.1) (by kernel_rfl) (fun q242 => ?_) (fun q242 => ?_)
                    · have hS := cond_T q242 hS
                      refine xT 6 [13, 14, 15, 16, 17, 18, 19, 20] [(17, 5)] [some 2, some 3, some 5, some 6, some 7, some 8, some 9] [(3, vp b1 0), (5, vp b2 0), (6, vp b3 0), (7, vp b4 0), (8, vp b5 0), (9, vp b6 0), (12, vp b210 0), (13, vp b211 0), (153, vi 1), (157, vi 1), (160, vp b_lb 0), (164, Value.agg #[vy t224.2.2.2.2.1, vy t224.2.2.2.2.2.1, vi t224.2.2.2.2.2.2.1, vs A224_7 t224.2.2.2.2.2.2.2.1 c224_7]), (177, vb ((landK .u8 r_.lost.a0 4) == 0))] RG (Psi.le.refl _) ?_
                      refine xSub [(3, vp b1 0), (5, vp b2 0), (6, vp b3 0), (7, vp b4 0), (8, vp b5 0), (9, vp b6 0), (12, vp b210 0), (13, vp b211 0), (153, vi 1), (157, vi 1), (160, vp b_lb 0), (164, Value.agg #[vy t224.2.2.2.2.1, vy t224.2.2.2.2.2.1, vi t224.2.2.2.2.2.2.1, vs A224_7 t224.2.2.2.2.2.2.2.1 c224_7]), (177, vb ((landK .u8 r_.lost.a0 4) == 0))] ?_
                      exact hN236 _ hS.symm _ _ _ (Gh.le.refl _) ⟨by kernel_rfl, by kernel_rfl⟩
                    · have hS := cond_F q242 hS
                      refine xT 6 [13, 14, 15, 16, 17, 18, 19, 20] [] [some 2, some 3, some 5, some 6, some 7, some 8, some 9] [(3, vp b1 0), (5, vp b2 0), (6, vp b3 0), (7, vp b4 0), (8, vp b5 0), (9, vp b6 0), (12, vp b210 0), (13, vp b211 0), (153, vi 1), (157, vi 1), (160, vp b_lb 0), (164, Value.agg #[vy t224.2.2.2.2.1, vy t224.2.2.2.2.2.1, vi t224.2.2.2.2.2.2.1, vs A224_7 t224.2.2.2.2.2.2.2.1 c224_7]), (177, vb false)] RG (Psi.le.refl _) ?_
                      refine xSub [(3, vp b1 0), (5, vp b2 0), (6, vp b3 0), (7, vp b4 0), (8, vp b5 0), (9, vp b6 0), (12, vp b210 0), (13, vp b211 0), (153, vi 1), (157, vi 1), (160, vp b_lb 0), (164, Value.agg #[vy t224.2.2.2.2.1, vy t224.2.2.2.2.2.1, vi t224.2.2.2.2.2.2.1, vs A224_7 t224.2.2.2.2.2.2.2.1 c224_7]), (177, vb false)] ?_
                      exact hN236 _ hS.symm _ _ _ (Gh.le.refl _) ⟨by kernel_rfl, by kernel_rfl⟩
                · intro u230 hS hN230
                  refine wpq_split 169 (b := t224.2.2.2.1) (by kernel_rfl) (fun q243 => ?_) (fun q243 => ?_)
                  · have hS := cond_T q243 hS
                    refine xT 6 [13, 14, 15, 16, 17, 18, 19, 20] [(17, 5)] [some 2, some 3, some 5, some 6, some 7, some 8, some 9] [(3, vp b1 0), (5, vp b2 0), (6, vp b3 0), (7, vp b4 0), (8, vp b5 0), (9, vp b6 0), (12, vp b210 0), (13, vp b211 0), (153, vi 0), (157, vi 0), (160, vp b_la 0), (164, Value.agg #[vy t224.2.2.2.2.2.2.2.2.1, vy t224.2.2.2.2.2.2.2.2.2.1, vi t224.2.2.2.2.2.2.2.2.2.2.1, vs A224_11 t224.2.2.2.2.2.2.2.2.2.2.2 c224_11]), (177, vb ((landK .u8 r_.lost.a1 4) == 0))] RG (Psi.le.refl _) ?_
                    refine xSub [(3, vp b1 0), (5, vp b2 0), (6, vp b3 0), (7, vp b4 0), (8, vp b5 0), (9, vp b6 0), (12, vp b210 0), (13, vp b211 0), (153, vi 0), (157, vi 0), (160, vp b_la 0), (164, Value.agg #[vy t224.2.2.2.2.2.2.2.2.1, vy t224.2.2.2.2.2.2.2.2.2.1, vi t224.2.2.2.2.2.2.2.2.2.2.1, vs A224_11 t224.2.2.2.2.2.2.2.2.2.2.2 c224_11]), (177, vb ((landK .u8 r_.lost.a1 4) == 0))] ?_
                    exact hN230 _ hS.symm _ _ _ (Gh.le.refl _) ⟨by kernel_rfl, by kernel_rfl⟩
                  · have hS := cond_F q243 hS
                    refine xT 6 [13, 14, 15, 16, 17, 18, 19, 20] [] [some 2, some 3, some 5, some 6, some 7, some 8, some 9] [(3, vp b1 0), (5, vp b2 0), (6, vp b3 0), (7, vp b4 0), (8, vp b5 0), (9, vp b6 0), (12, vp b210 0), (13, vp b211 0), (153, vi 0), (157, vi 0), (160, vp b_la 0), (164, Value.agg #[vy t224.2.2.2.2.2.2.2.2.1, vy t224.2.2.2.2.2.2.2.2.2.1, vi t224.2.2.2.2.2.2.2.2.2.2.1, vs A224_11 t224.2.2.2.2.2.2.2.2.2.2.2 c224_11]), (177, vb false)] RG (Psi.le.refl _) ?_
                    refine xSub [(3, vp b1 0), (5, vp b2 0), (6, vp b3 0), (7, vp b4 0), (8, vp b5 0), (9, vp b6 0), (12, vp b210 0), (13, vp b211 0), (153, vi 0), (157, vi 0), (160, vp b_la 0), (164, Value.agg #[vy t224.2.2.2.2.2.2.2.2.1, vy t224.2.2.2.2.2.2.2.2.2.1, vi t224.2.2.2.2.2.2.2.2.2.2.1, vs A224_11 t224.2.2.2.2.2.2.2.2.2.2.2 c224_11]), (177, vb false)] ?_
                    exact hN230 _ hS.symm _ _ _ (Gh.le.refl _) ⟨by kernel_rfl, by kernel_rfl⟩
            · intro u224 hS hN224
              refine xBl 8 ?_
              refine xSub [(3, vp b1 0), (5, vp b2 0), (6, vp b3 0), (7, vp b4 0), (8, vp b5 0), (9, vp b6 0), (12, vp b210 0), (13, vp b211 0), (134, vi 0)] ?_
              refine xUn 3 ?_
              refine xRd ?_
              refine xSq ?_
              refine xRg ?_
              refine xB 1 [] [(3, vp b1 0), (5, vp b2 0), (6, vp b3 0), (7, vp b4 0), (8, vp b5 0), (9, vp b6 0), (12, vp b210 0), (13, vp b211 0), (134, vi 0), (135, vb true)] ?_
              refine xRe ?_
              refine wpq_then ?_
              refine xSq ?_
              refine xCt ?_
              refine xSk ?_
              refine wpq_then ?_
              refine xSub [(3, vp b1 0), (5, vp b2 0), (6, vp b3 0), (7, vp b4 0), (8, vp b5 0), (9, vp b6 0), (12, vp b210 0), (13, vp b211 0), (134, vi 0)] ?_
              refine xSq ?_
              refine xBl 9 ?_
              refine xSq ?_
              refine xRg ?_
              refine xB 2 [] [(3, vp b1 0), (5, vp b2 0), (6, vp b3 0), (7, vp b4 0), (8, vp b5 0), (9, vp b6 0), (12, vp b210 0), (13, vp b211 0), (19, vi 0), (134, vi 0)] ?_
              refine xRe ?_
              refine wpq_then ?_
              refine xDr 0 [4, 7] [14, 16, 13, 15] [some ⟨b6, 84, [vy 0, vy 0]⟩, some ⟨b5, 83, [vy t221.2.2.1, vy 0, vy 0, vi t221.2.2.2.1, vi 0, vi 0, vi 0, vy t221.2.2.2.2.1, vy 0, vy 0, vi t221.2.2.2.2.2.1, vi 0, vi 0, vi 0]⟩, some ⟨b4, 82, [vb t221.2.2.2.2.2.2.1, vb t221.2.2.2.2.2.2.2.1]⟩, some ⟨b3, 81, [vi t221.2.2.2.2.2.2.2.2.1, vi t221.2.2.2.2.2.2.2.2.2.1, vb t221.2.2.2.2.2.2.2.2.2.2.1, vs A221_11 t221.2.2.2.2.2.2.2.2.2.2.2.1 c221_11, vi t221.2.2.2.2.2.2.2.2.2.2.2.2.1, vi t221.2.2.2.2.2.2.2.2.2.2.2.2.2.1, vb t221.2.2.2.2.2.2.2.2.2.2.2.2.2.2.1, vs A221_15 t221.2.2.2.2.2.2.2.2.2.2.2.2.2.2.2 c221_15]⟩, some ⟨b2, 89, (cRound r_ Ar__one cr__one Ar__two cr__two)⟩, some ⟨b1, 87, [vp b_la 0, vp b_lb 0]⟩] 17 (fun RG => ?_) (fun _ _ _ _ _ h => h)
              refine xT 9 [0, 1, 2, 3, 4, 5, 6, 7] [(4, 5), (7, 1)] [some 4, some 5, some 6, some 7, some 8, some 9] [(3, vp b1 0), (5, vp b2 0), (6, vp b3 0), (7, vp b4 0), (8, vp b5 0), (9, vp b6 0), (12, vp b210 0), (13, vp b211 0), (134, vi 0), (138, vi 0), (139, vi 0), (142, vp b_la 0), (145, Value.agg #[vy t221.2.2.1, vy 0, vy 0, vi t221.2.2.2.1, vi 0, vi 0, vi 0])] RG (Psi.le.refl _) ?_
              refine xSel [some 1, some 0, some 2, some 3, some 4, some 5, some 6, some 7, some 8, some 9] ?_
              obtain ⟨y244, hy244, hS⟩ := bindO_T hS
              refine xO1 (lds := [4, 7]) 8 ?_
              refine xIe (lds := [4, 7]) (Psi.le.refl _) (eC 1 (fun g' lr eb ln => c50 g' b_la t221.2.1 A221_1_input c221_1_input A221_1_heard_input c221_1_heard_input A221_1_set__in_ c221_1_set__in_ (⟨t221.2.2.1, 0, 0, t221.2.2.2.1, 0, 0, 0⟩ : Targets) (by rw [eb]; exact f221_1_input) (by rw [eb]; exact f221_1_heard_input) (by rw [eb]; exact f221_1_set__in_) hy244)) ?_
              rintro _ g245 _ e246 ⟨_, rfl, A244_n_input, c244_n_input, A244_n_heard_input, c244_n_heard_input, A244_n_set__in_, c244_n_set__in_, A244_0_payload, c244_0_payload, rfl, rfl, f244_n_input, f244_n_heard_input, f244_n_set__in_, f244_0_payload⟩
              refine kk [some 4, some 5, some 6, some 7, some 8, some 9] ?_
              have nf244_n_input := f244_n_input.len
              have nf244_n_heard_input := f244_n_heard_input.len
              have nf244_n_set__in_ := f244_n_set__in_.len
              have nf244_0_payload := f244_0_payload.len
              refine xT 3 [9, 10, 11, 12, 13] [] [some 4, some 5, some 6, some 7, some 8, some 9] [(3, vp b1 0), (5, vp b2 0), (6, vp b3 0), (7, vp b4 0), (8, vp b5 0), (9, vp b6 0), (12, vp b210 0), (13, vp b211 0), (134, vi 0), (139, vi 0), (147, Value.agg #[vy y244.2.1.label, vy y244.2.1.from_, vi y244.2.1.cycle, vs A244_0_payload y244.2.1.payload c244_0_payload]), (148, vb y244.2.2.1), (150, vp b210 0)] RG e246.r ?_
              refine xO1 (lds := [4, 7]) 14 ?_
              refine xId (lds := [4, 7]) e246.r (eStL b210 0 3) ?_
              rintro _ _ _ - ⟨rfl, rfl⟩
              refine kf ?_
              refine xT 1 [15] [] [some 4, some 5, some 6, some 7, some 8, some 9] [(3, vp b1 0), (5, vp b2 0), (6, vp b3 0), (7, vp b4 0), (8, vp b5 0), (9, vp b6 0), (12, vp b210 0), (13, vp b211 0), (134, vi 0), (148, vb y244.2.2.1), (151, vp b211 0)] RG e246.r ?_
              refine xO1 (lds := [4, 7]) 16 ?_
              refine xId (lds := [4, 7]) e246.r (eStL b211 0 2) ?_
              rintro _ _ _ - ⟨rfl, rfl⟩
              refine kf ?_
              refine xAe (lds := [4, 7]) ?_
              refine wpq_blockN ?_
              refine wpq_then ?_
              refine xSub [(3, vp b1 0), (5, vp b2 0), (6, vp b3 0), (7, vp b4 0), (8, vp b5 0), (9, vp b6 0), (12, vp b210 0), (13, vp b211 0), (134, vi 0)] ?_
              refine xRg ?_
              refine xB 2 [] [(3, vp b1 0), (5, vp b2 0), (6, vp b3 0), (7, vp b4 0), (8, vp b5 0), (9, vp b6 0), (12, vp b210 0), (13, vp b211 0), (134, vi 1)] ?_
              refine xRe ?_
              refine wpq_thenN ?_
              refine xSub [(3, vp b1 0), (5, vp b2 0), (6, vp b3 0), (7, vp b4 0), (8, vp b5 0), (9, vp b6 0), (12, vp b210 0), (13, vp b211 0), (134, vi 1)] ?_
              refine xRd ?_
              refine xSq ?_
              refine xRg ?_
              refine xB 1 [] [(3, vp b1 0), (5, vp b2 0), (6, vp b3 0), (7, vp b4 0), (8, vp b5 0), (9, vp b6 0), (12, vp b210 0), (13, vp b211 0), (134, vi 1), (135, vb true)] ?_
              refine xRe ?_
              refine wpq_then ?_
              refine xSq ?_
              refine xCt ?_
              refine xSk ?_
              refine wpq_then ?_
              refine xSub [(3, vp b1 0), (5, vp b2 0), (6, vp b3 0), (7, vp b4 0), (8, vp b5 0), (9, vp b6 0), (12, vp b210 0), (13, vp b211 0), (134, vi 1)] ?_
              refine xSq ?_
              refine xBl 9 ?_
              refine xSq ?_
              refine xRg ?_
              refine xB 2 [] [(3, vp b1 0), (5, vp b2 0), (6, vp b3 0), (7, vp b4 0), (8, vp b5 0), (9, vp b6 0), (12, vp b210 0), (13, vp b211 0), (19, vi 1), (134, vi 1)] ?_
              refine xRe ?_
              refine wpq_then ?_
              refine xDr 0 [4, 7] [14, 16, 13, 15] [some ⟨b6, 84, [vy 0, vy 0]⟩, some ⟨b5, 83, [vy t221.2.2.1, vy 0, vy 0, vi t221.2.2.2.1, vi 0, vi 0, vi 0, vy t221.2.2.2.2.1, vy 0, vy 0, vi t221.2.2.2.2.2.1, vi 0, vi 0, vi 0]⟩, some ⟨b4, 82, [vb t221.2.2.2.2.2.2.1, vb t221.2.2.2.2.2.2.2.1]⟩, some ⟨b3, 81, [vi t221.2.2.2.2.2.2.2.2.1, vi t221.2.2.2.2.2.2.2.2.2.1, vb t221.2.2.2.2.2.2.2.2.2.2.1, vs A221_11 t221.2.2.2.2.2.2.2.2.2.2.2.1 c221_11, vi t221.2.2.2.2.2.2.2.2.2.2.2.2.1, vi t221.2.2.2.2.2.2.2.2.2.2.2.2.2.1, vb t221.2.2.2.2.2.2.2.2.2.2.2.2.2.2.1, vs A221_15 t221.2.2.2.2.2.2.2.2.2.2.2.2.2.2.2 c221_15]⟩, some ⟨b2, 89, (cRound r_ Ar__one cr__one Ar__two cr__two)⟩, some ⟨b1, 87, [vp b_la 0, vp b_lb 0]⟩] 17 (fun RG => ?_) (fun _ _ _ _ _ h => h)
              refine xT 9 [0, 1, 2, 3, 4, 5, 6, 7] [(4, 5), (7, 1)] [some 4, some 5, some 6, some 7, some 8, some 9] [(3, vp b1 0), (5, vp b2 0), (6, vp b3 0), (7, vp b4 0), (8, vp b5 0), (9, vp b6 0), (12, vp b210 0), (13, vp b211 0), (134, vi 1), (138, vi 1), (139, vi 1), (142, vp b_lb 0), (145, Value.agg #[vy t221.2.2.2.2.1, vy 0, vy 0, vi t221.2.2.2.2.2.1, vi 0, vi 0, vi 0])] RG (Psi.le.refl _) ?_
              refine xSel [some 1, some 0, some 2, some 3, some 4, some 5, some 6, some 7, some 8, some 9] ?_
              have f221_0_input := f221_0_input.mono e246.b
              have f221_0_heard_input := f221_0_heard_input.mono e246.b
              have f221_0_set__in_ := f221_0_set__in_.mono e246.b
              obtain ⟨y247, hy247, hS⟩ := bindO_T hS
              refine xO1 (lds := [4, 7]) 8 ?_
              refine xIe (lds := [4, 7]) (Psi.le.refl _) (eC 1 (fun g' lr eb ln => c50 g' b_lb t221.1 A221_0_input c221_0_input A221_0_heard_input c221_0_heard_input A221_0_set__in_ c221_0_set__in_ (⟨t221.2.2.2.2.1, 0, 0, t221.2.2.2.2.2.1, 0, 0, 0⟩ : Targets) (by rw [eb]; exact f221_0_input) (by rw [eb]; exact f221_0_heard_input) (by rw [eb]; exact f221_0_set__in_) hy247)) ?_
              rintro _ g248 _ e249 ⟨_, rfl, A247_n_input, c247_n_input, A247_n_heard_input, c247_n_heard_input, A247_n_set__in_, c247_n_set__in_, A247_0_payload, c247_0_payload, rfl, rfl, f247_n_input, f247_n_heard_input, f247_n_set__in_, f247_0_payload⟩
              refine kk [some 4, some 5, some 6, some 7, some 8, some 9] ?_
              have nf247_n_input := f247_n_input.len
              have nf247_n_heard_input := f247_n_heard_input.len
              have nf247_n_set__in_ := f247_n_set__in_.len
              have nf247_0_payload := f247_0_payload.len
              refine xT 3 [9, 10, 11, 12, 13] [] [some 4, some 5, some 6, some 7, some 8, some 9] [(3, vp b1 0), (5, vp b2 0), (6, vp b3 0), (7, vp b4 0), (8, vp b5 0), (9, vp b6 0), (12, vp b210 0), (13, vp b211 0), (134, vi 1), (139, vi 1), (147, Value.agg #[vy y247.2.1.label, vy y247.2.1.from_, vi y247.2.1.cycle, vs A247_0_payload y247.2.1.payload c247_0_payload]), (148, vb y247.2.2.1), (150, vp b210 4)] RG e249.r ?_
              refine xO1 (lds := [4, 7]) 14 ?_
              refine xId (lds := [4, 7]) e249.r (eStL b210 4 3) ?_
              rintro _ _ _ - ⟨rfl, rfl⟩
              refine kf ?_
              refine xT 1 [15] [] [some 4, some 5, some 6, some 7, some 8, some 9] [(3, vp b1 0), (5, vp b2 0), (6, vp b3 0), (7, vp b4 0), (8, vp b5 0), (9, vp b6 0), (12, vp b210 0), (13, vp b211 0), (134, vi 1), (148, vb y247.2.2.1), (151, vp b211 1)] RG e249.r ?_
              refine xO1 (lds := [4, 7]) 16 ?_
              refine xId (lds := [4, 7]) e249.r (eStL b211 1 2) ?_
              rintro _ _ _ - ⟨rfl, rfl⟩
              refine kf ?_
              refine xAe (lds := [4, 7]) ?_
              refine wpq_blockN ?_
              refine wpq_then ?_
              refine xSub [(3, vp b1 0), (5, vp b2 0), (6, vp b3 0), (7, vp b4 0), (8, vp b5 0), (9, vp b6 0), (12, vp b210 0), (13, vp b211 0), (134, vi 1)] ?_
              refine xRg ?_
              refine xB 2 [] [(3, vp b1 0), (5, vp b2 0), (6, vp b3 0), (7, vp b4 0), (8, vp b5 0), (9, vp b6 0), (12, vp b210 0), (13, vp b211 0), (134, vi 2)] ?_
              refine xRe ?_
              refine wpq_thenN ?_
              refine xSub [(3, vp b1 0), (5, vp b2 0), (6, vp b3 0), (7, vp b4 0), (8, vp b5 0), (9, vp b6 0), (12, vp b210 0), (13, vp b211 0), (134, vi 2)] ?_
              refine xRd ?_
              refine xSq ?_
              refine xRg ?_
              refine xB 1 [] [(3, vp b1 0), (5, vp b2 0), (6, vp b3 0), (7, vp b4 0), (8, vp b5 0), (9, vp b6 0), (12, vp b210 0), (13, vp b211 0), (134, vi 2), (135, vb false)] ?_
              refine xRe ?_
              refine wpq_then ?_
              refine xSq ?_
              refine xCf ?_
              refine xEx 8 ?_
              refine wpq_thenX ?_
              refine wpq_thenX ?_
              refine wpq_blockE ?_
              have f244_n_input := f244_n_input.mono e249.b
              have f244_n_heard_input := f244_n_heard_input.mono e249.b
              have f244_n_set__in_ := f244_n_set__in_.mono e249.b
              have f244_0_payload := f244_0_payload.mono e249.b
              refine xSub [(3, vp b1 0), (5, vp b2 0), (6, vp b3 0), (7, vp b4 0), (8, vp b5 0), (9, vp b6 0), (12, vp b210 0), (13, vp b211 0)] ?_
              have eS := (Option.some.inj hS).symm
              exact hN224 _ eS _ _ _ (e246.trans e249) ⟨A247_n_input, c247_n_input, A247_n_heard_input, c247_n_heard_input, A247_n_set__in_, c247_n_set__in_, A244_n_input, c244_n_input, A244_n_heard_input, c244_n_heard_input, A244_n_set__in_, c244_n_set__in_, A244_0_payload, c244_0_payload, A247_0_payload, c247_0_payload, by kernel_rfl, by kernel_rfl, f247_n_input, f247_n_heard_input, f247_n_set__in_, f244_n_input, f244_n_heard_input, f244_n_set__in_, f244_0_payload, f247_0_payload⟩
          · intro u221 hS hN221
            refine xBl 6 ?_
            refine xSub [(3, vp b1 0), (5, vp b2 0), (6, vp b3 0), (7, vp b4 0), (8, vp b5 0), (9, vp b6 0), (12, vp b210 0), (13, vp b211 0), (83, vi 0)] ?_
            refine xUn 3 ?_
            refine xRd ?_
            refine xSq ?_
            refine xRg ?_
            refine xB 1 [] [(3, vp b1 0), (5, vp b2 0), (6, vp b3 0), (7, vp b4 0), (8, vp b5 0), (9, vp b6 0), (12, vp b210 0), (13, vp b211 0), (83, vi 0), (84, vb true)] ?_
            refine xRe ?_
            refine wpq_then ?_
            refine xSq ?_
            refine xCt ?_
            refine xSk ?_
            refine wpq_then ?_
            refine xSub [(3, vp b1 0), (5, vp b2 0), (6, vp b3 0), (7, vp b4 0), (8, vp b5 0), (9, vp b6 0), (12, vp b210 0), (13, vp b211 0), (83, vi 0)] ?_
            refine xSq ?_
            refine xBl 7 ?_
            refine xSq ?_
            refine xRg ?_
            refine xB 2 [] [(3, vp b1 0), (5, vp b2 0), (6, vp b3 0), (7, vp b4 0), (8, vp b5 0), (9, vp b6 0), (12, vp b210 0), (13, vp b211 0), (18, vi 0), (83, vi 0)] ?_
            refine xRe ?_
            refine wpq_then ?_
            refine xSq ?_
            refine xDr 0 [4, 8, 12, 18] [28, 30, 27, 29] [some ⟨b211, 82, [vb t218.2.2.1, vb t218.2.2.2.1]⟩, some ⟨b210, 132, [vy t218.2.2.2.2.1, vy t218.2.2.2.2.2.1, vi t218.2.2.2.2.2.2.1, vs A218_7 t218.2.2.2.2.2.2.2.1 c218_7, vy t218.2.2.2.2.2.2.2.2.1, vy t218.2.2.2.2.2.2.2.2.2.1, vi t218.2.2.2.2.2.2.2.2.2.2.1, vs A218_11 t218.2.2.2.2.2.2.2.2.2.2.2 c218_11]⟩, some ⟨b6, 84, [vy 0, vy 0]⟩, some ⟨b5, 83, [vy 0, vy 0, vy 0, vi 0, vi 0, vi 0, vi 0, vy 0, vy 0, vy 0, vi 0, vi 0, vi 0, vi 0]⟩, some ⟨b2, 89, (cRound r_ Ar__one cr__one Ar__two cr__two)⟩, some ⟨b1, 87, [vp b_la 0, vp b_lb 0]⟩] 31 (fun RG => ?_) (fun _ _ _ _ _ h => h)
            refine xT 17 [0, 1, 2, 3, 4, 5, 6, 7, 8, 9, 10, 11, 12, 13] [(4, 5), (8, 1), (12, 0)] [some 2, some 3, some 4, some 5, some 8, some 9] [(3, vp b1 0), (5, vp b2 0), (6, vp b3 0), (7, vp b4 0), (8, vp b5 0), (9, vp b6 0), (12, vp b210 0), (13, vp b211 0), (18, vi 0), (83, vi 0), (87, vi 0), (88, vi 0), (91, vp b_la 0), (95, Value.agg #[vy t218.2.2.2.2.2.2.2.2.1, vy t218.2.2.2.2.2.2.2.2.2.1, vi t218.2.2.2.2.2.2.2.2.2.2.1, vs A218_11 t218.2.2.2.2.2.2.2.2.2.2.2 c218_11]), (100, vb t218.2.2.2.1)] RG (Psi.le.refl _) ?_
            refine xGJlA hS 9 [true, true, true, true, true, true, true, true, true, true, true, true, true, true, true, true, true, true, true, true, true, true, false, false, false, false, false, false, false, false, false] (fun g own sl t250 => own = [some ⟨b_lb, 131, (cNode t218.1 A218_0_input c218_0_input A218_0_heard_input c218_0_heard_input A218_0_set__in_ c218_0_set__in_)⟩, some ⟨b_la, 131, (cNode t218.2.1 A218_1_input c218_1_input A218_1_heard_input c218_1_heard_input A218_1_set__in_ c218_1_set__in_)⟩, some ⟨b211, 82, [vb t218.2.2.1, vb t218.2.2.2.1]⟩, some ⟨b210, 132, [vy t218.2.2.2.2.1, vy t218.2.2.2.2.2.1, vi t218.2.2.2.2.2.2.1, vs A218_7 t218.2.2.2.2.2.2.2.1 c218_7, vy t218.2.2.2.2.2.2.2.2.1, vy t218.2.2.2.2.2.2.2.2.2.1, vi t218.2.2.2.2.2.2.2.2.2.2.1, vs A218_11 t218.2.2.2.2.2.2.2.2.2.2.2 c218_11]⟩, some ⟨b6, 84, [vy 0, vy 0]⟩, some ⟨b5, 83, [vy 0, vy 0, vy 0, vi 0, vi 0, vi 0, vi 0, vy 0, vy 0, vy 0, vi 0, vi 0, vi 0, vi 0]⟩, some ⟨b4, 82, [vb false, vb false]⟩, some ⟨b3, 81, [vi 0, vi 0, vb false, Value.slice none 0 0, vi 0, vi 0, vb false, Value.slice none 0 0]⟩, some ⟨b2, 89, (cRound r_ Ar__one cr__one Ar__two cr__two)⟩, some ⟨b1, 87, [vp b_la 0, vp b_lb 0]⟩] ∧ sl = [(3, vp b1 0), (5, vp b2 0), (6, vp b3 0), (7, vp b4 0), (8, vp b5 0), (9, vp b6 0), (12, vp b210 0), (13, vp b211 0), (18, vi 0), (83, vi 0), (87, vi 0), (88, vi 0), (91, vp b_la 0), (95, Value.agg #[vy t218.2.2.2.2.2.2.2.2.1, vy t218.2.2.2.2.2.2.2.2.2.1, vi t218.2.2.2.2.2.2.2.2.2.2.1, vs A218_11 t218.2.2.2.2.2.2.2.2.2.2.2 c218_11]), (108, vb t250)]) ?_ ?_
            · rintro g251 _ _ t250 e252 ⟨rfl, rfl⟩ hS
              refine xSel [some 1, some 0, some 2, some 3, some 4, some 5, some 6, some 7, some 8, some 9] ?_
              have f218_1_input := f218_1_input.mono e252.b
              have f218_1_heard_input := f218_1_heard_input.mono e252.b
              have f218_1_set__in_ := f218_1_set__in_.mono e252.b
              have f218_11 := f218_11.mono e252.b
              obtain ⟨y253, hy253, hS⟩ := bindO_T hS
              refine xO1 (lds := [4, 8, 12, 18]) 22 ?_
              refine xIe (lds := [4, 8, 12, 18]) e252.r (eC 1 (fun g' lr eb ln => c49 g' b_la t218.2.1 A218_1_input c218_1_input A218_1_heard_input c218_1_heard_input A218_1_set__in_ c218_1_set__in_ (⟨t218.2.2.2.2.2.2.2.2.1, t218.2.2.2.2.2.2.2.2.2.1, t218.2.2.2.2.2.2.2.2.2.2.1, t218.2.2.2.2.2.2.2.2.2.2.2⟩ : Frame) A218_11 c218_11 (t250) (by rw [eb]; exact f218_1_input) (by rw [eb]; exact f218_1_heard_input) (by rw [eb]; exact f218_1_set__in_) ((f218_11.mono g251.br).mono lr) hy253)) ?_
              rintro _ g254 _ e255 ⟨_, rfl, A253_n_input, c253_n_input, A253_n_heard_input, c253_n_heard_input, A253_n_set__in_, c253_n_set__in_, A253_0_in_, c253_0_in_, rfl, rfl, f253_n_input, f253_n_heard_input, f253_n_set__in_, f253_0_in_⟩
              refine kk [some 2, some 3, some 4, some 5, some 8, some 9] ?_
              have nf253_n_input := f253_n_input.len
              have nf253_n_heard_input := f253_n_heard_input.len
              have nf253_n_set__in_ := f253_n_set__in_.len
              have nf253_0_in_ := f253_0_in_.len
              refine xT 3 [23, 24, 25, 26, 27] [] [some 2, some 3, some 4, some 5, some 8, some 9] [(3, vp b1 0), (5, vp b2 0), (6, vp b3 0), (7, vp b4 0), (8, vp b5 0), (9, vp b6 0), (12, vp b210 0), (13, vp b211 0), (18, vi 0), (83, vi 0), (88, vi 0), (110, Value.agg #[vi y253.2.1.steps, vi y253.2.1.cycle, vb y253.2.1.fresh, vs A253_0_in_ y253.2.1.in_ c253_0_in_]), (111, vb y253.2.2.1), (113, vp b3 0)] RG (e252.trans e255).r ?_
              refine xO1 (lds := [4, 8, 12, 18]) 28 ?_
              refine xId (lds := [4, 8, 12, 18]) (e252.trans e255).r (eStL b3 0 7) ?_
              rintro _ _ _ - ⟨rfl, rfl⟩
              refine kf ?_
              refine xT 1 [29] [] [some 2, some 3, some 4, some 5, some 8, some 9] [(3, vp b1 0), (5, vp b2 0), (6, vp b3 0), (7, vp b4 0), (8, vp b5 0), (9, vp b6 0), (12, vp b210 0), (13, vp b211 0), (18, vi 0), (83, vi 0), (111, vb y253.2.2.1), (114, vp b4 0)] RG (e252.trans e255).r ?_
              refine xO1 (lds := [4, 8, 12, 18]) 30 ?_
              refine xId (lds := [4, 8, 12, 18]) (e252.trans e255).r (eStL b4 0 6) ?_
              rintro _ _ _ - ⟨rfl, rfl⟩
              refine kf ?_
              refine xAe (lds := [4, 8, 12, 18]) ?_
              refine wpq_then ?_
              refine xSub [(3, vp b1 0), (5, vp b2 0), (6, vp b3 0), (7, vp b4 0), (8, vp b5 0), (9, vp b6 0), (12, vp b210 0), (13, vp b211 0), (18, vi 0), (83, vi 0)] ?_
              refine xDr 0 [4, 8, 13] [18, 17] [some ⟨b_la, 131, (cNode y253.1 A253_n_input c253_n_input A253_n_heard_input c253_n_heard_input A253_n_set__in_ c253_n_set__in_)⟩, some ⟨b_lb, 131, (cNode t218.1 A218_0_input c218_0_input A218_0_heard_input c218_0_heard_input A218_0_set__in_ c218_0_set__in_)⟩, some ⟨b211, 82, [vb t218.2.2.1, vb t218.2.2.2.1]⟩, some ⟨b210, 132, [vy t218.2.2.2.2.1, vy t218.2.2.2.2.2.1, vi t218.2.2.2.2.2.2.1, vs A218_7 t218.2.2.2.2.2.2.2.1 c218_7, vy t218.2.2.2.2.2.2.2.2.1, vy t218.2.2.2.2.2.2.2.2.2.1, vi t218.2.2.2.2.2.2.2.2.2.2.1, vs A218_11 t218.2.2.2.2.2.2.2.2.2.2.2 c218_11]⟩, some ⟨b6, 84, [vy 0, vy 0]⟩, some ⟨b4, 82, [vb y253.2.2.1, vb false]⟩, some ⟨b3, 81, [vi y253.2.1.steps, vi y253.2.1.cycle, vb y253.2.1.fresh, vs A253_0_in_ y253.2.1.in_ c253_0_in_, vi 0, vi 0, vb false, Value.slice none 0 0]⟩, some ⟨b2, 89, (cRound r_ Ar__one cr__one Ar__two cr__two)⟩, some ⟨b1, 87, [vp b_la 0, vp b_lb 0]⟩] 19 (fun RG => ?_) (fun _ _ _ _ _ h => h)
              refine xT 1 [0, 1, 2, 3, 4, 5, 6, 7, 8, 9, 10, 11, 12, 13, 14, 15, 16, 17] [(4, 6), (8, 7), (13, 6)] [some 0, some 1, some 2, some 3, some 4, some 6, some 7, some 8, some 9] [(3, vp b1 0), (5, vp b2 0), (6, vp b3 0), (7, vp b4 0), (8, vp b5 0), (9, vp b6 0), (12, vp b210 0), (13, vp b211 0), (83, vi 0), (131, Value.agg #[vy (IntKind.u8.wrap (((y253.2.1.in_).length : Nat) : Int)), vy 0, vy 0, vi (IntKind.i64.wrap (y253.2.1.steps + r_.wrong.a0)), vi 0, vi 0, vi 0]), (132, vp b5 0)] RG (Psi.le.refl _) ?_
              refine xO1 (lds := [4, 8, 13]) 18 ?_
              refine xId (lds := [4, 8, 13]) (Psi.le.refl _) (eStL b5 0 5) ?_
              rintro _ _ _ - ⟨rfl, rfl⟩
              refine kf ?_
              refine xAe (lds := [4, 8, 13]) ?_
              refine wpq_blockN ?_
              refine wpq_then ?_
              refine xSub [(3, vp b1 0), (5, vp b2 0), (6, vp b3 0), (7, vp b4 0), (8, vp b5 0), (9, vp b6 0), (12, vp b210 0), (13, vp b211 0), (83, vi 0)] ?_
              refine xRg ?_
              refine xB 2 [] [(3, vp b1 0), (5, vp b2 0), (6, vp b3 0), (7, vp b4 0), (8, vp b5 0), (9, vp b6 0), (12, vp b210 0), (13, vp b211 0), (83, vi 1)] ?_
              refine xRe ?_
              refine wpq_thenN ?_
              refine xSub [(3, vp b1 0), (5, vp b2 0), (6, vp b3 0), (7, vp b4 0), (8, vp b5 0), (9, vp b6 0), (12, vp b210 0), (13, vp b211 0), (83, vi 1)] ?_
              refine xRd ?_
              refine xSq ?_
              refine xRg ?_
              refine xB 1 [] [(3, vp b1 0), (5, vp b2 0), (6, vp b3 0), (7, vp b4 0), (8, vp b5 0), (9, vp b6 0), (12, vp b210 0), (13, vp b211 0), (83, vi 1), (84, vb true)] ?_
              refine xRe ?_
              refine wpq_then ?_
              refine xSq ?_
              refine xCt ?_
              refine xSk ?_
              refine wpq_then ?_
              refine xSub [(3, vp b1 0), (5, vp b2 0), (6, vp b3 0), (7, vp b4 0), (8, vp b5 0), (9, vp b6 0), (12, vp b210 0), (13, vp b211 0), (83, vi 1)] ?_
              refine xSq ?_
              refine xBl 7 ?_
              refine xSq ?_
              refine xRg ?_
              refine xB 2 [] [(3, vp b1 0), (5, vp b2 0), (6, vp b3 0), (7, vp b4 0), (8, vp b5 0), (9, vp b6 0), (12, vp b210 0), (13, vp b211 0), (18, vi 1), (83, vi 1)] ?_
              refine xRe ?_
              refine wpq_then ?_
              refine xSq ?_
              refine xDr 0 [4, 8, 12, 18] [28, 30, 27, 29] [some ⟨b211, 82, [vb t218.2.2.1, vb t218.2.2.2.1]⟩, some ⟨b210, 132, [vy t218.2.2.2.2.1, vy t218.2.2.2.2.2.1, vi t218.2.2.2.2.2.2.1, vs A218_7 t218.2.2.2.2.2.2.2.1 c218_7, vy t218.2.2.2.2.2.2.2.2.1, vy t218.2.2.2.2.2.2.2.2.2.1, vi t218.2.2.2.2.2.2.2.2.2.2.1, vs A218_11 t218.2.2.2.2.2.2.2.2.2.2.2 c218_11]⟩, some ⟨b6, 84, [vy 0, vy 0]⟩, some ⟨b5, 83, [vy (IntKind.u8.wrap (((y253.2.1.in_).length : Nat) : Int)), vy 0, vy 0, vi (IntKind.i64.wrap (y253.2.1.steps + r_.wrong.a0)), vi 0, vi 0, vi 0, vy 0, vy 0, vy 0, vi 0, vi 0, vi 0, vi 0]⟩, some ⟨b2, 89, (cRound r_ Ar__one cr__one Ar__two cr__two)⟩, some ⟨b1, 87, [vp b_la 0, vp b_lb 0]⟩] 31 (fun RG => ?_) (fun _ _ _ _ _ h => h)
              refine xT 17 [0, 1, 2, 3, 4, 5, 6, 7, 8, 9, 10, 11, 12, 13] [(4, 5), (8, 1), (12, 0)] [some 2, some 3, some 4, some 5, some 8, some 9] [(3, vp b1 0), (5, vp b2 0), (6, vp b3 0), (7, vp b4 0), (8, vp b5 0), (9, vp b6 0), (12, vp b210 0), (13, vp b211 0), (18, vi 1), (83, vi 1), (87, vi 1), (88, vi 1), (91, vp b_lb 0), (95, Value.agg #[vy t218.2.2.2.2.1, vy t218.2.2.2.2.2.1, vi t218.2.2.2.2.2.2.1, vs A218_7 t218.2.2.2.2.2.2.2.1 c218_7]), (100, vb t218.2.2.1)] RG (Psi.le.refl _) ?_
              refine xGJlA hS 9 [true, true, true, true, true, true, true, true, true, true, true, true, true, true, true, true, true, true, true, true, true, true, false, false, false, false, false, false, false, false, false] (fun g own sl t256 => own = [some ⟨b_la, 131, (cNode y253.1 A253_n_input c253_n_input A253_n_heard_input c253_n_heard_input A253_n_set__in_ c253_n_set__in_)⟩, some ⟨b_lb, 131, (cNode t218.1 A218_0_input c218_0_input A218_0_heard_input c218_0_heard_input A218_0_set__in_ c218_0_set__in_)⟩, some ⟨b211, 82, [vb t218.2.2.1, vb t218.2.2.2.1]⟩, some ⟨b210, 132, [vy t218.2.2.2.2.1, vy t218.2.2.2.2.2.1, vi t218.2.2.2.2.2.2.1, vs A218_7 t218.2.2.2.2.2.2.2.1 c218_7, vy t218.2.2.2.2.2.2.2.2.1, vy t218.2.2.2.2.2.2.2.2.2.1, vi t218.2.2.2.2.2.2.2.2.2.2.1, vs A218_11 t218.2.2.2.2.2.2.2.2.2.2.2 c218_11]⟩, some ⟨b6, 84, [vy 0, vy 0]⟩, some ⟨b5, 83, [vy (IntKind.u8.wrap (((y253.2.1.in_).length : Nat) : Int)), vy 0, vy 0, vi (IntKind.i64.wrap (y253.2.1.steps + r_.wrong.a0)), vi 0, vi 0, vi 0, vy 0, vy 0, vy 0, vi 0, vi 0, vi 0, vi 0]⟩, some ⟨b4, 82, [vb y253.2.2.1, vb false]⟩, some ⟨b3, 81, [vi y253.2.1.steps, vi y253.2.1.cycle, vb y253.2.1.fresh, vs A253_0_in_ y253.2.1.in_ c253_0_in_, vi 0, vi 0, vb false, Value.slice none 0 0]⟩, some ⟨b2, 89, (cRound r_ Ar__one cr__one Ar__two cr__two)⟩, some ⟨b1, 87, [vp b_la 0, vp b_lb 0]⟩] ∧ sl = [(3, vp b1 0), (5, vp b2 0), (6, vp b3 0), (7, vp b4 0), (8, vp b5 0), (9, vp b6 0), (12, vp b210 0), (13, vp b211 0), (18, vi 1), (83, vi 1), (87, vi 1), (88, vi 1), (91, vp b_lb 0), (95, Value.agg #[vy t218.2.2.2.2.1, vy t218.2.2.2.2.2.1, vi t218.2.2.2.2.2.2.1, vs A218_7 t218.2.2.2.2.2.2.2.1 c218_7]), (108, vb t256)]) ?_ ?_
              · rintro g257 _ _ t256 e258 ⟨rfl, rfl⟩ hS
                refine xSel [some 1, some 0, some 2, some 3, some 4, some 5, some 6, some 7, some 8, some 9] ?_
                have f218_0_input := f218_0_input.mono (e252.trans (e255.trans e258)).b
                have f218_0_heard_input := f218_0_heard_input.mono (e252.trans (e255.trans e258)).b
                have f218_0_set__in_ := f218_0_set__in_.mono (e252.trans (e255.trans e258)).b
                have f218_7 := f218_7.mono (e252.trans (e255.trans e258)).b
                obtain ⟨y259, hy259, hS⟩ := bindO_T hS
                refine xO1 (lds := [4, 8, 12, 18]) 22 ?_
                refine xIe (lds := [4, 8, 12, 18]) e258.r (eC 1 (fun g' lr eb ln => c49 g' b_lb t218.1 A218_0_input c218_0_input A218_0_heard_input c218_0_heard_input A218_0_set__in_ c218_0_set__in_ (⟨t218.2.2.2.2.1, t218.2.2.2.2.2.1, t218.2.2.2.2.2.2.1, t218.2.2.2.2.2.2.2.1⟩ : Frame) A218_7 c218_7 (t256) (by rw [eb]; exact f218_0_input) (by rw [eb]; exact f218_0_heard_input) (by rw [eb]; exact f218_0_set__in_) ((f218_7.mono g257.br).mono lr) hy259)) ?_
                rintro _ g260 _ e261 ⟨_, rfl, A259_n_input, c259_n_input, A259_n_heard_input, c259_n_heard_input, A259_n_set__in_, c259_n_set__in_, A259_0_in_, c259_0_in_, rfl, rfl, f259_n_input, f259_n_heard_input, f259_n_set__in_, f259_0_in_⟩
                refine kk [some 2, some 3, some 4, some 5, some 8, some 9] ?_
                have nf259_n_input := f259_n_input.len
                have nf259_n_heard_input := f259_n_heard_input.len
                have nf259_n_set__in_ := f259_n_set__in_.len
                have nf259_0_in_ := f259_0_in_.len
                refine xT 3 [23, 24, 25, 26, 27] [] [some 2, some 3, some 4, some 5, some 8, some 9] [(3, vp b1 0), (5, vp b2 0), (6, vp b3 0), (7, vp b4 0), (8, vp b5 0), (9, vp b6 0), (12, vp b210 0), (13, vp b211 0), (18, vi 1), (83, vi 1), (88, vi 1), (110, Value.agg #[vi y259.2.1.steps, vi y259.2.1.cycle, vb y259.2.1.fresh, vs A259_0_in_ y259.2.1.in_ c259_0_in_]), (111, vb y259.2.2.1), (113, vp b3 4)] RG (e258.trans e261).r ?_
                refine xO1 (lds := [4, 8, 12, 18]) 28 ?_
                refine xId (lds := [4, 8, 12, 18]) (e258.trans e261).r (eStL b3 4 7) ?_
                rintro _ _ _ - ⟨rfl, rfl⟩
                refine kf ?_
                refine xT 1 [29] [] [some 2, some 3, some 4, some 5, some 8, some 9] [(3, vp b1 0), (5, vp b2 0), (6, vp b3 0), (7, vp b4 0), (8, vp b5 0), (9, vp b6 0), (12, vp b210 0), (13, vp b211 0), (18, vi 1), (83, vi 1), (111, vb y259.2.2.1), (114, vp b4 1)] RG (e258.trans e261).r ?_
                refine xO1 (lds := [4, 8, 12, 18]) 30 ?_
                refine xId (lds := [4, 8, 12, 18]) (e258.trans e261).r (eStL b4 1 6) ?_
                rintro _ _ _ - ⟨rfl, rfl⟩
                refine kf ?_
                refine xAe (lds := [4, 8, 12, 18]) ?_
                refine wpq_then ?_
                refine xSub [(3, vp b1 0), (5, vp b2 0), (6, vp b3 0), (7, vp b4 0), (8, vp b5 0), (9, vp b6 0), (12, vp b210 0), (13, vp b211 0), (18, vi 1), (83, vi 1)] ?_
                refine xDr 0 [4, 8, 13] [18, 17] [some ⟨b_lb, 131, (cNode y259.1 A259_n_input c259_n_input A259_n_heard_input c259_n_heard_input A259_n_set__in_ c259_n_set__in_)⟩, some ⟨b_la, 131, (cNode y253.1 A253_n_input c253_n_input A253_n_heard_input c253_n_heard_input A253_n_set__in_ c253_n_set__in_)⟩, some ⟨b211, 82, [vb t218.2.2.1, vb t218.2.2.2.1]⟩, some ⟨b210, 132, [vy t218.2.2.2.2.1, vy t218.2.2.2.2.2.1, vi t218.2.2.2.2.2.2.1, vs A218_7 t218.2.2.2.2.2.2.2.1 c218_7, vy t218.2.2.2.2.2.2.2.2.1, vy t218.2.2.2.2.2.2.2.2.2.1, vi t218.2.2.2.2.2.2.2.2.2.2.1, vs A218_11 t218.2.2.2.2.2.2.2.2.2.2.2 c218_11]⟩, some ⟨b6, 84, [vy 0, vy 0]⟩, some ⟨b4, 82, [vb y253.2.2.1, vb y259.2.2.1]⟩, some ⟨b3, 81, [vi y253.2.1.steps, vi y253.2.1.cycle, vb y253.2.1.fresh, vs A253_0_in_ y253.2.1.in_ c253_0_in_, vi y259.2.1.steps, vi y259.2.1.cycle, vb y259.2.1.fresh, vs A259_0_in_ y259.2.1.in_ c259_0_in_]⟩, some ⟨b2, 89, (cRound r_ Ar__one cr__one Ar__two cr__two)⟩, some ⟨b1, 87, [vp b_la 0, vp b_lb 0]⟩] 19 (fun RG => ?_) (fun _ _ _ _ _ h => h)
                refine xT 1 [0, 1, 2, 3, 4, 5, 6, 7, 8, 9, 10, 11, 12, 13, 14, 15, 16, 17] [(4, 6), (8, 7), (13, 6)] [some 0, some 1, some 2, some 3, some 4, some 6, some 7, some 8, some 9] [(3, vp b1 0), (5, vp b2 0), (6, vp b3 0), (7, vp b4 0), (8, vp b5 0), (9, vp b6 0), (12, vp b210 0), (13, vp b211 0), (83, vi 1), (131, Value.agg #[vy (IntKind.u8.wrap (((y259.2.1.in_).length : Nat) : Int)), vy 0, vy 0, vi (IntKind.i64.wrap (y259.2.1.steps + r_.wrong.a1)), vi 0, vi 0, vi 0]), (132, vp b5 7)] RG (Psi.le.refl _) ?_
                refine xO1 (lds := [4, 8, 13]) 18 ?_
                refine xId (lds := [4, 8, 13]) (Psi.le.refl _) (eStL b5 7 5) ?_
                rintro _ _ _ - ⟨rfl, rfl⟩
                refine kf ?_
                refine xAe (lds := [4, 8, 13]) ?_
                refine wpq_blockN ?_
                refine wpq_then ?_
                refine xSub [(3, vp b1 0), (5, vp b2 0), (6, vp b3 0), (7, vp b4 0), (8, vp b5 0), (9, vp b6 0), (12, vp b210 0), (13, vp b211 0), (83, vi 1)] ?_
                refine xRg ?_
                refine xB 2 [] [(3, vp b1 0), (5, vp b2 0), (6, vp b3 0), (7, vp b4 0), (8, vp b5 0), (9, vp b6 0), (12, vp b210 0), (13, vp b211 0), (83, vi 2)] ?_
                refine xRe ?_
                refine wpq_thenN ?_
                refine xSub [(3, vp b1 0), (5, vp b2 0), (6, vp b3 0), (7, vp b4 0), (8, vp b5 0), (9, vp b6 0), (12, vp b210 0), (13, vp b211 0), (83, vi 2)] ?_
                refine xRd ?_
                refine xSq ?_
                refine xRg ?_
                refine xB 1 [] [(3, vp b1 0), (5, vp b2 0), (6, vp b3 0), (7, vp b4 0), (8, vp b5 0), (9, vp b6 0), (12, vp b210 0), (13, vp b211 0), (83, vi 2), (84, vb false)] ?_
                refine xRe ?_
                refine wpq_then ?_
                refine xSq ?_
                refine xCf ?_
                refine xEx 6 ?_
                refine wpq_thenX ?_
                refine wpq_thenX ?_
                refine wpq_blockE ?_
                have f253_n_input := f253_n_input.mono (e258.trans e261).b
                have f253_n_heard_input := f253_n_heard_input.mono (e258.trans e261).b
                have f253_n_set__in_ := f253_n_set__in_.mono (e258.trans e261).b
                have f253_0_in_ := f253_0_in_.mono (e258.trans e261).b
                refine xSub [(3, vp b1 0), (5, vp b2 0), (6, vp b3 0), (7, vp b4 0), (8, vp b5 0), (9, vp b6 0), (12, vp b210 0), (13, vp b211 0)] ?_
                have eS := (Option.some.inj hS).symm
                exact hN221 _ eS _ _ _ (e252.trans (e255.trans (e258.trans e261))) ⟨A259_n_input, c259_n_input, A259_n_heard_input, c259_n_heard_input, A259_n_set__in_, c259_n_set__in_, A253_n_input, c253_n_input, A253_n_heard_input, c253_n_heard_input, A253_n_set__in_, c253_n_set__in_, A253_0_in_, c253_0_in_, A259_0_in_, c259_0_in_, by kernel_rfl, by kernel_rfl, f259_n_input, f259_n_heard_input, f259_n_set__in_, f253_n_input, f253_n_heard_input, f253_n_set__in_, f253_0_in_, f259_0_in_, okI, okI⟩
              · intro u256 hS hN256
                refine wpq_split 100 (b := t218.2.2.1) (by kernel_rfl) (fun q262 => ?_) (fun q262 => ?_)
                · have hS := cond_T q262 hS
                  refine xT 9 [14, 15, 16, 17, 18, 19, 20, 21] [(18, 4)] [some 2, some 3, some 4, some 5, some 8, some 9] [(3, vp b1 0), (5, vp b2 0), (6, vp b3 0), (7, vp b4 0), (8, vp b5 0), (9, vp b6 0), (12, vp b210 0), (13, vp b211 0), (18, vi 1), (83, vi 1), (87, vi 1), (88, vi 1), (91, vp b_lb 0), (95, Value.agg #[vy t218.2.2.2.2.1, vy t218.2.2.2.2.2.1, vi t218.2.2.2.2.2.2.1, vs A218_7 t218.2.2.2.2.2.2.2.1 c218_7]), (108, vb ((landK .u8 r_.lost.a0 2) == 0))] RG (Psi.le.refl _) ?_
                  refine xSub [(3, vp b1 0), (5, vp b2 0), (6, vp b3 0), (7, vp b4 0), (8, vp b5 0), (9, vp b6 0), (12, vp b210 0), (13, vp b211 0), (18, vi 1), (83, vi 1), (87, vi 1), (88, vi 1), (91, vp b_lb 0), (95, Value.agg #[vy t218.2.2.2.2.1, vy t218.2.2.2.2.2.1, vi t218.2.2.2.2.2.2.1, vs A218_7 t218.2.2.2.2.2.2.2.1 c218_7]), (108, vb ((landK .u8 r_.lost.a0 2) == 0))] ?_
                  exact hN256 _ hS.symm _ _ _ (Gh.le.refl _) ⟨by kernel_rfl, by kernel_rfl⟩
                · have hS := cond_F q262 hS
                  refine xT 9 [14, 15, 16, 17, 18, 19, 20, 21] [] [some 2, some 3, some 4, some 5, some 8, some 9] [(3, vp b1 0), (5, vp b2 0), (6, vp b3 0), (7, vp b4 0), (8, vp b5 0), (9, vp b6 0), (12, vp b210 0), (13, vp b211 0), (18, vi 1), (83, vi 1), (87, vi 1), (88, vi 1), (91, vp b_lb 0), (95, Value.agg #[vy t218.2.2.2.2.1, vy t218.2.2.2.2.2.1, vi t218.2.2.2.2.2.2.1, vs A218_7 t218.2.2.2.2.2.2.2.1 c218_7]), (108, vb false)] RG (Psi.le.refl _) ?_
                  refine xSub [(3, vp b1 0), (5, vp b2 0), (6, vp b3 0), (7, vp b4 0), (8, vp b5 0), (9, vp b6 0), (12, vp b210 0), (13, vp b211 0), (18, vi 1), (83, vi 1), (87, vi 1), (88, vi 1), (91, vp b_lb 0), (95, Value.agg #[vy t218.2.2.2.2.1, vy t218.2.2.2.2.2.1, vi t218.2.2.2.2.2.2.1, vs A218_7 t218.2.2.2.2.2.2.2.1 c218_7]), (108, vb false)] ?_
                  exact hN256 _ hS.symm _ _ _ (Gh.le.refl _) ⟨by kernel_rfl, by kernel_rfl⟩
            · intro u250 hS hN250
              refine wpq_split 100 (b := t218.2.2.2.1) (by kernel_rfl) (fun q263 => ?_) (fun q263 => ?_)
              · have hS := cond_T q263 hS
                refine xT 9 [14, 15, 16, 17, 18, 19, 20, 21] [(18, 4)] [some 2, some 3, some 4, some 5, some 8, some 9] [(3, vp b1 0), (5, vp b2 0), (6, vp b3 0), (7, vp b4 0), (8, vp b5 0), (9, vp b6 0), (12, vp b210 0), (13, vp b211 0), (18, vi 0), (83, vi 0), (87, vi 0), (88, vi 0), (91, vp b_la 0), (95, Value.agg #[vy t218.2.2.2.2.2.2.2.2.1, vy t218.2.2.2.2.2.2.2.2.2.1, vi t218.2.2.2.2.2.2.2.2.2.2.1, vs A218_11 t218.2.2.2.2.2.2.2.2.2.2.2 c218_11]), (108, vb ((landK .u8 r_.lost.a1 2) == 0))] RG (Psi.le.refl _) ?_
                refine xSub [(3, vp b1 0), (5, vp b2 0), (6, vp b3 0), (7, vp b4 0), (8, vp b5 0), (9, vp b6 0), (12, vp b210 0), (13, vp b211 0), (18, vi 0), (83, vi 0), (87, vi 0), (88, vi 0), (91, vp b_la 0), (95, Value.agg #[vy t218.2.2.2.2.2.2.2.2.1, vy t218.2.2.2.2.2.2.2.2.2.1, vi t218.2.2.2.2.2.2.2.2.2.2.1, vs A218_11 t218.2.2.2.2.2.2.2.2.2.2.2 c218_11]), (108, vb ((landK .u8 r_.lost.a1 2) == 0))] ?_
                exact hN250 _ hS.symm _ _ _ (Gh.le.refl _) ⟨by kernel_rfl, by kernel_rfl⟩
              · have hS := cond_F q263 hS
                refine xT 9 [14, 15, 16, 17, 18, 19, 20, 21] [] [some 2, some 3, some 4, some 5, some 8, some 9] [(3, vp b1 0), (5, vp b2 0), (6, vp b3 0), (7, vp b4 0), (8, vp b5 0), (9, vp b6 0), (12, vp b210 0), (13, vp b211 0), (18, vi 0), (83, vi 0), (87, vi 0), (88, vi 0), (91, vp b_la 0), (95, Value.agg #[vy t218.2.2.2.2.2.2.2.2.1, vy t218.2.2.2.2.2.2.2.2.2.1, vi t218.2.2.2.2.2.2.2.2.2.2.1, vs A218_11 t218.2.2.2.2.2.2.2.2.2.2.2 c218_11]), (108, vb false)] RG (Psi.le.refl _) ?_
                refine xSub [(3, vp b1 0), (5, vp b2 0), (6, vp b3 0), (7, vp b4 0), (8, vp b5 0), (9, vp b6 0), (12, vp b210 0), (13, vp b211 0), (18, vi 0), (83, vi 0), (87, vi 0), (88, vi 0), (91, vp b_la 0), (95, Value.agg #[vy t218.2.2.2.2.2.2.2.2.1, vy t218.2.2.2.2.2.2.2.2.2.1, vi t218.2.2.2.2.2.2.2.2.2.2.1, vs A218_11 t218.2.2.2.2.2.2.2.2.2.2.2 c218_11]), (108, vb false)] ?_
                exact hN250 _ hS.symm _ _ _ (Gh.le.refl _) ⟨by kernel_rfl, by kernel_rfl⟩
        · intro u218 hS hN218
          refine xBl 4 ?_
          refine xSub [(3, vp b1 0), (5, vp b2 0), (6, vp b3 0), (7, vp b4 0), (8, vp b5 0), (9, vp b6 0), (12, vp b210 0), (13, vp b211 0), (67, vi 0)] ?_
          refine xUn 3 ?_
          refine xRd ?_
          refine xSq ?_
          refine xRg ?_
          refine xB 1 [] [(3, vp b1 0), (5, vp b2 0), (6, vp b3 0), (7, vp b4 0), (8, vp b5 0), (9, vp b6 0), (12, vp b210 0), (13, vp b211 0), (67, vi 0), (68, vb true)] ?_
          refine xRe ?_
          refine wpq_then ?_
          refine xSq ?_
          refine xCt ?_
          refine xSk ?_
          refine wpq_then ?_
          refine xSub [(3, vp b1 0), (5, vp b2 0), (6, vp b3 0), (7, vp b4 0), (8, vp b5 0), (9, vp b6 0), (12, vp b210 0), (13, vp b211 0), (67, vi 0)] ?_
          refine xSq ?_
          refine xBl 5 ?_
          refine xSq ?_
          refine xRg ?_
          refine xB 2 [] [(3, vp b1 0), (5, vp b2 0), (6, vp b3 0), (7, vp b4 0), (8, vp b5 0), (9, vp b6 0), (12, vp b210 0), (13, vp b211 0), (17, vi 0), (67, vi 0)] ?_
          refine xRe ?_
          refine wpq_then ?_
          refine xRg ?_
          refine xB 5 [(4, 9)] [(3, vp b1 0), (5, vp b2 0), (6, vp b3 0), (7, vp b4 0), (8, vp b5 0), (9, vp b6 0), (12, vp b210 0), (13, vp b211 0), (67, vi 0), (71, vi 0), (72, vi 0), (75, vp b_la 0)] ?_
          refine xSel [some 1, some 0, some 2, some 3, some 4, some 5, some 6, some 7, some 8, some 9] ?_
          obtain ⟨y264, hy264, hS⟩ := bindO_T hS
          refine xE (eC 1 (fun g' lr eb ln => c48 g' b_la t215.2 A215_1_input c215_1_input A215_1_heard_input c215_1_heard_input A215_1_set__in_ c215_1_set__in_ (by rw [eb]; exact f215_1_input) (by rw [eb]; exact f215_1_heard_input) (by rw [eb]; exact f215_1_set__in_) hy264)) ?_
          rintro _ g265 _ e266 ⟨_, rfl, A264_n_input, c264_n_input, A264_n_heard_input, c264_n_heard_input, A264_n_set__in_, c264_n_set__in_, A264_0_payload, c264_0_payload, rfl, rfl, f264_n_input, f264_n_heard_input, f264_n_set__in_, f264_0_payload⟩
          have nf264_n_input := f264_n_input.len
          have nf264_n_heard_input := f264_n_heard_input.len
          have nf264_n_set__in_ := f264_n_set__in_.len
          have nf264_0_payload := f264_0_payload.len
          refine xBo 8 [(11, 3), (13, 2)] [some ⟨b_la, 131, (cNode y264.1 A264_n_input c264_n_input A264_n_heard_input c264_n_heard_input A264_n_set__in_ c264_n_set__in_)⟩, some ⟨b_lb, 131, (cNode t215.1 A215_0_input c215_0_input A215_0_heard_input c215_0_heard_input A215_0_set__in_ c215_0_set__in_)⟩, some ⟨b211, 82, [vb y264.2.2.1, vb false]⟩, some ⟨b210, 132, [vy y264.2.1.label, vy y264.2.1.from_, vi y264.2.1.cycle, vs A264_0_payload y264.2.1.payload c264_0_payload, vy t212.2.2.2.2.2.2.1, vy t212.2.2.2.2.2.2.2.1, vi t212.2.2.2.2.2.2.2.2.1, vs A212_9 t212.2.2.2.2.2.2.2.2.2 c212_9]⟩, some ⟨b6, 84, [vy 0, vy 0]⟩, some ⟨b5, 83, [vy 0, vy 0, vy 0, vi 0, vi 0, vi 0, vi 0, vy 0, vy 0, vy 0, vi 0, vi 0, vi 0, vi 0]⟩, some ⟨b4, 82, [vb false, vb false]⟩, some ⟨b3, 81, [vi 0, vi 0, vb false, Value.slice none 0 0, vi 0, vi 0, vb false, Value.slice none 0 0]⟩, some ⟨b2, 89, (cRound r_ Ar__one cr__one Ar__two cr__two)⟩, some ⟨b1, 87, [vp b_la 0, vp b_lb 0]⟩] [(3, vp b1 0), (5, vp b2 0), (6, vp b3 0), (7, vp b4 0), (8, vp b5 0), (9, vp b6 0), (12, vp b210 0), (13, vp b211 0), (67, vi 0)] ?_
          refine xRe ?_
          refine wpq_blockN ?_
          refine wpq_then ?_
          refine xRg ?_
          refine xB 2 [] [(3, vp b1 0), (5, vp b2 0), (6, vp b3 0), (7, vp b4 0), (8, vp b5 0), (9, vp b6 0), (12, vp b210 0), (13, vp b211 0), (67, vi 1)] ?_
          refine xRe ?_
          refine wpq_thenN ?_
          refine xSub [(3, vp b1 0), (5, vp b2 0), (6, vp b3 0), (7, vp b4 0), (8, vp b5 0), (9, vp b6 0), (12, vp b210 0), (13, vp b211 0), (67, vi 1)] ?_
          refine xRd ?_
          refine xSq ?_
          refine xRg ?_
          refine xB 1 [] [(3, vp b1 0), (5, vp b2 0), (6, vp b3 0), (7, vp b4 0), (8, vp b5 0), (9, vp b6 0), (12, vp b210 0), (13, vp b211 0), (67, vi 1), (68, vb true)] ?_
          refine xRe ?_
          refine wpq_then ?_
          refine xSq ?_
          refine xCt ?_
          refine xSk ?_
          refine wpq_then ?_
          refine xSub [(3, vp b1 0), (5, vp b2 0), (6, vp b3 0), (7, vp b4 0), (8, vp b5 0), (9, vp b6 0), (12, vp b210 0), (13, vp b211 0), (67, vi 1)] ?_
          refine xSq ?_
          refine xBl 5 ?_
          refine xSq ?_
          refine xRg ?_
          refine xB 2 [] [(3, vp b1 0), (5, vp b2 0), (6, vp b3 0), (7, vp b4 0), (8, vp b5 0), (9, vp b6 0), (12, vp b210 0), (13, vp b211 0), (17, vi 1), (67, vi 1)] ?_
          refine xRe ?_
          refine wpq_then ?_
          refine xRg ?_
          refine xB 5 [(4, 9)] [(3, vp b1 0), (5, vp b2 0), (6, vp b3 0), (7, vp b4 0), (8, vp b5 0), (9, vp b6 0), (12, vp b210 0), (13, vp b211 0), (67, vi 1), (71, vi 1), (72, vi 1), (75, vp b_lb 0)] ?_
          refine xSel [some 1, some 0, some 2, some 3, some 4, some 5, some 6, some 7, some 8, some 9] ?_
          have f215_0_input := f215_0_input.mono e266.b
          have f215_0_heard_input := f215_0_heard_input.mono e266.b
          have f215_0_set__in_ := f215_0_set__in_.mono e266.b
          obtain ⟨y267, hy267, hS⟩ := bindO_T hS
          refine xE (eC 1 (fun g' lr eb ln => c48 g' b_lb t215.1 A215_0_input c215_0_input A215_0_heard_input c215_0_heard_input A215_0_set__in_ c215_0_set__in_ (by rw [eb]; exact f215_0_input) (by rw [eb]; exact f215_0_heard_input) (by rw [eb]; exact f215_0_set__in_) hy267)) ?_
          rintro _ g268 _ e269 ⟨_, rfl, A267_n_input, c267_n_input, A267_n_heard_input, c267_n_heard_input, A267_n_set__in_, c267_n_set__in_, A267_0_payload, c267_0_payload, rfl, rfl, f267_n_input, f267_n_heard_input, f267_n_set__in_, f267_0_payload⟩
          have nf267_n_input := f267_n_input.len
          have nf267_n_heard_input := f267_n_heard_input.len
          have nf267_n_set__in_ := f267_n_set__in_.len
          have nf267_0_payload := f267_0_payload.len
          refine xBo 8 [(11, 3), (13, 2)] [some ⟨b_lb, 131, (cNode y267.1 A267_n_input c267_n_input A267_n_heard_input c267_n_heard_input A267_n_set__in_ c267_n_set__in_)⟩, some ⟨b_la, 131, (cNode y264.1 A264_n_input c264_n_input A264_n_heard_input c264_n_heard_input A264_n_set__in_ c264_n_set__in_)⟩, some ⟨b211, 82, [vb y264.2.2.1, vb y267.2.2.1]⟩, some ⟨b210, 132, [vy y264.2.1.label, vy y264.2.1.from_, vi y264.2.1.cycle, vs A264_0_payload y264.2.1.payload c264_0_payload, vy y267.2.1.label, vy y267.2.1.from_, vi y267.2.1.cycle, vs A267_0_payload y267.2.1.payload c267_0_payload]⟩, some ⟨b6, 84, [vy 0, vy 0]⟩, some ⟨b5, 83, [vy 0, vy 0, vy 0, vi 0, vi 0, vi 0, vi 0, vy 0, vy 0, vy 0, vi 0, vi 0, vi 0, vi 0]⟩, some ⟨b4, 82, [vb false, vb false]⟩, some ⟨b3, 81, [vi 0, vi 0, vb false, Value.slice none 0 0, vi 0, vi 0, vb false, Value.slice none 0 0]⟩, some ⟨b2, 89, (cRound r_ Ar__one cr__one Ar__two cr__two)⟩, some ⟨b1, 87, [vp b_la 0, vp b_lb 0]⟩] [(3, vp b1 0), (5, vp b2 0), (6, vp b3 0), (7, vp b4 0), (8, vp b5 0), (9, vp b6 0), (12, vp b210 0), (13, vp b211 0), (67, vi 1)] ?_
          refine xRe ?_
          refine wpq_blockN ?_
          refine wpq_then ?_
          refine xRg ?_
          refine xB 2 [] [(3, vp b1 0), (5, vp b2 0), (6, vp b3 0), (7, vp b4 0), (8, vp b5 0), (9, vp b6 0), (12, vp b210 0), (13, vp b211 0), (67, vi 2)] ?_
          refine xRe ?_
          refine wpq_thenN ?_
          refine xSub [(3, vp b1 0), (5, vp b2 0), (6, vp b3 0), (7, vp b4 0), (8, vp b5 0), (9, vp b6 0), (12, vp b210 0), (13, vp b211 0), (67, vi 2)] ?_
          refine xRd ?_
          refine xSq ?_
          refine xRg ?_
          refine xB 1 [] [(3, vp b1 0), (5, vp b2 0), (6, vp b3 0), (7, vp b4 0), (8, vp b5 0), (9, vp b6 0), (12, vp b210 0), (13, vp b211 0), (67, vi 2), (68, vb false)] ?_
          refine xRe ?_
          refine wpq_then ?_
          refine xSq ?_
          refine xCf ?_
          refine xEx 4 ?_
          refine wpq_thenX ?_
          refine wpq_thenX ?_
          refine wpq_blockE ?_
          have f264_n_input := f264_n_input.mono e269.b
          have f264_n_heard_input := f264_n_heard_input.mono e269.b
          have f264_n_set__in_ := f264_n_set__in_.mono e269.b
          have f264_0_payload := f264_0_payload.mono e269.b
          refine xSub [(3, vp b1 0), (5, vp b2 0), (6, vp b3 0), (7, vp b4 0), (8, vp b5 0), (9, vp b6 0), (12, vp b210 0), (13, vp b211 0)] ?_
          have eS := (Option.some.inj hS).symm
          exact hN218 _ eS _ _ _ (e266.trans e269) ⟨A267_n_input, c267_n_input, A267_n_heard_input, c267_n_heard_input, A267_n_set__in_, c267_n_set__in_, A264_n_input, c264_n_input, A264_n_heard_input, c264_n_heard_input, A264_n_set__in_, c264_n_set__in_, A264_0_payload, c264_0_payload, A267_0_payload, c267_0_payload, by kernel_rfl, by kernel_rfl, f267_n_input, f267_n_heard_input, f267_n_set__in_, f264_n_input, f264_n_heard_input, f264_n_set__in_, f264_0_payload, f267_0_payload⟩
      · intro u215 hS hN215
        refine xBl 2 ?_
        refine xSub [(3, vp b1 0), (5, vp b2 0), (6, vp b3 0), (7, vp b4 0), (8, vp b5 0), (9, vp b6 0), (12, vp b210 0), (13, vp b211 0), (48, vi 0)] ?_
        refine xUn 3 ?_
        refine xRd ?_
        refine xSq ?_
        refine xRg ?_
        refine xB 1 [] [(3, vp b1 0), (5, vp b2 0), (6, vp b3 0), (7, vp b4 0), (8, vp b5 0), (9, vp b6 0), (12, vp b210 0), (13, vp b211 0), (48, vi 0), (49, vb true)] ?_
        refine xRe ?_
        refine wpq_then ?_
        refine xSq ?_
        refine xCt ?_
        refine xSk ?_
        refine wpq_then ?_
        refine xSub [(3, vp b1 0), (5, vp b2 0), (6, vp b3 0), (7, vp b4 0), (8, vp b5 0), (9, vp b6 0), (12, vp b210 0), (13, vp b211 0), (48, vi 0)] ?_
        refine xSq ?_
        refine xBl 3 ?_
        refine xSq ?_
        refine xRg ?_
        refine xB 2 [] [(3, vp b1 0), (5, vp b2 0), (6, vp b3 0), (7, vp b4 0), (8, vp b5 0), (9, vp b6 0), (12, vp b210 0), (13, vp b211 0), (16, vi 0), (48, vi 0)] ?_
        refine xRe ?_
        refine wpq_then ?_
        refine xDr 0 [2, 6, 11] [] [some ⟨b211, 82, [vb false, vb false]⟩, some ⟨b210, 132, [vy t212.2.2.1, vy t212.2.2.2.1, vi t212.2.2.2.2.1, vs A212_5 t212.2.2.2.2.2.1 c212_5, vy t212.2.2.2.2.2.2.1, vy t212.2.2.2.2.2.2.2.1, vi t212.2.2.2.2.2.2.2.2.1, vs A212_9 t212.2.2.2.2.2.2.2.2.2 c212_9]⟩, some ⟨b6, 84, [vy 0, vy 0]⟩, some ⟨b5, 83, [vy 0, vy 0, vy 0, vi 0, vi 0, vi 0, vi 0, vy 0, vy 0, vy 0, vi 0, vi 0, vi 0, vi 0]⟩, some ⟨b4, 82, [vb false, vb false]⟩, some ⟨b3, 81, [vi 0, vi 0, vb false, Value.slice none 0 0, vi 0, vi 0, vb false, Value.slice none 0 0]⟩, some ⟨b2, 89, (cRound r_ Ar__one cr__one Ar__two cr__two)⟩, some ⟨b1, 87, [vp b_la 0, vp b_lb 0]⟩] 15 (fun RG => ?_) (fun _ _ _ _ _ h => h)
        refine xT 1 [0, 1, 2, 3, 4, 5, 6, 7, 8, 9, 10, 11, 12, 13] [(2, 7), (6, 1), (11, 6)] [some 2, some 3, some 4, some 5, some 6, some 7, some 8, some 9] [(3, vp b1 0), (5, vp b2 0), (6, vp b3 0), (7, vp b4 0), (8, vp b5 0), (9, vp b6 0), (12, vp b210 0), (13, vp b211 0), (48, vi 0), (53, vp b_la 0), (57, Value.agg #[vy t212.2.2.2.2.2.2.1, vy t212.2.2.2.2.2.2.2.1, vi t212.2.2.2.2.2.2.2.2.1, vs A212_9 t212.2.2.2.2.2.2.2.2.2 c212_9]), (64, vb ((landK .u8 r_.lost.a1 1) == 0))] RG (Psi.le.refl _) ?_
        refine xSel [some 1, some 0, some 2, some 3, some 4, some 5, some 6, some 7, some 8, some 9] ?_
        obtain ⟨y270, hy270, hS⟩ := bindO_T hS
        refine xO1 (lds := [2, 6, 11]) 14 ?_
        refine xIe (lds := [2, 6, 11]) (Psi.le.refl _) (eC 1 (fun g' lr eb ln => c47 g' b_la t212.2.1 A212_1_input c212_1_input A212_1_heard_input c212_1_heard_input A212_1_set__in_ c212_1_set__in_ (⟨t212.2.2.2.2.2.2.1, t212.2.2.2.2.2.2.2.1, t212.2.2.2.2.2.2.2.2.1, t212.2.2.2.2.2.2.2.2.2⟩ : Frame) A212_9 c212_9 (((landK .u8 r_.lost.a1 1) == 0)) (by rw [eb]; exact f212_1_input) (by rw [eb]; exact f212_1_heard_input) (by rw [eb]; exact f212_1_set__in_) ((f212_9.mono g213.br).mono lr) hy270)) ?_
        rintro _ g271 _ e272 ⟨_, rfl, A270_n_input, c270_n_input, A270_n_heard_input, c270_n_heard_input, A270_n_set__in_, c270_n_set__in_, A270_0_input, c270_0_input, rfl, rfl, f270_n_input, f270_n_heard_input, f270_n_set__in_, f270_0_input⟩
        refine kk [some 2, some 3, some 4, some 5, some 6, some 7, some 8, some 9] ?_
        have nf270_n_input := f270_n_input.len
        have nf270_n_heard_input := f270_n_heard_input.len
        have nf270_n_set__in_ := f270_n_set__in_.len
        have nf270_0_input := f270_0_input.len
        refine xAe (lds := [2, 6, 11]) ?_
        refine wpq_blockN ?_
        refine wpq_then ?_
        refine xSub [(3, vp b1 0), (5, vp b2 0), (6, vp b3 0), (7, vp b4 0), (8, vp b5 0), (9, vp b6 0), (12, vp b210 0), (13, vp b211 0), (48, vi 0)] ?_
        refine xRg ?_
        refine xB 2 [] [(3, vp b1 0), (5, vp b2 0), (6, vp b3 0), (7, vp b4 0), (8, vp b5 0), (9, vp b6 0), (12, vp b210 0), (13, vp b211 0), (48, vi 1)] ?_
        refine xRe ?_
        refine wpq_thenN ?_
        refine xSub [(3, vp b1 0), (5, vp b2 0), (6, vp b3 0), (7, vp b4 0), (8, vp b5 0), (9, vp b6 0), (12, vp b210 0), (13, vp b211 0), (48, vi 1)] ?_
        refine xRd ?_
        refine xSq ?_
        refine xRg ?_
        refine xB 1 [] [(3, vp b1 0), (5, vp b2 0), (6, vp b3 0), (7, vp b4 0), (8, vp b5 0), (9, vp b6 0), (12, vp b210 0), (13, vp b211 0), (48, vi 1), (49, vb true)] ?_
        refine xRe ?_
        refine wpq_then ?_
        refine xSq ?_
        refine xCt ?_
        refine xSk ?_
        refine wpq_then ?_
        refine xSub [(3, vp b1 0), (5, vp b2 0), (6, vp b3 0), (7, vp b4 0), (8, vp b5 0), (9, vp b6 0), (12, vp b210 0), (13, vp b211 0), (48, vi 1)] ?_
        refine xSq ?_
        refine xBl 3 ?_
        refine xSq ?_
        refine xRg ?_
        refine xB 2 [] [(3, vp b1 0), (5, vp b2 0), (6, vp b3 0), (7, vp b4 0), (8, vp b5 0), (9, vp b6 0), (12, vp b210 0), (13, vp b211 0), (16, vi 1), (48, vi 1)] ?_
        refine xRe ?_
        refine wpq_then ?_
        refine xDr 0 [2, 6, 11] [] [some ⟨b211, 82, [vb false, vb false]⟩, some ⟨b210, 132, [vy t212.2.2.1, vy t212.2.2.2.1, vi t212.2.2.2.2.1, vs A212_5 t212.2.2.2.2.2.1 c212_5, vy t212.2.2.2.2.2.2.1, vy t212.2.2.2.2.2.2.2.1, vi t212.2.2.2.2.2.2.2.2.1, vs A212_9 t212.2.2.2.2.2.2.2.2.2 c212_9]⟩, some ⟨b6, 84, [vy 0, vy 0]⟩, some ⟨b5, 83, [vy 0, vy 0, vy 0, vi 0, vi 0, vi 0, vi 0, vy 0, vy 0, vy 0, vi 0, vi 0, vi 0, vi 0]⟩, some ⟨b4, 82, [vb false, vb false]⟩, some ⟨b3, 81, [vi 0, vi 0, vb false, Value.slice none 0 0, vi 0, vi 0, vb false, Value.slice none 0 0]⟩, some ⟨b2, 89, (cRound r_ Ar__one cr__one Ar__two cr__two)⟩, some ⟨b1, 87, [vp b_la 0, vp b_lb 0]⟩] 15 (fun RG => ?_) (fun _ _ _ _ _ h => h)
        refine xT 1 [0, 1, 2, 3, 4, 5, 6, 7, 8, 9, 10, 11, 12, 13] [(2, 7), (6, 1), (11, 6)] [some 2, some 3, some 4, some 5, some 6, some 7, some 8, some 9] [(3, vp b1 0), (5, vp b2 0), (6, vp b3 0), (7, vp b4 0), (8, vp b5 0), (9, vp b6 0), (12, vp b210 0), (13, vp b211 0), (48, vi 1), (53, vp b_lb 0), (57, Value.agg #[vy t212.2.2.1, vy t212.2.2.2.1, vi t212.2.2.2.2.1, vs A212_5 t212.2.2.2.2.2.1 c212_5]), (64, vb ((landK .u8 r_.lost.a0 1) == 0))] RG (Psi.le.refl _) ?_
        refine xSel [some 1, some 0, some 2, some 3, some 4, some 5, some 6, some 7, some 8, some 9] ?_
        have f212_0_input := f212_0_input.mono e272.b
        have f212_0_heard_input := f212_0_heard_input.mono e272.b
        have f212_0_set__in_ := f212_0_set__in_.mono e272.b
        have f212_5 := f212_5.mono e272.b
        obtain ⟨y273, hy273, hS⟩ := bindO_T hS
        refine xO1 (lds := [2, 6, 11]) 14 ?_
        refine xIe (lds := [2, 6, 11]) (Psi.le.refl _) (eC 1 (fun g' lr eb ln => c47 g' b_lb t212.1 A212_0_input c212_0_input A212_0_heard_input c212_0_heard_input A212_0_set__in_ c212_0_set__in_ (⟨t212.2.2.1, t212.2.2.2.1, t212.2.2.2.2.1, t212.2.2.2.2.2.1⟩ : Frame) A212_5 c212_5 (((landK .u8 r_.lost.a0 1) == 0)) (by rw [eb]; exact f212_0_input) (by rw [eb]; exact f212_0_heard_input) (by rw [eb]; exact f212_0_set__in_) ((f212_5.mono g271.br).mono lr) hy273)) ?_
        rintro _ g274 _ e275 ⟨_, rfl, A273_n_input, c273_n_input, A273_n_heard_input, c273_n_heard_input, A273_n_set__in_, c273_n_set__in_, A273_0_input, c273_0_input, rfl, rfl, f273_n_input, f273_n_heard_input, f273_n_set__in_, f273_0_input⟩
        refine kk [some 2, some 3, some 4, some 5, some 6, some 7, some 8, some 9] ?_
        have nf273_n_input := f273_n_input.len
        have nf273_n_heard_input := f273_n_heard_input.len
        have nf273_n_set__in_ := f273_n_set__in_.len
        have nf273_0_input := f273_0_input.len
        refine xAe (lds := [2, 6, 11]) ?_
        refine wpq_blockN ?_
        refine wpq_then ?_
        refine xSub [(3, vp b1 0), (5, vp b2 0), (6, vp b3 0), (7, vp b4 0), (8, vp b5 0), (9, vp b6 0), (12, vp b210 0), (13, vp b211 0), (48, vi 1)] ?_
        refine xRg ?_
        refine xB 2 [] [(3, vp b1 0), (5, vp b2 0), (6, vp b3 0), (7, vp b4 0), (8, vp b5 0), (9, vp b6 0), (12, vp b210 0), (13, vp b211 0), (48, vi 2)] ?_
        refine xRe ?_
        refine wpq_thenN ?_
        refine xSub [(3, vp b1 0), (5, vp b2 0), (6, vp b3 0), (7, vp b4 0), (8, vp b5 0), (9, vp b6 0), (12, vp b210 0), (13, vp b211 0), (48, vi 2)] ?_
        refine xRd ?_
        refine xSq ?_
        refine xRg ?_
        refine xB 1 [] [(3, vp b1 0), (5, vp b2 0), (6, vp b3 0), (7, vp b4 0), (8, vp b5 0), (9, vp b6 0), (12, vp b210 0), (13, vp b211 0), (48, vi 2), (49, vb false)] ?_
        refine xRe ?_
        refine wpq_then ?_
        refine xSq ?_
        refine xCf ?_
        refine xEx 2 ?_
        refine wpq_thenX ?_
        refine wpq_thenX ?_
        refine wpq_blockE ?_
        have f270_n_input := f270_n_input.mono e275.b
        have f270_n_heard_input := f270_n_heard_input.mono e275.b
        have f270_n_set__in_ := f270_n_set__in_.mono e275.b
        refine xSub [(3, vp b1 0), (5, vp b2 0), (6, vp b3 0), (7, vp b4 0), (8, vp b5 0), (9, vp b6 0), (12, vp b210 0), (13, vp b211 0)] ?_
        have eS := (Option.some.inj hS).symm
        exact hN215 _ eS _ _ _ (e272.trans e275) ⟨A273_n_input, c273_n_input, A273_n_heard_input, c273_n_heard_input, A273_n_set__in_, c273_n_set__in_, A270_n_input, c270_n_input, A270_n_heard_input, c270_n_heard_input, A270_n_set__in_, c270_n_set__in_, by kernel_rfl, by kernel_rfl, f273_n_input, f273_n_heard_input, f273_n_set__in_, f270_n_input, f270_n_heard_input, f270_n_set__in_⟩
    · intro u212 hS hN212 hD212
      refine xBl 0 ?_
      refine xSub [(1, vi cycle), (3, vp b1 0), (5, vp b2 0), (6, vp b3 0), (7, vp b4 0), (8, vp b5 0), (9, vp b6 0), (10, vb false), (11, vp b14 0), (12, vp b210 0), (13, vp b211 0), (28, vi 0)] ?_
      refine xUn 3 ?_
      refine xRd ?_
      refine xSq ?_
      refine xRg ?_
      refine xB 1 [] [(1, vi cycle), (3, vp b1 0), (5, vp b2 0), (6, vp b3 0), (7, vp b4 0), (8, vp b5 0), (9, vp b6 0), (10, vb false), (11, vp b14 0), (12, vp b210 0), (13, vp b211 0), (28, vi 0), (29, vb true)] ?_
      refine xRe ?_
      refine wpq_then ?_
      refine xSq ?_
      refine xCt ?_
      refine xSk ?_
      refine wpq_then ?_
      refine xSub [(1, vi cycle), (3, vp b1 0), (5, vp b2 0), (6, vp b3 0), (7, vp b4 0), (8, vp b5 0), (9, vp b6 0), (10, vb false), (11, vp b14 0), (12, vp b210 0), (13, vp b211 0), (28, vi 0)] ?_
      refine xSq ?_
      refine xBl 1 ?_
      refine xSq ?_
      refine xRg ?_
      refine xB 2 [] [(1, vi cycle), (3, vp b1 0), (5, vp b2 0), (6, vp b3 0), (7, vp b4 0), (8, vp b5 0), (9, vp b6 0), (10, vb false), (11, vp b14 0), (12, vp b210 0), (13, vp b211 0), (14, vi 0), (28, vi 0)] ?_
      refine xRe ?_
      refine wpq_then ?_
      refine xSq ?_
      refine xRg ?_
      refine xB 1 [] [(1, vi cycle), (3, vp b1 0), (5, vp b2 0), (6, vp b3 0), (7, vp b4 0), (8, vp b5 0), (9, vp b6 0), (10, vb false), (11, vp b14 0), (12, vp b210 0), (13, vp b211 0), (14, vi 0), (28, vi 0)] ?_
      refine xRe ?_
      refine wpq_then ?_
      refine xSq ?_
      refine xDr 0 [3, 7] [14, 13, 15] [some ⟨b211, 82, [vb false, vb false]⟩, some ⟨b14, 122, [vs A8_0 y8 c8_0, vs A11_0 y11 c11_0]⟩, some ⟨b6, 84, [vy 0, vy 0]⟩, some ⟨b5, 83, [vy 0, vy 0, vy 0, vi 0, vi 0, vi 0, vi 0, vy 0, vy 0, vy 0, vi 0, vi 0, vi 0, vi 0]⟩, some ⟨b4, 82, [vb false, vb false]⟩, some ⟨b3, 81, [vi 0, vi 0, vb false, Value.slice none 0 0, vi 0, vi 0, vb false, Value.slice none 0 0]⟩, some ⟨b2, 89, (cRound r_ Ar__one cr__one Ar__two cr__two)⟩, some ⟨b1, 87, [vp b_la 0, vp b_lb 0]⟩] 16 (fun RG => ?_) (fun _ _ _ _ _ h => h)
      refine xT 7 [0, 1, 2, 3, 4, 5, 6, 7, 8] [(3, 7), (7, 1)] [some 0, some 2, some 3, some 4, some 5, some 6, some 7, some 8] [(1, vi cycle), (3, vp b1 0), (5, vp b2 0), (6, vp b3 0), (7, vp b4 0), (8, vp b5 0), (9, vp b6 0), (10, vb false), (11, vp b14 0), (12, vp b210 0), (13, vp b211 0), (28, vi 0), (32, vi 0), (35, vp b_la 0), (36, vi cycle), (39, vs A8_0 y8 c8_0), (40, Value.agg #[vi 0, vi 0])] RG (Psi.le.refl _) ?_
      refine xSel [some 9, some 0, some 1, some 2, some 3, some 4, some 5, some 6, some 7, some 8, some 10] ?_
      have fla_input := fla_input.mono e209.b
      have fla_heard_input := fla_heard_input.mono e209.b
      have fla_set__in_ := fla_set__in_.mono e209.b
      obtain ⟨y276, hy276, hS⟩ := bindO_T hS
      refine xO1 (lds := [3, 7]) 9 ?_
      refine xIe (lds := [3, 7]) (Psi.le.refl _) (eC 1 (fun g' lr eb ln => c46 g' b_la la Ala_input cla_input Ala_heard_input cla_heard_input Ala_set__in_ cla_set__in_ (cycle : Int) (y8 : List UInt8) A8_0 c8_0 (⟨0, 0⟩ : Want) (by rw [eb]; exact fla_input) (by rw [eb]; exact fla_heard_input) (by rw [eb]; exact fla_set__in_) ((f8_0.mono g208.br).mono lr) hy276)) ?_
      rintro _ g277 _ e278 ⟨_, rfl, A276_n_input, c276_n_input, A276_n_heard_input, c276_n_heard_input, A276_n_set__in_, c276_n_set__in_, A276_0_payload, c276_0_payload, rfl, rfl, f276_n_input, f276_n_heard_input, f276_n_set__in_, f276_0_payload⟩
      refine kk [some 1, some 3, some 4, some 5, some 6, some 7, some 8, some 9] ?_
      have nf276_n_input := f276_n_input.len
      have nf276_n_heard_input := f276_n_heard_input.len
      have nf276_n_set__in_ := f276_n_set__in_.len
      have nf276_0_payload := f276_0_payload.len
      refine xT 2 [10, 11, 12, 13] [] [some 1, some 3, some 4, some 5, some 6, some 7, some 8, some 9] [(1, vi cycle), (3, vp b1 0), (5, vp b2 0), (6, vp b3 0), (7, vp b4 0), (8, vp b5 0), (9, vp b6 0), (10, vb false), (11, vp b14 0), (12, vp b210 0), (13, vp b211 0), (28, vi 0), (42, Value.agg #[vy y276.2.1.label, vy y276.2.1.from_, vi y276.2.1.cycle, vs A276_0_payload y276.2.1.payload c276_0_payload]), (43, vi y276.2.2), (44, vp b210 0)] RG e278.r ?_
      refine xO1 (lds := [3, 7]) 14 ?_
      refine xId (lds := [3, 7]) e278.r (eStL b210 0 2) ?_
      rintro _ _ _ - ⟨rfl, rfl⟩
      refine kf ?_
      refine xT 0 [15] [] [some 1, some 3, some 4, some 5, some 6, some 7, some 8, some 9] [(1, vi cycle), (3, vp b1 0), (5, vp b2 0), (6, vp b3 0), (7, vp b4 0), (8, vp b5 0), (9, vp b6 0), (10, vb false), (11, vp b14 0), (12, vp b210 0), (13, vp b211 0), (15, vi y276.2.2), (28, vi 0)] RG e278.r ?_
      refine xAe (lds := [3, 7]) ?_
      refine wpq_then ?_
      refine xSq ?_
      refine xRg ?_
      refine xB 2 [] [(1, vi cycle), (3, vp b1 0), (5, vp b2 0), (6, vp b3 0), (7, vp b4 0), (8, vp b5 0), (9, vp b6 0), (10, vb false), (11, vp b14 0), (12, vp b210 0), (13, vp b211 0), (28, vi 0), (46, vb (y276.2.2 != 0))] ?_
      refine xRe ?_
      refine wpq_then ?_
      refine xCd ((y276.2.2 != 0)) (fun h279 => ?_) (fun h279 => ?_)
      · have hS := cond_T h279 hS
        have h279p : ¬ (y276.2.2 = 0) := ne_of_bne_ h279
        have flb_input := flb_input.mono (e209.trans e278).b
        have flb_heard_input := flb_heard_input.mono (e209.trans e278).b
        have flb_set__in_ := flb_set__in_.mono (e209.trans e278).b
        have eS := (Option.some.inj hS).symm
        have eS := (hD212 _ eS).symm
        subst eS
        exact xRetC [some 0, some 10] [(6, 7), (7, 6), (8, 5), (9, 4)] (e209.trans e278) ⟨A276_n_input, c276_n_input, A276_n_heard_input, c276_n_heard_input, A276_n_set__in_, c276_n_set__in_, Alb_input, clb_input, Alb_heard_input, clb_heard_input, Alb_set__in_, clb_set__in_, none, 0, none, 0, by kernel_rfl, by kernel_rfl, f276_n_input, f276_n_heard_input, f276_n_set__in_, flb_input, flb_heard_input, flb_set__in_, Arr.nil, Arr.nil⟩ (fun _ _ h => h)
      · have hS := cond_F h279 hS
        have h279p : y276.2.2 = 0 := eq_of_bne_false_ h279
        refine xSk ?_
        refine wpq_blockN ?_
        refine wpq_then ?_
        refine xSub [(1, vi cycle), (3, vp b1 0), (5, vp b2 0), (6, vp b3 0), (7, vp b4 0), (8, vp b5 0), (9, vp b6 0), (10, vb false), (11, vp b14 0), (12, vp b210 0), (13, vp b211 0), (28, vi 0)] ?_
        refine xRg ?_
        refine xB 2 [] [(1, vi cycle), (3, vp b1 0), (5, vp b2 0), (6, vp b3 0), (7, vp b4 0), (8, vp b5 0), (9, vp b6 0), (10, vb false), (11, vp b14 0), (12, vp b210 0), (13, vp b211 0), (28, vi 1)] ?_
        refine xRe ?_
        refine wpq_thenN ?_
        refine xSub [(1, vi cycle), (3, vp b1 0), (5, vp b2 0), (6, vp b3 0), (7, vp b4 0), (8, vp b5 0), (9, vp b6 0), (10, vb false), (11, vp b14 0), (12, vp b210 0), (13, vp b211 0), (28, vi 1)] ?_
        refine xRd ?_
        refine xSq ?_
        refine xRg ?_
        refine xB 1 [] [(1, vi cycle), (3, vp b1 0), (5, vp b2 0), (6, vp b3 0), (7, vp b4 0), (8, vp b5 0), (9, vp b6 0), (10, vb false), (11, vp b14 0), (12, vp b210 0), (13, vp b211 0), (28, vi 1), (29, vb true)] ?_
        refine xRe ?_
        refine wpq_then ?_
        refine xSq ?_
        refine xCt ?_
        refine xSk ?_
        refine wpq_then ?_
        refine xSub [(1, vi cycle), (3, vp b1 0), (5, vp b2 0), (6, vp b3 0), (7, vp b4 0), (8, vp b5 0), (9, vp b6 0), (10, vb false), (11, vp b14 0), (12, vp b210 0), (13, vp b211 0), (28, vi 1)] ?_
        refine xSq ?_
        refine xBl 1 ?_
        refine xSq ?_
        refine xRg ?_
        refine xB 2 [] [(1, vi cycle), (3, vp b1 0), (5, vp b2 0), (6, vp b3 0), (7, vp b4 0), (8, vp b5 0), (9, vp b6 0), (10, vb false), (11, vp b14 0), (12, vp b210 0), (13, vp b211 0), (14, vi 1), (28, vi 1)] ?_
        refine xRe ?_
        refine wpq_then ?_
        refine xSq ?_
        refine xRg ?_
        refine xB 1 [] [(1, vi cycle), (3, vp b1 0), (5, vp b2 0), (6, vp b3 0), (7, vp b4 0), (8, vp b5 0), (9, vp b6 0), (10, vb false), (11, vp b14 0), (12, vp b210 0), (13, vp b211 0), (14, vi 1), (28, vi 1)] ?_
        refine xRe ?_
        refine wpq_then ?_
        refine xSq ?_
        refine xDr 0 [3, 7] [14, 13, 15] [some ⟨b211, 82, [vb false, vb false]⟩, some ⟨b14, 122, [vs A8_0 y8 c8_0, vs A11_0 y11 c11_0]⟩, some ⟨b6, 84, [vy 0, vy 0]⟩, some ⟨b5, 83, [vy 0, vy 0, vy 0, vi 0, vi 0, vi 0, vi 0, vy 0, vy 0, vy 0, vi 0, vi 0, vi 0, vi 0]⟩, some ⟨b4, 82, [vb false, vb false]⟩, some ⟨b3, 81, [vi 0, vi 0, vb false, Value.slice none 0 0, vi 0, vi 0, vb false, Value.slice none 0 0]⟩, some ⟨b2, 89, (cRound r_ Ar__one cr__one Ar__two cr__two)⟩, some ⟨b1, 87, [vp b_la 0, vp b_lb 0]⟩] 16 (fun RG => ?_) (fun _ _ _ _ _ h => h)
        refine xT 7 [0, 1, 2, 3, 4, 5, 6, 7, 8] [(3, 7), (7, 1)] [some 1, some 3, some 4, some 5, some 6, some 7, some 8, some 9] [(1, vi cycle), (3, vp b1 0), (5, vp b2 0), (6, vp b3 0), (7, vp b4 0), (8, vp b5 0), (9, vp b6 0), (10, vb false), (11, vp b14 0), (12, vp b210 0), (13, vp b211 0), (28, vi 1), (32, vi 1), (35, vp b_lb 0), (36, vi cycle), (39, vs A11_0 y11 c11_0), (40, Value.agg #[vi 0, vi 0])] RG (Psi.le.refl _) ?_
        refine xSel [some 10, some 0, some 1, some 2, some 3, some 4, some 5, some 6, some 7, some 8, some 9] ?_
        have flb_input := flb_input.mono (e209.trans e278).b
        have flb_heard_input := flb_heard_input.mono (e209.trans e278).b
        have flb_set__in_ := flb_set__in_.mono (e209.trans e278).b
        have f11_0 := f11_0.mono e278.b
        obtain ⟨y280, hy280, hS⟩ := bindO_T hS
        refine xO1 (lds := [3, 7]) 9 ?_
        refine xIe (lds := [3, 7]) (Psi.le.refl _) (eC 1 (fun g' lr eb ln => c46 g' b_lb lb Alb_input clb_input Alb_heard_input clb_heard_input Alb_set__in_ clb_set__in_ (cycle : Int) (y11 : List UInt8) A11_0 c11_0 (⟨0, 0⟩ : Want) (by rw [eb]; exact flb_input) (by rw [eb]; exact flb_heard_input) (by rw [eb]; exact flb_set__in_) ((f11_0.mono g277.br).mono lr) hy280)) ?_
        rintro _ g281 _ e282 ⟨_, rfl, A280_n_input, c280_n_input, A280_n_heard_input, c280_n_heard_input, A280_n_set__in_, c280_n_set__in_, A280_0_payload, c280_0_payload, rfl, rfl, f280_n_input, f280_n_heard_input, f280_n_set__in_, f280_0_payload⟩
        refine kk [some 2, some 4, some 5, some 6, some 7, some 8, some 9, some 10] ?_
        have nf280_n_input := f280_n_input.len
        have nf280_n_heard_input := f280_n_heard_input.len
        have nf280_n_set__in_ := f280_n_set__in_.len
        have nf280_0_payload := f280_0_payload.len
        refine xT 2 [10, 11, 12, 13] [] [some 2, some 4, some 5, some 6, some 7, some 8, some 9, some 10] [(1, vi cycle), (3, vp b1 0), (5, vp b2 0), (6, vp b3 0), (7, vp b4 0), (8, vp b5 0), (9, vp b6 0), (10, vb false), (11, vp b14 0), (12, vp b210 0), (13, vp b211 0), (28, vi 1), (42, Value.agg #[vy y280.2.1.label, vy y280.2.1.from_, vi y280.2.1.cycle, vs A280_0_payload y280.2.1.payload c280_0_payload]), (43, vi y280.2.2), (44, vp b210 4)] RG e282.r ?_
        refine xO1 (lds := [3, 7]) 14 ?_
        refine xId (lds := [3, 7]) e282.r (eStL b210 4 3) ?_
        rintro _ _ _ - ⟨rfl, rfl⟩
        refine kf ?_
        refine xT 0 [15] [] [some 2, some 4, some 5, some 6, some 7, some 8, some 9, some 10] [(1, vi cycle), (3, vp b1 0), (5, vp b2 0), (6, vp b3 0), (7, vp b4 0), (8, vp b5 0), (9, vp b6 0), (10, vb false), (11, vp b14 0), (12, vp b210 0), (13, vp b211 0), (15, vi y280.2.2), (28, vi 1)] RG e282.r ?_
        refine xAe (lds := [3, 7]) ?_
        refine wpq_then ?_
        refine xSq ?_
        refine xRg ?_
        refine xB 2 [] [(1, vi cycle), (3, vp b1 0), (5, vp b2 0), (6, vp b3 0), (7, vp b4 0), (8, vp b5 0), (9, vp b6 0), (10, vb false), (11, vp b14 0), (12, vp b210 0), (13, vp b211 0), (28, vi 1), (46, vb (y280.2.2 != 0))] ?_
        refine xRe ?_
        refine wpq_then ?_
        refine xCd ((y280.2.2 != 0)) (fun h283 => ?_) (fun h283 => ?_)
        · have hS := cond_T h283 hS
          have h283p : ¬ (y280.2.2 = 0) := ne_of_bne_ h283
          have f276_n_input := f276_n_input.mono e282.b
          have f276_n_heard_input := f276_n_heard_input.mono e282.b
          have f276_n_set__in_ := f276_n_set__in_.mono e282.b
          have eS := (Option.some.inj hS).symm
          have eS := (hD212 _ eS).symm
          subst eS
          exact xRetC [some 1, some 0] [(6, 8), (7, 7), (8, 6), (9, 5)] (e209.trans (e278.trans e282)) ⟨A276_n_input, c276_n_input, A276_n_heard_input, c276_n_heard_input, A276_n_set__in_, c276_n_set__in_, A280_n_input, c280_n_input, A280_n_heard_input, c280_n_heard_input, A280_n_set__in_, c280_n_set__in_, none, 0, none, 0, by kernel_rfl, by kernel_rfl, f276_n_input, f276_n_heard_input, f276_n_set__in_, f280_n_input, f280_n_heard_input, f280_n_set__in_, Arr.nil, Arr.nil⟩ (fun _ _ h => h)
        · have hS := cond_F h283 hS
          have h283p : y280.2.2 = 0 := eq_of_bne_false_ h283
          refine xSk ?_
          refine wpq_blockN ?_
          refine wpq_then ?_
          refine xSub [(1, vi cycle), (3, vp b1 0), (5, vp b2 0), (6, vp b3 0), (7, vp b4 0), (8, vp b5 0), (9, vp b6 0), (10, vb false), (11, vp b14 0), (12, vp b210 0), (13, vp b211 0), (28, vi 1)] ?_
          refine xRg ?_
          refine xB 2 [] [(1, vi cycle), (3, vp b1 0), (5, vp b2 0), (6, vp b3 0), (7, vp b4 0), (8, vp b5 0), (9, vp b6 0), (10, vb false), (11, vp b14 0), (12, vp b210 0), (13, vp b211 0), (28, vi 2)] ?_
          refine xRe ?_
          refine wpq_thenN ?_
          refine xSub [(1, vi cycle), (3, vp b1 0), (5, vp b2 0), (6, vp b3 0), (7, vp b4 0), (8, vp b5 0), (9, vp b6 0), (10, vb false), (11, vp b14 0), (12, vp b210 0), (13, vp b211 0), (28, vi 2)] ?_
          refine xRd ?_
          refine xSq ?_
          refine xRg ?_
          refine xB 1 [] [(1, vi cycle), (3, vp b1 0), (5, vp b2 0), (6, vp b3 0), (7, vp b4 0), (8, vp b5 0), (9, vp b6 0), (10, vb false), (11, vp b14 0), (12, vp b210 0), (13, vp b211 0), (28, vi 2), (29, vb false)] ?_
          refine xRe ?_
          refine wpq_then ?_
          refine xSq ?_
          refine xCf ?_
          refine xEx 0 ?_
          refine wpq_thenX ?_
          refine wpq_thenX ?_
          refine wpq_blockE ?_
          have f276_n_input := f276_n_input.mono e282.b
          have f276_n_heard_input := f276_n_heard_input.mono e282.b
          have f276_n_set__in_ := f276_n_set__in_.mono e282.b
          have f276_0_payload := f276_0_payload.mono e282.b
          refine xSel [some 0, some 1, some 2, some 3, some 5, some 6, some 7, some 8, some 9, some 10] ?_
          refine xSub [(3, vp b1 0), (5, vp b2 0), (6, vp b3 0), (7, vp b4 0), (8, vp b5 0), (9, vp b6 0), (12, vp b210 0), (13, vp b211 0)] ?_
          have eS := (Option.some.inj hS).symm
          exact hN212 _ eS _ _ _ (e278.trans e282) ⟨A280_n_input, c280_n_input, A280_n_heard_input, c280_n_heard_input, A280_n_set__in_, c280_n_set__in_, A276_n_input, c276_n_input, A276_n_heard_input, c276_n_heard_input, A276_n_set__in_, c276_n_set__in_, A276_0_payload, c276_0_payload, A280_0_payload, c280_0_payload, by kernel_rfl, by kernel_rfl, f280_n_input, f280_n_heard_input, f280_n_set__in_, f276_n_input, f276_n_heard_input, f276_n_set__in_, f276_0_payload, f280_0_payload⟩
  · refine xO2 (lds := [1, 4]) 2 7 ?_ ?_
    · refine xIe (lds := [1, 4]) (Psi.le.refl _) (eC 0 (fun g' lr eb ln => c14 g' (r_.one : List UInt8) Ar__one cr__one (20 : Int) (by rw [eb]; exact fr__one) hy8)) ?_
      rintro _ g285 _ e286 ⟨_, rfl, A8_0, c8_0, rfl, rfl, f8_0⟩
      refine kk [some 0, some 1, some 2, some 3, some 4, some 5, some 6, some 7] ?_
      have nf8_0 := f8_0.len
      refine xO2 (lds := [1, 4]) 5 7 ?_ ?_
      · have fr__two := fr__two.mono e286.b
        refine xIe (lds := [1, 4]) e286.r (eC 0 (fun g' lr eb ln => c14 g' (r_.two : List UInt8) Ar__two cr__two (20 : Int) (by rw [eb]; exact fr__two) hy11)) ?_
        rintro _ g288 _ e289 ⟨_, rfl, A11_0, c11_0, rfl, rfl, f11_0⟩
        refine kk [some 0, some 1, some 2, some 3, some 4, some 5, some 6, some 7] ?_
        have nf11_0 := f11_0.len
        refine xT 2 [6] [] [some 0, some 1, some 2, some 3, some 4, some 5, some 6, some 7] [(1, vi cycle), (3, vp b1 0), (5, vp b2 0), (6, vp b3 0), (7, vp b4 0), (8, vp b5 0), (9, vp b6 0), (10, vb false), (27, Value.agg #[vs A8_0 y8 c8_0, vs A11_0 y11 c11_0])] RG (e286.trans e289).r ?_
        refine xO1 (lds := [1, 4]) 7 ?_
        refine xIe (lds := [1, 4]) (e286.trans e289).r eB ?_
        rintro _ _ _ - ⟨b290, rfl, rfl, rfl⟩
        refine kk [some 1, some 2, some 3, some 4, some 5, some 6, some 7, some 8] ?_
        refine xSub [(1, vi cycle), (3, vp b1 0), (5, vp b2 0), (6, vp b3 0), (7, vp b4 0), (8, vp b5 0), (9, vp b6 0), (10, vb false), (11, vp b290 0), (27, Value.agg #[vs A8_0 y8 c8_0, vs A11_0 y11 c11_0])] ?_
        have f8_0 := f8_0.mono e289.b
        exact hD7 _ _ _ (e286.trans e289) ⟨A8_0, c8_0, A11_0, c11_0, b290, by kernel_rfl, by kernel_rfl, f8_0, f11_0⟩
      · refine xIe (lds := [1, 4]) e286.r eB ?_
        rintro _ _ _ - ⟨b291, rfl, rfl, rfl⟩
        refine kk [some 1, some 2, some 3, some 4, some 5, some 6, some 7, some 8] ?_
        have fr__two := fr__two.mono e286.b
        refine xO1 (lds := [1, 4]) 5 ?_
        refine xIe (lds := [1, 4]) e286.r (eC 0 (fun g' lr eb ln => c14 g' (r_.two : List UInt8) Ar__two cr__two (20 : Int) (by rw [eb]; exact fr__two) hy11)) ?_
        rintro _ g293 _ e294 ⟨_, rfl, A11_0, c11_0, rfl, rfl, f11_0⟩
        refine kk [some 1, some 2, some 3, some 4, some 5, some 6, some 7, some 8] ?_
        have nf11_0 := f11_0.len
        refine xT 1 [6] [] [some 1, some 2, some 3, some 4, some 5, some 6, some 7, some 8] [(1, vi cycle), (3, vp b1 0), (5, vp b2 0), (6, vp b3 0), (7, vp b4 0), (8, vp b5 0), (9, vp b6 0), (10, vb false), (11, vp b291 0), (27, Value.agg #[vs A8_0 y8 c8_0, vs A11_0 y11 c11_0])] RG (e286.trans e294).r ?_
        refine xSub [(1, vi cycle), (3, vp b1 0), (5, vp b2 0), (6, vp b3 0), (7, vp b4 0), (8, vp b5 0), (9, vp b6 0), (10, vb false), (11, vp b291 0), (27, Value.agg #[vs A8_0 y8 c8_0, vs A11_0 y11 c11_0])] ?_
        have f8_0 := f8_0.mono e294.b
        exact hD7 _ _ _ (e286.trans e294) ⟨A8_0, c8_0, A11_0, c11_0, b291, by kernel_rfl, by kernel_rfl, f8_0, f11_0⟩
    · refine xIe (lds := [1, 4]) (Psi.le.refl _) eB ?_
      rintro _ _ _ - ⟨b295, rfl, rfl, rfl⟩
      refine kk [some 1, some 2, some 3, some 4, some 5, some 6, some 7, some 8] ?_
      refine xO1 (lds := [1, 4]) 2 ?_
      refine xIe (lds := [1, 4]) (Psi.le.refl _) (eC 0 (fun g' lr eb ln => c14 g' (r_.one : List UInt8) Ar__one cr__one (20 : Int) (by rw [eb]; exact fr__one) hy8)) ?_
      rintro _ g297 _ e298 ⟨_, rfl, A8_0, c8_0, rfl, rfl, f8_0⟩
      refine kk [some 1, some 2, some 3, some 4, some 5, some 6, some 7, some 8] ?_
      have nf8_0 := f8_0.len
      have fr__two := fr__two.mono e298.b
      refine xO1 (lds := [1, 4]) 5 ?_
      refine xIe (lds := [1, 4]) e298.r (eC 0 (fun g' lr eb ln => c14 g' (r_.two : List UInt8) Ar__two cr__two (20 : Int) (by rw [eb]; exact fr__two) hy11)) ?_
      rintro _ g300 _ e301 ⟨_, rfl, A11_0, c11_0, rfl, rfl, f11_0⟩
      refine kk [some 1, some 2, some 3, some 4, some 5, some 6, some 7, some 8] ?_
      have nf11_0 := f11_0.len
      refine xT 1 [6] [] [some 1, some 2, some 3, some 4, some 5, some 6, some 7, some 8] [(1, vi cycle), (3, vp b1 0), (5, vp b2 0), (6, vp b3 0), (7, vp b4 0), (8, vp b5 0), (9, vp b6 0), (10, vb false), (11, vp b295 0), (27, Value.agg #[vs A8_0 y8 c8_0, vs A11_0 y11 c11_0])] RG (e298.trans e301).r ?_
      refine xSub [(1, vi cycle), (3, vp b1 0), (5, vp b2 0), (6, vp b3 0), (7, vp b4 0), (8, vp b5 0), (9, vp b6 0), (10, vb false), (11, vp b295 0), (27, Value.agg #[vs A8_0 y8 c8_0, vs A11_0 y11 c11_0])] ?_
      have f8_0 := f8_0.mono e301.b
      exact hD7 _ _ _ (e298.trans e301) ⟨A8_0, c8_0, A11_0, c11_0, b295, by kernel_rfl, by kernel_rfl, f8_0, f11_0⟩

def o41 (n : Node) : Int :=
  ((n.role : Int))
set_option maxRecDepth 100000 in
theorem c41 (g : Gh) (a_n : Addr) (n : Node) (An_input : Option Addr) (cn_input : Nat) (An_heard_input : Option Addr) (cn_heard_input : Nat) (An_set__in_ : Option Addr) (cn_set__in_ : Nat) (hc_n : Cells g.r a_n (cNode n An_input cn_input An_heard_input cn_heard_input An_set__in_ cn_set__in_)) (fn_input : Arr g.r tyU8 An_input cn_input n.input) (fn_heard_input : Arr g.r tyU8 An_heard_input cn_heard_input n.heard.input) (fn_set__in_ : Arr g.r tyU8 An_set__in_ cn_set__in_ n.set_.in_) {r : Int} (hS : o41 n = r) :
    Ctr Try.prog 41 [Value.pointer (some a_n)] g [] (fun v ψ o => v = vy r ∧ o = []) := by
  unfold o41 at hS
  refine xFn Try.f41 (Try.f41.body.getD .skip) 9 ?_
  have nfn_input := fn_input.len
  have nfn_heard_input := fn_heard_input.len
  have nfn_set__in_ := fn_set__in_.len
  refine xSq ?_
  refine xRg ?_
  refine xB 1 [] [(0, Value.pointer (some a_n))] ?_
  refine xRe ?_
  refine wpq_then ?_
  refine xSq ?_
  refine xSq ?_
  refine xRg ?_
  refine xB 2 [] [(0, Value.pointer (some a_n)), (4, vb false)] ?_
  refine xRe ?_
  refine wpq_then ?_
  refine xCf ?_
  refine xSk ?_
  refine wpq_then ?_
  refine xSub [(0, Value.pointer (some a_n))] ?_
  refine xSq ?_
  refine xRg ?_
  refine xB 3 [] [(7, Value.pointer (some (Addr.add a_n 1)))] ?_
  refine xV (qLdP a_n 1 hc_n) ?_
  refine xB 1 [] [(2, vy n.role)] ?_
  refine xRe ?_
  refine wpq_then ?_
  have eS := hS.symm
  subst eS
  exact xRet [] [2] (Gh.le.refl _) ⟨by kernel_rfl, by kernel_rfl⟩ (fun _ _ h => h)

def o40 (n : Node) : Int :=
  ((n.steps : Int))
set_option maxRecDepth 100000 in
theorem c40 (g : Gh) (a_n : Addr) (n : Node) (An_input : Option Addr) (cn_input : Nat) (An_heard_input : Option Addr) (cn_heard_input : Nat) (An_set__in_ : Option Addr) (cn_set__in_ : Nat) (hc_n : Cells g.r a_n (cNode n An_input cn_input An_heard_input cn_heard_input An_set__in_ cn_set__in_)) (fn_input : Arr g.r tyU8 An_input cn_input n.input) (fn_heard_input : Arr g.r tyU8 An_heard_input cn_heard_input n.heard.input) (fn_set__in_ : Arr g.r tyU8 An_set__in_ cn_set__in_ n.set_.in_) {r : Int} (hS : o40 n = r) :
    Ctr Try.prog 40 [Value.pointer (some a_n)] g [] (fun v ψ o => v = vi r ∧ o = []) := by
  unfold o40 at hS
  refine xFn Try.f40 (Try.f40.body.getD .skip) 9 ?_
  have nfn_input := fn_input.len
  have nfn_heard_input := fn_heard_input.len
  have nfn_set__in_ := fn_set__in_.len
  refine xSq ?_
  refine xRg ?_
  refine xB 1 [] [(0, Value.pointer (some a_n))] ?_
  refine xRe ?_
  refine wpq_then ?_
  refine xSq ?_
  refine xSq ?_
  refine xRg ?_
  refine xB 2 [] [(0, Value.pointer (some a_n)), (4, vb false)] ?_
  refine xRe ?_
  refine wpq_then ?_
  refine xCf ?_
  refine xSk ?_
  refine wpq_then ?_
  refine xSub [(0, Value.pointer (some a_n))] ?_
  refine xSq ?_
  refine xRg ?_
  refine xB 3 [] [(7, Value.pointer (some (Addr.add a_n 2)))] ?_
  refine xV (qLdP a_n 2 hc_n) ?_
  refine xB 1 [] [(2, vi n.steps)] ?_
  refine xRe ?_
  refine wpq_then ?_
  have eS := hS.symm
  subst eS
  exact xRet [] [2] (Gh.le.refl _) ⟨by kernel_rfl, by kernel_rfl⟩ (fun _ _ h => h)

end Go.Proofs.Ytgnajpoebooafaa
