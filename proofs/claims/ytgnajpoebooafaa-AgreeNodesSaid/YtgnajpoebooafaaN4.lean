/-
Walks, printed by wip/gen. Conditions: each theorem's own.
-/
import Derived.Test.YtgnajpoebooafaaN3
namespace Go.Proofs.Ytgnajpoebooafaa
set_option linter.unusedVariables false
set_option linter.unusedSimpArgs false
open Go.RowKit
def o43 (n : Node) (m : RNode) (c : CallT) : Option (Node × RNode × Bool) :=
  (letJ (τ := Int) (cond (c.next_) (m.stage) ((Int.tmod (IntKind.i64.wrap c.kind) 8))) fun t4 => (cond ((t4 == 0)) (bindO (τ := (List UInt8)) (o14 (c.input : List UInt8) (404 : Int)) fun y9 => (bindO (τ := Node × Frame × Int) (o46 n (c.cycle : Int) (y9 : List UInt8) c.want) fun y12 => (bindO (τ := (List UInt8)) (o14 (c.input : List UInt8) (404 : Int)) fun y212 => (bindO (τ := RNode × Frame × Int) (o59 m (c.cycle : Int) (y212 : List UInt8) c.want) fun y215 => (letJ (τ := Bool) (o60 y12.2.1 y215.2.1) fun y414 => (some ((y12.1, y215.1, ((y414 && (y12.2.2 == y215.2.2))))))))))) (cond ((t4 == 1)) (bindO (τ := Node × Heard × Bool × Int) (o47 n c.frame (c.came)) fun y503 => (bindO (τ := RNode × Heard × Bool × Int) (o61 m c.frame (c.came)) fun y507 => (letJ (τ := Heard) (o27 y503.2.1) fun y512 => (letJ (τ := Bool) (o29 y512 y507.2.1) fun y515 => (some ((y503.1, y507.1, (((y515 && (y503.2.2.1 == y507.2.2.1)) && (y503.2.2.2 == y507.2.2.2)))))))))) (cond ((t4 == 2)) (bindO (τ := Node × Frame × Bool × Int) (o48 n) fun y521 => (bindO (τ := RNode × Frame × Bool × Int) (o62 m) fun y525 => (letJ (τ := Bool) (o60 y521.2.1 y525.2.1) fun y530 => (some ((y521.1, y525.1, (((y530 && (y521.2.2.1 == y525.2.2.1)) && (y521.2.2.2 == y525.2.2.2))))))))) (cond ((t4 == 3)) (bindO (τ := Node × Sett × Bool × Int) (o49 n c.frame (c.came)) fun y536 => (bindO (τ := RNode × Sett × Bool × Int) (o63 m c.frame (c.came)) fun y540 => (letJ (τ := Sett) (o33 y536.2.1) fun y545 => (letJ (τ := Bool) (o35 y545 y540.2.1) fun y548 => (some ((y536.1, y540.1, (((y548 && (y536.2.2.1 == y540.2.2.1)) && (y536.2.2.2 == y540.2.2.2)))))))))) (cond ((t4 == 4)) (bindO (τ := Node × Frame × Bool × Int) (o50 n c.targets) fun y554 => (bindO (τ := RNode × Frame × Bool × Int) (o64 m c.targets) fun y558 => (letJ (τ := Bool) (o60 y554.2.1 y558.2.1) fun y563 => (some ((y554.1, y558.1, (((y563 && (y554.2.2.1 == y558.2.2.1)) && (y554.2.2.2 == y558.2.2.2))))))))) (cond ((t4 == 5)) (bindO (τ := Node × Int × Int) (o51 n c.frame (c.came)) fun y569 => (bindO (τ := RNode × Int × Int) (o65 m c.frame (c.came)) fun y572 => (some ((y569.1, y572.1, (((y569.2.1 == y572.2.1) && (y569.2.2 == y572.2.2)))))))) (cond ((t4 == 6)) (letJ (τ := Node) (o45 n) fun y578 => (letJ (τ := RNode) (o66 m) fun y581 => (some ((y578, y581, (true)))))) (letJ (τ := Node × Int) (o38 n (c.cycle : Int)) fun y584 => (letJ (τ := RNode × Int) (o67 m (c.cycle : Int)) fun y587 => (some ((y584.1, y587.1, ((y584.2 == y587.2)))))))))))))))
set_option maxRecDepth 100000 in
theorem c43 (g : Gh) (b_n : Nat) (n : Node) (An_input : Option Addr) (cn_input : Nat) (An_heard_input : Option Addr) (cn_heard_input : Nat) (An_set__in_ : Option Addr) (cn_set__in_ : Nat) (m : RNode) (Am_input : Option Addr) (cm_input : Nat) (Am_heard_input : Option Addr) (cm_heard_input : Nat) (c : CallT) (Ac_input : Option Addr) (cc_input : Nat) (Ac_frame_payload : Option Addr) (cc_frame_payload : Nat) (fn_input : Arr g.b tyU8 An_input cn_input n.input) (fn_heard_input : Arr g.b tyU8 An_heard_input cn_heard_input n.heard.input) (fn_set__in_ : Arr g.b tyU8 An_set__in_ cn_set__in_ n.set_.in_) (fm_input : Arr g.b tyU8 Am_input cm_input m.input) (fm_heard_input : Arr g.b tyU8 Am_heard_input cm_heard_input m.heard.input) (fc_input : Arr g.b tyU8 Ac_input cc_input c.input) (fc_frame_payload : Arr g.b tyU8 Ac_frame_payload cc_frame_payload c.frame.payload) {r : Node × RNode × Bool} (hS : o43 n m c = some r) :
    Ctr Try.prog 43 [vp b_n 0, Value.agg #[vi m.number, vy m.role, vi m.steps, vi m.alone, vi m.stage, vi m.cycle, vs Am_input m.input cm_input, vb m.fresh, vb m.isHeard, vy m.heard.role, vi m.heard.steps, vi m.heard.want.base, vi m.heard.want.have_, vs Am_heard_input m.heard.input cm_heard_input, vb m.stepped, vy m.told.lateral, vy m.told.vertical, vy m.told.phase, vi m.told.bank, vi m.told.speed, vi m.told.alt, vi m.told.vs], Value.agg #[vy c.kind, vb c.next_, vi c.cycle, vs Ac_input c.input cc_input, vi c.want.base, vi c.want.have_, vy c.frame.label, vy c.frame.from_, vi c.frame.cycle, vs Ac_frame_payload c.frame.payload cc_frame_payload, vb c.came, vy c.targets.lateral, vy c.targets.vertical, vy c.targets.phase, vi c.targets.bank, vi c.targets.speed, vi c.targets.alt, vi c.targets.vs]] g [some ⟨b_n, 131, (cNode n An_input cn_input An_heard_input cn_heard_input An_set__in_ cn_set__in_)⟩] (fun v ψ o => ∃ (Ao_n_input : Option Addr) (co_n_input : Nat) (Ao_n_heard_input : Option Addr) (co_n_heard_input : Nat) (Ao_n_set__in_ : Option Addr) (co_n_set__in_ : Nat) (Ar_0_input : Option Addr) (cr_0_input : Nat) (Ar_0_heard_input : Option Addr) (cr_0_heard_input : Nat), v = Value.tuple #[Value.agg #[vi r.2.1.number, vy r.2.1.role, vi r.2.1.steps, vi r.2.1.alone, vi r.2.1.stage, vi r.2.1.cycle, vs Ar_0_input r.2.1.input cr_0_input, vb r.2.1.fresh, vb r.2.1.isHeard, vy r.2.1.heard.role, vi r.2.1.heard.steps, vi r.2.1.heard.want.base, vi r.2.1.heard.want.have_, vs Ar_0_heard_input r.2.1.heard.input cr_0_heard_input, vb r.2.1.stepped, vy r.2.1.told.lateral, vy r.2.1.told.vertical, vy r.2.1.told.phase, vi r.2.1.told.bank, vi r.2.1.told.speed, vi r.2.1.told.alt, vi r.2.1.told.vs], vb r.2.2] ∧ o = [some ⟨b_n, 131, (cNode r.1 Ao_n_input co_n_input Ao_n_heard_input co_n_heard_input Ao_n_set__in_ co_n_set__in_)⟩] ∧ Arr ψ tyU8 Ao_n_input co_n_input r.1.input ∧ Arr ψ tyU8 Ao_n_heard_input co_n_heard_input r.1.heard.input ∧ Arr ψ tyU8 Ao_n_set__in_ co_n_set__in_ r.1.set_.in_ ∧ Arr ψ tyU8 Ar_0_input cr_0_input r.2.1.input ∧ Arr ψ tyU8 Ar_0_heard_input cr_0_heard_input r.2.1.heard.input) := by
  unfold o43 at hS
  refine xFn Try.f43 (Try.f43.body.getD .skip) 289 ?_
  have nfn_input := fn_input.len
  have nfn_heard_input := fn_heard_input.len
  have nfn_set__in_ := fn_set__in_.len
  have nfm_input := fm_input.len
  have nfm_heard_input := fm_heard_input.len
  have nfc_input := fc_input.len
  have nfc_frame_payload := fc_frame_payload.len
  refine xSq ?_
  refine xRg ?_
  refine xE eB ?_
  rintro _ _ _ - ⟨b1, rfl, rfl, rfl⟩
  refine xE eB ?_
  rintro _ _ _ - ⟨b2, rfl, rfl, rfl⟩
  refine xE eB ?_
  rintro _ _ _ - ⟨b3, rfl, rfl, rfl⟩
  refine xB 1 [] [(0, vp b_n 0), (4, vp b1 0), (5, vp b2 0), (6, vp b3 0)] ?_
  refine xRe ?_
  refine wpq_then ?_
  refine xSq ?_
  refine xRg ?_
  refine xB 3 [(1, 1)] [(0, vp b_n 0), (4, vp b1 0), (5, vp b2 0), (6, vp b3 0), (52, vi (IntKind.i64.wrap c.kind))] ?_
  refine xV (qRem .i64 ((IntKind.i64.wrap c.kind)) (8) _ (by omega) rfl) ?_
  refine xB 1 [] [(0, vp b_n 0), (4, vp b1 0), (5, vp b2 0), (6, vp b3 0), (8, vi (Int.tmod (IntKind.i64.wrap c.kind) 8))] ?_
  refine xRe ?_
  refine wpq_then ?_
  refine xSq ?_
  refine xSq ?_
  refine xRg ?_
  refine xB 2 [(1, 1)] [(0, vp b_n 0), (4, vp b1 0), (5, vp b2 0), (6, vp b3 0), (8, vi (Int.tmod (IntKind.i64.wrap c.kind) 8)), (55, vb c.next_)] ?_
  refine xRe ?_
  refine wpq_then ?_
  refine xLetJ hS (fun g own sl t4 => own = [some ⟨b3, 96, (cRNode (⟨0, 0, 0, 0, 0, 0, ([] : List UInt8), false, false, (⟨0, 0, (⟨0, 0⟩ : Want), ([] : List UInt8)⟩ : Heard), false, (⟨0, 0, 0, 0, 0, 0, 0⟩ : Targets)⟩ : RNode) none 0 none 0)⟩, some ⟨b2, 102, (cCallT c Ac_input cc_input Ac_frame_payload cc_frame_payload)⟩, some ⟨b1, 96, (cRNode m Am_input cm_input Am_heard_input cm_heard_input)⟩, some ⟨b_n, 131, (cNode n An_input cn_input An_heard_input cn_heard_input An_set__in_ cn_set__in_)⟩] ∧ sl = [(0, vp b_n 0), (4, vp b1 0), (5, vp b2 0), (6, vp b3 0), (8, vi t4)]) ?_ ?_
  · rintro g5 _ _ t4 e6 ⟨rfl, rfl⟩ hS
    refine wpq_then ?_
    refine xSq ?_
    refine xSq ?_
    refine xRg ?_
    refine xB 1 [] [(0, vp b_n 0), (4, vp b1 0), (5, vp b2 0), (6, vp b3 0), (58, vi t4)] ?_
    refine xRe ?_
    refine wpq_then ?_
    refine xBl 0 ?_
    refine xSq ?_
    refine xRg ?_
    refine xB 2 [] [(0, vp b_n 0), (4, vp b1 0), (5, vp b2 0), (6, vp b3 0), (58, vi t4), (59, vb (t4 == 0))] ?_
    refine xRe ?_
    refine wpq_then ?_
    refine xCd ((t4 == 0)) (fun h7 => ?_) (fun h7 => ?_)
    · have hS := cond_T h7 hS
      have h7p : t4 = 0 := eq_of_beq h7
      refine xSq ?_
      refine xDr 0 [2, 4, 7] [13, 14] [some ⟨b3, 96, (cRNode (⟨0, 0, 0, 0, 0, 0, ([] : List UInt8), false, false, (⟨0, 0, (⟨0, 0⟩ : Want), ([] : List UInt8)⟩ : Heard), false, (⟨0, 0, 0, 0, 0, 0, 0⟩ : Targets)⟩ : RNode) none 0 none 0)⟩, some ⟨b2, 102, (cCallT c Ac_input cc_input Ac_frame_payload cc_frame_payload)⟩, some ⟨b1, 96, (cRNode m Am_input cm_input Am_heard_input cm_heard_input)⟩] 15 (fun RG => ?_) (fun _ _ _ _ _ h => h)
      refine xT 8 [0, 1, 2, 3, 4, 6, 7] [(2, 1), (4, 1), (7, 1)] [some 0, some 1, some 2] [(4, vp b1 0), (5, vp b2 0), (6, vp b3 0), (62, vp b_n 0), (64, vi c.cycle), (66, vs Ac_input c.input cc_input), (69, Value.agg #[vi c.want.base, vi c.want.have_])] RG (Psi.le.refl _) ?_
      obtain ⟨y9, hy9, hS⟩ := bindO_T hS
      obtain ⟨y12, hy12, hS⟩ := bindO_T hS
      refine wpa_meet (fun g own sl => ∃ (A12_n_input : Option Addr) (c12_n_input : Nat) (A12_n_heard_input : Option Addr) (c12_n_heard_input : Nat) (A12_n_set__in_ : Option Addr) (c12_n_set__in_ : Nat) (A12_0_payload : Option Addr) (c12_0_payload : Nat) (b15 : Nat), own = [some ⟨b15, 100, (cFrame y12.2.1 A12_0_payload c12_0_payload)⟩, some ⟨b_n, 131, (cNode y12.1 A12_n_input c12_n_input A12_n_heard_input c12_n_heard_input A12_n_set__in_ c12_n_set__in_)⟩, some ⟨b3, 96, (cRNode (⟨0, 0, 0, 0, 0, 0, ([] : List UInt8), false, false, (⟨0, 0, (⟨0, 0⟩ : Want), ([] : List UInt8)⟩ : Heard), false, (⟨0, 0, 0, 0, 0, 0, 0⟩ : Targets)⟩ : RNode) none 0 none 0)⟩, some ⟨b2, 102, (cCallT c Ac_input cc_input Ac_frame_payload cc_frame_payload)⟩, some ⟨b1, 96, (cRNode m Am_input cm_input Am_heard_input cm_heard_input)⟩] ∧ sl = [(4, vp b1 0), (5, vp b2 0), (6, vp b3 0), (9, vp b15 0), (72, vi y12.2.2)] ∧ Arr g.b tyU8 A12_0_payload c12_0_payload y12.2.1.payload ∧ Arr g.b tyU8 A12_n_input c12_n_input y12.1.input ∧ Arr g.b tyU8 A12_n_heard_input c12_n_heard_input y12.1.heard.input ∧ Arr g.b tyU8 A12_n_set__in_ c12_n_set__in_ y12.1.set_.in_) 1 [true, true, true, true, true, true, true, true, true, true, true, true, true, true, false] ?_ (fun hD8 => ?_)
      · rintro g209 _ _ e210 ⟨A12_n_input, c12_n_input, A12_n_heard_input, c12_n_heard_input, A12_n_set__in_, c12_n_set__in_, A12_0_payload, c12_0_payload, b15, rfl, rfl, f12_0_payload, f12_n_input, f12_n_heard_input, f12_n_set__in_⟩
        have nf12_0_payload := f12_0_payload.len
        have nf12_n_input := f12_n_input.len
        have nf12_n_heard_input := f12_n_heard_input.len
        have nf12_n_set__in_ := f12_n_set__in_.len
        refine xT 0 [14] [] [some 2, some 3, some 4] [(4, vp b1 0), (5, vp b2 0), (6, vp b3 0), (9, vp b15 0), (10, vi y12.2.2)] RG e210.r ?_
        refine xAe (lds := [2, 4, 7]) ?_
        refine wpq_then ?_
        refine xSq ?_
        refine xDr 0 [0, 2, 4, 8, 11] [20, 21, 22] [some ⟨b15, 100, (cFrame y12.2.1 A12_0_payload c12_0_payload)⟩, some ⟨b_n, 131, (cNode y12.1 A12_n_input c12_n_input A12_n_heard_input c12_n_heard_input A12_n_set__in_ c12_n_set__in_)⟩, some ⟨b3, 96, (cRNode (⟨0, 0, 0, 0, 0, 0, ([] : List UInt8), false, false, (⟨0, 0, (⟨0, 0⟩ : Want), ([] : List UInt8)⟩ : Heard), false, (⟨0, 0, 0, 0, 0, 0, 0⟩ : Targets)⟩ : RNode) none 0 none 0)⟩, some ⟨b2, 102, (cCallT c Ac_input cc_input Ac_frame_payload cc_frame_payload)⟩, some ⟨b1, 96, (cRNode m Am_input cm_input Am_heard_input cm_heard_input)⟩] 23 (fun RG => ?_) (fun _ _ _ _ _ h => h)
        refine xT 11 [0, 1, 2, 3, 4, 6, 7, 8, 9, 10, 11, 12] [(0, 4), (2, 3), (4, 3), (8, 3), (11, 3)] [some 0, some 1, some 2, some 3, some 4] [(6, vp b3 0), (9, vp b15 0), (10, vi y12.2.2), (74, Value.agg #[vi m.number, vy m.role, vi m.steps, vi m.alone, vi m.stage, vi m.cycle, vs Am_input m.input cm_input, vb m.fresh, vb m.isHeard, vy m.heard.role, vi m.heard.steps, vi m.heard.want.base, vi m.heard.want.have_, vs Am_heard_input m.heard.input cm_heard_input, vb m.stepped, vy m.told.lateral, vy m.told.vertical, vy m.told.phase, vi m.told.bank, vi m.told.speed, vi m.told.alt, vi m.told.vs]), (76, vi c.cycle), (78, vs Ac_input c.input cc_input), (86, Value.agg #[vi c.want.base, vi c.want.have_])] RG (Psi.le.refl _) ?_
        obtain ⟨y212, hy212, hS⟩ := bindO_T hS
        obtain ⟨y215, hy215, hS⟩ := bindO_T hS
        refine wpa_meet (fun g own sl => ∃ (A215_0_input : Option Addr) (c215_0_input : Nat) (A215_0_heard_input : Option Addr) (c215_0_heard_input : Nat) (A215_1_payload : Option Addr) (c215_1_payload : Nat) (b218 : Nat) (b219 : Nat), own = [some ⟨b219, 100, (cFrame y215.2.1 A215_1_payload c215_1_payload)⟩, some ⟨b218, 96, (cRNode y215.1 A215_0_input c215_0_input A215_0_heard_input c215_0_heard_input)⟩, some ⟨b15, 100, (cFrame y12.2.1 A12_0_payload c12_0_payload)⟩, some ⟨b_n, 131, (cNode y12.1 A12_n_input c12_n_input A12_n_heard_input c12_n_heard_input A12_n_set__in_ c12_n_set__in_)⟩, some ⟨b3, 96, (cRNode (⟨0, 0, 0, 0, 0, 0, ([] : List UInt8), false, false, (⟨0, 0, (⟨0, 0⟩ : Want), ([] : List UInt8)⟩ : Heard), false, (⟨0, 0, 0, 0, 0, 0, 0⟩ : Targets)⟩ : RNode) none 0 none 0)⟩, some ⟨b2, 102, (cCallT c Ac_input cc_input Ac_frame_payload cc_frame_payload)⟩, some ⟨b1, 96, (cRNode m Am_input cm_input Am_heard_input cm_heard_input)⟩] ∧ sl = [(6, vp b3 0), (9, vp b15 0), (10, vi y12.2.2), (11, vp b218 0), (12, vp b219 0), (90, vi y215.2.2)] ∧ Arr g.b tyU8 A215_1_payload c215_1_payload y215.2.1.payload ∧ Arr g.b tyU8 A215_0_input c215_0_input y215.1.input ∧ Arr g.b tyU8 A215_0_heard_input c215_0_heard_input y215.1.heard.input) 1 [true, true, true, true, true, true, true, true, true, true, true, true, true, true, true, true, true, true, true, true, true, true, false] ?_ (fun hD211 => ?_)
        · rintro g412 _ _ e413 ⟨A215_0_input, c215_0_input, A215_0_heard_input, c215_0_heard_input, A215_1_payload, c215_1_payload, b218, b219, rfl, rfl, f215_1_payload, f215_0_input, f215_0_heard_input⟩
          have nf215_1_payload := f215_1_payload.len
          have nf215_0_input := f215_0_input.len
          have nf215_0_heard_input := f215_0_heard_input.len
          refine xT 0 [22] [] [some 2, some 3, some 4, some 5, some 6] [(6, vp b3 0), (9, vp b15 0), (10, vi y12.2.2), (11, vp b218 0), (12, vp b219 0), (13, vi y215.2.2)] RG e413.r ?_
          refine xAe (lds := [0, 2, 4, 8, 11]) ?_
          refine wpq_then ?_
          refine xSq ?_
          refine xDr 0 [0, 1, 2] [10] [some ⟨b219, 100, (cFrame y215.2.1 A215_1_payload c215_1_payload)⟩, some ⟨b218, 96, (cRNode y215.1 A215_0_input c215_0_input A215_0_heard_input c215_0_heard_input)⟩, some ⟨b15, 100, (cFrame y12.2.1 A12_0_payload c12_0_payload)⟩, some ⟨b_n, 131, (cNode y12.1 A12_n_input c12_n_input A12_n_heard_input c12_n_heard_input A12_n_set__in_ c12_n_set__in_)⟩, some ⟨b2, 102, (cCallT c Ac_input cc_input Ac_frame_payload cc_frame_payload)⟩, some ⟨b1, 96, (cRNode m Am_input cm_input Am_heard_input cm_heard_input)⟩] 11 (fun RG => ?_) (fun _ _ _ _ _ h => h)
          refine xT 8 [0, 1, 2] [(0, 1), (1, 2), (2, 0)] [some 0, some 1, some 2, some 3, some 5, some 6] [(6, vp b3 0), (10, vi y12.2.2), (13, vi y215.2.2), (91, Value.agg #[vi y215.1.number, vy y215.1.role, vi y215.1.steps, vi y215.1.alone, vi y215.1.stage, vi y215.1.cycle, vs A215_0_input y215.1.input c215_0_input, vb y215.1.fresh, vb y215.1.isHeard, vy y215.1.heard.role, vi y215.1.heard.steps, vi y215.1.heard.want.base, vi y215.1.heard.want.have_, vs A215_0_heard_input y215.1.heard.input c215_0_heard_input, vb y215.1.stepped, vy y215.1.told.lateral, vy y215.1.told.vertical, vy y215.1.told.phase, vi y215.1.told.bank, vi y215.1.told.speed, vi y215.1.told.alt, vi y215.1.told.vs]), (92, Value.agg #[vy y12.2.1.label, vy y12.2.1.from_, vi y12.2.1.cycle, vs A12_0_payload y12.2.1.payload c12_0_payload]), (93, Value.agg #[vy y215.2.1.label, vy y215.2.1.from_, vi y215.2.1.cycle, vs A215_1_payload y215.2.1.payload c215_1_payload])] RG (Psi.le.refl _) ?_
          have f12_0_payload := f12_0_payload.mono e413.b
          obtain ⟨y414, hy414, hS⟩ := letJ_T hS
          refine xO1 (lds := [0, 1, 2]) 3 ?_
          refine xIe (lds := [0, 1, 2]) (Psi.le.refl _) (eC 0 (fun g' lr eb ln => c60 g' y12.2.1 A12_0_payload c12_0_payload y215.2.1 A215_1_payload c215_1_payload ((f12_0_payload.mono g412.br).mono lr) ((f215_1_payload.mono g412.br).mono lr) hy414)) ?_
          rintro _ g415 _ e416 ⟨_, rfl, rfl, rfl⟩
          refine kk [some 0, some 1, some 2, some 3, some 5, some 6] ?_
          refine xT 6 [4] [] [some 0, some 1, some 2, some 3, some 5, some 6] [(6, vp b3 0), (10, vi y12.2.2), (13, vi y215.2.2), (91, Value.agg #[vi y215.1.number, vy y215.1.role, vi y215.1.steps, vi y215.1.alone, vi y215.1.stage, vi y215.1.cycle, vs A215_0_input y215.1.input c215_0_input, vb y215.1.fresh, vb y215.1.isHeard, vy y215.1.heard.role, vi y215.1.heard.steps, vi y215.1.heard.want.base, vi y215.1.heard.want.have_, vs A215_0_heard_input y215.1.heard.input c215_0_heard_input, vb y215.1.stepped, vy y215.1.told.lateral, vy y215.1.told.vertical, vy y215.1.told.phase, vi y215.1.told.bank, vi y215.1.told.speed, vi y215.1.told.alt, vi y215.1.told.vs]), (95, vb y414)] RG e416.r ?_
          refine wpa_grp 2 [true, true, true, true, true, true, true, true, true, false, false] [(6, vp b3 0), (91, Value.agg #[vi y215.1.number, vy y215.1.role, vi y215.1.steps, vi y215.1.alone, vi y215.1.stage, vi y215.1.cycle, vs A215_0_input y215.1.input c215_0_input, vb y215.1.fresh, vb y215.1.isHeard, vy y215.1.heard.role, vi y215.1.heard.steps, vi y215.1.heard.want.base, vi y215.1.heard.want.have_, vs A215_0_heard_input y215.1.heard.input c215_0_heard_input, vb y215.1.stepped, vy y215.1.told.lateral, vy y215.1.told.vertical, vy y215.1.told.phase, vi y215.1.told.bank, vi y215.1.told.speed, vi y215.1.told.alt, vi y215.1.told.vs]), (99, vb (y414 && (y12.2.2 == y215.2.2)))] (fun hk4 => ?_) ?_
          · refine wpq_split 95 (b := y414) (by kernel_rfl) (fun q417 => ?_) (fun q417 => ?_)
            · refine xT 2 [5, 6, 7, 8] [] [some 0, some 1, some 2, some 3, some 5, some 6] [(6, vp b3 0), (91, Value.agg #[vi y215.1.number, vy y215.1.role, vi y215.1.steps, vi y215.1.alone, vi y215.1.stage, vi y215.1.cycle, vs A215_0_input y215.1.input c215_0_input, vb y215.1.fresh, vb y215.1.isHeard, vy y215.1.heard.role, vi y215.1.heard.steps, vi y215.1.heard.want.base, vi y215.1.heard.want.have_, vs A215_0_heard_input y215.1.heard.input c215_0_heard_input, vb y215.1.stepped, vy y215.1.told.lateral, vy y215.1.told.vertical, vy y215.1.told.phase, vi y215.1.told.bank, vi y215.1.told.speed, vi y215.1.told.alt, vi y215.1.told.vs]), (99, vb (y12.2.2 == y215.2.2))] RG e416.r ?_
              refine wpq_re 99 (v := vb (y12.2.2 == y215.2.2)) (Value.bool ((y414 && (y12.2.2 == y215.2.2)))) (by kernel_rfl) (re_and1 q417) ?_
              exact wpq_sub _ (by kernel_rfl) hk4
            · refine xT 2 [5, 6, 7, 8] [] [some 0, some 1, some 2, some 3, some 5, some 6] [(6, vp b3 0), (91, Value.agg #[vi y215.1.number, vy y215.1.role, vi y215.1.steps, vi y215.1.alone, vi y215.1.stage, vi y215.1.cycle, vs A215_0_input y215.1.input c215_0_input, vb y215.1.fresh, vb y215.1.isHeard, vy y215.1.heard.role, vi y215.1.heard.steps, vi y215.1.heard.want.base, vi y215.1.heard.want.have_, vs A215_0_heard_input y215.1.heard.input c215_0_heard_input, vb y215.1.stepped, vy y215.1.told.lateral, vy y215.1.told.vertical, vy y215.1.told.phase, vi y215.1.told.bank, vi y215.1.told.speed, vi y215.1.told.alt, vi y215.1.told.vs]), (99, vb false)] RG e416.r ?_
              refine wpq_re 99 (v := vb false) (Value.bool ((y414 && (y12.2.2 == y215.2.2)))) (by kernel_rfl) (re_and0 q417) ?_
              exact wpq_sub _ (by kernel_rfl) hk4
          · refine xO1 (lds := [0, 1, 2]) 9 ?_
            refine xId (lds := [0, 1, 2]) e416.r (eStL b3 0 4) ?_
            rintro _ _ _ - ⟨rfl, rfl⟩
            refine kk [some 0, some 1, some 2, some 3, some 5, some 6] ?_
            refine xT 0 [10] [] [some 0, some 1, some 2, some 3, some 5, some 6] [(6, vp b3 0), (7, vb (y414 && (y12.2.2 == y215.2.2)))] RG e416.r ?_
            refine xAe (lds := [0, 1, 2]) ?_
            refine wpq_then ?_
            have f12_n_input := f12_n_input.mono (e413.trans e416).b
            have f12_n_heard_input := f12_n_heard_input.mono (e413.trans e416).b
            have f12_n_set__in_ := f12_n_set__in_.mono (e413.trans e416).b
            have f215_0_input := f215_0_input.mono e416.b
            have f215_0_heard_input := f215_0_heard_input.mono e416.b
            have eS := (Option.some.inj hS).symm
            subst eS
            exact xRetC [some 3] [(6, 4)] (e6.trans (e210.trans (e413.trans e416))) ⟨A12_n_input, c12_n_input, A12_n_heard_input, c12_n_heard_input, A12_n_set__in_, c12_n_set__in_, A215_0_input, c215_0_input, A215_0_heard_input, c215_0_heard_input, by kernel_rfl, by kernel_rfl, f12_n_input, f12_n_heard_input, f12_n_set__in_, f215_0_input, f215_0_heard_input⟩ (fun _ _ h => h)
        · refine xO3 (lds := [0, 2, 4, 8, 11]) 5 18 19 ?_ ?_ ?_
          · have fc_input := fc_input.mono (e6.trans e210).b
            refine xIe (lds := [0, 2, 4, 8, 11]) (Psi.le.refl _) (eC 0 (fun g' lr eb ln => c14 g' (c.input : List UInt8) Ac_input cc_input (404 : Int) (by rw [eb]; exact fc_input) hy212)) ?_
            rintro _ g419 _ e420 ⟨_, rfl, A212_0, c212_0, rfl, rfl, f212_0⟩
            refine kk [some 0, some 1, some 2, some 3, some 4] ?_
            have nf212_0 := f212_0.len
            refine xO3 (lds := [0, 2, 4, 8, 11]) 13 18 19 ?_ ?_ ?_
            · have fm_input := fm_input.mono (e6.trans (e210.trans e420)).b
              have fm_heard_input := fm_heard_input.mono (e6.trans (e210.trans e420)).b
              refine xIe (lds := [0, 2, 4, 8, 11]) e420.r (eC 0 (fun g' lr eb ln => c59 g' m Am_input cm_input Am_heard_input cm_heard_input (c.cycle : Int) (y212 : List UInt8) A212_0 c212_0 c.want (by rw [eb]; exact fm_input) (by rw [eb]; exact fm_heard_input) ((f212_0.mono g419.br).mono lr) hy215)) ?_
              rintro _ g422 _ e423 ⟨_, rfl, A215_0_input, c215_0_input, A215_0_heard_input, c215_0_heard_input, A215_1_payload, c215_1_payload, rfl, rfl, f215_0_input, f215_0_heard_input, f215_1_payload⟩
              refine kk [some 0, some 1, some 2, some 3, some 4] ?_
              have nf215_0_input := f215_0_input.len
              have nf215_0_heard_input := f215_0_heard_input.len
              have nf215_1_payload := f215_1_payload.len
              refine xT 5 [14, 15, 16, 17] [] [some 0, some 1, some 2, some 3, some 4] [(6, vp b3 0), (9, vp b15 0), (10, vi y12.2.2), (88, Value.agg #[vi y215.1.number, vy y215.1.role, vi y215.1.steps, vi y215.1.alone, vi y215.1.stage, vi y215.1.cycle, vs A215_0_input y215.1.input c215_0_input, vb y215.1.fresh, vb y215.1.isHeard, vy y215.1.heard.role, vi y215.1.heard.steps, vi y215.1.heard.want.base, vi y215.1.heard.want.have_, vs A215_0_heard_input y215.1.heard.input c215_0_heard_input, vb y215.1.stepped, vy y215.1.told.lateral, vy y215.1.told.vertical, vy y215.1.told.phase, vi y215.1.told.bank, vi y215.1.told.speed, vi y215.1.told.alt, vi y215.1.told.vs]), (89, Value.agg #[vy y215.2.1.label, vy y215.2.1.from_, vi y215.2.1.cycle, vs A215_1_payload y215.2.1.payload c215_1_payload]), (90, vi y215.2.2)] RG (e420.trans e423).r ?_
              refine xO2 (lds := [0, 2, 4, 8, 11]) 18 19 ?_ ?_
              · refine xIe (lds := [0, 2, 4, 8, 11]) (e420.trans e423).r eB ?_
                rintro _ _ _ - ⟨b424, rfl, rfl, rfl⟩
                refine kk [some 1, some 2, some 3, some 4, some 5] ?_
                refine xO1 (lds := [0, 2, 4, 8, 11]) 19 ?_
                refine xIe (lds := [0, 2, 4, 8, 11]) (e420.trans e423).r eB ?_
                rintro _ _ _ - ⟨b425, rfl, rfl, rfl⟩
                refine kk [some 2, some 3, some 4, some 5, some 6] ?_
                refine xO1 (lds := [0, 2, 4, 8, 11]) 20 ?_
                refine xId (lds := [0, 2, 4, 8, 11]) (e420.trans e423).r (eStL b424 0 1) ?_
                rintro _ _ _ - ⟨rfl, rfl⟩
                refine kf ?_
                refine xO1 (lds := [0, 2, 4, 8, 11]) 21 ?_
                refine xId (lds := [0, 2, 4, 8, 11]) (e420.trans e423).r (eStL b425 0 0) ?_
                rintro _ _ _ - ⟨rfl, rfl⟩
                refine kf ?_
                refine xSub [(6, vp b3 0), (9, vp b15 0), (10, vi y12.2.2), (11, vp b424 0), (12, vp b425 0), (90, vi y215.2.2)] ?_
                exact hD211 _ _ _ (e420.trans e423) ⟨A215_0_input, c215_0_input, A215_0_heard_input, c215_0_heard_input, A215_1_payload, c215_1_payload, b424, b425, by kernel_rfl, by kernel_rfl, f215_1_payload, f215_0_input, f215_0_heard_input⟩
              · refine xIe (lds := [0, 2, 4, 8, 11]) (e420.trans e423).r eB ?_
                rintro _ _ _ - ⟨b426, rfl, rfl, rfl⟩
                refine kk [some 1, some 2, some 3, some 4, some 5] ?_
                refine xO1 (lds := [0, 2, 4, 8, 11]) 18 ?_
                refine xIe (lds := [0, 2, 4, 8, 11]) (e420.trans e423).r eB ?_
                rintro _ _ _ - ⟨b427, rfl, rfl, rfl⟩
                refine kk [some 2, some 3, some 4, some 5, some 6] ?_
                refine xO1 (lds := [0, 2, 4, 8, 11]) 20 ?_
                refine xId (lds := [0, 2, 4, 8, 11]) (e420.trans e423).r (eStL b427 0 0) ?_
                rintro _ _ _ - ⟨rfl, rfl⟩
                refine kf ?_
                refine xO1 (lds := [0, 2, 4, 8, 11]) 21 ?_
                refine xId (lds := [0, 2, 4, 8, 11]) (e420.trans e423).r (eStL b426 0 1) ?_
                rintro _ _ _ - ⟨rfl, rfl⟩
                refine kf ?_
                refine xSel [some 1, some 0, some 2, some 3, some 4, some 5, some 6] ?_
                refine xSub [(6, vp b3 0), (9, vp b15 0), (10, vi y12.2.2), (11, vp b427 0), (12, vp b426 0), (90, vi y215.2.2)] ?_
                exact hD211 _ _ _ (e420.trans e423) ⟨A215_0_input, c215_0_input, A215_0_heard_input, c215_0_heard_input, A215_1_payload, c215_1_payload, b427, b426, by kernel_rfl, by kernel_rfl, f215_1_payload, f215_0_input, f215_0_heard_input⟩
            · refine xIe (lds := [0, 2, 4, 8, 11]) e420.r eB ?_
              rintro _ _ _ - ⟨b428, rfl, rfl, rfl⟩
              refine kk [some 1, some 2, some 3, some 4, some 5] ?_
              refine xO2 (lds := [0, 2, 4, 8, 11]) 13 19 ?_ ?_
              · have fm_input := fm_input.mono (e6.trans (e210.trans e420)).b
                have fm_heard_input := fm_heard_input.mono (e6.trans (e210.trans e420)).b
                refine xIe (lds := [0, 2, 4, 8, 11]) e420.r (eC 0 (fun g' lr eb ln => c59 g' m Am_input cm_input Am_heard_input cm_heard_input (c.cycle : Int) (y212 : List UInt8) A212_0 c212_0 c.want (by rw [eb]; exact fm_input) (by rw [eb]; exact fm_heard_input) ((f212_0.mono g419.br).mono lr) hy215)) ?_
                rintro _ g430 _ e431 ⟨_, rfl, A215_0_input, c215_0_input, A215_0_heard_input, c215_0_heard_input, A215_1_payload, c215_1_payload, rfl, rfl, f215_0_input, f215_0_heard_input, f215_1_payload⟩
                refine kk [some 1, some 2, some 3, some 4, some 5] ?_
                have nf215_0_input := f215_0_input.len
                have nf215_0_heard_input := f215_0_heard_input.len
                have nf215_1_payload := f215_1_payload.len
                refine xT 4 [14, 15, 16, 17] [] [some 1, some 2, some 3, some 4, some 5] [(6, vp b3 0), (9, vp b15 0), (10, vi y12.2.2), (11, vp b428 0), (88, Value.agg #[vi y215.1.number, vy y215.1.role, vi y215.1.steps, vi y215.1.alone, vi y215.1.stage, vi y215.1.cycle, vs A215_0_input y215.1.input c215_0_input, vb y215.1.fresh, vb y215.1.isHeard, vy y215.1.heard.role, vi y215.1.heard.steps, vi y215.1.heard.want.base, vi y215.1.heard.want.have_, vs A215_0_heard_input y215.1.heard.input c215_0_heard_input, vb y215.1.stepped, vy y215.1.told.lateral, vy y215.1.told.vertical, vy y215.1.told.phase, vi y215.1.told.bank, vi y215.1.told.speed, vi y215.1.told.alt, vi y215.1.told.vs]), (89, Value.agg #[vy y215.2.1.label, vy y215.2.1.from_, vi y215.2.1.cycle, vs A215_1_payload y215.2.1.payload c215_1_payload]), (90, vi y215.2.2)] RG (e420.trans e431).r ?_
                refine xO1 (lds := [0, 2, 4, 8, 11]) 19 ?_
                refine xIe (lds := [0, 2, 4, 8, 11]) (e420.trans e431).r eB ?_
                rintro _ _ _ - ⟨b432, rfl, rfl, rfl⟩
                refine kk [some 2, some 3, some 4, some 5, some 6] ?_
                refine xO1 (lds := [0, 2, 4, 8, 11]) 20 ?_
                refine xId (lds := [0, 2, 4, 8, 11]) (e420.trans e431).r (eStL b428 0 1) ?_
                rintro _ _ _ - ⟨rfl, rfl⟩
                refine kf ?_
                refine xO1 (lds := [0, 2, 4, 8, 11]) 21 ?_
                refine xId (lds := [0, 2, 4, 8, 11]) (e420.trans e431).r (eStL b432 0 0) ?_
                rintro _ _ _ - ⟨rfl, rfl⟩
                refine kf ?_
                refine xSub [(6, vp b3 0), (9, vp b15 0), (10, vi y12.2.2), (11, vp b428 0), (12, vp b432 0), (90, vi y215.2.2)] ?_
                exact hD211 _ _ _ (e420.trans e431) ⟨A215_0_input, c215_0_input, A215_0_heard_input, c215_0_heard_input, A215_1_payload, c215_1_payload, b428, b432, by kernel_rfl, by kernel_rfl, f215_1_payload, f215_0_input, f215_0_heard_input⟩
              · refine xIe (lds := [0, 2, 4, 8, 11]) e420.r eB ?_
                rintro _ _ _ - ⟨b433, rfl, rfl, rfl⟩
                refine kk [some 2, some 3, some 4, some 5, some 6] ?_
                have fm_input := fm_input.mono (e6.trans (e210.trans e420)).b
                have fm_heard_input := fm_heard_input.mono (e6.trans (e210.trans e420)).b
                refine xO1 (lds := [0, 2, 4, 8, 11]) 13 ?_
                refine xIe (lds := [0, 2, 4, 8, 11]) e420.r (eC 0 (fun g' lr eb ln => c59 g' m Am_input cm_input Am_heard_input cm_heard_input (c.cycle : Int) (y212 : List UInt8) A212_0 c212_0 c.want (by rw [eb]; exact fm_input) (by rw [eb]; exact fm_heard_input) ((f212_0.mono g419.br).mono lr) hy215)) ?_
                rintro _ g435 _ e436 ⟨_, rfl, A215_0_input, c215_0_input, A215_0_heard_input, c215_0_heard_input, A215_1_payload, c215_1_payload, rfl, rfl, f215_0_input, f215_0_heard_input, f215_1_payload⟩
                refine kk [some 2, some 3, some 4, some 5, some 6] ?_
                have nf215_0_input := f215_0_input.len
                have nf215_0_heard_input := f215_0_heard_input.len
                have nf215_1_payload := f215_1_payload.len
                refine xT 3 [14, 15, 16, 17] [] [some 2, some 3, some 4, some 5, some 6] [(6, vp b3 0), (9, vp b15 0), (10, vi y12.2.2), (11, vp b428 0), (12, vp b433 0), (88, Value.agg #[vi y215.1.number, vy y215.1.role, vi y215.1.steps, vi y215.1.alone, vi y215.1.stage, vi y215.1.cycle, vs A215_0_input y215.1.input c215_0_input, vb y215.1.fresh, vb y215.1.isHeard, vy y215.1.heard.role, vi y215.1.heard.steps, vi y215.1.heard.want.base, vi y215.1.heard.want.have_, vs A215_0_heard_input y215.1.heard.input c215_0_heard_input, vb y215.1.stepped, vy y215.1.told.lateral, vy y215.1.told.vertical, vy y215.1.told.phase, vi y215.1.told.bank, vi y215.1.told.speed, vi y215.1.told.alt, vi y215.1.told.vs]), (89, Value.agg #[vy y215.2.1.label, vy y215.2.1.from_, vi y215.2.1.cycle, vs A215_1_payload y215.2.1.payload c215_1_payload]), (90, vi y215.2.2)] RG (e420.trans e436).r ?_
                refine xO1 (lds := [0, 2, 4, 8, 11]) 20 ?_
                refine xId (lds := [0, 2, 4, 8, 11]) (e420.trans e436).r (eStL b428 0 1) ?_
                rintro _ _ _ - ⟨rfl, rfl⟩
                refine kf ?_
                refine xO1 (lds := [0, 2, 4, 8, 11]) 21 ?_
                refine xId (lds := [0, 2, 4, 8, 11]) (e420.trans e436).r (eStL b433 0 0) ?_
                rintro _ _ _ - ⟨rfl, rfl⟩
                refine kf ?_
                refine xSub [(6, vp b3 0), (9, vp b15 0), (10, vi y12.2.2), (11, vp b428 0), (12, vp b433 0), (90, vi y215.2.2)] ?_
                exact hD211 _ _ _ (e420.trans e436) ⟨A215_0_input, c215_0_input, A215_0_heard_input, c215_0_heard_input, A215_1_payload, c215_1_payload, b428, b433, by kernel_rfl, by kernel_rfl, f215_1_payload, f215_0_input, f215_0_heard_input⟩
            · refine xIe (lds := [0, 2, 4, 8, 11]) e420.r eB ?_
              rintro _ _ _ - ⟨b437, rfl, rfl, rfl⟩
              refine kk [some 1, some 2, some 3, some 4, some 5] ?_
              refine xO2 (lds := [0, 2, 4, 8, 11]) 13 18 ?_ ?_
              · have fm_input := fm_input.mono (e6.trans (e210.trans e420)).b
                have fm_heard_input := fm_heard_input.mono (e6.trans (e210.trans e420)).b
                refine xIe (lds := [0, 2, 4, 8, 11]) e420.r (eC 0 (fun g' lr eb ln => c59 g' m Am_input cm_input Am_heard_input cm_heard_input (c.cycle : Int) (y212 : List UInt8) A212_0 c212_0 c.want (by rw [eb]; exact fm_input) (by rw [eb]; exact fm_heard_input) ((f212_0.mono g419.br).mono lr) hy215)) ?_
                rintro _ g439 _ e440 ⟨_, rfl, A215_0_input, c215_0_input, A215_0_heard_input, c215_0_heard_input, A215_1_payload, c215_1_payload, rfl, rfl, f215_0_input, f215_0_heard_input, f215_1_payload⟩
                refine kk [some 1, some 2, some 3, some 4, some 5] ?_
                have nf215_0_input := f215_0_input.len
                have nf215_0_heard_input := f215_0_heard_input.len
                have nf215_1_payload := f215_1_payload.len
                refine xT 4 [14, 15, 16, 17] [] [some 1, some 2, some 3, some 4, some 5] [(6, vp b3 0), (9, vp b15 0), (10, vi y12.2.2), (12, vp b437 0), (88, Value.agg #[vi y215.1.number, vy y215.1.role, vi y215.1.steps, vi y215.1.alone, vi y215.1.stage, vi y215.1.cycle, vs A215_0_input y215.1.input c215_0_input, vb y215.1.fresh, vb y215.1.isHeard, vy y215.1.heard.role, vi y215.1.heard.steps, vi y215.1.heard.want.base, vi y215.1.heard.want.have_, vs A215_0_heard_input y215.1.heard.input c215_0_heard_input, vb y215.1.stepped, vy y215.1.told.lateral, vy y215.1.told.vertical, vy y215.1.told.phase, vi y215.1.told.bank, vi y215.1.told.speed, vi y215.1.told.alt, vi y215.1.told.vs]), (89, Value.agg #[vy y215.2.1.label, vy y215.2.1.from_, vi y215.2.1.cycle, vs A215_1_payload y215.2.1.payload c215_1_payload]), (90, vi y215.2.2)] RG (e420.trans e440).r ?_
                refine xO1 (lds := [0, 2, 4, 8, 11]) 18 ?_
                refine xIe (lds := [0, 2, 4, 8, 11]) (e420.trans e440).r eB ?_
                rintro _ _ _ - ⟨b441, rfl, rfl, rfl⟩
                refine kk [some 2, some 3, some 4, some 5, some 6] ?_
                refine xO1 (lds := [0, 2, 4, 8, 11]) 20 ?_
                refine xId (lds := [0, 2, 4, 8, 11]) (e420.trans e440).r (eStL b441 0 0) ?_
                rintro _ _ _ - ⟨rfl, rfl⟩
                refine kf ?_
                refine xO1 (lds := [0, 2, 4, 8, 11]) 21 ?_
                refine xId (lds := [0, 2, 4, 8, 11]) (e420.trans e440).r (eStL b437 0 1) ?_
                rintro _ _ _ - ⟨rfl, rfl⟩
                refine kf ?_
                refine xSel [some 1, some 0, some 2, some 3, some 4, some 5, some 6] ?_
                refine xSub [(6, vp b3 0), (9, vp b15 0), (10, vi y12.2.2), (11, vp b441 0), (12, vp b437 0), (90, vi y215.2.2)] ?_
                exact hD211 _ _ _ (e420.trans e440) ⟨A215_0_input, c215_0_input, A215_0_heard_input, c215_0_heard_input, A215_1_payload, c215_1_payload, b441, b437, by kernel_rfl, by kernel_rfl, f215_1_payload, f215_0_input, f215_0_heard_input⟩
              · refine xIe (lds := [0, 2, 4, 8, 11]) e420.r eB ?_
                rintro _ _ _ - ⟨b442, rfl, rfl, rfl⟩
                refine kk [some 2, some 3, some 4, some 5, some 6] ?_
                have fm_input := fm_input.mono (e6.trans (e210.trans e420)).b
                have fm_heard_input := fm_heard_input.mono (e6.trans (e210.trans e420)).b
                refine xO1 (lds := [0, 2, 4, 8, 11]) 13 ?_
                refine xIe (lds := [0, 2, 4, 8, 11]) e420.r (eC 0 (fun g' lr eb ln => c59 g' m Am_input cm_input Am_heard_input cm_heard_input (c.cycle : Int) (y212 : List UInt8) A212_0 c212_0 c.want (by rw [eb]; exact fm_input) (by rw [eb]; exact fm_heard_input) ((f212_0.mono g419.br).mono lr) hy215)) ?_
                rintro _ g444 _ e445 ⟨_, rfl, A215_0_input, c215_0_input, A215_0_heard_input, c215_0_heard_input, A215_1_payload, c215_1_payload, rfl, rfl, f215_0_input, f215_0_heard_input, f215_1_payload⟩
                refine kk [some 2, some 3, some 4, some 5, some 6] ?_
                have nf215_0_input := f215_0_input.len
                have nf215_0_heard_input := f215_0_heard_input.len
                have nf215_1_payload := f215_1_payload.len
                refine xT 3 [14, 15, 16, 17] [] [some 2, some 3, some 4, some 5, some 6] [(6, vp b3 0), (9, vp b15 0), (10, vi y12.2.2), (11, vp b442 0), (12, vp b437 0), (88, Value.agg #[vi y215.1.number, vy y215.1.role, vi y215.1.steps, vi y215.1.alone, vi y215.1.stage, vi y215.1.cycle, vs A215_0_input y215.1.input c215_0_input, vb y215.1.fresh, vb y215.1.isHeard, vy y215.1.heard.role, vi y215.1.heard.steps, vi y215.1.heard.want.base, vi y215.1.heard.want.have_, vs A215_0_heard_input y215.1.heard.input c215_0_heard_input, vb y215.1.stepped, vy y215.1.told.lateral, vy y215.1.told.vertical, vy y215.1.told.phase, vi y215.1.told.bank, vi y215.1.told.speed, vi y215.1.told.alt, vi y215.1.told.vs]), (89, Value.agg #[vy y215.2.1.label, vy y215.2.1.from_, vi y215.2.1.cycle, vs A215_1_payload y215.2.1.payload c215_1_payload]), (90, vi y215.2.2)] RG (e420.trans e445).r ?_
                refine xO1 (lds := [0, 2, 4, 8, 11]) 20 ?_
                refine xId (lds := [0, 2, 4, 8, 11]) (e420.trans e445).r (eStL b442 0 0) ?_
                rintro _ _ _ - ⟨rfl, rfl⟩
                refine kf ?_
                refine xO1 (lds := [0, 2, 4, 8, 11]) 21 ?_
                refine xId (lds := [0, 2, 4, 8, 11]) (e420.trans e445).r (eStL b437 0 1) ?_
                rintro _ _ _ - ⟨rfl, rfl⟩
                refine kf ?_
                refine xSel [some 1, some 0, some 2, some 3, some 4, some 5, some 6] ?_
                refine xSub [(6, vp b3 0), (9, vp b15 0), (10, vi y12.2.2), (11, vp b442 0), (12, vp b437 0), (90, vi y215.2.2)] ?_
                exact hD211 _ _ _ (e420.trans e445) ⟨A215_0_input, c215_0_input, A215_0_heard_input, c215_0_heard_input, A215_1_payload, c215_1_payload, b442, b437, by kernel_rfl, by kernel_rfl, f215_1_payload, f215_0_input, f215_0_heard_input⟩
          · refine xIe (lds := [0, 2, 4, 8, 11]) (Psi.le.refl _) eB ?_
            rintro _ _ _ - ⟨b446, rfl, rfl, rfl⟩
            refine kk [some 1, some 2, some 3, some 4, some 5] ?_
            refine xO2 (lds := [0, 2, 4, 8, 11]) 5 19 ?_ ?_
            · have fc_input := fc_input.mono (e6.trans e210).b
              refine xIe (lds := [0, 2, 4, 8, 11]) (Psi.le.refl _) (eC 0 (fun g' lr eb ln => c14 g' (c.input : List UInt8) Ac_input cc_input (404 : Int) (by rw [eb]; exact fc_input) hy212)) ?_
              rintro _ g448 _ e449 ⟨_, rfl, A212_0, c212_0, rfl, rfl, f212_0⟩
              refine kk [some 1, some 2, some 3, some 4, some 5] ?_
              have nf212_0 := f212_0.len
              refine xO2 (lds := [0, 2, 4, 8, 11]) 13 19 ?_ ?_
              · have fm_input := fm_input.mono (e6.trans (e210.trans e449)).b
                have fm_heard_input := fm_heard_input.mono (e6.trans (e210.trans e449)).b
                refine xIe (lds := [0, 2, 4, 8, 11]) e449.r (eC 0 (fun g' lr eb ln => c59 g' m Am_input cm_input Am_heard_input cm_heard_input (c.cycle : Int) (y212 : List UInt8) A212_0 c212_0 c.want (by rw [eb]; exact fm_input) (by rw [eb]; exact fm_heard_input) ((f212_0.mono g448.br).mono lr) hy215)) ?_
                rintro _ g451 _ e452 ⟨_, rfl, A215_0_input, c215_0_input, A215_0_heard_input, c215_0_heard_input, A215_1_payload, c215_1_payload, rfl, rfl, f215_0_input, f215_0_heard_input, f215_1_payload⟩
                refine kk [some 1, some 2, some 3, some 4, some 5] ?_
                have nf215_0_input := f215_0_input.len
                have nf215_0_heard_input := f215_0_heard_input.len
                have nf215_1_payload := f215_1_payload.len
                refine xT 4 [14, 15, 16, 17] [] [some 1, some 2, some 3, some 4, some 5] [(6, vp b3 0), (9, vp b15 0), (10, vi y12.2.2), (11, vp b446 0), (88, Value.agg #[vi y215.1.number, vy y215.1.role, vi y215.1.steps, vi y215.1.alone, vi y215.1.stage, vi y215.1.cycle, vs A215_0_input y215.1.input c215_0_input, vb y215.1.fresh, vb y215.1.isHeard, vy y215.1.heard.role, vi y215.1.heard.steps, vi y215.1.heard.want.base, vi y215.1.heard.want.have_, vs A215_0_heard_input y215.1.heard.input c215_0_heard_input, vb y215.1.stepped, vy y215.1.told.lateral, vy y215.1.told.vertical, vy y215.1.told.phase, vi y215.1.told.bank, vi y215.1.told.speed, vi y215.1.told.alt, vi y215.1.told.vs]), (89, Value.agg #[vy y215.2.1.label, vy y215.2.1.from_, vi y215.2.1.cycle, vs A215_1_payload y215.2.1.payload c215_1_payload]), (90, vi y215.2.2)] RG (e449.trans e452).r ?_
                refine xO1 (lds := [0, 2, 4, 8, 11]) 19 ?_
                refine xIe (lds := [0, 2, 4, 8, 11]) (e449.trans e452).r eB ?_
                rintro _ _ _ - ⟨b453, rfl, rfl, rfl⟩
                refine kk [some 2, some 3, some 4, some 5, some 6] ?_
                refine xO1 (lds := [0, 2, 4, 8, 11]) 20 ?_
                refine xId (lds := [0, 2, 4, 8, 11]) (e449.trans e452).r (eStL b446 0 1) ?_
                rintro _ _ _ - ⟨rfl, rfl⟩
                refine kf ?_
                refine xO1 (lds := [0, 2, 4, 8, 11]) 21 ?_
                refine xId (lds := [0, 2, 4, 8, 11]) (e449.trans e452).r (eStL b453 0 0) ?_
                rintro _ _ _ - ⟨rfl, rfl⟩
                refine kf ?_
                refine xSub [(6, vp b3 0), (9, vp b15 0), (10, vi y12.2.2), (11, vp b446 0), (12, vp b453 0), (90, vi y215.2.2)] ?_
                exact hD211 _ _ _ (e449.trans e452) ⟨A215_0_input, c215_0_input, A215_0_heard_input, c215_0_heard_input, A215_1_payload, c215_1_payload, b446, b453, by kernel_rfl, by kernel_rfl, f215_1_payload, f215_0_input, f215_0_heard_input⟩
              · refine xIe (lds := [0, 2, 4, 8, 11]) e449.r eB ?_
                rintro _ _ _ - ⟨b454, rfl, rfl, rfl⟩
                refine kk [some 2, some 3, some 4, some 5, some 6] ?_
                have fm_input := fm_input.mono (e6.trans (e210.trans e449)).b
                have fm_heard_input := fm_heard_input.mono (e6.trans (e210.trans e449)).b
                refine xO1 (lds := [0, 2, 4, 8, 11]) 13 ?_
                refine xIe (lds := [0, 2, 4, 8, 11]) e449.r (eC 0 (fun g' lr eb ln => c59 g' m Am_input cm_input Am_heard_input cm_heard_input (c.cycle : Int) (y212 : List UInt8) A212_0 c212_0 c.want (by rw [eb]; exact fm_input) (by rw [eb]; exact fm_heard_input) ((f212_0.mono g448.br).mono lr) hy215)) ?_
                rintro _ g456 _ e457 ⟨_, rfl, A215_0_input, c215_0_input, A215_0_heard_input, c215_0_heard_input, A215_1_payload, c215_1_payload, rfl, rfl, f215_0_input, f215_0_heard_input, f215_1_payload⟩
                refine kk [some 2, some 3, some 4, some 5, some 6] ?_
                have nf215_0_input := f215_0_input.len
                have nf215_0_heard_input := f215_0_heard_input.len
                have nf215_1_payload := f215_1_payload.len
                refine xT 3 [14, 15, 16, 17] [] [some 2, some 3, some 4, some 5, some 6] [(6, vp b3 0), (9, vp b15 0), (10, vi y12.2.2), (11, vp b446 0), (12, vp b454 0), (88, Value.agg #[vi y215.1.number, vy y215.1.role, vi y215.1.steps, vi y215.1.alone, vi y215.1.stage, vi y215.1.cycle, vs A215_0_input y215.1.input c215_0_input, vb y215.1.fresh, vb y215.1.isHeard, vy y215.1.heard.role, vi y215.1.heard.steps, vi y215.1.heard.want.base, vi y215.1.heard.want.have_, vs A215_0_heard_input y215.1.heard.input c215_0_heard_input, vb y215.1.stepped, vy y215.1.told.lateral, vy y215.1.told.vertical, vy y215.1.told.phase, vi y215.1.told.bank, vi y215.1.told.speed, vi y215.1.told.alt, vi y215.1.told.vs]), (89, Value.agg #[vy y215.2.1.label, vy y215.2.1.from_, vi y215.2.1.cycle, vs A215_1_payload y215.2.1.payload c215_1_payload]), (90, vi y215.2.2)] RG (e449.trans e457).r ?_
                refine xO1 (lds := [0, 2, 4, 8, 11]) 20 ?_
                refine xId (lds := [0, 2, 4, 8, 11]) (e449.trans e457).r (eStL b446 0 1) ?_
                rintro _ _ _ - ⟨rfl, rfl⟩
                refine kf ?_
                refine xO1 (lds := [0, 2, 4, 8, 11]) 21 ?_
                refine xId (lds := [0, 2, 4, 8, 11]) (e449.trans e457).r (eStL b454 0 0) ?_
                rintro _ _ _ - ⟨rfl, rfl⟩
                refine kf ?_
                refine xSub [(6, vp b3 0), (9, vp b15 0), (10, vi y12.2.2), (11, vp b446 0), (12, vp b454 0), (90, vi y215.2.2)] ?_
                exact hD211 _ _ _ (e449.trans e457) ⟨A215_0_input, c215_0_input, A215_0_heard_input, c215_0_heard_input, A215_1_payload, c215_1_payload, b446, b454, by kernel_rfl, by kernel_rfl, f215_1_payload, f215_0_input, f215_0_heard_input⟩
            · refine xIe (lds := [0, 2, 4, 8, 11]) (Psi.le.refl _) eB ?_
              rintro _ _ _ - ⟨b458, rfl, rfl, rfl⟩
              refine kk [some 2, some 3, some 4, some 5, some 6] ?_
              have fc_input := fc_input.mono (e6.trans e210).b
              refine xO1 (lds := [0, 2, 4, 8, 11]) 5 ?_
              refine xIe (lds := [0, 2, 4, 8, 11]) (Psi.le.refl _) (eC 0 (fun g' lr eb ln => c14 g' (c.input : List UInt8) Ac_input cc_input (404 : Int) (by rw [eb]; exact fc_input) hy212)) ?_
              rintro _ g460 _ e461 ⟨_, rfl, A212_0, c212_0, rfl, rfl, f212_0⟩
              refine kk [some 2, some 3, some 4, some 5, some 6] ?_
              have nf212_0 := f212_0.len
              have fm_input := fm_input.mono (e6.trans (e210.trans e461)).b
              have fm_heard_input := fm_heard_input.mono (e6.trans (e210.trans e461)).b
              refine xO1 (lds := [0, 2, 4, 8, 11]) 13 ?_
              refine xIe (lds := [0, 2, 4, 8, 11]) e461.r (eC 0 (fun g' lr eb ln => c59 g' m Am_input cm_input Am_heard_input cm_heard_input (c.cycle : Int) (y212 : List UInt8) A212_0 c212_0 c.want (by rw [eb]; exact fm_input) (by rw [eb]; exact fm_heard_input) ((f212_0.mono g460.br).mono lr) hy215)) ?_
              rintro _ g463 _ e464 ⟨_, rfl, A215_0_input, c215_0_input, A215_0_heard_input, c215_0_heard_input, A215_1_payload, c215_1_payload, rfl, rfl, f215_0_input, f215_0_heard_input, f215_1_payload⟩
              refine kk [some 2, some 3, some 4, some 5, some 6] ?_
              have nf215_0_input := f215_0_input.len
              have nf215_0_heard_input := f215_0_heard_input.len
              have nf215_1_payload := f215_1_payload.len
              refine xT 3 [14, 15, 16, 17] [] [some 2, some 3, some 4, some 5, some 6] [(6, vp b3 0), (9, vp b15 0), (10, vi y12.2.2), (11, vp b446 0), (12, vp b458 0), (88, Value.agg #[vi y215.1.number, vy y215.1.role, vi y215.1.steps, vi y215.1.alone, vi y215.1.stage, vi y215.1.cycle, vs A215_0_input y215.1.input c215_0_input, vb y215.1.fresh, vb y215.1.isHeard, vy y215.1.heard.role, vi y215.1.heard.steps, vi y215.1.heard.want.base, vi y215.1.heard.want.have_, vs A215_0_heard_input y215.1.heard.input c215_0_heard_input, vb y215.1.stepped, vy y215.1.told.lateral, vy y215.1.told.vertical, vy y215.1.told.phase, vi y215.1.told.bank, vi y215.1.told.speed, vi y215.1.told.alt, vi y215.1.told.vs]), (89, Value.agg #[vy y215.2.1.label, vy y215.2.1.from_, vi y215.2.1.cycle, vs A215_1_payload y215.2.1.payload c215_1_payload]), (90, vi y215.2.2)] RG (e461.trans e464).r ?_
              refine xO1 (lds := [0, 2, 4, 8, 11]) 20 ?_
              refine xId (lds := [0, 2, 4, 8, 11]) (e461.trans e464).r (eStL b446 0 1) ?_
              rintro _ _ _ - ⟨rfl, rfl⟩
              refine kf ?_
              refine xO1 (lds := [0, 2, 4, 8, 11]) 21 ?_
              refine xId (lds := [0, 2, 4, 8, 11]) (e461.trans e464).r (eStL b458 0 0) ?_
              rintro _ _ _ - ⟨rfl, rfl⟩
              refine kf ?_
              refine xSub [(6, vp b3 0), (9, vp b15 0), (10, vi y12.2.2), (11, vp b446 0), (12, vp b458 0), (90, vi y215.2.2)] ?_
              exact hD211 _ _ _ (e461.trans e464) ⟨A215_0_input, c215_0_input, A215_0_heard_input, c215_0_heard_input, A215_1_payload, c215_1_payload, b446, b458, by kernel_rfl, by kernel_rfl, f215_1_payload, f215_0_input, f215_0_heard_input⟩
          · refine xIe (lds := [0, 2, 4, 8, 11]) (Psi.le.refl _) eB ?_
            rintro _ _ _ - ⟨b465, rfl, rfl, rfl⟩
            refine kk [some 1, some 2, some 3, some 4, some 5] ?_
            refine xO2 (lds := [0, 2, 4, 8, 11]) 5 18 ?_ ?_
            · have fc_input := fc_input.mono (e6.trans e210).b
              refine xIe (lds := [0, 2, 4, 8, 11]) (Psi.le.refl _) (eC 0 (fun g' lr eb ln => c14 g' (c.input : List UInt8) Ac_input cc_input (404 : Int) (by rw [eb]; exact fc_input) hy212)) ?_
              rintro _ g467 _ e468 ⟨_, rfl, A212_0, c212_0, rfl, rfl, f212_0⟩
              refine kk [some 1, some 2, some 3, some 4, some 5] ?_
              have nf212_0 := f212_0.len
              refine xO2 (lds := [0, 2, 4, 8, 11]) 13 18 ?_ ?_
              · have fm_input := fm_input.mono (e6.trans (e210.trans e468)).b
                have fm_heard_input := fm_heard_input.mono (e6.trans (e210.trans e468)).b
                refine xIe (lds := [0, 2, 4, 8, 11]) e468.r (eC 0 (fun g' lr eb ln => c59 g' m Am_input cm_input Am_heard_input cm_heard_input (c.cycle : Int) (y212 : List UInt8) A212_0 c212_0 c.want (by rw [eb]; exact fm_input) (by rw [eb]; exact fm_heard_input) ((f212_0.mono g467.br).mono lr) hy215)) ?_
                rintro _ g470 _ e471 ⟨_, rfl, A215_0_input, c215_0_input, A215_0_heard_input, c215_0_heard_input, A215_1_payload, c215_1_payload, rfl, rfl, f215_0_input, f215_0_heard_input, f215_1_payload⟩
                refine kk [some 1, some 2, some 3, some 4, some 5] ?_
                have nf215_0_input := f215_0_input.len
                have nf215_0_heard_input := f215_0_heard_input.len
                have nf215_1_payload := f215_1_payload.len
                refine xT 4 [14, 15, 16, 17] [] [some 1, some 2, some 3, some 4, some 5] [(6, vp b3 0), (9, vp b15 0), (10, vi y12.2.2), (12, vp b465 0), (88, Value.agg #[vi y215.1.number, vy y215.1.role, vi y215.1.steps, vi y215.1.alone, vi y215.1.stage, vi y215.1.cycle, vs A215_0_input y215.1.input c215_0_input, vb y215.1.fresh, vb y215.1.isHeard, vy y215.1.heard.role, vi y215.1.heard.steps, vi y215.1.heard.want.base, vi y215.1.heard.want.have_, vs A215_0_heard_input y215.1.heard.input c215_0_heard_input, vb y215.1.stepped, vy y215.1.told.lateral, vy y215.1.told.vertical, vy y215.1.told.phase, vi y215.1.told.bank, vi y215.1.told.speed, vi y215.1.told.alt, vi y215.1.told.vs]), (89, Value.agg #[vy y215.2.1.label, vy y215.2.1.from_, vi y215.2.1.cycle, vs A215_1_payload y215.2.1.payload c215_1_payload]), (90, vi y215.2.2)] RG (e468.trans e471).r ?_
                refine xO1 (lds := [0, 2, 4, 8, 11]) 18 ?_
                refine xIe (lds := [0, 2, 4, 8, 11]) (e468.trans e471).r eB ?_
                rintro _ _ _ - ⟨b472, rfl, rfl, rfl⟩
                refine kk [some 2, some 3, some 4, some 5, some 6] ?_
                refine xO1 (lds := [0, 2, 4, 8, 11]) 20 ?_
                refine xId (lds := [0, 2, 4, 8, 11]) (e468.trans e471).r (eStL b472 0 0) ?_
                rintro _ _ _ - ⟨rfl, rfl⟩
                refine kf ?_
                refine xO1 (lds := [0, 2, 4, 8, 11]) 21 ?_
                refine xId (lds := [0, 2, 4, 8, 11]) (e468.trans e471).r (eStL b465 0 1) ?_
                rintro _ _ _ - ⟨rfl, rfl⟩
                refine kf ?_
                refine xSel [some 1, some 0, some 2, some 3, some 4, some 5, some 6] ?_
                refine xSub [(6, vp b3 0), (9, vp b15 0), (10, vi y12.2.2), (11, vp b472 0), (12, vp b465 0), (90, vi y215.2.2)] ?_
                exact hD211 _ _ _ (e468.trans e471) ⟨A215_0_input, c215_0_input, A215_0_heard_input, c215_0_heard_input, A215_1_payload, c215_1_payload, b472, b465, by kernel_rfl, by kernel_rfl, f215_1_payload, f215_0_input, f215_0_heard_input⟩
              · refine xIe (lds := [0, 2, 4, 8, 11]) e468.r eB ?_
                rintro _ _ _ - ⟨b473, rfl, rfl, rfl⟩
                refine kk [some 2, some 3, some 4, some 5, some 6] ?_
                have fm_input := fm_input.mono (e6.trans (e210.trans e468)).b
                have fm_heard_input := fm_heard_input.mono (e6.trans (e210.trans e468)).b
                refine xO1 (lds := [0, 2, 4, 8, 11]) 13 ?_
                refine xIe (lds := [0, 2, 4, 8, 11]) e468.r (eC 0 (fun g' lr eb ln => c59 g' m Am_input cm_input Am_heard_input cm_heard_input (c.cycle : Int) (y212 : List UInt8) A212_0 c212_0 c.want (by rw [eb]; exact fm_input) (by rw [eb]; exact fm_heard_input) ((f212_0.mono g467.br).mono lr) hy215)) ?_
                rintro _ g475 _ e476 ⟨_, rfl, A215_0_input, c215_0_input, A215_0_heard_input, c215_0_heard_input, A215_1_payload, c215_1_payload, rfl, rfl, f215_0_input, f215_0_heard_input, f215_1_payload⟩
                refine kk [some 2, some 3, some 4, some 5, some 6] ?_
                have nf215_0_input := f215_0_input.len
                have nf215_0_heard_input := f215_0_heard_input.len
                have nf215_1_payload := f215_1_payload.len
                refine xT 3 [14, 15, 16, 17] [] [some 2, some 3, some 4, some 5, some 6] [(6, vp b3 0), (9, vp b15 0), (10, vi y12.2.2), (11, vp b473 0), (12, vp b465 0), (88, Value.agg #[vi y215.1.number, vy y215.1.role, vi y215.1.steps, vi y215.1.alone, vi y215.1.stage, vi y215.1.cycle, vs A215_0_input y215.1.input c215_0_input, vb y215.1.fresh, vb y215.1.isHeard, vy y215.1.heard.role, vi y215.1.heard.steps, vi y215.1.heard.want.base, vi y215.1.heard.want.have_, vs A215_0_heard_input y215.1.heard.input c215_0_heard_input, vb y215.1.stepped, vy y215.1.told.lateral, vy y215.1.told.vertical, vy y215.1.told.phase, vi y215.1.told.bank, vi y215.1.told.speed, vi y215.1.told.alt, vi y215.1.told.vs]), (89, Value.agg #[vy y215.2.1.label, vy y215.2.1.from_, vi y215.2.1.cycle, vs A215_1_payload y215.2.1.payload c215_1_payload]), (90, vi y215.2.2)] RG (e468.trans e476).r ?_
                refine xO1 (lds := [0, 2, 4, 8, 11]) 20 ?_
                refine xId (lds := [0, 2, 4, 8, 11]) (e468.trans e476).r (eStL b473 0 0) ?_
                rintro _ _ _ - ⟨rfl, rfl⟩
                refine kf ?_
                refine xO1 (lds := [0, 2, 4, 8, 11]) 21 ?_
                refine xId (lds := [0, 2, 4, 8, 11]) (e468.trans e476).r (eStL b465 0 1) ?_
                rintro _ _ _ - ⟨rfl, rfl⟩
                refine kf ?_
                refine xSel [some 1, some 0, some 2, some 3, some 4, some 5, some 6] ?_
                refine xSub [(6, vp b3 0), (9, vp b15 0), (10, vi y12.2.2), (11, vp b473 0), (12, vp b465 0), (90, vi y215.2.2)] ?_
                exact hD211 _ _ _ (e468.trans e476) ⟨A215_0_input, c215_0_input, A215_0_heard_input, c215_0_heard_input, A215_1_payload, c215_1_payload, b473, b465, by kernel_rfl, by kernel_rfl, f215_1_payload, f215_0_input, f215_0_heard_input⟩
            · refine xIe (lds := [0, 2, 4, 8, 11]) (Psi.le.refl _) eB ?_
              rintro _ _ _ - ⟨b477, rfl, rfl, rfl⟩
              refine kk [some 2, some 3, some 4, some 5, some 6] ?_
              have fc_input := fc_input.mono (e6.trans e210).b
              refine xO1 (lds := [0, 2, 4, 8, 11]) 5 ?_
              refine xIe (lds := [0, 2, 4, 8, 11]) (Psi.le.refl _) (eC 0 (fun g' lr eb ln => c14 g' (c.input : List UInt8) Ac_input cc_input (404 : Int) (by rw [eb]; exact fc_input) hy212)) ?_
              rintro _ g479 _ e480 ⟨_, rfl, A212_0, c212_0, rfl, rfl, f212_0⟩
              refine kk [some 2, some 3, some 4, some 5, some 6] ?_
              have nf212_0 := f212_0.len
              have fm_input := fm_input.mono (e6.trans (e210.trans e480)).b
              have fm_heard_input := fm_heard_input.mono (e6.trans (e210.trans e480)).b
              refine xO1 (lds := [0, 2, 4, 8, 11]) 13 ?_
              refine xIe (lds := [0, 2, 4, 8, 11]) e480.r (eC 0 (fun g' lr eb ln => c59 g' m Am_input cm_input Am_heard_input cm_heard_input (c.cycle : Int) (y212 : List UInt8) A212_0 c212_0 c.want (by rw [eb]; exact fm_input) (by rw [eb]; exact fm_heard_input) ((f212_0.mono g479.br).mono lr) hy215)) ?_
              rintro _ g482 _ e483 ⟨_, rfl, A215_0_input, c215_0_input, A215_0_heard_input, c215_0_heard_input, A215_1_payload, c215_1_payload, rfl, rfl, f215_0_input, f215_0_heard_input, f215_1_payload⟩
              refine kk [some 2, some 3, some 4, some 5, some 6] ?_
              have nf215_0_input := f215_0_input.len
              have nf215_0_heard_input := f215_0_heard_input.len
              have nf215_1_payload := f215_1_payload.len
              refine xT 3 [14, 15, 16, 17] [] [some 2, some 3, some 4, some 5, some 6] [(6, vp b3 0), (9, vp b15 0), (10, vi y12.2.2), (11, vp b477 0), (12, vp b465 0), (88, Value.agg #[vi y215.1.number, vy y215.1.role, vi y215.1.steps, vi y215.1.alone, vi y215.1.stage, vi y215.1.cycle, vs A215_0_input y215.1.input c215_0_input, vb y215.1.fresh, vb y215.1.isHeard, vy y215.1.heard.role, vi y215.1.heard.steps, vi y215.1.heard.want.base, vi y215.1.heard.want.have_, vs A215_0_heard_input y215.1.heard.input c215_0_heard_input, vb y215.1.stepped, vy y215.1.told.lateral, vy y215.1.told.vertical, vy y215.1.told.phase, vi y215.1.told.bank, vi y215.1.told.speed, vi y215.1.told.alt, vi y215.1.told.vs]), (89, Value.agg #[vy y215.2.1.label, vy y215.2.1.from_, vi y215.2.1.cycle, vs A215_1_payload y215.2.1.payload c215_1_payload]), (90, vi y215.2.2)] RG (e480.trans e483).r ?_
              refine xO1 (lds := [0, 2, 4, 8, 11]) 20 ?_
              refine xId (lds := [0, 2, 4, 8, 11]) (e480.trans e483).r (eStL b477 0 0) ?_
              rintro _ _ _ - ⟨rfl, rfl⟩
              refine kf ?_
              refine xO1 (lds := [0, 2, 4, 8, 11]) 21 ?_
              refine xId (lds := [0, 2, 4, 8, 11]) (e480.trans e483).r (eStL b465 0 1) ?_
              rintro _ _ _ - ⟨rfl, rfl⟩
              refine kf ?_
              refine xSel [some 1, some 0, some 2, some 3, some 4, some 5, some 6] ?_
              refine xSub [(6, vp b3 0), (9, vp b15 0), (10, vi y12.2.2), (11, vp b477 0), (12, vp b465 0), (90, vi y215.2.2)] ?_
              exact hD211 _ _ _ (e480.trans e483) ⟨A215_0_input, c215_0_input, A215_0_heard_input, c215_0_heard_input, A215_1_payload, c215_1_payload, b477, b465, by kernel_rfl, by kernel_rfl, f215_1_payload, f215_0_input, f215_0_heard_input⟩
      · refine xO2 (lds := [2, 4, 7]) 5 12 ?_ ?_
        · have fc_input := fc_input.mono e6.b
          refine xIe (lds := [2, 4, 7]) (Psi.le.refl _) (eC 0 (fun g' lr eb ln => c14 g' (c.input : List UInt8) Ac_input cc_input (404 : Int) (by rw [eb]; exact fc_input) hy9)) ?_
          rintro _ g485 _ e486 ⟨_, rfl, A9_0, c9_0, rfl, rfl, f9_0⟩
          refine kk [some 0, some 1, some 2] ?_
          have nf9_0 := f9_0.len
          refine xO2 (lds := [2, 4, 7]) 8 12 ?_ ?_
          · refine xSel [some 3, some 0, some 1, some 2] ?_
            have fn_input := fn_input.mono (e6.trans e486).b
            have fn_heard_input := fn_heard_input.mono (e6.trans e486).b
            have fn_set__in_ := fn_set__in_.mono (e6.trans e486).b
            refine xIe (lds := [2, 4, 7]) e486.r (eC 1 (fun g' lr eb ln => c46 g' b_n n An_input cn_input An_heard_input cn_heard_input An_set__in_ cn_set__in_ (c.cycle : Int) (y9 : List UInt8) A9_0 c9_0 c.want (by rw [eb]; exact fn_input) (by rw [eb]; exact fn_heard_input) (by rw [eb]; exact fn_set__in_) ((f9_0.mono g485.br).mono lr) hy12)) ?_
            rintro _ g488 _ e489 ⟨_, rfl, A12_n_input, c12_n_input, A12_n_heard_input, c12_n_heard_input, A12_n_set__in_, c12_n_set__in_, A12_0_payload, c12_0_payload, rfl, rfl, f12_n_input, f12_n_heard_input, f12_n_set__in_, f12_0_payload⟩
            refine kk [some 1, some 2, some 3] ?_
            have nf12_n_input := f12_n_input.len
            have nf12_n_heard_input := f12_n_heard_input.len
            have nf12_n_set__in_ := f12_n_set__in_.len
            have nf12_0_payload := f12_0_payload.len
            refine xT 3 [9, 10, 11] [] [some 1, some 2, some 3] [(4, vp b1 0), (5, vp b2 0), (6, vp b3 0), (71, Value.agg #[vy y12.2.1.label, vy y12.2.1.from_, vi y12.2.1.cycle, vs A12_0_payload y12.2.1.payload c12_0_payload]), (72, vi y12.2.2)] RG (e486.trans e489).r ?_
            refine xO1 (lds := [2, 4, 7]) 12 ?_
            refine xIe (lds := [2, 4, 7]) (e486.trans e489).r eB ?_
            rintro _ _ _ - ⟨b490, rfl, rfl, rfl⟩
            refine kk [some 2, some 3, some 4] ?_
            refine xO1 (lds := [2, 4, 7]) 13 ?_
            refine xId (lds := [2, 4, 7]) (e486.trans e489).r (eStL b490 0 0) ?_
            rintro _ _ _ - ⟨rfl, rfl⟩
            refine kf ?_
            refine xSub [(4, vp b1 0), (5, vp b2 0), (6, vp b3 0), (9, vp b490 0), (72, vi y12.2.2)] ?_
            exact hD8 _ _ _ (e486.trans e489) ⟨A12_n_input, c12_n_input, A12_n_heard_input, c12_n_heard_input, A12_n_set__in_, c12_n_set__in_, A12_0_payload, c12_0_payload, b490, by kernel_rfl, by kernel_rfl, f12_0_payload, f12_n_input, f12_n_heard_input, f12_n_set__in_⟩
          · refine xIe (lds := [2, 4, 7]) e486.r eB ?_
            rintro _ _ _ - ⟨b491, rfl, rfl, rfl⟩
            refine kk [some 1, some 2, some 3] ?_
            refine xSel [some 4, some 0, some 1, some 2, some 3] ?_
            have fn_input := fn_input.mono (e6.trans e486).b
            have fn_heard_input := fn_heard_input.mono (e6.trans e486).b
            have fn_set__in_ := fn_set__in_.mono (e6.trans e486).b
            refine xO1 (lds := [2, 4, 7]) 8 ?_
            refine xIe (lds := [2, 4, 7]) e486.r (eC 1 (fun g' lr eb ln => c46 g' b_n n An_input cn_input An_heard_input cn_heard_input An_set__in_ cn_set__in_ (c.cycle : Int) (y9 : List UInt8) A9_0 c9_0 c.want (by rw [eb]; exact fn_input) (by rw [eb]; exact fn_heard_input) (by rw [eb]; exact fn_set__in_) ((f9_0.mono g485.br).mono lr) hy12)) ?_
            rintro _ g493 _ e494 ⟨_, rfl, A12_n_input, c12_n_input, A12_n_heard_input, c12_n_heard_input, A12_n_set__in_, c12_n_set__in_, A12_0_payload, c12_0_payload, rfl, rfl, f12_n_input, f12_n_heard_input, f12_n_set__in_, f12_0_payload⟩
            refine kk [some 2, some 3, some 4] ?_
            have nf12_n_input := f12_n_input.len
            have nf12_n_heard_input := f12_n_heard_input.len
            have nf12_n_set__in_ := f12_n_set__in_.len
            have nf12_0_payload := f12_0_payload.len
            refine xT 2 [9, 10, 11] [] [some 2, some 3, some 4] [(4, vp b1 0), (5, vp b2 0), (6, vp b3 0), (9, vp b491 0), (71, Value.agg #[vy y12.2.1.label, vy y12.2.1.from_, vi y12.2.1.cycle, vs A12_0_payload y12.2.1.payload c12_0_payload]), (72, vi y12.2.2)] RG (e486.trans e494).r ?_
            refine xO1 (lds := [2, 4, 7]) 13 ?_
            refine xId (lds := [2, 4, 7]) (e486.trans e494).r (eStL b491 0 1) ?_
            rintro _ _ _ - ⟨rfl, rfl⟩
            refine kf ?_
            refine xSel [some 1, some 0, some 2, some 3, some 4] ?_
            refine xSub [(4, vp b1 0), (5, vp b2 0), (6, vp b3 0), (9, vp b491 0), (72, vi y12.2.2)] ?_
            exact hD8 _ _ _ (e486.trans e494) ⟨A12_n_input, c12_n_input, A12_n_heard_input, c12_n_heard_input, A12_n_set__in_, c12_n_set__in_, A12_0_payload, c12_0_payload, b491, by kernel_rfl, by kernel_rfl, f12_0_payload, f12_n_input, f12_n_heard_input, f12_n_set__in_⟩
        · refine xIe (lds := [2, 4, 7]) (Psi.le.refl _) eB ?_
          rintro _ _ _ - ⟨b495, rfl, rfl, rfl⟩
          refine kk [some 1, some 2, some 3] ?_
          have fc_input := fc_input.mono e6.b
          refine xO1 (lds := [2, 4, 7]) 5 ?_
          refine xIe (lds := [2, 4, 7]) (Psi.le.refl _) (eC 0 (fun g' lr eb ln => c14 g' (c.input : List UInt8) Ac_input cc_input (404 : Int) (by rw [eb]; exact fc_input) hy9)) ?_
          rintro _ g497 _ e498 ⟨_, rfl, A9_0, c9_0, rfl, rfl, f9_0⟩
          refine kk [some 1, some 2, some 3] ?_
          have nf9_0 := f9_0.len
          refine xSel [some 4, some 0, some 1, some 2, some 3] ?_
          have fn_input := fn_input.mono (e6.trans e498).b
          have fn_heard_input := fn_heard_input.mono (e6.trans e498).b
          have fn_set__in_ := fn_set__in_.mono (e6.trans e498).b
          refine xO1 (lds := [2, 4, 7]) 8 ?_
          refine xIe (lds := [2, 4, 7]) e498.r (eC 1 (fun g' lr eb ln => c46 g' b_n n An_input cn_input An_heard_input cn_heard_input An_set__in_ cn_set__in_ (c.cycle : Int) (y9 : List UInt8) A9_0 c9_0 c.want (by rw [eb]; exact fn_input) (by rw [eb]; exact fn_heard_input) (by rw [eb]; exact fn_set__in_) ((f9_0.mono g497.br).mono lr) hy12)) ?_
          rintro _ g500 _ e501 ⟨_, rfl, A12_n_input, c12_n_input, A12_n_heard_input, c12_n_heard_input, A12_n_set__in_, c12_n_set__in_, A12_0_payload, c12_0_payload, rfl, rfl, f12_n_input, f12_n_heard_input, f12_n_set__in_, f12_0_payload⟩
          refine kk [some 2, some 3, some 4] ?_
          have nf12_n_input := f12_n_input.len
          have nf12_n_heard_input := f12_n_heard_input.len
          have nf12_n_set__in_ := f12_n_set__in_.len
          have nf12_0_payload := f12_0_payload.len
          refine xT 2 [9, 10, 11] [] [some 2, some 3, some 4] [(4, vp b1 0), (5, vp b2 0), (6, vp b3 0), (9, vp b495 0), (71, Value.agg #[vy y12.2.1.label, vy y12.2.1.from_, vi y12.2.1.cycle, vs A12_0_payload y12.2.1.payload c12_0_payload]), (72, vi y12.2.2)] RG (e498.trans e501).r ?_
          refine xO1 (lds := [2, 4, 7]) 13 ?_
          refine xId (lds := [2, 4, 7]) (e498.trans e501).r (eStL b495 0 1) ?_
          rintro _ _ _ - ⟨rfl, rfl⟩
          refine kf ?_
          refine xSel [some 1, some 0, some 2, some 3, some 4] ?_
          refine xSub [(4, vp b1 0), (5, vp b2 0), (6, vp b3 0), (9, vp b495 0), (72, vi y12.2.2)] ?_
          exact hD8 _ _ _ (e498.trans e501) ⟨A12_n_input, c12_n_input, A12_n_heard_input, c12_n_heard_input, A12_n_set__in_, c12_n_set__in_, A12_0_payload, c12_0_payload, b495, by kernel_rfl, by kernel_rfl, f12_0_payload, f12_n_input, f12_n_heard_input, f12_n_set__in_⟩
    · have hS := cond_F h7 hS
      have h7p : ¬ (t4 = 0) := ne_of_beq_false_ h7
      refine xSq ?_
      refine xRg ?_
      refine xB 2 [] [(0, vp b_n 0), (4, vp b1 0), (5, vp b2 0), (6, vp b3 0), (58, vi t4), (100, vb (t4 == 1))] ?_
      refine xRe ?_
      refine wpq_then ?_
      refine xCd ((t4 == 1)) (fun h502 => ?_) (fun h502 => ?_)
      · have hS := cond_T h502 hS
        have h502p : t4 = 1 := eq_of_beq h502
        refine xSq ?_
        refine xRg ?_
        refine xB 5 [(2, 1), (4, 1)] [(4, vp b1 0), (5, vp b2 0), (6, vp b3 0), (103, vp b_n 0), (105, Value.agg #[vy c.frame.label, vy c.frame.from_, vi c.frame.cycle, vs Ac_frame_payload c.frame.payload cc_frame_payload]), (107, vb c.came)] ?_
        refine xSel [some 3, some 0, some 1, some 2] ?_
        have fn_input := fn_input.mono e6.b
        have fn_heard_input := fn_heard_input.mono e6.b
        have fn_set__in_ := fn_set__in_.mono e6.b
        have fc_frame_payload := fc_frame_payload.mono e6.b
        obtain ⟨y503, hy503, hS⟩ := bindO_T hS
        refine xE (eC 1 (fun g' lr eb ln => c47 g' b_n n An_input cn_input An_heard_input cn_heard_input An_set__in_ cn_set__in_ c.frame Ac_frame_payload cc_frame_payload (c.came) (by rw [eb]; exact fn_input) (by rw [eb]; exact fn_heard_input) (by rw [eb]; exact fn_set__in_) ((fc_frame_payload.mono g5.br).mono lr) hy503)) ?_
        rintro _ g504 _ e505 ⟨_, rfl, A503_n_input, c503_n_input, A503_n_heard_input, c503_n_heard_input, A503_n_set__in_, c503_n_set__in_, A503_0_input, c503_0_input, rfl, rfl, f503_n_input, f503_n_heard_input, f503_n_set__in_, f503_0_input⟩
        have nf503_n_input := f503_n_input.len
        have nf503_n_heard_input := f503_n_heard_input.len
        have nf503_n_set__in_ := f503_n_set__in_.len
        have nf503_0_input := f503_0_input.len
        refine xB 4 [] [(4, vp b1 0), (5, vp b2 0), (6, vp b3 0), (109, Value.agg #[vy y503.2.1.role, vi y503.2.1.steps, vi y503.2.1.want.base, vi y503.2.1.want.have_, vs A503_0_input y503.2.1.input c503_0_input]), (110, vb y503.2.2.1), (111, vi y503.2.2.2)] ?_
        refine xE eB ?_
        rintro _ _ _ - ⟨b506, rfl, rfl, rfl⟩
        refine xBo 3 [(11, 0)] [some ⟨b506, 50, (cHeard y503.2.1 A503_0_input c503_0_input)⟩, some ⟨b_n, 131, (cNode y503.1 A503_n_input c503_n_input A503_n_heard_input c503_n_heard_input A503_n_set__in_ c503_n_set__in_)⟩, some ⟨b3, 96, (cRNode (⟨0, 0, 0, 0, 0, 0, ([] : List UInt8), false, false, (⟨0, 0, (⟨0, 0⟩ : Want), ([] : List UInt8)⟩ : Heard), false, (⟨0, 0, 0, 0, 0, 0, 0⟩ : Targets)⟩ : RNode) none 0 none 0)⟩, some ⟨b2, 102, (cCallT c Ac_input cc_input Ac_frame_payload cc_frame_payload)⟩, some ⟨b1, 96, (cRNode m Am_input cm_input Am_heard_input cm_heard_input)⟩] [(4, vp b1 0), (5, vp b2 0), (6, vp b3 0), (14, vp b506 0), (15, vb y503.2.2.1), (16, vi y503.2.2.2)] ?_
        refine xRe ?_
        refine wpq_then ?_
        refine xSq ?_
        refine xRg ?_
        refine xB 5 [(0, 4), (2, 3), (4, 3)] [(6, vp b3 0), (14, vp b506 0), (15, vb y503.2.2.1), (16, vi y503.2.2.2), (113, Value.agg #[vi m.number, vy m.role, vi m.steps, vi m.alone, vi m.stage, vi m.cycle, vs Am_input m.input cm_input, vb m.fresh, vb m.isHeard, vy m.heard.role, vi m.heard.steps, vi m.heard.want.base, vi m.heard.want.have_, vs Am_heard_input m.heard.input cm_heard_input, vb m.stepped, vy m.told.lateral, vy m.told.vertical, vy m.told.phase, vi m.told.bank, vi m.told.speed, vi m.told.alt, vi m.told.vs]), (115, Value.agg #[vy c.frame.label, vy c.frame.from_, vi c.frame.cycle, vs Ac_frame_payload c.frame.payload cc_frame_payload]), (117, vb c.came)] ?_
        have fm_input := fm_input.mono (e6.trans e505).b
        have fm_heard_input := fm_heard_input.mono (e6.trans e505).b
        have fc_frame_payload := fc_frame_payload.mono e505.b
        obtain ⟨y507, hy507, hS⟩ := bindO_T hS
        refine xE (eC 0 (fun g' lr eb ln => c61 g' m Am_input cm_input Am_heard_input cm_heard_input c.frame Ac_frame_payload cc_frame_payload (c.came) (by rw [eb]; exact fm_input) (by rw [eb]; exact fm_heard_input) ((fc_frame_payload.mono g504.br).mono lr) hy507)) ?_
        rintro _ g508 _ e509 ⟨_, rfl, A507_0_input, c507_0_input, A507_0_heard_input, c507_0_heard_input, A507_1_input, c507_1_input, rfl, rfl, f507_0_input, f507_0_heard_input, f507_1_input⟩
        have nf507_0_input := f507_0_input.len
        have nf507_0_heard_input := f507_0_heard_input.len
        have nf507_1_input := f507_1_input.len
        refine xB 5 [] [(6, vp b3 0), (14, vp b506 0), (15, vb y503.2.2.1), (16, vi y503.2.2.2), (119, Value.agg #[vi y507.1.number, vy y507.1.role, vi y507.1.steps, vi y507.1.alone, vi y507.1.stage, vi y507.1.cycle, vs A507_0_input y507.1.input c507_0_input, vb y507.1.fresh, vb y507.1.isHeard, vy y507.1.heard.role, vi y507.1.heard.steps, vi y507.1.heard.want.base, vi y507.1.heard.want.have_, vs A507_0_heard_input y507.1.heard.input c507_0_heard_input, vb y507.1.stepped, vy y507.1.told.lateral, vy y507.1.told.vertical, vy y507.1.told.phase, vi y507.1.told.bank, vi y507.1.told.speed, vi y507.1.told.alt, vi y507.1.told.vs]), (120, Value.agg #[vy y507.2.1.role, vi y507.2.1.steps, vi y507.2.1.want.base, vi y507.2.1.want.have_, vs A507_1_input y507.2.1.input c507_1_input]), (121, vb y507.2.2.1), (122, vi y507.2.2.2)] ?_
        refine xE eB ?_
        rintro _ _ _ - ⟨b510, rfl, rfl, rfl⟩
        refine xE eB ?_
        rintro _ _ _ - ⟨b511, rfl, rfl, rfl⟩
        refine xBo 4 [(13, 1), (14, 0)] [some ⟨b511, 55, (cHeard y507.2.1 A507_1_input c507_1_input)⟩, some ⟨b510, 96, (cRNode y507.1 A507_0_input c507_0_input A507_0_heard_input c507_0_heard_input)⟩, some ⟨b506, 50, (cHeard y503.2.1 A503_0_input c503_0_input)⟩, some ⟨b_n, 131, (cNode y503.1 A503_n_input c503_n_input A503_n_heard_input c503_n_heard_input A503_n_set__in_ c503_n_set__in_)⟩, some ⟨b3, 96, (cRNode (⟨0, 0, 0, 0, 0, 0, ([] : List UInt8), false, false, (⟨0, 0, (⟨0, 0⟩ : Want), ([] : List UInt8)⟩ : Heard), false, (⟨0, 0, 0, 0, 0, 0, 0⟩ : Targets)⟩ : RNode) none 0 none 0)⟩, some ⟨b2, 102, (cCallT c Ac_input cc_input Ac_frame_payload cc_frame_payload)⟩, some ⟨b1, 96, (cRNode m Am_input cm_input Am_heard_input cm_heard_input)⟩] [(6, vp b3 0), (14, vp b506 0), (15, vb y503.2.2.1), (16, vi y503.2.2.2), (17, vp b510 0), (18, vp b511 0), (19, vb y507.2.2.1), (20, vi y507.2.2.2)] ?_
        refine xRe ?_
        refine wpq_then ?_
        refine xSq ?_
        refine xDr 0 [0, 1, 3] [16] [some ⟨b511, 55, (cHeard y507.2.1 A507_1_input c507_1_input)⟩, some ⟨b510, 96, (cRNode y507.1 A507_0_input c507_0_input A507_0_heard_input c507_0_heard_input)⟩, some ⟨b506, 50, (cHeard y503.2.1 A503_0_input c503_0_input)⟩, some ⟨b_n, 131, (cNode y503.1 A503_n_input c503_n_input A503_n_heard_input c503_n_heard_input A503_n_set__in_ c503_n_set__in_)⟩, some ⟨b2, 102, (cCallT c Ac_input cc_input Ac_frame_payload cc_frame_payload)⟩, some ⟨b1, 96, (cRNode m Am_input cm_input Am_heard_input cm_heard_input)⟩] 17 (fun RG => ?_) (fun _ _ _ _ _ h => h)
        refine xT 14 [0, 1, 3] [(0, 1), (1, 2), (3, 0)] [some 0, some 1, some 2, some 3, some 5, some 6] [(6, vp b3 0), (15, vb y503.2.2.1), (16, vi y503.2.2.2), (19, vb y507.2.2.1), (20, vi y507.2.2.2), (123, Value.agg #[vi y507.1.number, vy y507.1.role, vi y507.1.steps, vi y507.1.alone, vi y507.1.stage, vi y507.1.cycle, vs A507_0_input y507.1.input c507_0_input, vb y507.1.fresh, vb y507.1.isHeard, vy y507.1.heard.role, vi y507.1.heard.steps, vi y507.1.heard.want.base, vi y507.1.heard.want.have_, vs A507_0_heard_input y507.1.heard.input c507_0_heard_input, vb y507.1.stepped, vy y507.1.told.lateral, vy y507.1.told.vertical, vy y507.1.told.phase, vi y507.1.told.bank, vi y507.1.told.speed, vi y507.1.told.alt, vi y507.1.told.vs]), (124, Value.agg #[vy y503.2.1.role, vi y503.2.1.steps, vi y503.2.1.want.base, vi y503.2.1.want.have_, vs A503_0_input y503.2.1.input c503_0_input]), (126, Value.agg #[vy y507.2.1.role, vi y507.2.1.steps, vi y507.2.1.want.base, vi y507.2.1.want.have_, vs A507_1_input y507.2.1.input c507_1_input])] RG (Psi.le.refl _) ?_
        have f503_0_input := f503_0_input.mono e509.b
        obtain ⟨y512, hy512, hS⟩ := letJ_T hS
        refine xO1 (lds := [0, 1, 3]) 2 ?_
        refine xIe (lds := [0, 1, 3]) (Psi.le.refl _) (eC 0 (fun g' lr eb ln => c27 g' y503.2.1 A503_0_input c503_0_input (by rw [eb]; exact f503_0_input) hy512)) ?_
        rintro _ g513 _ e514 ⟨_, rfl, A512_0_input, c512_0_input, rfl, rfl, f512_0_input⟩
        refine kk [some 0, some 1, some 2, some 3, some 5, some 6] ?_
        have nf512_0_input := f512_0_input.len
        have f507_1_input := f507_1_input.mono e514.b
        obtain ⟨y515, hy515, hS⟩ := letJ_T hS
        refine xO1 (lds := [0, 1, 3]) 4 ?_
        refine xIe (lds := [0, 1, 3]) e514.r (eC 0 (fun g' lr eb ln => c29 g' y512 A512_0_input c512_0_input y507.2.1 A507_1_input c507_1_input ((f512_0_input.mono g513.br).mono lr) ((f507_1_input.mono g513.br).mono lr) hy515)) ?_
        rintro _ g516 _ e517 ⟨_, rfl, rfl, rfl⟩
        refine kk [some 0, some 1, some 2, some 3, some 5, some 6] ?_
        refine xT 11 [5] [] [some 0, some 1, some 2, some 3, some 5, some 6] [(6, vp b3 0), (15, vb y503.2.2.1), (16, vi y503.2.2.2), (19, vb y507.2.2.1), (20, vi y507.2.2.2), (123, Value.agg #[vi y507.1.number, vy y507.1.role, vi y507.1.steps, vi y507.1.alone, vi y507.1.stage, vi y507.1.cycle, vs A507_0_input y507.1.input c507_0_input, vb y507.1.fresh, vb y507.1.isHeard, vy y507.1.heard.role, vi y507.1.heard.steps, vi y507.1.heard.want.base, vi y507.1.heard.want.have_, vs A507_0_heard_input y507.1.heard.input c507_0_heard_input, vb y507.1.stepped, vy y507.1.told.lateral, vy y507.1.told.vertical, vy y507.1.told.phase, vi y507.1.told.bank, vi y507.1.told.speed, vi y507.1.told.alt, vi y507.1.told.vs]), (128, vb y515)] RG (e514.trans e517).r ?_
        refine wpa_grp 7 [true, true, true, true, true, true, true, true, true, true, false, false, false, false, false, false, false] [(6, vp b3 0), (16, vi y503.2.2.2), (20, vi y507.2.2.2), (123, Value.agg #[vi y507.1.number, vy y507.1.role, vi y507.1.steps, vi y507.1.alone, vi y507.1.stage, vi y507.1.cycle, vs A507_0_input y507.1.input c507_0_input, vb y507.1.fresh, vb y507.1.isHeard, vy y507.1.heard.role, vi y507.1.heard.steps, vi y507.1.heard.want.base, vi y507.1.heard.want.have_, vs A507_0_heard_input y507.1.heard.input c507_0_heard_input, vb y507.1.stepped, vy y507.1.told.lateral, vy y507.1.told.vertical, vy y507.1.told.phase, vi y507.1.told.bank, vi y507.1.told.speed, vi y507.1.told.alt, vi y507.1.told.vs]), (132, vb (y515 && (y503.2.2.1 == y507.2.2.1)))] (fun hk5 => ?_) ?_
        · refine wpq_split 128 (b := y515) (by kernel_rfl) (fun q518 => ?_) (fun q518 => ?_)
          · refine xT 7 [6, 7, 8, 9] [] [some 0, some 1, some 2, some 3, some 5, some 6] [(6, vp b3 0), (16, vi y503.2.2.2), (20, vi y507.2.2.2), (123, Value.agg #[vi y507.1.number, vy y507.1.role, vi y507.1.steps, vi y507.1.alone, vi y507.1.stage, vi y507.1.cycle, vs A507_0_input y507.1.input c507_0_input, vb y507.1.fresh, vb y507.1.isHeard, vy y507.1.heard.role, vi y507.1.heard.steps, vi y507.1.heard.want.base, vi y507.1.heard.want.have_, vs A507_0_heard_input y507.1.heard.input c507_0_heard_input, vb y507.1.stepped, vy y507.1.told.lateral, vy y507.1.told.vertical, vy y507.1.told.phase, vi y507.1.told.bank, vi y507.1.told.speed, vi y507.1.told.alt, vi y507.1.told.vs]), (132, vb (y503.2.2.1 == y507.2.2.1))] RG (e514.trans e517).r ?_
            refine wpq_re 132 (v := vb (y503.2.2.1 == y507.2.2.1)) (Value.bool ((y515 && (y503.2.2.1 == y507.2.2.1)))) (by kernel_rfl) (re_and1 q518) ?_
            exact wpq_sub _ (by kernel_rfl) hk5
          · refine xT 7 [6, 7, 8, 9] [] [some 0, some 1, some 2, some 3, some 5, some 6] [(6, vp b3 0), (16, vi y503.2.2.2), (20, vi y507.2.2.2), (123, Value.agg #[vi y507.1.number, vy y507.1.role, vi y507.1.steps, vi y507.1.alone, vi y507.1.stage, vi y507.1.cycle, vs A507_0_input y507.1.input c507_0_input, vb y507.1.fresh, vb y507.1.isHeard, vy y507.1.heard.role, vi y507.1.heard.steps, vi y507.1.heard.want.base, vi y507.1.heard.want.have_, vs A507_0_heard_input y507.1.heard.input c507_0_heard_input, vb y507.1.stepped, vy y507.1.told.lateral, vy y507.1.told.vertical, vy y507.1.told.phase, vi y507.1.told.bank, vi y507.1.told.speed, vi y507.1.told.alt, vi y507.1.told.vs]), (132, vb false)] RG (e514.trans e517).r ?_
            refine wpq_re 132 (v := vb false) (Value.bool ((y515 && (y503.2.2.1 == y507.2.2.1)))) (by kernel_rfl) (re_and0 q518) ?_
            exact wpq_sub _ (by kernel_rfl) hk5
        · refine xT 6 [10] [] [some 0, some 1, some 2, some 3, some 5, some 6] [(6, vp b3 0), (16, vi y503.2.2.2), (20, vi y507.2.2.2), (123, Value.agg #[vi y507.1.number, vy y507.1.role, vi y507.1.steps, vi y507.1.alone, vi y507.1.stage, vi y507.1.cycle, vs A507_0_input y507.1.input c507_0_input, vb y507.1.fresh, vb y507.1.isHeard, vy y507.1.heard.role, vi y507.1.heard.steps, vi y507.1.heard.want.base, vi y507.1.heard.want.have_, vs A507_0_heard_input y507.1.heard.input c507_0_heard_input, vb y507.1.stepped, vy y507.1.told.lateral, vy y507.1.told.vertical, vy y507.1.told.phase, vi y507.1.told.bank, vi y507.1.told.speed, vi y507.1.told.alt, vi y507.1.told.vs]), (133, vb (y515 && (y503.2.2.1 == y507.2.2.1)))] RG (e514.trans e517).r ?_
          refine wpa_grp 2 [true, true, true, true, true, true, true, true, true, true, true, true, true, true, true, false, false] [(6, vp b3 0), (123, Value.agg #[vi y507.1.number, vy y507.1.role, vi y507.1.steps, vi y507.1.alone, vi y507.1.stage, vi y507.1.cycle, vs A507_0_input y507.1.input c507_0_input, vb y507.1.fresh, vb y507.1.isHeard, vy y507.1.heard.role, vi y507.1.heard.steps, vi y507.1.heard.want.base, vi y507.1.heard.want.have_, vs A507_0_heard_input y507.1.heard.input c507_0_heard_input, vb y507.1.stepped, vy y507.1.told.lateral, vy y507.1.told.vertical, vy y507.1.told.phase, vi y507.1.told.bank, vi y507.1.told.speed, vi y507.1.told.alt, vi y507.1.told.vs]), (137, vb ((y515 && (y503.2.2.1 == y507.2.2.1)) && (y503.2.2.2 == y507.2.2.2)))] (fun hk10 => ?_) ?_
          · refine wpq_split 133 (b := (y515 && (y503.2.2.1 == y507.2.2.1))) (by kernel_rfl) (fun q519 => ?_) (fun q519 => ?_)
            · have q519l := (and_true_ q519).1
              have q519r := (and_true_ q519).2
              have q519rp : y503.2.2.1 = y507.2.2.1 := eq_of_beq q519r
              refine xT 2 [11, 12, 13, 14] [] [some 0, some 1, some 2, some 3, some 5, some 6] [(6, vp b3 0), (123, Value.agg #[vi y507.1.number, vy y507.1.role, vi y507.1.steps, vi y507.1.alone, vi y507.1.stage, vi y507.1.cycle, vs A507_0_input y507.1.input c507_0_input, vb y507.1.fresh, vb y507.1.isHeard, vy y507.1.heard.role, vi y507.1.heard.steps, vi y507.1.heard.want.base, vi y507.1.heard.want.have_, vs A507_0_heard_input y507.1.heard.input c507_0_heard_input, vb y507.1.stepped, vy y507.1.told.lateral, vy y507.1.told.vertical, vy y507.1.told.phase, vi y507.1.told.bank, vi y507.1.told.speed, vi y507.1.told.alt, vi y507.1.told.vs]), (137, vb (y503.2.2.2 == y507.2.2.2))] RG (e514.trans e517).r ?_
              refine wpq_re 137 (v := vb (y503.2.2.2 == y507.2.2.2)) (Value.bool (((y515 && (y503.2.2.1 == y507.2.2.1)) && (y503.2.2.2 == y507.2.2.2)))) (by kernel_rfl) (re_and1 q519) ?_
              exact wpq_sub _ (by kernel_rfl) hk10
            · refine xT 2 [11, 12, 13, 14] [] [some 0, some 1, some 2, some 3, some 5, some 6] [(6, vp b3 0), (123, Value.agg #[vi y507.1.number, vy y507.1.role, vi y507.1.steps, vi y507.1.alone, vi y507.1.stage, vi y507.1.cycle, vs A507_0_input y507.1.input c507_0_input, vb y507.1.fresh, vb y507.1.isHeard, vy y507.1.heard.role, vi y507.1.heard.steps, vi y507.1.heard.want.base, vi y507.1.heard.want.have_, vs A507_0_heard_input y507.1.heard.input c507_0_heard_input, vb y507.1.stepped, vy y507.1.told.lateral, vy y507.1.told.vertical, vy y507.1.told.phase, vi y507.1.told.bank, vi y507.1.told.speed, vi y507.1.told.alt, vi y507.1.told.vs]), (137, vb false)] RG (e514.trans e517).r ?_
              refine wpq_re 137 (v := vb false) (Value.bool (((y515 && (y503.2.2.1 == y507.2.2.1)) && (y503.2.2.2 == y507.2.2.2)))) (by kernel_rfl) (re_and0 q519) ?_
              exact wpq_sub _ (by kernel_rfl) hk10
          · refine xO1 (lds := [0, 1, 3]) 15 ?_
            refine xId (lds := [0, 1, 3]) (e514.trans e517).r (eStL b3 0 4) ?_
            rintro _ _ _ - ⟨rfl, rfl⟩
            refine kk [some 0, some 1, some 2, some 3, some 5, some 6] ?_
            refine xT 0 [16] [] [some 0, some 1, some 2, some 3, some 5, some 6] [(6, vp b3 0), (7, vb ((y515 && (y503.2.2.1 == y507.2.2.1)) && (y503.2.2.2 == y507.2.2.2)))] RG (e514.trans e517).r ?_
            refine xAe (lds := [0, 1, 3]) ?_
            refine wpq_then ?_
            have f503_n_input := f503_n_input.mono (e509.trans (e514.trans e517)).b
            have f503_n_heard_input := f503_n_heard_input.mono (e509.trans (e514.trans e517)).b
            have f503_n_set__in_ := f503_n_set__in_.mono (e509.trans (e514.trans e517)).b
            have f507_0_input := f507_0_input.mono (e514.trans e517).b
            have f507_0_heard_input := f507_0_heard_input.mono (e514.trans e517).b
            have eS := (Option.some.inj hS).symm
            subst eS
            exact xRetC [some 3] [(6, 4)] (e6.trans (e505.trans (e509.trans (e514.trans e517)))) ⟨A503_n_input, c503_n_input, A503_n_heard_input, c503_n_heard_input, A503_n_set__in_, c503_n_set__in_, A507_0_input, c507_0_input, A507_0_heard_input, c507_0_heard_input, by kernel_rfl, by kernel_rfl, f503_n_input, f503_n_heard_input, f503_n_set__in_, f507_0_input, f507_0_heard_input⟩ (fun _ _ h => h)
      · have hS := cond_F h502 hS
        have h502p : ¬ (t4 = 1) := ne_of_beq_false_ h502
        refine xSq ?_
        refine xRg ?_
        refine xB 2 [] [(0, vp b_n 0), (4, vp b1 0), (5, vp b2 0), (6, vp b3 0), (58, vi t4), (138, vb (t4 == 2))] ?_
        refine xRe ?_
        refine wpq_then ?_
        refine xCd ((t4 == 2)) (fun h520 => ?_) (fun h520 => ?_)
        · have hS := cond_T h520 hS
          have h520p : t4 = 2 := eq_of_beq h520
          refine xSq ?_
          refine xRg ?_
          refine xB 1 [] [(4, vp b1 0), (6, vp b3 0), (141, vp b_n 0)] ?_
          refine xSel [some 3, some 0, some 1, some 2] ?_
          have fn_input := fn_input.mono e6.b
          have fn_heard_input := fn_heard_input.mono e6.b
          have fn_set__in_ := fn_set__in_.mono e6.b
          obtain ⟨y521, hy521, hS⟩ := bindO_T hS
          refine xE (eC 1 (fun g' lr eb ln => c48 g' b_n n An_input cn_input An_heard_input cn_heard_input An_set__in_ cn_set__in_ (by rw [eb]; exact fn_input) (by rw [eb]; exact fn_heard_input) (by rw [eb]; exact fn_set__in_) hy521)) ?_
          rintro _ g522 _ e523 ⟨_, rfl, A521_n_input, c521_n_input, A521_n_heard_input, c521_n_heard_input, A521_n_set__in_, c521_n_set__in_, A521_0_payload, c521_0_payload, rfl, rfl, f521_n_input, f521_n_heard_input, f521_n_set__in_, f521_0_payload⟩
          have nf521_n_input := f521_n_input.len
          have nf521_n_heard_input := f521_n_heard_input.len
          have nf521_n_set__in_ := f521_n_set__in_.len
          have nf521_0_payload := f521_0_payload.len
          refine xB 4 [] [(4, vp b1 0), (6, vp b3 0), (143, Value.agg #[vy y521.2.1.label, vy y521.2.1.from_, vi y521.2.1.cycle, vs A521_0_payload y521.2.1.payload c521_0_payload]), (144, vb y521.2.2.1), (145, vi y521.2.2.2)] ?_
          refine xE eB ?_
          rintro _ _ _ - ⟨b524, rfl, rfl, rfl⟩
          refine xBo 3 [(7, 0)] [some ⟨b524, 100, (cFrame y521.2.1 A521_0_payload c521_0_payload)⟩, some ⟨b_n, 131, (cNode y521.1 A521_n_input c521_n_input A521_n_heard_input c521_n_heard_input A521_n_set__in_ c521_n_set__in_)⟩, some ⟨b3, 96, (cRNode (⟨0, 0, 0, 0, 0, 0, ([] : List UInt8), false, false, (⟨0, 0, (⟨0, 0⟩ : Want), ([] : List UInt8)⟩ : Heard), false, (⟨0, 0, 0, 0, 0, 0, 0⟩ : Targets)⟩ : RNode) none 0 none 0)⟩, some ⟨b2, 102, (cCallT c Ac_input cc_input Ac_frame_payload cc_frame_payload)⟩, some ⟨b1, 96, (cRNode m Am_input cm_input Am_heard_input cm_heard_input)⟩] [(4, vp b1 0), (6, vp b3 0), (21, vp b524 0), (22, vb y521.2.2.1), (23, vi y521.2.2.2)] ?_
          refine xRe ?_
          refine wpq_then ?_
          refine xSq ?_
          refine xRg ?_
          refine xB 1 [(0, 4)] [(6, vp b3 0), (21, vp b524 0), (22, vb y521.2.2.1), (23, vi y521.2.2.2), (147, Value.agg #[vi m.number, vy m.role, vi m.steps, vi m.alone, vi m.stage, vi m.cycle, vs Am_input m.input cm_input, vb m.fresh, vb m.isHeard, vy m.heard.role, vi m.heard.steps, vi m.heard.want.base, vi m.heard.want.have_, vs Am_heard_input m.heard.input cm_heard_input, vb m.stepped, vy m.told.lateral, vy m.told.vertical, vy m.told.phase, vi m.told.bank, vi m.told.speed, vi m.told.alt, vi m.told.vs])] ?_
          have fm_input := fm_input.mono (e6.trans e523).b
          have fm_heard_input := fm_heard_input.mono (e6.trans e523).b
          obtain ⟨y525, hy525, hS⟩ := bindO_T hS
          refine xE (eC 0 (fun g' lr eb ln => c62 g' m Am_input cm_input Am_heard_input cm_heard_input (by rw [eb]; exact fm_input) (by rw [eb]; exact fm_heard_input) hy525)) ?_
          rintro _ g526 _ e527 ⟨_, rfl, A525_0_input, c525_0_input, A525_0_heard_input, c525_0_heard_input, A525_1_payload, c525_1_payload, rfl, rfl, f525_0_input, f525_0_heard_input, f525_1_payload⟩
          have nf525_0_input := f525_0_input.len
          have nf525_0_heard_input := f525_0_heard_input.len
          have nf525_1_payload := f525_1_payload.len
          refine xB 5 [] [(6, vp b3 0), (21, vp b524 0), (22, vb y521.2.2.1), (23, vi y521.2.2.2), (149, Value.agg #[vi y525.1.number, vy y525.1.role, vi y525.1.steps, vi y525.1.alone, vi y525.1.stage, vi y525.1.cycle, vs A525_0_input y525.1.input c525_0_input, vb y525.1.fresh, vb y525.1.isHeard, vy y525.1.heard.role, vi y525.1.heard.steps, vi y525.1.heard.want.base, vi y525.1.heard.want.have_, vs A525_0_heard_input y525.1.heard.input c525_0_heard_input, vb y525.1.stepped, vy y525.1.told.lateral, vy y525.1.told.vertical, vy y525.1.told.phase, vi y525.1.told.bank, vi y525.1.told.speed, vi y525.1.told.alt, vi y525.1.told.vs]), (150, Value.agg #[vy y525.2.1.label, vy y525.2.1.from_, vi y525.2.1.cycle, vs A525_1_payload y525.2.1.payload c525_1_payload]), (151, vb y525.2.2.1), (152, vi y525.2.2.2)] ?_
          refine xE eB ?_
          rintro _ _ _ - ⟨b528, rfl, rfl, rfl⟩
          refine xE eB ?_
          rintro _ _ _ - ⟨b529, rfl, rfl, rfl⟩
          refine xBo 4 [(9, 1), (10, 0)] [some ⟨b529, 100, (cFrame y525.2.1 A525_1_payload c525_1_payload)⟩, some ⟨b528, 96, (cRNode y525.1 A525_0_input c525_0_input A525_0_heard_input c525_0_heard_input)⟩, some ⟨b524, 100, (cFrame y521.2.1 A521_0_payload c521_0_payload)⟩, some ⟨b_n, 131, (cNode y521.1 A521_n_input c521_n_input A521_n_heard_input c521_n_heard_input A521_n_set__in_ c521_n_set__in_)⟩, some ⟨b3, 96, (cRNode (⟨0, 0, 0, 0, 0, 0, ([] : List UInt8), false, false, (⟨0, 0, (⟨0, 0⟩ : Want), ([] : List UInt8)⟩ : Heard), false, (⟨0, 0, 0, 0, 0, 0, 0⟩ : Targets)⟩ : RNode) none 0 none 0)⟩, some ⟨b2, 102, (cCallT c Ac_input cc_input Ac_frame_payload cc_frame_payload)⟩, some ⟨b1, 96, (cRNode m Am_input cm_input Am_heard_input cm_heard_input)⟩] [(6, vp b3 0), (21, vp b524 0), (22, vb y521.2.2.1), (23, vi y521.2.2.2), (24, vp b528 0), (25, vp b529 0), (26, vb y525.2.2.1), (27, vi y525.2.2.2)] ?_
          refine xRe ?_
          refine wpq_then ?_
          refine xSq ?_
          refine xDr 0 [0, 1, 2] [15] [some ⟨b529, 100, (cFrame y525.2.1 A525_1_payload c525_1_payload)⟩, some ⟨b528, 96, (cRNode y525.1 A525_0_input c525_0_input A525_0_heard_input c525_0_heard_input)⟩, some ⟨b524, 100, (cFrame y521.2.1 A521_0_payload c521_0_payload)⟩, some ⟨b_n, 131, (cNode y521.1 A521_n_input c521_n_input A521_n_heard_input c521_n_heard_input A521_n_set__in_ c521_n_set__in_)⟩, some ⟨b2, 102, (cCallT c Ac_input cc_input Ac_frame_payload cc_frame_payload)⟩, some ⟨b1, 96, (cRNode m Am_input cm_input Am_heard_input cm_heard_input)⟩] 16 (fun RG => ?_) (fun _ _ _ _ _ h => h)
          refine xT 13 [0, 1, 2] [(0, 1), (1, 2), (2, 0)] [some 0, some 1, some 2, some 3, some 5, some 6] [(6, vp b3 0), (22, vb y521.2.2.1), (23, vi y521.2.2.2), (26, vb y525.2.2.1), (27, vi y525.2.2.2), (153, Value.agg #[vi y525.1.number, vy y525.1.role, vi y525.1.steps, vi y525.1.alone, vi y525.1.stage, vi y525.1.cycle, vs A525_0_input y525.1.input c525_0_input, vb y525.1.fresh, vb y525.1.isHeard, vy y525.1.heard.role, vi y525.1.heard.steps, vi y525.1.heard.want.base, vi y525.1.heard.want.have_, vs A525_0_heard_input y525.1.heard.input c525_0_heard_input, vb y525.1.stepped, vy y525.1.told.lateral, vy y525.1.told.vertical, vy y525.1.told.phase, vi y525.1.told.bank, vi y525.1.told.speed, vi y525.1.told.alt, vi y525.1.told.vs]), (154, Value.agg #[vy y521.2.1.label, vy y521.2.1.from_, vi y521.2.1.cycle, vs A521_0_payload y521.2.1.payload c521_0_payload]), (155, Value.agg #[vy y525.2.1.label, vy y525.2.1.from_, vi y525.2.1.cycle, vs A525_1_payload y525.2.1.payload c525_1_payload])] RG (Psi.le.refl _) ?_
          have f521_0_payload := f521_0_payload.mono e527.b
          obtain ⟨y530, hy530, hS⟩ := letJ_T hS
          refine xO1 (lds := [0, 1, 2]) 3 ?_
          refine xIe (lds := [0, 1, 2]) (Psi.le.refl _) (eC 0 (fun g' lr eb ln => c60 g' y521.2.1 A521_0_payload c521_0_payload y525.2.1 A525_1_payload c525_1_payload ((f521_0_payload.mono g526.br).mono lr) ((f525_1_payload.mono g526.br).mono lr) hy530)) ?_
          rintro _ g531 _ e532 ⟨_, rfl, rfl, rfl⟩
          refine kk [some 0, some 1, some 2, some 3, some 5, some 6] ?_
          refine xT 11 [4] [] [some 0, some 1, some 2, some 3, some 5, some 6] [(6, vp b3 0), (22, vb y521.2.2.1), (23, vi y521.2.2.2), (26, vb y525.2.2.1), (27, vi y525.2.2.2), (153, Value.agg #[vi y525.1.number, vy y525.1.role, vi y525.1.steps, vi y525.1.alone, vi y525.1.stage, vi y525.1.cycle, vs A525_0_input y525.1.input c525_0_input, vb y525.1.fresh, vb y525.1.isHeard, vy y525.1.heard.role, vi y525.1.heard.steps, vi y525.1.heard.want.base, vi y525.1.heard.want.have_, vs A525_0_heard_input y525.1.heard.input c525_0_heard_input, vb y525.1.stepped, vy y525.1.told.lateral, vy y525.1.told.vertical, vy y525.1.told.phase, vi y525.1.told.bank, vi y525.1.told.speed, vi y525.1.told.alt, vi y525.1.told.vs]), (157, vb y530)] RG e532.r ?_
          refine wpa_grp 7 [true, true, true, true, true, true, true, true, true, false, false, false, false, false, false, false] [(6, vp b3 0), (23, vi y521.2.2.2), (27, vi y525.2.2.2), (153, Value.agg #[vi y525.1.number, vy y525.1.role, vi y525.1.steps, vi y525.1.alone, vi y525.1.stage, vi y525.1.cycle, vs A525_0_input y525.1.input c525_0_input, vb y525.1.fresh, vb y525.1.isHeard, vy y525.1.heard.role, vi y525.1.heard.steps, vi y525.1.heard.want.base, vi y525.1.heard.want.have_, vs A525_0_heard_input y525.1.heard.input c525_0_heard_input, vb y525.1.stepped, vy y525.1.told.lateral, vy y525.1.told.vertical, vy y525.1.told.phase, vi y525.1.told.bank, vi y525.1.told.speed, vi y525.1.told.alt, vi y525.1.told.vs]), (161, vb (y530 && (y521.2.2.1 == y525.2.2.1)))] (fun hk4 => ?_) ?_
          · refine wpq_split 157 (b := y530) (by kernel_rfl) (fun q533 => ?_) (fun q533 => ?_)
            · refine xT 7 [5, 6, 7, 8] [] [some 0, some 1, some 2, some 3, some 5, some 6] [(6, vp b3 0), (23, vi y521.2.2.2), (27, vi y525.2.2.2), (153, Value.agg #[vi y525.1.number, vy y525.1.role, vi y525.1.steps, vi y525.1.alone, vi y525.1.stage, vi y525.1.cycle, vs A525_0_input y525.1.input c525_0_input, vb y525.1.fresh, vb y525.1.isHeard, vy y525.1.heard.role, vi y525.1.heard.steps, vi y525.1.heard.want.base, vi y525.1.heard.want.have_, vs A525_0_heard_input y525.1.heard.input c525_0_heard_input, vb y525.1.stepped, vy y525.1.told.lateral, vy y525.1.told.vertical, vy y525.1.told.phase, vi y525.1.told.bank, vi y525.1.told.speed, vi y525.1.told.alt, vi y525.1.told.vs]), (161, vb (y521.2.2.1 == y525.2.2.1))] RG e532.r ?_
              refine wpq_re 161 (v := vb (y521.2.2.1 == y525.2.2.1)) (Value.bool ((y530 && (y521.2.2.1 == y525.2.2.1)))) (by kernel_rfl) (re_and1 q533) ?_
              exact wpq_sub _ (by kernel_rfl) hk4
            · refine xT 7 [5, 6, 7, 8] [] [some 0, some 1, some 2, some 3, some 5, some 6] [(6, vp b3 0), (23, vi y521.2.2.2), (27, vi y525.2.2.2), (153, Value.agg #[vi y525.1.number, vy y525.1.role, vi y525.1.steps, vi y525.1.alone, vi y525.1.stage, vi y525.1.cycle, vs A525_0_input y525.1.input c525_0_input, vb y525.1.fresh, vb y525.1.isHeard, vy y525.1.heard.role, vi y525.1.heard.steps, vi y525.1.heard.want.base, vi y525.1.heard.want.have_, vs A525_0_heard_input y525.1.heard.input c525_0_heard_input, vb y525.1.stepped, vy y525.1.told.lateral, vy y525.1.told.vertical, vy y525.1.told.phase, vi y525.1.told.bank, vi y525.1.told.speed, vi y525.1.told.alt, vi y525.1.told.vs]), (161, vb false)] RG e532.r ?_
              refine wpq_re 161 (v := vb false) (Value.bool ((y530 && (y521.2.2.1 == y525.2.2.1)))) (by kernel_rfl) (re_and0 q533) ?_
              exact wpq_sub _ (by kernel_rfl) hk4
          · refine xT 6 [9] [] [some 0, some 1, some 2, some 3, some 5, some 6] [(6, vp b3 0), (23, vi y521.2.2.2), (27, vi y525.2.2.2), (153, Value.agg #[vi y525.1.number, vy y525.1.role, vi y525.1.steps, vi y525.1.alone, vi y525.1.stage, vi y525.1.cycle, vs A525_0_input y525.1.input c525_0_input, vb y525.1.fresh, vb y525.1.isHeard, vy y525.1.heard.role, vi y525.1.heard.steps, vi y525.1.heard.want.base, vi y525.1.heard.want.have_, vs A525_0_heard_input y525.1.heard.input c525_0_heard_input, vb y525.1.stepped, vy y525.1.told.lateral, vy y525.1.told.vertical, vy y525.1.told.phase, vi y525.1.told.bank, vi y525.1.told.speed, vi y525.1.told.alt, vi y525.1.told.vs]), (162, vb (y530 && (y521.2.2.1 == y525.2.2.1)))] RG e532.r ?_
            refine wpa_grp 2 [true, true, true, true, true, true, true, true, true, true, true, true, true, true, false, false] [(6, vp b3 0), (153, Value.agg #[vi y525.1.number, vy y525.1.role, vi y525.1.steps, vi y525.1.alone, vi y525.1.stage, vi y525.1.cycle, vs A525_0_input y525.1.input c525_0_input, vb y525.1.fresh, vb y525.1.isHeard, vy y525.1.heard.role, vi y525.1.heard.steps, vi y525.1.heard.want.base, vi y525.1.heard.want.have_, vs A525_0_heard_input y525.1.heard.input c525_0_heard_input, vb y525.1.stepped, vy y525.1.told.lateral, vy y525.1.told.vertical, vy y525.1.told.phase, vi y525.1.told.bank, vi y525.1.told.speed, vi y525.1.told.alt, vi y525.1.told.vs]), (166, vb ((y530 && (y521.2.2.1 == y525.2.2.1)) && (y521.2.2.2 == y525.2.2.2)))] (fun hk9 => ?_) ?_
            · refine wpq_split 162 (b := (y530 && (y521.2.2.1 == y525.2.2.1))) (by kernel_rfl) (fun q534 => ?_) (fun q534 => ?_)
              · have q534l := (and_true_ q534).1
                have q534r := (and_true_ q534).2
                have q534rp : y521.2.2.1 = y525.2.2.1 := eq_of_beq q534r
                refine xT 2 [10, 11, 12, 13] [] [some 0, some 1, some 2, some 3, some 5, some 6] [(6, vp b3 0), (153, Value.agg #[vi y525.1.number, vy y525.1.role, vi y525.1.steps, vi y525.1.alone, vi y525.1.stage, vi y525.1.cycle, vs A525_0_input y525.1.input c525_0_input, vb y525.1.fresh, vb y525.1.isHeard, vy y525.1.heard.role, vi y525.1.heard.steps, vi y525.1.heard.want.base, vi y525.1.heard.want.have_, vs A525_0_heard_input y525.1.heard.input c525_0_heard_input, vb y525.1.stepped, vy y525.1.told.lateral, vy y525.1.told.vertical, vy y525.1.told.phase, vi y525.1.told.bank, vi y525.1.told.speed, vi y525.1.told.alt, vi y525.1.told.vs]), (166, vb (y521.2.2.2 == y525.2.2.2))] RG e532.r ?_
                refine wpq_re 166 (v := vb (y521.2.2.2 == y525.2.2.2)) (Value.bool (((y530 && (y521.2.2.1 == y525.2.2.1)) && (y521.2.2.2 == y525.2.2.2)))) (by kernel_rfl) (re_and1 q534) ?_
                exact wpq_sub _ (by kernel_rfl) hk9
              · refine xT 2 [10, 11, 12, 13] [] [some 0, some 1, some 2, some 3, some 5, some 6] [(6, vp b3 0), (153, Value.agg #[vi y525.1.number, vy y525.1.role, vi y525.1.steps, vi y525.1.alone, vi y525.1.stage, vi y525.1.cycle, vs A525_0_input y525.1.input c525_0_input, vb y525.1.fresh, vb y525.1.isHeard, vy y525.1.heard.role, vi y525.1.heard.steps, vi y525.1.heard.want.base, vi y525.1.heard.want.have_, vs A525_0_heard_input y525.1.heard.input c525_0_heard_input, vb y525.1.stepped, vy y525.1.told.lateral, vy y525.1.told.vertical, vy y525.1.told.phase, vi y525.1.told.bank, vi y525.1.told.speed, vi y525.1.told.alt, vi y525.1.told.vs]), (166, vb false)] RG e532.r ?_
                refine wpq_re 166 (v := vb false) (Value.bool (((y530 && (y521.2.2.1 == y525.2.2.1)) && (y521.2.2.2 == y525.2.2.2)))) (by kernel_rfl) (re_and0 q534) ?_
                exact wpq_sub _ (by kernel_rfl) hk9
            · refine xO1 (lds := [0, 1, 2]) 14 ?_
              refine xId (lds := [0, 1, 2]) e532.r (eStL b3 0 4) ?_
              rintro _ _ _ - ⟨rfl, rfl⟩
              refine kk [some 0, some 1, some 2, some 3, some 5, some 6] ?_
              refine xT 0 [15] [] [some 0, some 1, some 2, some 3, some 5, some 6] [(6, vp b3 0), (7, vb ((y530 && (y521.2.2.1 == y525.2.2.1)) && (y521.2.2.2 == y525.2.2.2)))] RG e532.r ?_
              refine xAe (lds := [0, 1, 2]) ?_
              refine wpq_then ?_
              have f521_n_input := f521_n_input.mono (e527.trans e532).b
              have f521_n_heard_input := f521_n_heard_input.mono (e527.trans e532).b
              have f521_n_set__in_ := f521_n_set__in_.mono (e527.trans e532).b
              have f525_0_input := f525_0_input.mono e532.b
              have f525_0_heard_input := f525_0_heard_input.mono e532.b
              have eS := (Option.some.inj hS).symm
              subst eS
              exact xRetC [some 3] [(6, 4)] (e6.trans (e523.trans (e527.trans e532))) ⟨A521_n_input, c521_n_input, A521_n_heard_input, c521_n_heard_input, A521_n_set__in_, c521_n_set__in_, A525_0_input, c525_0_input, A525_0_heard_input, c525_0_heard_input, by kernel_rfl, by kernel_rfl, f521_n_input, f521_n_heard_input, f521_n_set__in_, f525_0_input, f525_0_heard_input⟩ (fun _ _ h => h)
        · have hS := cond_F h520 hS
          have h520p : ¬ (t4 = 2) := ne_of_beq_false_ h520
          refine xSq ?_
          refine xRg ?_
          refine xB 2 [] [(0, vp b_n 0), (4, vp b1 0), (5, vp b2 0), (6, vp b3 0), (58, vi t4), (167, vb (t4 == 3))] ?_
          refine xRe ?_
          refine wpq_then ?_
          refine xCd ((t4 == 3)) (fun h535 => ?_) (fun h535 => ?_)
          · have hS := cond_T h535 hS
            have h535p : t4 = 3 := eq_of_beq h535
            refine xSq ?_
            refine xRg ?_
            refine xB 5 [(2, 1), (4, 1)] [(4, vp b1 0), (5, vp b2 0), (6, vp b3 0), (170, vp b_n 0), (172, Value.agg #[vy c.frame.label, vy c.frame.from_, vi c.frame.cycle, vs Ac_frame_payload c.frame.payload cc_frame_payload]), (174, vb c.came)] ?_
            refine xSel [some 3, some 0, some 1, some 2] ?_
            have fn_input := fn_input.mono e6.b
            have fn_heard_input := fn_heard_input.mono e6.b
            have fn_set__in_ := fn_set__in_.mono e6.b
            have fc_frame_payload := fc_frame_payload.mono e6.b
            obtain ⟨y536, hy536, hS⟩ := bindO_T hS
            refine xE (eC 1 (fun g' lr eb ln => c49 g' b_n n An_input cn_input An_heard_input cn_heard_input An_set__in_ cn_set__in_ c.frame Ac_frame_payload cc_frame_payload (c.came) (by rw [eb]; exact fn_input) (by rw [eb]; exact fn_heard_input) (by rw [eb]; exact fn_set__in_) ((fc_frame_payload.mono g5.br).mono lr) hy536)) ?_
            rintro _ g537 _ e538 ⟨_, rfl, A536_n_input, c536_n_input, A536_n_heard_input, c536_n_heard_input, A536_n_set__in_, c536_n_set__in_, A536_0_in_, c536_0_in_, rfl, rfl, f536_n_input, f536_n_heard_input, f536_n_set__in_, f536_0_in_⟩
            have nf536_n_input := f536_n_input.len
            have nf536_n_heard_input := f536_n_heard_input.len
            have nf536_n_set__in_ := f536_n_set__in_.len
            have nf536_0_in_ := f536_0_in_.len
            refine xB 4 [] [(4, vp b1 0), (5, vp b2 0), (6, vp b3 0), (176, Value.agg #[vi y536.2.1.steps, vi y536.2.1.cycle, vb y536.2.1.fresh, vs A536_0_in_ y536.2.1.in_ c536_0_in_]), (177, vb y536.2.2.1), (178, vi y536.2.2.2)] ?_
            refine xE eB ?_
            rintro _ _ _ - ⟨b539, rfl, rfl, rfl⟩
            refine xBo 3 [(11, 0)] [some ⟨b539, 64, (cSett y536.2.1 A536_0_in_ c536_0_in_)⟩, some ⟨b_n, 131, (cNode y536.1 A536_n_input c536_n_input A536_n_heard_input c536_n_heard_input A536_n_set__in_ c536_n_set__in_)⟩, some ⟨b3, 96, (cRNode (⟨0, 0, 0, 0, 0, 0, ([] : List UInt8), false, false, (⟨0, 0, (⟨0, 0⟩ : Want), ([] : List UInt8)⟩ : Heard), false, (⟨0, 0, 0, 0, 0, 0, 0⟩ : Targets)⟩ : RNode) none 0 none 0)⟩, some ⟨b2, 102, (cCallT c Ac_input cc_input Ac_frame_payload cc_frame_payload)⟩, some ⟨b1, 96, (cRNode m Am_input cm_input Am_heard_input cm_heard_input)⟩] [(4, vp b1 0), (5, vp b2 0), (6, vp b3 0), (28, vp b539 0), (29, vb y536.2.2.1), (30, vi y536.2.2.2)] ?_
            refine xRe ?_
            refine wpq_then ?_
            refine xSq ?_
            refine xRg ?_
            refine xB 5 [(0, 4), (2, 3), (4, 3)] [(6, vp b3 0), (28, vp b539 0), (29, vb y536.2.2.1), (30, vi y536.2.2.2), (180, Value.agg #[vi m.number, vy m.role, vi m.steps, vi m.alone, vi m.stage, vi m.cycle, vs Am_input m.input cm_input, vb m.fresh, vb m.isHeard, vy m.heard.role, vi m.heard.steps, vi m.heard.want.base, vi m.heard.want.have_, vs Am_heard_input m.heard.input cm_heard_input, vb m.stepped, vy m.told.lateral, vy m.told.vertical, vy m.told.phase, vi m.told.bank, vi m.told.speed, vi m.told.alt, vi m.told.vs]), (182, Value.agg #[vy c.frame.label, vy c.frame.from_, vi c.frame.cycle, vs Ac_frame_payload c.frame.payload cc_frame_payload]), (184, vb c.came)] ?_
            have fm_input := fm_input.mono (e6.trans e538).b
            have fm_heard_input := fm_heard_input.mono (e6.trans e538).b
            have fc_frame_payload := fc_frame_payload.mono e538.b
            obtain ⟨y540, hy540, hS⟩ := bindO_T hS
            refine xE (eC 0 (fun g' lr eb ln => c63 g' m Am_input cm_input Am_heard_input cm_heard_input c.frame Ac_frame_payload cc_frame_payload (c.came) (by rw [eb]; exact fm_input) (by rw [eb]; exact fm_heard_input) (by rw [eb]; exact fc_frame_payload) hy540)) ?_
            rintro _ g541 _ e542 ⟨_, rfl, A540_0_input, c540_0_input, A540_0_heard_input, c540_0_heard_input, A540_1_in_, c540_1_in_, rfl, rfl, f540_0_input, f540_0_heard_input, f540_1_in_⟩
            have nf540_0_input := f540_0_input.len
            have nf540_0_heard_input := f540_0_heard_input.len
            have nf540_1_in_ := f540_1_in_.len
            refine xB 5 [] [(6, vp b3 0), (28, vp b539 0), (29, vb y536.2.2.1), (30, vi y536.2.2.2), (186, Value.agg #[vi y540.1.number, vy y540.1.role, vi y540.1.steps, vi y540.1.alone, vi y540.1.stage, vi y540.1.cycle, vs A540_0_input y540.1.input c540_0_input, vb y540.1.fresh, vb y540.1.isHeard, vy y540.1.heard.role, vi y540.1.heard.steps, vi y540.1.heard.want.base, vi y540.1.heard.want.have_, vs A540_0_heard_input y540.1.heard.input c540_0_heard_input, vb y540.1.stepped, vy y540.1.told.lateral, vy y540.1.told.vertical, vy y540.1.told.phase, vi y540.1.told.bank, vi y540.1.told.speed, vi y540.1.told.alt, vi y540.1.told.vs]), (187, Value.agg #[vi y540.2.1.steps, vi y540.2.1.cycle, vb y540.2.1.fresh, vs A540_1_in_ y540.2.1.in_ c540_1_in_]), (188, vb y540.2.2.1), (189, vi y540.2.2.2)] ?_
            refine xE eB ?_
            rintro _ _ _ - ⟨b543, rfl, rfl, rfl⟩
            refine xE eB ?_
            rintro _ _ _ - ⟨b544, rfl, rfl, rfl⟩
            refine xBo 4 [(13, 1), (14, 0)] [some ⟨b544, 67, (cSett y540.2.1 A540_1_in_ c540_1_in_)⟩, some ⟨b543, 96, (cRNode y540.1 A540_0_input c540_0_input A540_0_heard_input c540_0_heard_input)⟩, some ⟨b539, 64, (cSett y536.2.1 A536_0_in_ c536_0_in_)⟩, some ⟨b_n, 131, (cNode y536.1 A536_n_input c536_n_input A536_n_heard_input c536_n_heard_input A536_n_set__in_ c536_n_set__in_)⟩, some ⟨b3, 96, (cRNode (⟨0, 0, 0, 0, 0, 0, ([] : List UInt8), false, false, (⟨0, 0, (⟨0, 0⟩ : Want), ([] : List UInt8)⟩ : Heard), false, (⟨0, 0, 0, 0, 0, 0, 0⟩ : Targets)⟩ : RNode) none 0 none 0)⟩, some ⟨b2, 102, (cCallT c Ac_input cc_input Ac_frame_payload cc_frame_payload)⟩, some ⟨b1, 96, (cRNode m Am_input cm_input Am_heard_input cm_heard_input)⟩] [(6, vp b3 0), (28, vp b539 0), (29, vb y536.2.2.1), (30, vi y536.2.2.2), (31, vp b543 0), (32, vp b544 0), (33, vb y540.2.2.1), (34, vi y540.2.2.2)] ?_
            refine xRe ?_
            refine wpq_then ?_
            refine xSq ?_
            refine xDr 0 [0, 1, 3] [16] [some ⟨b544, 67, (cSett y540.2.1 A540_1_in_ c540_1_in_)⟩, some ⟨b543, 96, (cRNode y540.1 A540_0_input c540_0_input A540_0_heard_input c540_0_heard_input)⟩, some ⟨b539, 64, (cSett y536.2.1 A536_0_in_ c536_0_in_)⟩, some ⟨b_n, 131, (cNode y536.1 A536_n_input c536_n_input A536_n_heard_input c536_n_heard_input A536_n_set__in_ c536_n_set__in_)⟩, some ⟨b2, 102, (cCallT c Ac_input cc_input Ac_frame_payload cc_frame_payload)⟩, some ⟨b1, 96, (cRNode m Am_input cm_input Am_heard_input cm_heard_input)⟩] 17 (fun RG => ?_) (fun _ _ _ _ _ h => h)
            refine xT 14 [0, 1, 3] [(0, 1), (1, 2), (3, 0)] [some 0, some 1, some 2, some 3, some 5, some 6] [(6, vp b3 0), (29, vb y536.2.2.1), (30, vi y536.2.2.2), (33, vb y540.2.2.1), (34, vi y540.2.2.2), (190, Value.agg #[vi y540.1.number, vy y540.1.role, vi y540.1.steps, vi y540.1.alone, vi y540.1.stage, vi y540.1.cycle, vs A540_0_input y540.1.input c540_0_input, vb y540.1.fresh, vb y540.1.isHeard, vy y540.1.heard.role, vi y540.1.heard.steps, vi y540.1.heard.want.base, vi y540.1.heard.want.have_, vs A540_0_heard_input y540.1.heard.input c540_0_heard_input, vb y540.1.stepped, vy y540.1.told.lateral, vy y540.1.told.vertical, vy y540.1.told.phase, vi y540.1.told.bank, vi y540.1.told.speed, vi y540.1.told.alt, vi y540.1.told.vs]), (191, Value.agg #[vi y536.2.1.steps, vi y536.2.1.cycle, vb y536.2.1.fresh, vs A536_0_in_ y536.2.1.in_ c536_0_in_]), (193, Value.agg #[vi y540.2.1.steps, vi y540.2.1.cycle, vb y540.2.1.fresh, vs A540_1_in_ y540.2.1.in_ c540_1_in_])] RG (Psi.le.refl _) ?_
            have f536_0_in_ := f536_0_in_.mono e542.b
            obtain ⟨y545, hy545, hS⟩ := letJ_T hS
            refine xO1 (lds := [0, 1, 3]) 2 ?_
            refine xIe (lds := [0, 1, 3]) (Psi.le.refl _) (eC 0 (fun g' lr eb ln => c33 g' y536.2.1 A536_0_in_ c536_0_in_ (by rw [eb]; exact f536_0_in_) hy545)) ?_
            rintro _ g546 _ e547 ⟨_, rfl, A545_0_in_, c545_0_in_, rfl, rfl, f545_0_in_⟩
            refine kk [some 0, some 1, some 2, some 3, some 5, some 6] ?_
            have nf545_0_in_ := f545_0_in_.len
            have f540_1_in_ := f540_1_in_.mono e547.b
            obtain ⟨y548, hy548, hS⟩ := letJ_T hS
            refine xO1 (lds := [0, 1, 3]) 4 ?_
            refine xIe (lds := [0, 1, 3]) e547.r (eC 0 (fun g' lr eb ln => c35 g' y545 A545_0_in_ c545_0_in_ y540.2.1 A540_1_in_ c540_1_in_ ((f545_0_in_.mono g546.br).mono lr) ((f540_1_in_.mono g546.br).mono lr) hy548)) ?_
            rintro _ g549 _ e550 ⟨_, rfl, rfl, rfl⟩
            refine kk [some 0, some 1, some 2, some 3, some 5, some 6] ?_
            refine xT 11 [5] [] [some 0, some 1, some 2, some 3, some 5, some 6] [(6, vp b3 0), (29, vb y536.2.2.1), (30, vi y536.2.2.2), (33, vb y540.2.2.1), (34, vi y540.2.2.2), (190, Value.agg #[vi y540.1.number, vy y540.1.role, vi y540.1.steps, vi y540.1.alone, vi y540.1.stage, vi y540.1.cycle, vs A540_0_input y540.1.input c540_0_input, vb y540.1.fresh, vb y540.1.isHeard, vy y540.1.heard.role, vi y540.1.heard.steps, vi y540.1.heard.want.base, vi y540.1.heard.want.have_, vs A540_0_heard_input y540.1.heard.input c540_0_heard_input, vb y540.1.stepped, vy y540.1.told.lateral, vy y540.1.told.vertical, vy y540.1.told.phase, vi y540.1.told.bank, vi y540.1.told.speed, vi y540.1.told.alt, vi y540.1.told.vs]), (195, vb y548)] RG (e547.trans e550).r ?_
            refine wpa_grp 7 [true, true, true, true, true, true, true, true, true, true, false, false, false, false, false, false, false] [(6, vp b3 0), (30, vi y536.2.2.2), (34, vi y540.2.2.2), (190, Value.agg #[vi y540.1.number, vy y540.1.role, vi y540.1.steps, vi y540.1.alone, vi y540.1.stage, vi y540.1.cycle, vs A540_0_input y540.1.input c540_0_input, vb y540.1.fresh, vb y540.1.isHeard, vy y540.1.heard.role, vi y540.1.heard.steps, vi y540.1.heard.want.base, vi y540.1.heard.want.have_, vs A540_0_heard_input y540.1.heard.input c540_0_heard_input, vb y540.1.stepped, vy y540.1.told.lateral, vy y540.1.told.vertical, vy y540.1.told.phase, vi y540.1.told.bank, vi y540.1.told.speed, vi y540.1.told.alt, vi y540.1.told.vs]), (199, vb (y548 && (y536.2.2.1 == y540.2.2.1)))] (fun hk5 => ?_) ?_
            · refine wpq_split 195 (b := y548) (by kernel_rfl) (fun q551 => ?_) (fun q551 => ?_)
              · refine xT 7 [6, 7, 8, 9] [] [some 0, some 1, some 2, some 3, some 5, some 6] [(6, vp b3 0), (30, vi y536.2.2.2), (34, vi y540.2.2.2), (190, Value.agg #[vi y540.1.number, vy y540.1.role, vi y540.1.steps, vi y540.1.alone, vi y540.1.stage, vi y540.1.cycle, vs A540_0_input y540.1.input c540_0_input, vb y540.1.fresh, vb y540.1.isHeard, vy y540.1.heard.role, vi y540.1.heard.steps, vi y540.1.heard.want.base, vi y540.1.heard.want.have_, vs A540_0_heard_input y540.1.heard.input c540_0_heard_input, vb y540.1.stepped, vy y540.1.told.lateral, vy y540.1.told.vertical, vy y540.1.told.phase, vi y540.1.told.bank, vi y540.1.told.speed, vi y540.1.told.alt, vi y540.1.told.vs]), (199, vb (y536.2.2.1 == y540.2.2.1))] RG (e547.trans e550).r ?_
                refine wpq_re 199 (v := vb (y536.2.2.1 == y540.2.2.1)) (Value.bool ((y548 && (y536.2.2.1 == y540.2.2.1)))) (by kernel_rfl) (re_and1 q551) ?_
                exact wpq_sub _ (by kernel_rfl) hk5
              · refine xT 7 [6, 7, 8, 9] [] [some 0, some 1, some 2, some 3, some 5, some 6] [(6, vp b3 0), (30, vi y536.2.2.2), (34, vi y540.2.2.2), (190, Value.agg #[vi y540.1.number, vy y540.1.role, vi y540.1.steps, vi y540.1.alone, vi y540.1.stage, vi y540.1.cycle, vs A540_0_input y540.1.input c540_0_input, vb y540.1.fresh, vb y540.1.isHeard, vy y540.1.heard.role, vi y540.1.heard.steps, vi y540.1.heard.want.base, vi y540.1.heard.want.have_, vs A540_0_heard_input y540.1.heard.input c540_0_heard_input, vb y540.1.stepped, vy y540.1.told.lateral, vy y540.1.told.vertical, vy y540.1.told.phase, vi y540.1.told.bank, vi y540.1.told.speed, vi y540.1.told.alt, vi y540.1.told.vs]), (199, vb false)] RG (e547.trans e550).r ?_
                refine wpq_re 199 (v := vb false) (Value.bool ((y548 && (y536.2.2.1 == y540.2.2.1)))) (by kernel_rfl) (re_and0 q551) ?_
                exact wpq_sub _ (by kernel_rfl) hk5
            · refine xT 6 [10] [] [some 0, some 1, some 2, some 3, some 5, some 6] [(6, vp b3 0), (30, vi y536.2.2.2), (34, vi y540.2.2.2), (190, Value.agg #[vi y540.1.number, vy y540.1.role, vi y540.1.steps, vi y540.1.alone, vi y540.1.stage, vi y540.1.cycle, vs A540_0_input y540.1.input c540_0_input, vb y540.1.fresh, vb y540.1.isHeard, vy y540.1.heard.role, vi y540.1.heard.steps, vi y540.1.heard.want.base, vi y540.1.heard.want.have_, vs A540_0_heard_input y540.1.heard.input c540_0_heard_input, vb y540.1.stepped, vy y540.1.told.lateral, vy y540.1.told.vertical, vy y540.1.told.phase, vi y540.1.told.bank, vi y540.1.told.speed, vi y540.1.told.alt, vi y540.1.told.vs]), (200, vb (y548 && (y536.2.2.1 == y540.2.2.1)))] RG (e547.trans e550).r ?_
              refine wpa_grp 2 [true, true, true, true, true, true, true, true, true, true, true, true, true, true, true, false, false] [(6, vp b3 0), (190, Value.agg #[vi y540.1.number, vy y540.1.role, vi y540.1.steps, vi y540.1.alone, vi y540.1.stage, vi y540.1.cycle, vs A540_0_input y540.1.input c540_0_input, vb y540.1.fresh, vb y540.1.isHeard, vy y540.1.heard.role, vi y540.1.heard.steps, vi y540.1.heard.want.base, vi y540.1.heard.want.have_, vs A540_0_heard_input y540.1.heard.input c540_0_heard_input, vb y540.1.stepped, vy y540.1.told.lateral, vy y540.1.told.vertical, vy y540.1.told.phase, vi y540.1.told.bank, vi y540.1.told.speed, vi y540.1.told.alt, vi y540.1.told.vs]), (204, vb ((y548 && (y536.2.2.1 == y540.2.2.1)) && (y536.2.2.2 == y540.2.2.2)))] (fun hk10 => ?_) ?_
              · refine wpq_split 200 (b := (y548 && (y536.2.2.1 == y540.2.2.1))) (by kernel_rfl) (fun q552 => ?_) (fun q552 => ?_)
                · have q552l := (and_true_ q552).1
                  have q552r := (and_true_ q552).2
                  have q552rp : y536.2.2.1 = y540.2.2.1 := eq_of_beq q552r
                  refine xT 2 [11, 12, 13, 14] [] [some 0, some 1, some 2, some 3, some 5, some 6] [(6, vp b3 0), (190, Value.agg #[vi y540.1.number, vy y540.1.role, vi y540.1.steps, vi y540.1.alone, vi y540.1.stage, vi y540.1.cycle, vs A540_0_input y540.1.input c540_0_input, vb y540.1.fresh, vb y540.1.isHeard, vy y540.1.heard.role, vi y540.1.heard.steps, vi y540.1.heard.want.base, vi y540.1.heard.want.have_, vs A540_0_heard_input y540.1.heard.input c540_0_heard_input, vb y540.1.stepped, vy y540.1.told.lateral, vy y540.1.told.vertical, vy y540.1.told.phase, vi y540.1.told.bank, vi y540.1.told.speed, vi y540.1.told.alt, vi y540.1.told.vs]), (204, vb (y536.2.2.2 == y540.2.2.2))] RG (e547.trans e550).r ?_
                  refine wpq_re 204 (v := vb (y536.2.2.2 == y540.2.2.2)) (Value.bool (((y548 && (y536.2.2.1 == y540.2.2.1)) && (y536.2.2.2 == y540.2.2.2)))) (by kernel_rfl) (re_and1 q552) ?_
                  exact wpq_sub _ (by kernel_rfl) hk10
                · refine xT 2 [11, 12, 13, 14] [] [some 0, some 1, some 2, some 3, some 5, some 6] [(6, vp b3 0), (190, Value.agg #[vi y540.1.number, vy y540.1.role, vi y540.1.steps, vi y540.1.alone, vi y540.1.stage, vi y540.1.cycle, vs A540_0_input y540.1.input c540_0_input, vb y540.1.fresh, vb y540.1.isHeard, vy y540.1.heard.role, vi y540.1.heard.steps, vi y540.1.heard.want.base, vi y540.1.heard.want.have_, vs A540_0_heard_input y540.1.heard.input c540_0_heard_input, vb y540.1.stepped, vy y540.1.told.lateral, vy y540.1.told.vertical, vy y540.1.told.phase, vi y540.1.told.bank, vi y540.1.told.speed, vi y540.1.told.alt, vi y540.1.told.vs]), (204, vb false)] RG (e547.trans e550).r ?_
                  refine wpq_re 204 (v := vb false) (Value.bool (((y548 && (y536.2.2.1 == y540.2.2.1)) && (y536.2.2.2 == y540.2.2.2)))) (by kernel_rfl) (re_and0 q552) ?_
                  exact wpq_sub _ (by kernel_rfl) hk10
              · refine xO1 (lds := [0, 1, 3]) 15 ?_
                refine xId (lds := [0, 1, 3]) (e547.trans e550).r (eStL b3 0 4) ?_
                rintro _ _ _ - ⟨rfl, rfl⟩
                refine kk [some 0, some 1, some 2, some 3, some 5, some 6] ?_
                refine xT 0 [16] [] [some 0, some 1, some 2, some 3, some 5, some 6] [(6, vp b3 0), (7, vb ((y548 && (y536.2.2.1 == y540.2.2.1)) && (y536.2.2.2 == y540.2.2.2)))] RG (e547.trans e550).r ?_
                refine xAe (lds := [0, 1, 3]) ?_
                refine wpq_then ?_
                have f536_n_input := f536_n_input.mono (e542.trans (e547.trans e550)).b
                have f536_n_heard_input := f536_n_heard_input.mono (e542.trans (e547.trans e550)).b
                have f536_n_set__in_ := f536_n_set__in_.mono (e542.trans (e547.trans e550)).b
                have f540_0_input := f540_0_input.mono (e547.trans e550).b
                have f540_0_heard_input := f540_0_heard_input.mono (e547.trans e550).b
                have eS := (Option.some.inj hS).symm
                subst eS
                exact xRetC [some 3] [(6, 4)] (e6.trans (e538.trans (e542.trans (e547.trans e550)))) ⟨A536_n_input, c536_n_input, A536_n_heard_input, c536_n_heard_input, A536_n_set__in_, c536_n_set__in_, A540_0_input, c540_0_input, A540_0_heard_input, c540_0_heard_input, by kernel_rfl, by kernel_rfl, f536_n_input, f536_n_heard_input, f536_n_set__in_, f540_0_input, f540_0_heard_input⟩ (fun _ _ h => h)
          · have hS := cond_F h535 hS
            have h535p : ¬ (t4 = 3) := ne_of_beq_false_ h535
            refine xSq ?_
            refine xRg ?_
            refine xB 2 [] [(0, vp b_n 0), (4, vp b1 0), (5, vp b2 0), (6, vp b3 0), (58, vi t4), (205, vb (t4 == 4))] ?_
            refine xRe ?_
            refine wpq_then ?_
            refine xCd ((t4 == 4)) (fun h553 => ?_) (fun h553 => ?_)
            · have hS := cond_T h553 hS
              have h553p : t4 = 4 := eq_of_beq h553
              refine xSq ?_
              refine xRg ?_
              refine xB 3 [(2, 1)] [(4, vp b1 0), (5, vp b2 0), (6, vp b3 0), (208, vp b_n 0), (210, Value.agg #[vy c.targets.lateral, vy c.targets.vertical, vy c.targets.phase, vi c.targets.bank, vi c.targets.speed, vi c.targets.alt, vi c.targets.vs])] ?_
              refine xSel [some 3, some 0, some 1, some 2] ?_
              have fn_input := fn_input.mono e6.b
              have fn_heard_input := fn_heard_input.mono e6.b
              have fn_set__in_ := fn_set__in_.mono e6.b
              obtain ⟨y554, hy554, hS⟩ := bindO_T hS
              refine xE (eC 1 (fun g' lr eb ln => c50 g' b_n n An_input cn_input An_heard_input cn_heard_input An_set__in_ cn_set__in_ c.targets (by rw [eb]; exact fn_input) (by rw [eb]; exact fn_heard_input) (by rw [eb]; exact fn_set__in_) hy554)) ?_
              rintro _ g555 _ e556 ⟨_, rfl, A554_n_input, c554_n_input, A554_n_heard_input, c554_n_heard_input, A554_n_set__in_, c554_n_set__in_, A554_0_payload, c554_0_payload, rfl, rfl, f554_n_input, f554_n_heard_input, f554_n_set__in_, f554_0_payload⟩
              have nf554_n_input := f554_n_input.len
              have nf554_n_heard_input := f554_n_heard_input.len
              have nf554_n_set__in_ := f554_n_set__in_.len
              have nf554_0_payload := f554_0_payload.len
              refine xB 4 [] [(4, vp b1 0), (5, vp b2 0), (6, vp b3 0), (212, Value.agg #[vy y554.2.1.label, vy y554.2.1.from_, vi y554.2.1.cycle, vs A554_0_payload y554.2.1.payload c554_0_payload]), (213, vb y554.2.2.1), (214, vi y554.2.2.2)] ?_
              refine xE eB ?_
              rintro _ _ _ - ⟨b557, rfl, rfl, rfl⟩
              refine xBo 3 [(9, 0)] [some ⟨b557, 100, (cFrame y554.2.1 A554_0_payload c554_0_payload)⟩, some ⟨b_n, 131, (cNode y554.1 A554_n_input c554_n_input A554_n_heard_input c554_n_heard_input A554_n_set__in_ c554_n_set__in_)⟩, some ⟨b3, 96, (cRNode (⟨0, 0, 0, 0, 0, 0, ([] : List UInt8), false, false, (⟨0, 0, (⟨0, 0⟩ : Want), ([] : List UInt8)⟩ : Heard), false, (⟨0, 0, 0, 0, 0, 0, 0⟩ : Targets)⟩ : RNode) none 0 none 0)⟩, some ⟨b2, 102, (cCallT c Ac_input cc_input Ac_frame_payload cc_frame_payload)⟩, some ⟨b1, 96, (cRNode m Am_input cm_input Am_heard_input cm_heard_input)⟩] [(4, vp b1 0), (5, vp b2 0), (6, vp b3 0), (35, vp b557 0), (36, vb y554.2.2.1), (37, vi y554.2.2.2)] ?_
              refine xRe ?_
              refine wpq_then ?_
              refine xSq ?_
              refine xRg ?_
              refine xB 3 [(0, 4), (2, 3)] [(6, vp b3 0), (35, vp b557 0), (36, vb y554.2.2.1), (37, vi y554.2.2.2), (216, Value.agg #[vi m.number, vy m.role, vi m.steps, vi m.alone, vi m.stage, vi m.cycle, vs Am_input m.input cm_input, vb m.fresh, vb m.isHeard, vy m.heard.role, vi m.heard.steps, vi m.heard.want.base, vi m.heard.want.have_, vs Am_heard_input m.heard.input cm_heard_input, vb m.stepped, vy m.told.lateral, vy m.told.vertical, vy m.told.phase, vi m.told.bank, vi m.told.speed, vi m.told.alt, vi m.told.vs]), (218, Value.agg #[vy c.targets.lateral, vy c.targets.vertical, vy c.targets.phase, vi c.targets.bank, vi c.targets.speed, vi c.targets.alt, vi c.targets.vs])] ?_
              have fm_input := fm_input.mono (e6.trans e556).b
              have fm_heard_input := fm_heard_input.mono (e6.trans e556).b
              obtain ⟨y558, hy558, hS⟩ := bindO_T hS
              refine xE (eC 0 (fun g' lr eb ln => c64 g' m Am_input cm_input Am_heard_input cm_heard_input c.targets (by rw [eb]; exact fm_input) (by rw [eb]; exact fm_heard_input) hy558)) ?_
              rintro _ g559 _ e560 ⟨_, rfl, A558_0_input, c558_0_input, A558_0_heard_input, c558_0_heard_input, A558_1_payload, c558_1_payload, rfl, rfl, f558_0_input, f558_0_heard_input, f558_1_payload⟩
              have nf558_0_input := f558_0_input.len
              have nf558_0_heard_input := f558_0_heard_input.len
              have nf558_1_payload := f558_1_payload.len
              refine xB 5 [] [(6, vp b3 0), (35, vp b557 0), (36, vb y554.2.2.1), (37, vi y554.2.2.2), (220, Value.agg #[vi y558.1.number, vy y558.1.role, vi y558.1.steps, vi y558.1.alone, vi y558.1.stage, vi y558.1.cycle, vs A558_0_input y558.1.input c558_0_input, vb y558.1.fresh, vb y558.1.isHeard, vy y558.1.heard.role, vi y558.1.heard.steps, vi y558.1.heard.want.base, vi y558.1.heard.want.have_, vs A558_0_heard_input y558.1.heard.input c558_0_heard_input, vb y558.1.stepped, vy y558.1.told.lateral, vy y558.1.told.vertical, vy y558.1.told.phase, vi y558.1.told.bank, vi y558.1.told.speed, vi y558.1.told.alt, vi y558.1.told.vs]), (221, Value.agg #[vy y558.2.1.label, vy y558.2.1.from_, vi y558.2.1.cycle, vs A558_1_payload y558.2.1.payload c558_1_payload]), (222, vb y558.2.2.1), (223, vi y558.2.2.2)] ?_
              refine xE eB ?_
              rintro _ _ _ - ⟨b561, rfl, rfl, rfl⟩
              refine xE eB ?_
              rintro _ _ _ - ⟨b562, rfl, rfl, rfl⟩
              refine xBo 4 [(11, 1), (12, 0)] [some ⟨b562, 100, (cFrame y558.2.1 A558_1_payload c558_1_payload)⟩, some ⟨b561, 96, (cRNode y558.1 A558_0_input c558_0_input A558_0_heard_input c558_0_heard_input)⟩, some ⟨b557, 100, (cFrame y554.2.1 A554_0_payload c554_0_payload)⟩, some ⟨b_n, 131, (cNode y554.1 A554_n_input c554_n_input A554_n_heard_input c554_n_heard_input A554_n_set__in_ c554_n_set__in_)⟩, some ⟨b3, 96, (cRNode (⟨0, 0, 0, 0, 0, 0, ([] : List UInt8), false, false, (⟨0, 0, (⟨0, 0⟩ : Want), ([] : List UInt8)⟩ : Heard), false, (⟨0, 0, 0, 0, 0, 0, 0⟩ : Targets)⟩ : RNode) none 0 none 0)⟩, some ⟨b2, 102, (cCallT c Ac_input cc_input Ac_frame_payload cc_frame_payload)⟩, some ⟨b1, 96, (cRNode m Am_input cm_input Am_heard_input cm_heard_input)⟩] [(6, vp b3 0), (35, vp b557 0), (36, vb y554.2.2.1), (37, vi y554.2.2.2), (38, vp b561 0), (39, vp b562 0), (40, vb y558.2.2.1), (41, vi y558.2.2.2)] ?_
              refine xRe ?_
              refine wpq_then ?_
              refine xSq ?_
              refine xDr 0 [0, 1, 2] [15] [some ⟨b562, 100, (cFrame y558.2.1 A558_1_payload c558_1_payload)⟩, some ⟨b561, 96, (cRNode y558.1 A558_0_input c558_0_input A558_0_heard_input c558_0_heard_input)⟩, some ⟨b557, 100, (cFrame y554.2.1 A554_0_payload c554_0_payload)⟩, some ⟨b_n, 131, (cNode y554.1 A554_n_input c554_n_input A554_n_heard_input c554_n_heard_input A554_n_set__in_ c554_n_set__in_)⟩, some ⟨b2, 102, (cCallT c Ac_input cc_input Ac_frame_payload cc_frame_payload)⟩, some ⟨b1, 96, (cRNode m Am_input cm_input Am_heard_input cm_heard_input)⟩] 16 (fun RG => ?_) (fun _ _ _ _ _ h => h)
              refine xT 13 [0, 1, 2] [(0, 1), (1, 2), (2, 0)] [some 0, some 1, some 2, some 3, some 5, some 6] [(6, vp b3 0), (36, vb y554.2.2.1), (37, vi y554.2.2.2), (40, vb y558.2.2.1), (41, vi y558.2.2.2), (224, Value.agg #[vi y558.1.number, vy y558.1.role, vi y558.1.steps, vi y558.1.alone, vi y558.1.stage, vi y558.1.cycle, vs A558_0_input y558.1.input c558_0_input, vb y558.1.fresh, vb y558.1.isHeard, vy y558.1.heard.role, vi y558.1.heard.steps, vi y558.1.heard.want.base, vi y558.1.heard.want.have_, vs A558_0_heard_input y558.1.heard.input c558_0_heard_input, vb y558.1.stepped, vy y558.1.told.lateral, vy y558.1.told.vertical, vy y558.1.told.phase, vi y558.1.told.bank, vi y558.1.told.speed, vi y558.1.told.alt, vi y558.1.told.vs]), (225, Value.agg #[vy y554.2.1.label, vy y554.2.1.from_, vi y554.2.1.cycle, vs A554_0_payload y554.2.1.payload c554_0_payload]), (226, Value.agg #[vy y558.2.1.label, vy y558.2.1.from_, vi y558.2.1.cycle, vs A558_1_payload y558.2.1.payload c558_1_payload])] RG (Psi.le.refl _) ?_
              have f554_0_payload := f554_0_payload.mono e560.b
              obtain ⟨y563, hy563, hS⟩ := letJ_T hS
              refine xO1 (lds := [0, 1, 2]) 3 ?_
              refine xIe (lds := [0, 1, 2]) (Psi.le.refl _) (eC 0 (fun g' lr eb ln => c60 g' y554.2.1 A554_0_payload c554_0_payload y558.2.1 A558_1_payload c558_1_payload ((f554_0_payload.mono g559.br).mono lr) ((f558_1_payload.mono g559.br).mono lr) hy563)) ?_
              rintro _ g564 _ e565 ⟨_, rfl, rfl, rfl⟩
              refine kk [some 0, some 1, some 2, some 3, some 5, some 6] ?_
              refine xT 11 [4] [] [some 0, some 1, some 2, some 3, some 5, some 6] [(6, vp b3 0), (36, vb y554.2.2.1), (37, vi y554.2.2.2), (40, vb y558.2.2.1), (41, vi y558.2.2.2), (224, Value.agg #[vi y558.1.number, vy y558.1.role, vi y558.1.steps, vi y558.1.alone, vi y558.1.stage, vi y558.1.cycle, vs A558_0_input y558.1.input c558_0_input, vb y558.1.fresh, vb y558.1.isHeard, vy y558.1.heard.role, vi y558.1.heard.steps, vi y558.1.heard.want.base, vi y558.1.heard.want.have_, vs A558_0_heard_input y558.1.heard.input c558_0_heard_input, vb y558.1.stepped, vy y558.1.told.lateral, vy y558.1.told.vertical, vy y558.1.told.phase, vi y558.1.told.bank, vi y558.1.told.speed, vi y558.1.told.alt, vi y558.1.told.vs]), (228, vb y563)] RG e565.r ?_
              refine wpa_grp 7 [true, true, true, true, true, true, true, true, true, false, false, false, false, false, false, false] [(6, vp b3 0), (37, vi y554.2.2.2), (41, vi y558.2.2.2), (224, Value.agg #[vi y558.1.number, vy y558.1.role, vi y558.1.steps, vi y558.1.alone, vi y558.1.stage, vi y558.1.cycle, vs A558_0_input y558.1.input c558_0_input, vb y558.1.fresh, vb y558.1.isHeard, vy y558.1.heard.role, vi y558.1.heard.steps, vi y558.1.heard.want.base, vi y558.1.heard.want.have_, vs A558_0_heard_input y558.1.heard.input c558_0_heard_input, vb y558.1.stepped, vy y558.1.told.lateral, vy y558.1.told.vertical, vy y558.1.told.phase, vi y558.1.told.bank, vi y558.1.told.speed, vi y558.1.told.alt, vi y558.1.told.vs]), (232, vb (y563 && (y554.2.2.1 == y558.2.2.1)))] (fun hk4 => ?_) ?_
              · refine wpq_split 228 (b := y563) (by kernel_rfl) (fun q566 => ?_) (fun q566 => ?_)
                · refine xT 7 [5, 6, 7, 8] [] [some 0, some 1, some 2, some 3, some 5, some 6] [(6, vp b3 0), (37, vi y554.2.2.2), (41, vi y558.2.2.2), (224, Value.agg #[vi y558.1.number, vy y558.1.role, vi y558.1.steps, vi y558.1.alone, vi y558.1.stage, vi y558.1.cycle, vs A558_0_input y558.1.input c558_0_input, vb y558.1.fresh, vb y558.1.isHeard, vy y558.1.heard.role, vi y558.1.heard.steps, vi y558.1.heard.want.base, vi y558.1.heard.want.have_, vs A558_0_heard_input y558.1.heard.input c558_0_heard_input, vb y558.1.stepped, vy y558.1.told.lateral, vy y558.1.told.vertical, vy y558.1.told.phase, vi y558.1.told.bank, vi y558.1.told.speed, vi y558.1.told.alt, vi y558.1.told.vs]), (232, vb (y554.2.2.1 == y558.2.2.1))] RG e565.r ?_
                  refine wpq_re 232 (v := vb (y554.2.2.1 == y558.2.2.1)) (Value.bool ((y563 && (y554.2.2.1 == y558.2.2.1)))) (by kernel_rfl) (re_and1 q566) ?_
                  exact wpq_sub _ (by kernel_rfl) hk4
                · refine xT 7 [5, 6, 7, 8] [] [some 0, some 1, some 2, some 3, some 5, some 6] [(6, vp b3 0), (37, vi y554.2.2.2), (41, vi y558.2.2.2), (224, Value.agg #[vi y558.1.number, vy y558.1.role, vi y558.1.steps, vi y558.1.alone, vi y558.1.stage, vi y558.1.cycle, vs A558_0_input y558.1.input c558_0_input, vb y558.1.fresh, vb y558.1.isHeard, vy y558.1.heard.role, vi y558.1.heard.steps, vi y558.1.heard.want.base, vi y558.1.heard.want.have_, vs A558_0_heard_input y558.1.heard.input c558_0_heard_input, vb y558.1.stepped, vy y558.1.told.lateral, vy y558.1.told.vertical, vy y558.1.told.phase, vi y558.1.told.bank, vi y558.1.told.speed, vi y558.1.told.alt, vi y558.1.told.vs]), (232, vb false)] RG e565.r ?_
                  refine wpq_re 232 (v := vb false) (Value.bool ((y563 && (y554.2.2.1 == y558.2.2.1)))) (by kernel_rfl) (re_and0 q566) ?_
                  exact wpq_sub _ (by kernel_rfl) hk4
              · refine xT 6 [9] [] [some 0, some 1, some 2, some 3, some 5, some 6] [(6, vp b3 0), (37, vi y554.2.2.2), (41, vi y558.2.2.2), (224, Value.agg #[vi y558.1.number, vy y558.1.role, vi y558.1.steps, vi y558.1.alone, vi y558.1.stage, vi y558.1.cycle, vs A558_0_input y558.1.input c558_0_input, vb y558.1.fresh, vb y558.1.isHeard, vy y558.1.heard.role, vi y558.1.heard.steps, vi y558.1.heard.want.base, vi y558.1.heard.want.have_, vs A558_0_heard_input y558.1.heard.input c558_0_heard_input, vb y558.1.stepped, vy y558.1.told.lateral, vy y558.1.told.vertical, vy y558.1.told.phase, vi y558.1.told.bank, vi y558.1.told.speed, vi y558.1.told.alt, vi y558.1.told.vs]), (233, vb (y563 && (y554.2.2.1 == y558.2.2.1)))] RG e565.r ?_
                refine wpa_grp 2 [true, true, true, true, true, true, true, true, true, true, true, true, true, true, false, false] [(6, vp b3 0), (224, Value.agg #[vi y558.1.number, vy y558.1.role, vi y558.1.steps, vi y558.1.alone, vi y558.1.stage, vi y558.1.cycle, vs A558_0_input y558.1.input c558_0_input, vb y558.1.fresh, vb y558.1.isHeard, vy y558.1.heard.role, vi y558.1.heard.steps, vi y558.1.heard.want.base, vi y558.1.heard.want.have_, vs A558_0_heard_input y558.1.heard.input c558_0_heard_input, vb y558.1.stepped, vy y558.1.told.lateral, vy y558.1.told.vertical, vy y558.1.told.phase, vi y558.1.told.bank, vi y558.1.told.speed, vi y558.1.told.alt, vi y558.1.told.vs]), (237, vb ((y563 && (y554.2.2.1 == y558.2.2.1)) && (y554.2.2.2 == y558.2.2.2)))] (fun hk9 => ?_) ?_
                · refine wpq_split 233 (b := (y563 && (y554.2.2.1 == y558.2.2.1))) (by kernel_rfl) (fun q567 => ?_) (fun q567 => ?_)
                  · have q567l := (and_true_ q567).1
                    have q567r := (and_true_ q567).2
                    have q567rp : y554.2.2.1 = y558.2.2.1 := eq_of_beq q567r
                    refine xT 2 [10, 11, 12, 13] [] [some 0, some 1, some 2, some 3, some 5, some 6] [(6, vp b3 0), (224, Value.agg #[vi y558.1.number, vy y558.1.role, vi y558.1.steps, vi y558.1.alone, vi y558.1.stage, vi y558.1.cycle, vs A558_0_input y558.1.input c558_0_input, vb y558.1.fresh, vb y558.1.isHeard, vy y558.1.heard.role, vi y558.1.heard.steps, vi y558.1.heard.want.base, vi y558.1.heard.want.have_, vs A558_0_heard_input y558.1.heard.input c558_0_heard_input, vb y558.1.stepped, vy y558.1.told.lateral, vy y558.1.told.vertical, vy y558.1.told.phase, vi y558.1.told.bank, vi y558.1.told.speed, vi y558.1.told.alt, vi y558.1.told.vs]), (237, vb (y554.2.2.2 == y558.2.2.2))] RG e565.r ?_
                    refine wpq_re 237 (v := vb (y554.2.2.2 == y558.2.2.2)) (Value.bool (((y563 && (y554.2.2.1 == y558.2.2.1)) && (y554.2.2.2 == y558.2.2.2)))) (by kernel_rfl) (re_and1 q567) ?_
                    exact wpq_sub _ (by kernel_rfl) hk9
                  · refine xT 2 [10, 11, 12, 13] [] [some 0, some 1, some 2, some 3, some 5, some 6] [(6, vp b3 0), (224, Value.agg #[vi y558.1.number, vy y558.1.role, vi y558.1.steps, vi y558.1.alone, vi y558.1.stage, vi y558.1.cycle, vs A558_0_input y558.1.input c558_0_input, vb y558.1.fresh, vb y558.1.isHeard, vy y558.1.heard.role, vi y558.1.heard.steps, vi y558.1.heard.want.base, vi y558.1.heard.want.have_, vs A558_0_heard_input y558.1.heard.input c558_0_heard_input, vb y558.1.stepped, vy y558.1.told.lateral, vy y558.1.told.vertical, vy y558.1.told.phase, vi y558.1.told.bank, vi y558.1.told.speed, vi y558.1.told.alt, vi y558.1.told.vs]), (237, vb false)] RG e565.r ?_
                    refine wpq_re 237 (v := vb false) (Value.bool (((y563 && (y554.2.2.1 == y558.2.2.1)) && (y554.2.2.2 == y558.2.2.2)))) (by kernel_rfl) (re_and0 q567) ?_
                    exact wpq_sub _ (by kernel_rfl) hk9
                · refine xO1 (lds := [0, 1, 2]) 14 ?_
                  refine xId (lds := [0, 1, 2]) e565.r (eStL b3 0 4) ?_
                  rintro _ _ _ - ⟨rfl, rfl⟩
                  refine kk [some 0, some 1, some 2, some 3, some 5, some 6] ?_
                  refine xT 0 [15] [] [some 0, some 1, some 2, some 3, some 5, some 6] [(6, vp b3 0), (7, vb ((y563 && (y554.2.2.1 == y558.2.2.1)) && (y554.2.2.2 == y558.2.2.2)))] RG e565.r ?_
                  refine xAe (lds := [0, 1, 2]) ?_
                  refine wpq_then ?_
                  have f554_n_input := f554_n_input.mono (e560.trans e565).b
                  have f554_n_heard_input := f554_n_heard_input.mono (e560.trans e565).b
                  have f554_n_set__in_ := f554_n_set__in_.mono (e560.trans e565).b
                  have f558_0_input := f558_0_input.mono e565.b
                  have f558_0_heard_input := f558_0_heard_input.mono e565.b
                  have eS := (Option.some.inj hS).symm
                  subst eS
                  exact xRetC [some 3] [(6, 4)] (e6.trans (e556.trans (e560.trans e565))) ⟨A554_n_input, c554_n_input, A554_n_heard_input, c554_n_heard_input, A554_n_set__in_, c554_n_set__in_, A558_0_input, c558_0_input, A558_0_heard_input, c558_0_heard_input, by kernel_rfl, by kernel_rfl, f554_n_input, f554_n_heard_input, f554_n_set__in_, f558_0_input, f558_0_heard_input⟩ (fun _ _ h => h)
            · have hS := cond_F h553 hS
              have h553p : ¬ (t4 = 4) := ne_of_beq_false_ h553
              refine xSq ?_
              refine xRg ?_
              refine xB 2 [] [(0, vp b_n 0), (4, vp b1 0), (5, vp b2 0), (6, vp b3 0), (58, vi t4), (238, vb (t4 == 5))] ?_
              refine xRe ?_
              refine wpq_then ?_
              refine xCd ((t4 == 5)) (fun h568 => ?_) (fun h568 => ?_)
              · have hS := cond_T h568 hS
                have h568p : t4 = 5 := eq_of_beq h568
                refine xSq ?_
                refine xRg ?_
                refine xB 5 [(2, 1), (4, 1)] [(4, vp b1 0), (5, vp b2 0), (6, vp b3 0), (241, vp b_n 0), (243, Value.agg #[vy c.frame.label, vy c.frame.from_, vi c.frame.cycle, vs Ac_frame_payload c.frame.payload cc_frame_payload]), (245, vb c.came)] ?_
                refine xSel [some 3, some 0, some 1, some 2] ?_
                have fn_input := fn_input.mono e6.b
                have fn_heard_input := fn_heard_input.mono e6.b
                have fn_set__in_ := fn_set__in_.mono e6.b
                have fc_frame_payload := fc_frame_payload.mono e6.b
                obtain ⟨y569, hy569, hS⟩ := bindO_T hS
                refine xE (eC 1 (fun g' lr eb ln => c51 g' b_n n An_input cn_input An_heard_input cn_heard_input An_set__in_ cn_set__in_ c.frame Ac_frame_payload cc_frame_payload (c.came) (by rw [eb]; exact fn_input) (by rw [eb]; exact fn_heard_input) (by rw [eb]; exact fn_set__in_) ((fc_frame_payload.mono g5.br).mono lr) hy569)) ?_
                rintro _ g570 _ e571 ⟨_, rfl, A569_n_input, c569_n_input, A569_n_heard_input, c569_n_heard_input, A569_n_set__in_, c569_n_set__in_, rfl, rfl, f569_n_input, f569_n_heard_input, f569_n_set__in_⟩
                have nf569_n_input := f569_n_input.len
                have nf569_n_heard_input := f569_n_heard_input.len
                have nf569_n_set__in_ := f569_n_set__in_.len
                refine xB 5 [] [(4, vp b1 0), (5, vp b2 0), (6, vp b3 0), (42, vy y569.2.1), (43, vi y569.2.2)] ?_
                refine xRe ?_
                refine wpq_then ?_
                refine xSq ?_
                refine xRg ?_
                refine xB 5 [(0, 3), (2, 2), (4, 2)] [(6, vp b3 0), (42, vy y569.2.1), (43, vi y569.2.2), (250, Value.agg #[vi m.number, vy m.role, vi m.steps, vi m.alone, vi m.stage, vi m.cycle, vs Am_input m.input cm_input, vb m.fresh, vb m.isHeard, vy m.heard.role, vi m.heard.steps, vi m.heard.want.base, vi m.heard.want.have_, vs Am_heard_input m.heard.input cm_heard_input, vb m.stepped, vy m.told.lateral, vy m.told.vertical, vy m.told.phase, vi m.told.bank, vi m.told.speed, vi m.told.alt, vi m.told.vs]), (252, Value.agg #[vy c.frame.label, vy c.frame.from_, vi c.frame.cycle, vs Ac_frame_payload c.frame.payload cc_frame_payload]), (254, vb c.came)] ?_
                have fm_input := fm_input.mono (e6.trans e571).b
                have fm_heard_input := fm_heard_input.mono (e6.trans e571).b
                have fc_frame_payload := fc_frame_payload.mono e571.b
                obtain ⟨y572, hy572, hS⟩ := bindO_T hS
                refine xE (eC 0 (fun g' lr eb ln => c65 g' m Am_input cm_input Am_heard_input cm_heard_input c.frame Ac_frame_payload cc_frame_payload (c.came) (by rw [eb]; exact fm_input) (by rw [eb]; exact fm_heard_input) ((fc_frame_payload.mono g570.br).mono lr) hy572)) ?_
                rintro _ g573 _ e574 ⟨_, rfl, A572_0_input, c572_0_input, A572_0_heard_input, c572_0_heard_input, rfl, rfl, f572_0_input, f572_0_heard_input⟩
                have nf572_0_input := f572_0_input.len
                have nf572_0_heard_input := f572_0_heard_input.len
                refine xB 4 [] [(6, vp b3 0), (42, vy y569.2.1), (43, vi y569.2.2), (256, Value.agg #[vi y572.1.number, vy y572.1.role, vi y572.1.steps, vi y572.1.alone, vi y572.1.stage, vi y572.1.cycle, vs A572_0_input y572.1.input c572_0_input, vb y572.1.fresh, vb y572.1.isHeard, vy y572.1.heard.role, vi y572.1.heard.steps, vi y572.1.heard.want.base, vi y572.1.heard.want.have_, vs A572_0_heard_input y572.1.heard.input c572_0_heard_input, vb y572.1.stepped, vy y572.1.told.lateral, vy y572.1.told.vertical, vy y572.1.told.phase, vi y572.1.told.bank, vi y572.1.told.speed, vi y572.1.told.alt, vi y572.1.told.vs]), (257, vy y572.2.1), (258, vi y572.2.2)] ?_
                refine xE eB ?_
                rintro _ _ _ - ⟨b575, rfl, rfl, rfl⟩
                refine xBo 3 [(11, 0)] [some ⟨b575, 96, (cRNode y572.1 A572_0_input c572_0_input A572_0_heard_input c572_0_heard_input)⟩, some ⟨b_n, 131, (cNode y569.1 A569_n_input c569_n_input A569_n_heard_input c569_n_heard_input A569_n_set__in_ c569_n_set__in_)⟩, some ⟨b3, 96, (cRNode (⟨0, 0, 0, 0, 0, 0, ([] : List UInt8), false, false, (⟨0, 0, (⟨0, 0⟩ : Want), ([] : List UInt8)⟩ : Heard), false, (⟨0, 0, 0, 0, 0, 0, 0⟩ : Targets)⟩ : RNode) none 0 none 0)⟩, some ⟨b2, 102, (cCallT c Ac_input cc_input Ac_frame_payload cc_frame_payload)⟩, some ⟨b1, 96, (cRNode m Am_input cm_input Am_heard_input cm_heard_input)⟩] [(6, vp b3 0), (42, vy y569.2.1), (43, vi y569.2.2), (44, vp b575 0), (45, vy y572.2.1), (46, vi y572.2.2)] ?_
                refine xRe ?_
                refine wpq_then ?_
                refine xSq ?_
                refine xRg ?_
                refine xB 5 [(0, 0)] [(6, vp b3 0), (43, vi y569.2.2), (46, vi y572.2.2), (259, Value.agg #[vi y572.1.number, vy y572.1.role, vi y572.1.steps, vi y572.1.alone, vi y572.1.stage, vi y572.1.cycle, vs A572_0_input y572.1.input c572_0_input, vb y572.1.fresh, vb y572.1.isHeard, vy y572.1.heard.role, vi y572.1.heard.steps, vi y572.1.heard.want.base, vi y572.1.heard.want.have_, vs A572_0_heard_input y572.1.heard.input c572_0_heard_input, vb y572.1.stepped, vy y572.1.told.lateral, vy y572.1.told.vertical, vy y572.1.told.phase, vi y572.1.told.bank, vi y572.1.told.speed, vi y572.1.told.alt, vi y572.1.told.vs]), (263, vb (y569.2.1 == y572.2.1))] ?_
                refine wpr_grp 9 [(6, vp b3 0), (259, Value.agg #[vi y572.1.number, vy y572.1.role, vi y572.1.steps, vi y572.1.alone, vi y572.1.stage, vi y572.1.cycle, vs A572_0_input y572.1.input c572_0_input, vb y572.1.fresh, vb y572.1.isHeard, vy y572.1.heard.role, vi y572.1.heard.steps, vi y572.1.heard.want.base, vi y572.1.heard.want.have_, vs A572_0_heard_input y572.1.heard.input c572_0_heard_input, vb y572.1.stepped, vy y572.1.told.lateral, vy y572.1.told.vertical, vy y572.1.told.phase, vi y572.1.told.bank, vi y572.1.told.speed, vi y572.1.told.alt, vi y572.1.told.vs]), (267, vb ((y569.2.1 == y572.2.1) && (y569.2.2 == y572.2.2)))] (fun hk4 => ?_) ?_
                · refine wpq_split 263 (b := (y569.2.1 == y572.2.1)) (by kernel_rfl) (fun q576 => ?_) (fun q576 => ?_)
                  · have q576p : y569.2.1 = y572.2.1 := eq_of_beq q576
                    refine xB 4 [] [(6, vp b3 0), (259, Value.agg #[vi y572.1.number, vy y572.1.role, vi y572.1.steps, vi y572.1.alone, vi y572.1.stage, vi y572.1.cycle, vs A572_0_input y572.1.input c572_0_input, vb y572.1.fresh, vb y572.1.isHeard, vy y572.1.heard.role, vi y572.1.heard.steps, vi y572.1.heard.want.base, vi y572.1.heard.want.have_, vs A572_0_heard_input y572.1.heard.input c572_0_heard_input, vb y572.1.stepped, vy y572.1.told.lateral, vy y572.1.told.vertical, vy y572.1.told.phase, vi y572.1.told.bank, vi y572.1.told.speed, vi y572.1.told.alt, vi y572.1.told.vs]), (267, vb (y569.2.2 == y572.2.2))] ?_
                    refine wpq_re 267 (v := vb (y569.2.2 == y572.2.2)) (Value.bool (((y569.2.1 == y572.2.1) && (y569.2.2 == y572.2.2)))) (by kernel_rfl) (re_and1 q576) ?_
                    exact wpq_sub _ (by kernel_rfl) hk4
                  · have q576p : ¬ (y569.2.1 = y572.2.1) := ne_of_beq_false_ q576
                    refine xB 4 [] [(6, vp b3 0), (259, Value.agg #[vi y572.1.number, vy y572.1.role, vi y572.1.steps, vi y572.1.alone, vi y572.1.stage, vi y572.1.cycle, vs A572_0_input y572.1.input c572_0_input, vb y572.1.fresh, vb y572.1.isHeard, vy y572.1.heard.role, vi y572.1.heard.steps, vi y572.1.heard.want.base, vi y572.1.heard.want.have_, vs A572_0_heard_input y572.1.heard.input c572_0_heard_input, vb y572.1.stepped, vy y572.1.told.lateral, vy y572.1.told.vertical, vy y572.1.told.phase, vi y572.1.told.bank, vi y572.1.told.speed, vi y572.1.told.alt, vi y572.1.told.vs]), (267, vb false)] ?_
                    refine wpq_re 267 (v := vb false) (Value.bool (((y569.2.1 == y572.2.1) && (y569.2.2 == y572.2.2)))) (by kernel_rfl) (re_and0 q576) ?_
                    exact wpq_sub _ (by kernel_rfl) hk4
                · refine xBo 2 [(9, 2)] [some ⟨b575, 96, (cRNode y572.1 A572_0_input c572_0_input A572_0_heard_input c572_0_heard_input)⟩, some ⟨b_n, 131, (cNode y569.1 A569_n_input c569_n_input A569_n_heard_input c569_n_heard_input A569_n_set__in_ c569_n_set__in_)⟩, some ⟨b3, 96, (cRNode y572.1 A572_0_input c572_0_input A572_0_heard_input c572_0_heard_input)⟩, some ⟨b2, 102, (cCallT c Ac_input cc_input Ac_frame_payload cc_frame_payload)⟩, some ⟨b1, 96, (cRNode m Am_input cm_input Am_heard_input cm_heard_input)⟩] [(6, vp b3 0), (7, vb ((y569.2.1 == y572.2.1) && (y569.2.2 == y572.2.2)))] ?_
                  refine xRe ?_
                  refine wpq_then ?_
                  have f569_n_input := f569_n_input.mono e574.b
                  have f569_n_heard_input := f569_n_heard_input.mono e574.b
                  have f569_n_set__in_ := f569_n_set__in_.mono e574.b
                  have eS := (Option.some.inj hS).symm
                  subst eS
                  exact xRetC [some 1] [(6, 2)] (e6.trans (e571.trans e574)) ⟨A569_n_input, c569_n_input, A569_n_heard_input, c569_n_heard_input, A569_n_set__in_, c569_n_set__in_, A572_0_input, c572_0_input, A572_0_heard_input, c572_0_heard_input, by kernel_rfl, by kernel_rfl, f569_n_input, f569_n_heard_input, f569_n_set__in_, f572_0_input, f572_0_heard_input⟩ (fun _ _ h => h)
              · have hS := cond_F h568 hS
                have h568p : ¬ (t4 = 5) := ne_of_beq_false_ h568
                refine xSq ?_
                refine xRg ?_
                refine xB 2 [] [(0, vp b_n 0), (4, vp b1 0), (5, vp b2 0), (6, vp b3 0), (268, vb (t4 == 6))] ?_
                refine xRe ?_
                refine wpq_then ?_
                refine xCd ((t4 == 6)) (fun h577 => ?_) (fun h577 => ?_)
                · have hS := cond_T h577 hS
                  have h577p : t4 = 6 := eq_of_beq h577
                  refine xSq ?_
                  refine xRg ?_
                  refine xB 1 [] [(4, vp b1 0), (6, vp b3 0), (270, vp b_n 0)] ?_
                  refine xSel [some 3, some 0, some 1, some 2] ?_
                  have fn_input := fn_input.mono e6.b
                  have fn_heard_input := fn_heard_input.mono e6.b
                  have fn_set__in_ := fn_set__in_.mono e6.b
                  obtain ⟨y578, hy578, hS⟩ := letJ_T hS
                  refine xE (eC 1 (fun g' lr eb ln => c45 g' b_n n An_input cn_input An_heard_input cn_heard_input An_set__in_ cn_set__in_ (by rw [eb]; exact fn_input) (by rw [eb]; exact fn_heard_input) (by rw [eb]; exact fn_set__in_) hy578)) ?_
                  rintro _ g579 _ e580 ⟨_, rfl, A578_n_input, c578_n_input, A578_n_heard_input, c578_n_heard_input, A578_n_set__in_, c578_n_set__in_, rfl, rfl, f578_n_input, f578_n_heard_input, f578_n_set__in_⟩
                  have nf578_n_input := f578_n_input.len
                  have nf578_n_heard_input := f578_n_heard_input.len
                  have nf578_n_set__in_ := f578_n_set__in_.len
                  refine xRe ?_
                  refine wpq_then ?_
                  refine xSub [(4, vp b1 0), (6, vp b3 0)] ?_
                  refine xSq ?_
                  refine xRg ?_
                  refine xB 1 [(0, 3)] [(6, vp b3 0), (272, Value.agg #[vi m.number, vy m.role, vi m.steps, vi m.alone, vi m.stage, vi m.cycle, vs Am_input m.input cm_input, vb m.fresh, vb m.isHeard, vy m.heard.role, vi m.heard.steps, vi m.heard.want.base, vi m.heard.want.have_, vs Am_heard_input m.heard.input cm_heard_input, vb m.stepped, vy m.told.lateral, vy m.told.vertical, vy m.told.phase, vi m.told.bank, vi m.told.speed, vi m.told.alt, vi m.told.vs])] ?_
                  have fm_input := fm_input.mono (e6.trans e580).b
                  have fm_heard_input := fm_heard_input.mono (e6.trans e580).b
                  obtain ⟨y581, hy581, hS⟩ := letJ_T hS
                  refine xE (eC 0 (fun g' lr eb ln => c66 g' m Am_input cm_input Am_heard_input cm_heard_input (by rw [eb]; exact fm_input) (by rw [eb]; exact fm_heard_input) hy581)) ?_
                  rintro _ g582 _ e583 ⟨_, rfl, A581_0_input, c581_0_input, A581_0_heard_input, c581_0_heard_input, rfl, rfl, f581_0_input, f581_0_heard_input⟩
                  have nf581_0_input := f581_0_input.len
                  have nf581_0_heard_input := f581_0_heard_input.len
                  refine xBo 2 [(2, 1)] [some ⟨b_n, 131, (cNode y578 A578_n_input c578_n_input A578_n_heard_input c578_n_heard_input A578_n_set__in_ c578_n_set__in_)⟩, some ⟨b3, 96, (cRNode y581 A581_0_input c581_0_input A581_0_heard_input c581_0_heard_input)⟩, some ⟨b2, 102, (cCallT c Ac_input cc_input Ac_frame_payload cc_frame_payload)⟩, some ⟨b1, 96, (cRNode m Am_input cm_input Am_heard_input cm_heard_input)⟩] [(6, vp b3 0), (7, vb true)] ?_
                  refine xRe ?_
                  refine wpq_then ?_
                  have f578_n_input := f578_n_input.mono e583.b
                  have f578_n_heard_input := f578_n_heard_input.mono e583.b
                  have f578_n_set__in_ := f578_n_set__in_.mono e583.b
                  have eS := (Option.some.inj hS).symm
                  subst eS
                  exact xRetC [some 0] [(6, 1)] (e6.trans (e580.trans e583)) ⟨A578_n_input, c578_n_input, A578_n_heard_input, c578_n_heard_input, A578_n_set__in_, c578_n_set__in_, A581_0_input, c581_0_input, A581_0_heard_input, c581_0_heard_input, by kernel_rfl, by kernel_rfl, f578_n_input, f578_n_heard_input, f578_n_set__in_, f581_0_input, f581_0_heard_input⟩ (fun _ _ h => h)
                · have hS := cond_F h577 hS
                  have h577p : ¬ (t4 = 6) := ne_of_beq_false_ h577
                  refine xSk ?_
                  refine wpq_blockN ?_
                  refine wpq_then ?_
                  refine xSub [(0, vp b_n 0), (4, vp b1 0), (5, vp b2 0), (6, vp b3 0)] ?_
                  refine xSq ?_
                  refine xRg ?_
                  refine xB 3 [(2, 1)] [(4, vp b1 0), (5, vp b2 0), (6, vp b3 0), (274, vp b_n 0), (276, vi c.cycle)] ?_
                  refine xSel [some 3, some 0, some 1, some 2] ?_
                  have fn_input := fn_input.mono e6.b
                  have fn_heard_input := fn_heard_input.mono e6.b
                  have fn_set__in_ := fn_set__in_.mono e6.b
                  obtain ⟨y584, hy584, hS⟩ := letJ_T hS
                  refine xE (eC 1 (fun g' lr eb ln => c38 g' b_n n An_input cn_input An_heard_input cn_heard_input An_set__in_ cn_set__in_ (c.cycle : Int) (by rw [eb]; exact fn_input) (by rw [eb]; exact fn_heard_input) (by rw [eb]; exact fn_set__in_) hy584)) ?_
                  rintro _ g585 _ e586 ⟨_, rfl, A584_n_input, c584_n_input, A584_n_heard_input, c584_n_heard_input, A584_n_set__in_, c584_n_set__in_, rfl, rfl, f584_n_input, f584_n_heard_input, f584_n_set__in_⟩
                  have nf584_n_input := f584_n_input.len
                  have nf584_n_heard_input := f584_n_heard_input.len
                  have nf584_n_set__in_ := f584_n_set__in_.len
                  refine xB 1 [] [(4, vp b1 0), (5, vp b2 0), (6, vp b3 0), (47, vi y584.2)] ?_
                  refine xRe ?_
                  refine wpq_then ?_
                  refine xSq ?_
                  refine xRg ?_
                  refine xB 3 [(0, 3), (2, 2)] [(6, vp b3 0), (47, vi y584.2), (279, Value.agg #[vi m.number, vy m.role, vi m.steps, vi m.alone, vi m.stage, vi m.cycle, vs Am_input m.input cm_input, vb m.fresh, vb m.isHeard, vy m.heard.role, vi m.heard.steps, vi m.heard.want.base, vi m.heard.want.have_, vs Am_heard_input m.heard.input cm_heard_input, vb m.stepped, vy m.told.lateral, vy m.told.vertical, vy m.told.phase, vi m.told.bank, vi m.told.speed, vi m.told.alt, vi m.told.vs]), (281, vi c.cycle)] ?_
                  have fm_input := fm_input.mono (e6.trans e586).b
                  have fm_heard_input := fm_heard_input.mono (e6.trans e586).b
                  obtain ⟨y587, hy587, hS⟩ := letJ_T hS
                  refine xE (eC 0 (fun g' lr eb ln => c67 g' m Am_input cm_input Am_heard_input cm_heard_input (c.cycle : Int) (by rw [eb]; exact fm_input) (by rw [eb]; exact fm_heard_input) hy587)) ?_
                  rintro _ g588 _ e589 ⟨_, rfl, A587_0_input, c587_0_input, A587_0_heard_input, c587_0_heard_input, rfl, rfl, f587_0_input, f587_0_heard_input⟩
                  have nf587_0_input := f587_0_input.len
                  have nf587_0_heard_input := f587_0_heard_input.len
                  refine xB 3 [] [(6, vp b3 0), (47, vi y584.2), (283, Value.agg #[vi y587.1.number, vy y587.1.role, vi y587.1.steps, vi y587.1.alone, vi y587.1.stage, vi y587.1.cycle, vs A587_0_input y587.1.input c587_0_input, vb y587.1.fresh, vb y587.1.isHeard, vy y587.1.heard.role, vi y587.1.heard.steps, vi y587.1.heard.want.base, vi y587.1.heard.want.have_, vs A587_0_heard_input y587.1.heard.input c587_0_heard_input, vb y587.1.stepped, vy y587.1.told.lateral, vy y587.1.told.vertical, vy y587.1.told.phase, vi y587.1.told.bank, vi y587.1.told.speed, vi y587.1.told.alt, vi y587.1.told.vs]), (284, vi y587.2)] ?_
                  refine xE eB ?_
                  rintro _ _ _ - ⟨b590, rfl, rfl, rfl⟩
                  refine xBo 2 [(8, 0)] [some ⟨b590, 96, (cRNode y587.1 A587_0_input c587_0_input A587_0_heard_input c587_0_heard_input)⟩, some ⟨b_n, 131, (cNode y584.1 A584_n_input c584_n_input A584_n_heard_input c584_n_heard_input A584_n_set__in_ c584_n_set__in_)⟩, some ⟨b3, 96, (cRNode (⟨0, 0, 0, 0, 0, 0, ([] : List UInt8), false, false, (⟨0, 0, (⟨0, 0⟩ : Want), ([] : List UInt8)⟩ : Heard), false, (⟨0, 0, 0, 0, 0, 0, 0⟩ : Targets)⟩ : RNode) none 0 none 0)⟩, some ⟨b2, 102, (cCallT c Ac_input cc_input Ac_frame_payload cc_frame_payload)⟩, some ⟨b1, 96, (cRNode m Am_input cm_input Am_heard_input cm_heard_input)⟩] [(6, vp b3 0), (47, vi y584.2), (48, vp b590 0), (49, vi y587.2)] ?_
                  refine xRe ?_
                  refine wpq_then ?_
                  refine xSq ?_
                  refine xRg ?_
                  refine xBo 6 [(0, 0), (4, 2)] [some ⟨b590, 96, (cRNode y587.1 A587_0_input c587_0_input A587_0_heard_input c587_0_heard_input)⟩, some ⟨b_n, 131, (cNode y584.1 A584_n_input c584_n_input A584_n_heard_input c584_n_heard_input A584_n_set__in_ c584_n_set__in_)⟩, some ⟨b3, 96, (cRNode y587.1 A587_0_input c587_0_input A587_0_heard_input c587_0_heard_input)⟩, some ⟨b2, 102, (cCallT c Ac_input cc_input Ac_frame_payload cc_frame_payload)⟩, some ⟨b1, 96, (cRNode m Am_input cm_input Am_heard_input cm_heard_input)⟩] [(6, vp b3 0), (7, vb (y584.2 == y587.2))] ?_
                  refine xRe ?_
                  refine wpq_then ?_
                  have f584_n_input := f584_n_input.mono e589.b
                  have f584_n_heard_input := f584_n_heard_input.mono e589.b
                  have f584_n_set__in_ := f584_n_set__in_.mono e589.b
                  have eS := (Option.some.inj hS).symm
                  subst eS
                  exact xRetC [some 1] [(6, 2)] (e6.trans (e586.trans e589)) ⟨A584_n_input, c584_n_input, A584_n_heard_input, c584_n_heard_input, A584_n_set__in_, c584_n_set__in_, A587_0_input, c587_0_input, A587_0_heard_input, c587_0_heard_input, by kernel_rfl, by kernel_rfl, f584_n_input, f584_n_heard_input, f584_n_set__in_, f587_0_input, f587_0_heard_input⟩ (fun _ _ h => h)
  · intro u4 hS hN4
    refine xCd (c.next_) (fun h591 => ?_) (fun h591 => ?_)
    · have hS := cond_T h591 hS
      refine xRg ?_
      refine xB 3 [(1, 2)] [(0, vp b_n 0), (4, vp b1 0), (5, vp b2 0), (6, vp b3 0), (8, vi m.stage)] ?_
      refine xRe ?_
      refine xSub [(0, vp b_n 0), (4, vp b1 0), (5, vp b2 0), (6, vp b3 0), (8, vi m.stage)] ?_
      have eS := hS.symm
      exact hN4 _ eS _ _ _ (Gh.le.refl _) ⟨by kernel_rfl, by kernel_rfl⟩
    · have hS := cond_F h591 hS
      refine xSk ?_
      refine xSub [(0, vp b_n 0), (4, vp b1 0), (5, vp b2 0), (6, vp b3 0), (8, vi (Int.tmod (IntKind.i64.wrap c.kind) 8))] ?_
      have eS := hS.symm
      exact hN4 _ eS _ _ _ (Gh.le.refl _) ⟨by kernel_rfl, by kernel_rfl⟩

def o41 (n : Node) : Int :=
  ((n.role : Int))
set_option maxRecDepth 100000 in
theorem c41 (g : Gh) (a_n : Addr) (n : Node) (An_input : Option Addr) (cn_input : Nat) (An_heard_input : Option Addr) (cn_heard_input : Nat) (An_set__in_ : Option Addr) (cn_set__in_ : Nat) (hc_n : Cells g.r a_n (cNode n An_input cn_input An_heard_input cn_heard_input An_set__in_ cn_set__in_)) (fn_input : Arr g.r tyU8 An_input cn_input n.input) (fn_heard_input : Arr g.r tyU8 An_heard_input cn_heard_input n.heard.input) (fn_set__in_ : Arr g.r tyU8 An_set__in_ cn_set__in_ n.set_.in_) {r : Int} (hS : o41 n = r) :
    Ctr Try.prog 41 [Value.pointer (some a_n)] g [] (fun v ψ o => v = vy r ∧ o = []) := by
  unfold o41 at hS
  refine xFn Try.f41 (Try.f41.body.getD .skip) 9 ?_
  have nfn_input := fn_input.len
  have nfn_heard_input := fn_heard_input.len
  have nfn_set__in_ := fn_set__in_.len
  refine xSq ?_
  refine xRg ?_
  refine xB 1 [] [(0, Value.pointer (some a_n))] ?_
  refine xRe ?_
  refine wpq_then ?_
  refine xSq ?_
  refine xSq ?_
  refine xRg ?_
  refine xB 2 [] [(0, Value.pointer (some a_n)), (4, vb false)] ?_
  refine xRe ?_
  refine wpq_then ?_
  refine xCf ?_
  refine xSk ?_
  refine wpq_then ?_
  refine xSub [(0, Value.pointer (some a_n))] ?_
  refine xSq ?_
  refine xRg ?_
  refine xB 3 [] [(7, Value.pointer (some (Addr.add a_n 1)))] ?_
  refine xV (qLdP a_n 1 hc_n) ?_
  refine xB 1 [] [(2, vy n.role)] ?_
  refine xRe ?_
  refine wpq_then ?_
  have eS := hS.symm
  subst eS
  exact xRet [] [2] (Gh.le.refl _) ⟨by kernel_rfl, by kernel_rfl⟩ (fun _ _ h => h)

def o40 (n : Node) : Int :=
  ((n.steps : Int))
set_option maxRecDepth 100000 in
theorem c40 (g : Gh) (a_n : Addr) (n : Node) (An_input : Option Addr) (cn_input : Nat) (An_heard_input : Option Addr) (cn_heard_input : Nat) (An_set__in_ : Option Addr) (cn_set__in_ : Nat) (hc_n : Cells g.r a_n (cNode n An_input cn_input An_heard_input cn_heard_input An_set__in_ cn_set__in_)) (fn_input : Arr g.r tyU8 An_input cn_input n.input) (fn_heard_input : Arr g.r tyU8 An_heard_input cn_heard_input n.heard.input) (fn_set__in_ : Arr g.r tyU8 An_set__in_ cn_set__in_ n.set_.in_) {r : Int} (hS : o40 n = r) :
    Ctr Try.prog 40 [Value.pointer (some a_n)] g [] (fun v ψ o => v = vi r ∧ o = []) := by
  unfold o40 at hS
  refine xFn Try.f40 (Try.f40.body.getD .skip) 9 ?_
  have nfn_input := fn_input.len
  have nfn_heard_input := fn_heard_input.len
  have nfn_set__in_ := fn_set__in_.len
  refine xSq ?_
  refine xRg ?_
  refine xB 1 [] [(0, Value.pointer (some a_n))] ?_
  refine xRe ?_
  refine wpq_then ?_
  refine xSq ?_
  refine xSq ?_
  refine xRg ?_
  refine xB 2 [] [(0, Value.pointer (some a_n)), (4, vb false)] ?_
  refine xRe ?_
  refine wpq_then ?_
  refine xCf ?_
  refine xSk ?_
  refine wpq_then ?_
  refine xSub [(0, Value.pointer (some a_n))] ?_
  refine xSq ?_
  refine xRg ?_
  refine xB 3 [] [(7, Value.pointer (some (Addr.add a_n 2)))] ?_
  refine xV (qLdP a_n 2 hc_n) ?_
  refine xB 1 [] [(2, vi n.steps)] ?_
  refine xRe ?_
  refine wpq_then ?_
  have eS := hS.symm
  subst eS
  exact xRet [] [2] (Gh.le.refl _) ⟨by kernel_rfl, by kernel_rfl⟩ (fun _ _ h => h)

end Go.Proofs.Ytgnajpoebooafaa
