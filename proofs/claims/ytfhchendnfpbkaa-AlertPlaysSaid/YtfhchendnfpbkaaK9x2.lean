/-
Walks, printed by wip/gen. Conditions: each theorem's own.
-/
import Derived.Test.YtfhchendnfpbkaaK9x1
namespace Go.Proofs.Ytfhchendnfpbkaa
set_option linter.unusedVariables false
set_option linter.unusedSimpArgs false
open Go.RowKit
def o9_L0 (acts : List Act) (y5 : (List AlertDef)) (s27 : Nat × Board × RBoard) : Option (Ctl (Nat × Board × RBoard) (Ctl (Unit) (Bool))) :=
 (cond ((decide (((s27.1 : Nat) : Int) < (((acts).length : Nat) : Int)) && decide (((s27.1 : Nat) : Int) < 20))) (joinO (τ := Board × RBoard) (ρ := Ctl (Nat × Board × RBoard) (Ctl (Unit) (Bool))) (cond (decide ((Int.tmod (List.getD acts s27.1 default).kind 8) < 4)) (bindO (τ := Board × Int) (o17 s27.2.1 ((List.getD acts s27.1 default).conds : Int) ((List.getD acts s27.1 default).phase : Int)) fun y50 => (bindO (τ := RBoard × Int) (o29 s27.2.2 ((List.getD acts s27.1 default).conds : Int) ((List.getD acts s27.1 default).phase : Int)) fun y53 => (cond ((y50.2 != y53.2)) (some (Ctl.done (Ctl.done (Ctl.done ((false)))))) (some (Ctl.go ((y50.1 : Board), (y53.1 : RBoard))))))) (joinO (τ := Board × RBoard) (ρ := Ctl (Board × RBoard) (Ctl (Nat × Board × RBoard) (Ctl (Unit) (Bool)))) (cond (decide ((Int.tmod (List.getD acts s27.1 default).kind 8) < 6)) (bindO (τ := Board × Int) (o18 s27.2.1 ((List.getD acts s27.1 default).index : Int)) fun y62 => (bindO (τ := RBoard × Int) (o30 s27.2.2 ((List.getD acts s27.1 default).index : Int)) fun y65 => (cond ((y62.2 != y65.2)) (some (Ctl.done (Ctl.done (Ctl.done (Ctl.done ((false))))))) (some (Ctl.go ((y62.1 : Board), (y65.1 : RBoard))))))) (joinO (τ := Board × RBoard) (ρ := Ctl (Board × RBoard) (Ctl (Board × RBoard) (Ctl (Nat × Board × RBoard) (Ctl (Unit) (Bool))))) (cond (((Int.tmod (List.getD acts s27.1 default).kind 8) == 6)) (bindO (τ := Board × Int) (o24 s27.2.1) fun y74 => (bindO (τ := RBoard × Int) (o31 s27.2.2) fun y77 => (cond ((y74.2 != y77.2)) (some (Ctl.done (Ctl.done (Ctl.done (Ctl.done (Ctl.done ((false)))))))) (some (Ctl.go ((y74.1 : Board), (y77.1 : RBoard))))))) (bindO (τ := (List UInt8)) (o22 s27.2.1) fun y82 => (bindO (τ := (Option Board) × Int) (o25 (y5 : List AlertDef) (y82 : List UInt8)) fun y85 => (cond (((y85.2 != 0) || (Option.isNone (y85.1)))) (some (Ctl.done (Ctl.done (Ctl.done (Ctl.done (Ctl.done ((false)))))))) (bindO (τ := Board) (y85.1) fun d90 => (some (Ctl.go ((d90 : Board), (s27.2.2 : RBoard))))))))) fun t70 => (some (Ctl.go ((t70.1 : Board), (t70.2 : RBoard)))))) fun t58 => (some (Ctl.go ((t58.1 : Board), (t58.2 : RBoard)))))) fun t41 => (bindO (τ := Bool) (o27 t41.1 t41.2) fun y44 => (cond ((!y44)) (some (Ctl.done (Ctl.done ((false))))) (grd (decide (((s27.1 : Nat) : Int) + 1 ≤ 9223372036854775807)) (some (Ctl.go ((s27.1 + 1), (t41.1 : Board), (t41.2 : RBoard)))))))) (some (Ctl.done (Ctl.go ()))))
def o9 (l : List AlertDef) (acts : List Act) : Option (Bool) :=
 (bindO (τ := Bool) (o10) fun y1 => (cond ((!y1)) (some ((false))) (letJ (τ := (List AlertDef)) (o11 (l : List AlertDef)) fun y5 => (bindO (τ := (Option Board) × Int) (o12 (y5 : List AlertDef)) fun y8 => (bindO (τ := RBoard × Int) (o28 (y5 : List AlertDef)) fun y14 => (cond (((y8.2 != y14.2) || (y8.2 != 0))) (some (((y8.2 == y14.2)))) (joinO (τ := Unit) (ρ := Bool) (bindO (τ := Board) (y8.1) fun d23 => (loopO (σ := Nat × Board × RBoard) (ρ := Ctl (Unit) (Bool)) fuelN (o9_L0 acts y5) (0, (d23 : Board), (y14.1 : RBoard)))) fun t20 => (some ((true))))))))))
set_option maxRecDepth 100000 in
theorem c9 (g : Gh) (l : List AlertDef) (Al : Option Addr) (cl : Nat) (acts : List Act) (Aacts : Option Addr) (cacts : Nat) (fl : Arr g.b tyAlertDef Al cl l) (facts : Arr g.r tyAct Aacts cacts acts) {r : Bool} (hS : o9 l acts = some r) :
  Ctr Try.prog 9 [vs Al l cl, vs Aacts acts cacts] g [] (fun v ψ o => v = vb r ∧ o = []) := by
 unfold o9 at hS
 refine xFn Try.f9 (Try.f9.body.getD .skip) 136 ?_
 have nfl := fl.len
 have nfacts := facts.len
 refine xSq ?_
 refine xRg ?_
 refine xB 1 [] [(0, vs Al l cl), (1, vs Aacts acts cacts)] ?_
 refine xRe ?_
 refine wpq_then ?_
 refine xSq ?_
 refine xSq ?_
 refine xRg ?_
 obtain ⟨y1, hy1, hS⟩ := bindO_T hS
 refine xE (eC 0 (fun g' lr eb ln => c10 g'  hy1)) ?_
 rintro _ g2 _ e3 ⟨_, rfl, rfl, rfl⟩
 refine xB 1 [] [(0, vs Al l cl), (1, vs Aacts acts cacts), (24, vb (!y1))] ?_
 refine xRe ?_
 refine wpq_then ?_
 refine xCd ((!y1)) (fun h4 => ?_) (fun h4 => ?_)
 ·have hS := cond_T h4 hS
  have h4n := not_eq_true_ h4
  refine xSq ?_
  refine xRg ?_
  refine xB 1 [] [(4, vb false)] ?_
  refine xRe ?_
  refine wpq_then ?_
  have eS := (Option.some.inj hS).symm
  subst eS
  exact xRet [] [4] e3 ⟨by kernel_rfl, by kernel_rfl⟩ (fun _ _ h => h)
 ·have hS := cond_F h4 hS
  have h4n := not_eq_false_ h4
  refine xSk ?_
  refine wpq_then ?_
  refine xSub [(0, vs Al l cl), (1, vs Aacts acts cacts)] ?_
  refine xSq ?_
  refine xRg ?_
  refine xB 1 [] [(0, vs Al l cl), (1, vs Aacts acts cacts), (25, vs Al l cl)] ?_
  have fl := fl.mono e3.b
  obtain ⟨y5, hy5, hS⟩ := letJ_T hS
  refine xE (eC 0 (fun g' lr eb ln => c11 g' (l : List AlertDef) Al cl (by rw [eb]; exact fl) hy5)) ?_
  rintro _ g6 _ e7 ⟨_, rfl, A5_0, c5_0, k5_0, rfl, rfl, h5_0⟩
  have nh5_0 := h5_0.len
  refine xB 1 [] [(0, vs A5_0 y5 c5_0), (1, vs Aacts acts cacts)] ?_
  refine xRe ?_
  refine wpq_then ?_
  refine xSq ?_
  refine xRg ?_
  refine xB 1 [] [(0, vs A5_0 y5 c5_0), (1, vs Aacts acts cacts), (28, vs A5_0 y5 c5_0)] ?_
  obtain ⟨y8, hy8, hS⟩ := bindO_T hS
  refine xE (eC 0 (fun g' lr eb ln => c12 g' (y5 : List AlertDef) A5_0 c5_0 (arrm_of_buf h5_0 eb (lentk 0 (by kernel_rfl) ln)) hy8)) ?_
  rintro _ g9 _ e10 ⟨_, rfl, v8_0, k8_0, k8_0_0, rfl, rfl, hn8_0, hs8_0⟩
  refine xB 5 [] [(0, vs A5_0 y5 c5_0), (1, vs Aacts acts cacts), (5, v8_0), (6, vi y8.2)] ?_
  refine xRe ?_
  refine wpq_then ?_
  refine xSq ?_
  refine xRg ?_
  refine xB 1 [] [(0, vs A5_0 y5 c5_0), (1, vs Aacts acts cacts), (5, v8_0), (6, vi y8.2), (33, vs A5_0 y5 c5_0)] ?_
  have h5_0 := h5_0.mono e10.b
  refine wpq_freeze 2 (by kernel_rfl) h5_0 (fun g11 e12 f13 => ?_)
  obtain ⟨y14, hy14, hS⟩ := bindO_T hS
  refine xE (eC 0 (fun g' lr eb ln => c28 g' (y5 : List AlertDef) A5_0 c5_0 (by rw [eb]; exact f13) hy14)) ?_
  rintro _ g15 _ e16 ⟨_, rfl, A14_0_defs, c14_0_defs, A14_0_onset, c14_0_onset, k14_0_onset, A14_0_acked, c14_0_acked, k14_0_acked, rfl, rfl, f14_0_defs, h14_0_onset, h14_0_acked⟩
  have nf14_0_defs := f14_0_defs.len
  have nh14_0_onset := h14_0_onset.len
  have nh14_0_acked := h14_0_acked.len
  refine xB 3 [] [(0, vs A5_0 y5 c5_0), (1, vs Aacts acts cacts), (5, v8_0), (6, vi y8.2), (35, Value.agg #[vs A14_0_defs y14.1.defs c14_0_defs, vi y14.1.steps, vy y14.1.phase, vs A14_0_onset y14.1.onset c14_0_onset, vs A14_0_acked y14.1.acked c14_0_acked]), (36, vi y14.2)] ?_
  refine xE eB ?_
  rintro _ _ _ - ⟨b17, rfl, rfl, rfl⟩
  refine xBo 2 [(6, 0)] [some ⟨b17, 57, (cRBoard y14.1 A14_0_defs c14_0_defs A14_0_onset c14_0_onset A14_0_acked c14_0_acked)⟩, k14_0_onset, k14_0_acked, k8_0, k8_0_0, none] [(0, vs A5_0 y5 c5_0), (1, vs Aacts acts cacts), (5, v8_0), (6, vi y8.2), (7, vp b17 0), (8, vi y14.2)] ?_
  refine xRe ?_
  refine wpq_then ?_
  refine xSq ?_
  refine xSq ?_
  refine xRg ?_
  refine xB 4 [] [(0, vs A5_0 y5 c5_0), (1, vs Aacts acts cacts), (5, v8_0), (6, vi y8.2), (7, vp b17 0), (8, vi y14.2), (40, vb (y8.2 != y14.2))] ?_
  refine wpr_grp 7 [(0, vs A5_0 y5 c5_0), (1, vs Aacts acts cacts), (5, v8_0), (6, vi y8.2), (7, vp b17 0), (8, vi y14.2), (43, vb ((y8.2 != y14.2) || (y8.2 != 0)))] (fun hk3 => ?_) ?_
  ·refine wpq_split 40 (b := (y8.2 != y14.2)) (by kernel_rfl) (fun q18 => ?_) (fun q18 => ?_)
   ·have q18p : ¬ (y8.2 = y14.2) := ne_of_bne_ q18
    refine xB 3 [] [(0, vs A5_0 y5 c5_0), (1, vs Aacts acts cacts), (5, v8_0), (6, vi y8.2), (7, vp b17 0), (8, vi y14.2), (43, vb true)] ?_
    refine xSel [some 0, some 1, some 2, some 3, some 4, none] ?_
    refine wpq_re 43 (v := vb true) (Value.bool (((y8.2 != y14.2) || (y8.2 != 0)))) (by kernel_rfl) (re_or1 q18) ?_
    exact wpq_sub _ (by kernel_rfl) hk3
   ·have q18p : y8.2 = y14.2 := eq_of_bne_false_ q18
    refine xB 3 [] [(0, vs A5_0 y5 c5_0), (1, vs Aacts acts cacts), (5, v8_0), (6, vi y8.2), (7, vp b17 0), (8, vi y14.2), (43, vb (y8.2 != 0))] ?_
    refine xSel [some 0, some 1, some 2, some 3, some 4, none] ?_
    refine wpq_re 43 (v := vb (y8.2 != 0)) (Value.bool (((y8.2 != y14.2) || (y8.2 != 0)))) (by kernel_rfl) (re_or0 q18) ?_
    exact wpq_sub _ (by kernel_rfl) hk3
  ·refine xRe ?_
   refine wpq_then ?_
   refine xCd (((y8.2 != y14.2) || (y8.2 != 0))) (fun h19 => ?_) (fun h19 => ?_)
   ·have hS := cond_T h19 hS
    refine xSq ?_
    refine xRg ?_
    refine xB 4 [] [(4, vb (y8.2 == y14.2))] ?_
    refine xRe ?_
    refine wpq_then ?_
    have eS := (Option.some.inj hS).symm
    subst eS
    exact xRet [] [4] (e3.trans (e7.trans (e10.trans (e12.trans e16)))) ⟨by kernel_rfl, by kernel_rfl⟩ (fun _ _ h => h)
   ·have hS := cond_F h19 hS
    have h19l := (or_false_ h19).1
    have h19r := (or_false_ h19).2
    have h19lp : y8.2 = y14.2 := eq_of_bne_false_ h19l
    have h19rp : y8.2 = 0 := eq_of_bne_false_ h19r
    refine xSk ?_
    refine wpq_then ?_
    refine xSub [(0, vs A5_0 y5 c5_0), (1, vs Aacts acts cacts), (5, v8_0), (7, vp b17 0)] ?_
    refine xSq ?_
    refine xSq ?_
    refine xRg ?_
    refine xB 1 [] [(0, vs A5_0 y5 c5_0), (1, vs Aacts acts cacts), (5, v8_0), (7, vp b17 0), (9, vi 0)] ?_
    refine xRe ?_
    refine wpq_then ?_
    refine xJoinO hS (fun g own sl t20 => own = [] ∧ sl = []) ?_ ?_
    ·rintro g21 _ _ t20 e22 ⟨rfl, rfl⟩ hS
     refine wpq_then ?_
     refine xSq ?_
     refine xRg ?_
     refine xB 1 [] [(4, vb true)] ?_
     refine xRe ?_
     refine wpq_then ?_
     have eS := (Option.some.inj hS).symm
     subst eS
     exact xRet [] [4] (e3.trans (e7.trans (e10.trans (e12.trans (e16.trans e22))))) ⟨by kernel_rfl, by kernel_rfl⟩ (fun _ _ h => h)
    ·intro uu20 hS hN20 hD20
     refine xBl 0 ?_
     obtain ⟨d23, ed23, hS⟩ := bindO_T hS
     obtain ⟨bd23, Ad23_defs, cd23_defs, Ad23_conds, cd23_conds, kd23_conds, rfl, rfl, rfl, fd23_defs, hd23_conds⟩ := hs8_0 d23 ed23
     have nfd23_defs := fd23_defs.len
     have nhd23_conds := hd23_conds.len
     refine wpq_freeze 1 (by kernel_rfl) h14_0_onset (fun g28 e29 f30 => ?_)
     have h14_0_acked := h14_0_acked.mono e29.b
     refine wpq_freeze 2 (by kernel_rfl) h14_0_acked (fun g31 e32 f33 => ?_)
     have fd23_defs := fd23_defs.mono (e12.trans (e16.trans (e29.trans e32))).b
     have hd23_conds := hd23_conds.mono (e12.trans (e16.trans (e29.trans e32))).b
     have f14_0_defs := f14_0_defs.mono (e29.trans e32).b
     have f30 := f30.mono e32.b
     refine xSel [some 3, some 0, some 4] ?_
     refine xSub [(0, vs A5_0 y5 c5_0), (1, vs Aacts acts cacts), (5, vp bd23 0), (7, vp b17 0), (9, vi 0)] ?_
     refine xLo hS (fun g own sl s27 => ∃ (b27_o0 : Nat) (A27_1_defs : Option Addr) (c27_1_defs : Nat) (A27_1_conds : Option Addr) (c27_1_conds : Nat) (k27_1_conds : Option Bk) (A27_2_defs : Option Addr) (c27_2_defs : Nat) (A27_2_onset : Option Addr) (c27_2_onset : Nat) (A27_2_acked : Option Addr) (c27_2_acked : Nat), own = [some ⟨b27_o0, 71, (cBoard s27.2.1 A27_1_defs c27_1_defs A27_1_conds c27_1_conds)⟩, some ⟨b17, 57, (cRBoard s27.2.2 A27_2_defs c27_2_defs A27_2_onset c27_2_onset A27_2_acked c27_2_acked)⟩, k27_1_conds] ∧ sl = [(0, vs A5_0 y5 c5_0), (1, vs Aacts acts cacts), (5, vp b27_o0 0), (7, vp b17 0), (9, vi ((s27.1 : Nat) : Int))] ∧ Arr g.b tyAlertDef A27_1_defs c27_1_defs s27.2.1.defs ∧ Buf g.b tyCnd 79 (.slice A27_1_conds (s27.2.1.conds).length c27_1_conds) k27_1_conds s27.2.1.conds ∧ Arr g.b tyAlertDef A27_2_defs c27_2_defs s27.2.2.defs ∧ Arr g.b (tyI .i64) A27_2_onset c27_2_onset s27.2.2.onset ∧ Arr g.b tyB A27_2_acked c27_2_acked s27.2.2.acked) ⟨bd23, Ad23_defs, cd23_defs, Ad23_conds, cd23_conds, k8_0_0, A14_0_defs, c14_0_defs, A14_0_onset, c14_0_onset, A14_0_acked, c14_0_acked, by kernel_rfl, by kernel_rfl, fd23_defs, hd23_conds, f14_0_defs, f30, f33⟩ ?_
     rintro g34 _ _ s27 uu27 e35 ⟨b27_o0, A27_1_defs, c27_1_defs, A27_1_conds, c27_1_conds, k27_1_conds, A27_2_defs, c27_2_defs, A27_2_onset, c27_2_onset, A27_2_acked, c27_2_acked, rfl, rfl, f27_1_defs, h27_1_conds, f27_2_defs, f27_2_onset, f27_2_acked⟩ hS Qr27 hN27 hD27
     have nf27_1_defs := f27_1_defs.len
     have nh27_1_conds := h27_1_conds.len
     have nf27_2_defs := f27_2_defs.len
     have nf27_2_onset := f27_2_onset.len
     have nf27_2_acked := f27_2_acked.len
     unfold o9_L0 at hS
     refine xSq ?_
     refine xSq ?_
     refine xRg ?_
     refine xB 5 [] [(0, vs A5_0 y5 c5_0), (1, vs Aacts acts cacts), (5, vp b27_o0 0), (7, vp b17 0), (9, vi ((s27.1 : Nat) : Int)), (51, vb (decide (((s27.1 : Nat) : Int) < (((acts).length : Nat) : Int))))] ?_
     refine wpr_grp 8 [(0, vs A5_0 y5 c5_0), (1, vs Aacts acts cacts), (5, vp b27_o0 0), (7, vp b17 0), (9, vi ((s27.1 : Nat) : Int)), (54, vb (decide (((s27.1 : Nat) : Int) < (((acts).length : Nat) : Int)) && decide (((s27.1 : Nat) : Int) < 20)))] (fun hk4 => ?_) ?_
     ·refine wpq_split 51 (b := decide (((s27.1 : Nat) : Int) < (((acts).length : Nat) : Int))) (by kernel_rfl) (fun q36 => ?_) (fun q36 => ?_)
      ·have q36p := of_decide_eq_true q36
       refine xB 3 [] [(0, vs A5_0 y5 c5_0), (1, vs Aacts acts cacts), (5, vp b27_o0 0), (7, vp b17 0), (9, vi ((s27.1 : Nat) : Int)), (54, vb (decide (((s27.1 : Nat) : Int) < 20)))] ?_
       refine wpq_re 54 (v := vb (decide (((s27.1 : Nat) : Int) < 20))) (Value.bool ((decide (((s27.1 : Nat) : Int) < (((acts).length : Nat) : Int)) && decide (((s27.1 : Nat) : Int) < 20)))) (by kernel_rfl) (re_and1 q36) ?_
       exact wpq_sub _ (by kernel_rfl) hk4
      ·have q36p := of_decide_eq_false q36
       refine xB 3 [] [(0, vs A5_0 y5 c5_0), (1, vs Aacts acts cacts), (5, vp b27_o0 0), (7, vp b17 0), (9, vi ((s27.1 : Nat) : Int)), (54, vb false)] ?_
       refine wpq_re 54 (v := vb false) (Value.bool ((decide (((s27.1 : Nat) : Int) < (((acts).length : Nat) : Int)) && decide (((s27.1 : Nat) : Int) < 20)))) (by kernel_rfl) (re_and0 q36) ?_
       exact wpq_sub _ (by kernel_rfl) hk4
     ·refine xRe ?_
      refine wpq_then ?_
      refine xCd ((decide (((s27.1 : Nat) : Int) < (((acts).length : Nat) : Int)) && decide (((s27.1 : Nat) : Int) < 20))) (fun h37 => ?_) (fun h37 => ?_)
      ·have hS := cond_T h37 hS
       have h37l := (and_true_ h37).1
       have h37r := (and_true_ h37).2
       have h37lp := of_decide_eq_true h37l
       have h37rp := of_decide_eq_true h37r
       refine xSk ?_
       refine wpq_then ?_
       refine xSub [(0, vs A5_0 y5 c5_0), (1, vs Aacts acts cacts), (5, vp b27_o0 0), (7, vp b17 0), (9, vi ((s27.1 : Nat) : Int))] ?_
       refine xSq ?_
       refine xBl 1 ?_
       refine xSq ?_
       refine xRg ?_
       have facts := facts.mono (e3.trans (e7.trans (e10.trans (e12.trans (e16.trans (e29.trans (e32.trans e35))))))).r
       have i39 : s27.1 < (acts).length := by omega
       obtain ⟨ad38, cs38, hA38, hr38, hc38⟩ := facts.at_ (get_getD (d := default) i39)
       obtain ⟨rfl⟩ := hr38
       refine xB 2 [] [(0, vs A5_0 y5 c5_0), (1, vs Aacts acts cacts), (5, vp b27_o0 0), (7, vp b17 0), (9, vi ((s27.1 : Nat) : Int)), (57, vs Aacts acts cacts), (58, vi ((s27.1 : Nat) : Int))] ?_
       refine xV (qIx s27.1 4 hA38 rfl i39) ?_
       refine xV (qLdP (Addr.add ad38 (s27.1 * 4)) 0 hc38) ?_
       refine xE eB ?_
       rintro _ _ _ - ⟨b40, rfl, rfl, rfl⟩
       refine xBo 1 [(5, 0)] [some ⟨b40, 39, (cAct (List.getD acts s27.1 default))⟩, some ⟨b27_o0, 71, (cBoard s27.2.1 A27_1_defs c27_1_defs A27_1_conds c27_1_conds)⟩, some ⟨b17, 57, (cRBoard s27.2.2 A27_2_defs c27_2_defs A27_2_onset c27_2_onset A27_2_acked c27_2_acked)⟩, k27_1_conds] [(0, vs A5_0 y5 c5_0), (1, vs Aacts acts cacts), (5, vp b27_o0 0), (7, vp b17 0), (9, vi ((s27.1 : Nat) : Int)), (10, vp b40 0)] ?_
       refine xRe ?_
       refine wpq_then ?_
       refine xSq ?_
       refine xSq ?_
       refine xRg ?_
       refine xB 2 [(1, 0)] [(0, vs A5_0 y5 c5_0), (1, vs Aacts acts cacts), (5, vp b27_o0 0), (7, vp b17 0), (9, vi ((s27.1 : Nat) : Int)), (10, vp b40 0), (62, vy ((List.getD acts s27.1 default).kind))] ?_
       refine xV (qRem .u8 ((List.getD acts s27.1 default).kind) (8) _ (by omega) rfl) ?_
       refine xB 1 [] [(0, vs A5_0 y5 c5_0), (1, vs Aacts acts cacts), (5, vp b27_o0 0), (7, vp b17 0), (9, vi ((s27.1 : Nat) : Int)), (10, vp b40 0), (11, vy (Int.tmod (List.getD acts s27.1 default).kind 8))] ?_
       refine xRe ?_
       refine wpq_then ?_
       refine xBl 2 ?_
       refine xSq ?_
       refine xRg ?_
       refine xB 3 [] [(0, vs A5_0 y5 c5_0), (1, vs Aacts acts cacts), (5, vp b27_o0 0), (7, vp b17 0), (9, vi ((s27.1 : Nat) : Int)), (10, vp b40 0), (11, vy (Int.tmod (List.getD acts s27.1 default).kind 8)), (78, vb (decide ((Int.tmod (List.getD acts s27.1 default).kind 8) < 4)))] ?_
       refine xRe ?_
       refine wpq_then ?_
       refine xJoinO hS (fun g own sl t41 => ∃ (b41_o0 : Nat) (A41_0_defs : Option Addr) (c41_0_defs : Nat) (A41_0_conds : Option Addr) (c41_0_conds : Nat) (k41_0_conds : Option Bk) (A41_1_defs : Option Addr) (c41_1_defs : Nat) (A41_1_onset : Option Addr) (c41_1_onset : Nat) (A41_1_acked : Option Addr) (c41_1_acked : Nat), own = [some ⟨b41_o0, 71, (cBoard t41.1 A41_0_defs c41_0_defs A41_0_conds c41_0_conds)⟩, some ⟨b17, 57, (cRBoard t41.2 A41_1_defs c41_1_defs A41_1_onset c41_1_onset A41_1_acked c41_1_acked)⟩, k41_0_conds] ∧ sl = [(0, vs A5_0 y5 c5_0), (1, vs Aacts acts cacts), (5, vp b41_o0 0), (7, vp b17 0), (9, vi ((s27.1 : Nat) : Int))] ∧ Arr g.b tyAlertDef A41_0_defs c41_0_defs t41.1.defs ∧ Buf g.b tyCnd 79 (.slice A41_0_conds (t41.1.conds).length c41_0_conds) k41_0_conds t41.1.conds ∧ Arr g.b tyAlertDef A41_1_defs c41_1_defs t41.2.defs ∧ Arr g.b (tyI .i64) A41_1_onset c41_1_onset t41.2.onset ∧ Arr g.b tyB A41_1_acked c41_1_acked t41.2.acked) ?_ ?_
       ·rintro g42 _ _ t41 e43 ⟨b41_o0, A41_0_defs, c41_0_defs, A41_0_conds, c41_0_conds, k41_0_conds, A41_1_defs, c41_1_defs, A41_1_onset, c41_1_onset, A41_1_acked, c41_1_acked, rfl, rfl, f41_0_defs, h41_0_conds, f41_1_defs, f41_1_onset, f41_1_acked⟩ hS
        have nf41_0_defs := f41_0_defs.len
        have nh41_0_conds := h41_0_conds.len
        have nf41_1_defs := f41_1_defs.len
        have nf41_1_onset := f41_1_onset.len
        have nf41_1_acked := f41_1_acked.len
        refine wpq_blockN ?_
        refine wpq_then ?_
        refine xSq ?_
        refine xRg ?_
        refine xB 2 [(1, 1)] [(0, vs A5_0 y5 c5_0), (1, vs Aacts acts cacts), (5, vp b41_o0 0), (7, vp b17 0), (9, vi ((s27.1 : Nat) : Int)), (132, vp b41_o0 0), (133, Value.agg #[vs A41_1_defs t41.2.defs c41_1_defs, vi t41.2.steps, vy t41.2.phase, vs A41_1_onset t41.2.onset c41_1_onset, vs A41_1_acked t41.2.acked c41_1_acked])] ?_
        obtain ⟨y44, hy44, hS⟩ := bindO_T hS
        refine xE (eC 0 (fun g' lr eb ln => c27 g' ⟨b41_o0, 0, none⟩ t41.1 A41_0_defs c41_0_defs A41_0_conds c41_0_conds t41.2 A41_1_defs c41_1_defs A41_1_onset c41_1_onset A41_1_acked c41_1_acked (cells_lent' 0 b41_o0 0 (cBoard t41.1 A41_0_defs c41_0_defs A41_0_conds c41_0_conds) ln) ((f41_0_defs.mono g42.br).mono lr) (arrm_of_buf h41_0_conds eb (lentk 2 (by kernel_rfl) ln)) ((f41_1_defs.mono g42.br).mono lr) ((f41_1_onset.mono g42.br).mono lr) ((f41_1_acked.mono g42.br).mono lr) hy44)) ?_
        rintro _ g45 _ e46 ⟨_, rfl, rfl, rfl⟩
        refine xB 1 [] [(0, vs A5_0 y5 c5_0), (1, vs Aacts acts cacts), (5, vp b41_o0 0), (7, vp b17 0), (9, vi ((s27.1 : Nat) : Int)), (135, vb (!y44))] ?_
        refine xRe ?_
        refine wpq_then ?_
        refine xCd ((!y44)) (fun h47 => ?_) (fun h47 => ?_)
        ·have hS := cond_T h47 hS
         have h47n := not_eq_true_ h47
         refine xSq ?_
         refine xRg ?_
         refine xB 1 [] [(4, vb false)] ?_
         refine xRe ?_
         refine wpq_then ?_
         have eS := (Option.some.inj hS).symm
         have eS := (hD27 _ eS).symm
         have eS := (hD20 _ eS).symm
         subst eS
         exact xRet [] [4] (e3.trans (e7.trans (e10.trans (e12.trans (e16.trans (e29.trans (e32.trans (e35.trans (e43.trans e46))))))))) ⟨by kernel_rfl, by kernel_rfl⟩ (fun _ _ h => h)
        ·have hS := cond_F h47 hS
         have h47n := not_eq_false_ h47
         refine xSk ?_
         refine wpq_blockN ?_
         refine wpq_then ?_
         refine xSub [(0, vs A5_0 y5 c5_0), (1, vs Aacts acts cacts), (5, vp b41_o0 0), (7, vp b17 0), (9, vi ((s27.1 : Nat) : Int))] ?_
         refine xRg ?_
         obtain ⟨q48, hS⟩ := grd_T hS
         have q48p := of_decide_eq_true q48
         refine xB 1 [] [(0, vs A5_0 y5 c5_0), (1, vs Aacts acts cacts), (5, vp b41_o0 0), (7, vp b17 0), (9, vi ((s27.1 : Nat) : Int)), (55, vi ((s27.1 : Nat) : Int))] ?_
         refine xV (qAdd .i64 (((s27.1 : Nat) : Int)) (1) (wr64 (by omega))) ?_
         refine xB 1 [] [(0, vs A5_0 y5 c5_0), (1, vs Aacts acts cacts), (5, vp b41_o0 0), (7, vp b17 0), (9, vi (((s27.1 : Nat) : Int) + 1))] ?_
         refine xRe ?_
         refine wpq_thenN ?_
         have f41_0_defs := f41_0_defs.mono e46.b
         have h41_0_conds := h41_0_conds.mono e46.b
         have f41_1_defs := f41_1_defs.mono e46.b
         have f41_1_onset := f41_1_onset.mono e46.b
         have f41_1_acked := f41_1_acked.mono e46.b
         refine xSub [(0, vs A5_0 y5 c5_0), (1, vs Aacts acts cacts), (5, vp b41_o0 0), (7, vp b17 0), (9, vi (((s27.1 : Nat) : Int) + 1))] ?_
         have eS := (Option.some.inj hS).symm
         exact hN27 _ eS _ _ _ (e43.trans e46) ⟨b41_o0, A41_0_defs, c41_0_defs, A41_0_conds, c41_0_conds, k41_0_conds, A41_1_defs, c41_1_defs, A41_1_onset, c41_1_onset, A41_1_acked, c41_1_acked, by kernel_rfl, by kernel_rfl, f41_0_defs, h41_0_conds, f41_1_defs, f41_1_onset, f41_1_acked⟩
       ·intro uu41 hS hN41 hD41
        refine xCd (decide ((Int.tmod (List.getD acts s27.1 default).kind 8) < 4)) (fun h49 => ?_) (fun h49 => ?_)
        ·have hS := cond_T h49 hS
         have h49p := of_decide_eq_true h49
         refine xSq ?_
         refine xRg ?_
         refine xB 5 [(2, 0), (4, 0)] [(0, vs A5_0 y5 c5_0), (1, vs Aacts acts cacts), (5, vp b27_o0 0), (7, vp b17 0), (9, vi ((s27.1 : Nat) : Int)), (10, vp b40 0), (81, vp b27_o0 0), (83, Value.int .u16 ((List.getD acts s27.1 default).conds)), (85, vy ((List.getD acts s27.1 default).phase))] ?_
         refine xSel [some 1, some 3, some 0, some 2] ?_
         obtain ⟨y50, hy50, hS⟩ := bindO_T hS
         refine xE (eC 2 (fun g' lr eb ln => c17 g' b27_o0 s27.2.1 A27_1_defs c27_1_defs A27_1_conds c27_1_conds k27_1_conds ((List.getD acts s27.1 default).conds : Int) ((List.getD acts s27.1 default).phase : Int) (by rw [eb]; exact f27_1_defs) (by rw [eb]; exact h27_1_conds) hy50)) ?_
         rintro _ g51 _ e52 ⟨_, rfl, A50_b_defs, c50_b_defs, A50_b_conds, c50_b_conds, k50_b_conds, rfl, rfl, f50_b_defs, h50_b_conds⟩
         have nf50_b_defs := f50_b_defs.len
         have nh50_b_conds := h50_b_conds.len
         refine xB 1 [] [(0, vs A5_0 y5 c5_0), (1, vs Aacts acts cacts), (5, vp b27_o0 0), (7, vp b17 0), (9, vi ((s27.1 : Nat) : Int)), (10, vp b40 0), (12, vi y50.2)] ?_
         refine xRe ?_
         refine wpq_then ?_
         refine xSq ?_
         refine xRg ?_
         refine xB 5 [(0, 3), (2, 2), (4, 2)] [(0, vs A5_0 y5 c5_0), (1, vs Aacts acts cacts), (5, vp b27_o0 0), (7, vp b17 0), (9, vi ((s27.1 : Nat) : Int)), (12, vi y50.2), (88, Value.agg #[vs A27_2_defs s27.2.2.defs c27_2_defs, vi s27.2.2.steps, vy s27.2.2.phase, vs A27_2_onset s27.2.2.onset c27_2_onset, vs A27_2_acked s27.2.2.acked c27_2_acked]), (90, Value.int .u16 ((List.getD acts s27.1 default).conds)), (92, vy ((List.getD acts s27.1 default).phase))] ?_
         have f27_2_defs := f27_2_defs.mono e52.b
         have f27_2_onset := f27_2_onset.mono e52.b
         have f27_2_acked := f27_2_acked.mono e52.b
         obtain ⟨y53, hy53, hS⟩ := bindO_T hS
         refine xE (eC 0 (fun g' lr eb ln => c29 g' s27.2.2 A27_2_defs c27_2_defs A27_2_onset c27_2_onset A27_2_acked c27_2_acked ((List.getD acts s27.1 default).conds : Int) ((List.getD acts s27.1 default).phase : Int) (by rw [eb]; exact f27_2_defs) (by rw [eb]; exact f27_2_onset) (by rw [eb]; exact f27_2_acked) hy53)) ?_
         rintro _ g54 _ e55 ⟨_, rfl, A53_0_defs, c53_0_defs, A53_0_onset, c53_0_onset, A53_0_acked, c53_0_acked, rfl, rfl, f53_0_defs, f53_0_onset, f53_0_acked⟩
         have nf53_0_defs := f53_0_defs.len
         have nf53_0_onset := f53_0_onset.len
         have nf53_0_acked := f53_0_acked.len
         refine xB 3 [] [(0, vs A5_0 y5 c5_0), (1, vs Aacts acts cacts), (5, vp b27_o0 0), (7, vp b17 0), (9, vi ((s27.1 : Nat) : Int)), (12, vi y50.2), (94, Value.agg #[vs A53_0_defs y53.1.defs c53_0_defs, vi y53.1.steps, vy y53.1.phase, vs A53_0_onset y53.1.onset c53_0_onset, vs A53_0_acked y53.1.acked c53_0_acked]), (95, vi y53.2)] ?_
         refine xE eB ?_
         rintro _ _ _ - ⟨b56, rfl, rfl, rfl⟩
         refine xBo 2 [(10, 0)] [some ⟨b56, 57, (cRBoard y53.1 A53_0_defs c53_0_defs A53_0_onset c53_0_onset A53_0_acked c53_0_acked)⟩, some ⟨b27_o0, 71, (cBoard y50.1 A50_b_defs c50_b_defs A50_b_conds c50_b_conds)⟩, k50_b_conds, some ⟨b40, 39, (cAct (List.getD acts s27.1 default))⟩, some ⟨b17, 57, (cRBoard s27.2.2 A27_2_defs c27_2_defs A27_2_onset c27_2_onset A27_2_acked c27_2_acked)⟩] [(0, vs A5_0 y5 c5_0), (1, vs Aacts acts cacts), (5, vp b27_o0 0), (7, vp b17 0), (9, vi ((s27.1 : Nat) : Int)), (12, vi y50.2), (13, vp b56 0), (14, vi y53.2)] ?_
         refine xRe ?_
         refine wpq_then ?_
         refine xSq ?_
         refine xSq ?_
         refine xRg ?_
         refine xB 3 [] [(0, vs A5_0 y5 c5_0), (1, vs Aacts acts cacts), (5, vp b27_o0 0), (7, vp b17 0), (9, vi ((s27.1 : Nat) : Int)), (13, vp b56 0), (98, vb (y50.2 != y53.2))] ?_
         refine xRe ?_
         refine wpq_then ?_
         refine xCd ((y50.2 != y53.2)) (fun h57 => ?_) (fun h57 => ?_)
         ·have hS := cond_T h57 hS
          have h57p : ¬ (y50.2 = y53.2) := ne_of_bne_ h57
          refine xSq ?_
          refine xRg ?_
          refine xB 1 [] [(4, vb false)] ?_
          refine xRe ?_
          refine wpq_then ?_
          have eS := (Option.some.inj hS).symm
          have eS := (hD41 _ eS).symm
          have eS := (hD27 _ eS).symm
          have eS := (hD20 _ eS).symm
          subst eS
          exact xRet [] [4] (e3.trans (e7.trans (e10.trans (e12.trans (e16.trans (e29.trans (e32.trans (e35.trans (e52.trans e55))))))))) ⟨by kernel_rfl, by kernel_rfl⟩ (fun _ _ h => h)
         ·have hS := cond_F h57 hS
          have h57p : y50.2 = y53.2 := eq_of_bne_false_ h57
          refine xSk ?_
          refine wpq_then ?_
          refine xSub [(0, vs A5_0 y5 c5_0), (1, vs Aacts acts cacts), (5, vp b27_o0 0), (7, vp b17 0), (9, vi ((s27.1 : Nat) : Int)), (13, vp b56 0)] ?_
          refine xRg ?_
          refine xBo 2 [(0, 0), (1, 4)] [some ⟨b56, 57, (cRBoard y53.1 A53_0_defs c53_0_defs A53_0_onset c53_0_onset A53_0_acked c53_0_acked)⟩, some ⟨b27_o0, 71, (cBoard y50.1 A50_b_defs c50_b_defs A50_b_conds c50_b_conds)⟩, k50_b_conds, some ⟨b40, 39, (cAct (List.getD acts s27.1 default))⟩, some ⟨b17, 57, (cRBoard y53.1 A53_0_defs c53_0_defs A53_0_onset c53_0_onset A53_0_acked c53_0_acked)⟩] [(0, vs A5_0 y5 c5_0), (1, vs Aacts acts cacts), (5, vp b27_o0 0), (7, vp b17 0), (9, vi ((s27.1 : Nat) : Int))] ?_
          refine xRe ?_
          have f50_b_defs := f50_b_defs.mono e55.b
          have h50_b_conds := h50_b_conds.mono e55.b
          refine xSel [some 1, some 4, some 2] ?_
          refine xSub [(0, vs A5_0 y5 c5_0), (1, vs Aacts acts cacts), (5, vp b27_o0 0), (7, vp b17 0), (9, vi ((s27.1 : Nat) : Int))] ?_
          have eS := (Option.some.inj hS).symm
          exact hN41 _ eS _ _ _ (e52.trans e55) ⟨b27_o0, A50_b_defs, c50_b_defs, A50_b_conds, c50_b_conds, k50_b_conds, A53_0_defs, c53_0_defs, A53_0_onset, c53_0_onset, A53_0_acked, c53_0_acked, by kernel_rfl, by kernel_rfl, f50_b_defs, h50_b_conds, f53_0_defs, f53_0_onset, f53_0_acked⟩
        ·have hS := cond_F h49 hS
         have h49p := of_decide_eq_false h49
         refine xSq ?_
         refine xRg ?_
         refine xB 3 [] [(0, vs A5_0 y5 c5_0), (1, vs Aacts acts cacts), (5, vp b27_o0 0), (7, vp b17 0), (9, vi ((s27.1 : Nat) : Int)), (10, vp b40 0), (11, vy (Int.tmod (List.getD acts s27.1 default).kind 8)), (100, vb (decide ((Int.tmod (List.getD acts s27.1 default).kind 8) < 6)))] ?_
         refine xRe ?_
         refine wpq_then ?_
         refine xJoinO hS (fun g own sl t58 => ∃ (b58_o0 : Nat) (A58_0_defs : Option Addr) (c58_0_defs : Nat) (A58_0_conds : Option Addr) (c58_0_conds : Nat) (k58_0_conds : Option Bk) (A58_1_defs : Option Addr) (c58_1_defs : Nat) (A58_1_onset : Option Addr) (c58_1_onset : Nat) (A58_1_acked : Option Addr) (c58_1_acked : Nat), own = [some ⟨b58_o0, 71, (cBoard t58.1 A58_0_defs c58_0_defs A58_0_conds c58_0_conds)⟩, some ⟨b17, 57, (cRBoard t58.2 A58_1_defs c58_1_defs A58_1_onset c58_1_onset A58_1_acked c58_1_acked)⟩, k58_0_conds] ∧ sl = [(0, vs A5_0 y5 c5_0), (1, vs Aacts acts cacts), (5, vp b58_o0 0), (7, vp b17 0), (9, vi ((s27.1 : Nat) : Int))] ∧ Arr g.b tyAlertDef A58_0_defs c58_0_defs t58.1.defs ∧ Buf g.b tyCnd 79 (.slice A58_0_conds (t58.1.conds).length c58_0_conds) k58_0_conds t58.1.conds ∧ Arr g.b tyAlertDef A58_1_defs c58_1_defs t58.2.defs ∧ Arr g.b (tyI .i64) A58_1_onset c58_1_onset t58.2.onset ∧ Arr g.b tyB A58_1_acked c58_1_acked t58.2.acked) ?_ ?_
         ·rintro g59 _ _ t58 e60 ⟨b58_o0, A58_0_defs, c58_0_defs, A58_0_conds, c58_0_conds, k58_0_conds, A58_1_defs, c58_1_defs, A58_1_onset, c58_1_onset, A58_1_acked, c58_1_acked, rfl, rfl, f58_0_defs, h58_0_conds, f58_1_defs, f58_1_onset, f58_1_acked⟩ hS
          have nf58_0_defs := f58_0_defs.len
          have nh58_0_conds := h58_0_conds.len
          have nf58_1_defs := f58_1_defs.len
          have nf58_1_onset := f58_1_onset.len
          have nf58_1_acked := f58_1_acked.len
          refine xSub [(0, vs A5_0 y5 c5_0), (1, vs Aacts acts cacts), (5, vp b58_o0 0), (7, vp b17 0), (9, vi ((s27.1 : Nat) : Int))] ?_
          have eS := (Option.some.inj hS).symm
          exact hN41 _ eS _ _ _ e60 ⟨b58_o0, A58_0_defs, c58_0_defs, A58_0_conds, c58_0_conds, k58_0_conds, A58_1_defs, c58_1_defs, A58_1_onset, c58_1_onset, A58_1_acked, c58_1_acked, by kernel_rfl, by kernel_rfl, f58_0_defs, h58_0_conds, f58_1_defs, f58_1_onset, f58_1_acked⟩
         ·intro uu58 hS hN58 hD58
          refine xCd (decide ((Int.tmod (List.getD acts s27.1 default).kind 8) < 6)) (fun h61 => ?_) (fun h61 => ?_)
          ·have hS := cond_T h61 hS
           have h61p := of_decide_eq_true h61
           refine xSq ?_
           refine xRg ?_
           refine xB 3 [(2, 0)] [(0, vs A5_0 y5 c5_0), (1, vs Aacts acts cacts), (5, vp b27_o0 0), (7, vp b17 0), (9, vi ((s27.1 : Nat) : Int)), (10, vp b40 0), (103, vp b27_o0 0), (105, vi ((List.getD acts s27.1 default).index))] ?_
           refine xSel [some 1, some 3, some 0, some 2] ?_
           obtain ⟨y62, hy62, hS⟩ := bindO_T hS
           refine xE (eC 2 (fun g' lr eb ln => c18 g' b27_o0 s27.2.1 A27_1_defs c27_1_defs A27_1_conds c27_1_conds k27_1_conds ((List.getD acts s27.1 default).index : Int) (by rw [eb]; exact f27_1_defs) (by rw [eb]; exact h27_1_conds) hy62)) ?_
           rintro _ g63 _ e64 ⟨_, rfl, A62_b_defs, c62_b_defs, A62_b_conds, c62_b_conds, k62_b_conds, rfl, rfl, f62_b_defs, h62_b_conds⟩
           have nf62_b_defs := f62_b_defs.len
           have nh62_b_conds := h62_b_conds.len
           refine xB 1 [] [(0, vs A5_0 y5 c5_0), (1, vs Aacts acts cacts), (5, vp b27_o0 0), (7, vp b17 0), (9, vi ((s27.1 : Nat) : Int)), (10, vp b40 0), (15, vi y62.2)] ?_
           refine xRe ?_
           refine wpq_then ?_
           refine xSq ?_
           refine xRg ?_
           refine xB 3 [(0, 3), (2, 2)] [(0, vs A5_0 y5 c5_0), (1, vs Aacts acts cacts), (5, vp b27_o0 0), (7, vp b17 0), (9, vi ((s27.1 : Nat) : Int)), (15, vi y62.2), (108, Value.agg #[vs A27_2_defs s27.2.2.defs c27_2_defs, vi s27.2.2.steps, vy s27.2.2.phase, vs A27_2_onset s27.2.2.onset c27_2_onset, vs A27_2_acked s27.2.2.acked c27_2_acked]), (110, vi ((List.getD acts s27.1 default).index))] ?_
           have f27_2_defs := f27_2_defs.mono e64.b
           have f27_2_onset := f27_2_onset.mono e64.b
           have f27_2_acked := f27_2_acked.mono e64.b
           obtain ⟨y65, hy65, hS⟩ := bindO_T hS
           refine xE (eC 0 (fun g' lr eb ln => c30 g' s27.2.2 A27_2_defs c27_2_defs A27_2_onset c27_2_onset A27_2_acked c27_2_acked ((List.getD acts s27.1 default).index : Int) (by rw [eb]; exact f27_2_defs) (by rw [eb]; exact f27_2_onset) (by rw [eb]; exact f27_2_acked) hy65)) ?_
           rintro _ g66 _ e67 ⟨_, rfl, A65_0_defs, c65_0_defs, A65_0_onset, c65_0_onset, A65_0_acked, c65_0_acked, rfl, rfl, f65_0_defs, f65_0_onset, f65_0_acked⟩
           have nf65_0_defs := f65_0_defs.len
           have nf65_0_onset := f65_0_onset.len
           have nf65_0_acked := f65_0_acked.len
           refine xB 3 [] [(0, vs A5_0 y5 c5_0), (1, vs Aacts acts cacts), (5, vp b27_o0 0), (7, vp b17 0), (9, vi ((s27.1 : Nat) : Int)), (15, vi y62.2), (112, Value.agg #[vs A65_0_defs y65.1.defs c65_0_defs, vi y65.1.steps, vy y65.1.phase, vs A65_0_onset y65.1.onset c65_0_onset, vs A65_0_acked y65.1.acked c65_0_acked]), (113, vi y65.2)] ?_
           refine xE eB ?_
           rintro _ _ _ - ⟨b68, rfl, rfl, rfl⟩
           refine xBo 2 [(8, 0)] [some ⟨b68, 57, (cRBoard y65.1 A65_0_defs c65_0_defs A65_0_onset c65_0_onset A65_0_acked c65_0_acked)⟩, some ⟨b27_o0, 71, (cBoard y62.1 A62_b_defs c62_b_defs A62_b_conds c62_b_conds)⟩, k62_b_conds, some ⟨b40, 39, (cAct (List.getD acts s27.1 default))⟩, some ⟨b17, 57, (cRBoard s27.2.2 A27_2_defs c27_2_defs A27_2_onset c27_2_onset A27_2_acked c27_2_acked)⟩] [(0, vs A5_0 y5 c5_0), (1, vs Aacts acts cacts), (5, vp b27_o0 0), (7, vp b17 0), (9, vi ((s27.1 : Nat) : Int)), (15, vi y62.2), (16, vp b68 0), (17, vi y65.2)] ?_
           refine xRe ?_
           refine wpq_then ?_
           refine xSq ?_
           refine xSq ?_
           refine xRg ?_
           refine xB 3 [] [(0, vs A5_0 y5 c5_0), (1, vs Aacts acts cacts), (5, vp b27_o0 0), (7, vp b17 0), (9, vi ((s27.1 : Nat) : Int)), (16, vp b68 0), (116, vb (y62.2 != y65.2))] ?_
           refine xRe ?_
           refine wpq_then ?_
           refine xCd ((y62.2 != y65.2)) (fun h69 => ?_) (fun h69 => ?_)
           ·have hS := cond_T h69 hS
            have h69p : ¬ (y62.2 = y65.2) := ne_of_bne_ h69
            refine xSq ?_
            refine xRg ?_
            refine xB 1 [] [(4, vb false)] ?_
            refine xRe ?_
            refine wpq_then ?_
            have eS := (Option.some.inj hS).symm
            have eS := (hD58 _ eS).symm
            have eS := (hD41 _ eS).symm
            have eS := (hD27 _ eS).symm
            have eS := (hD20 _ eS).symm
            subst eS
            exact xRet [] [4] (e3.trans (e7.trans (e10.trans (e12.trans (e16.trans (e29.trans (e32.trans (e35.trans (e64.trans e67))))))))) ⟨by kernel_rfl, by kernel_rfl⟩ (fun _ _ h => h)
           ·have hS := cond_F h69 hS
            have h69p : y62.2 = y65.2 := eq_of_bne_false_ h69
            refine xSk ?_
            refine wpq_then ?_
            refine xSub [(0, vs A5_0 y5 c5_0), (1, vs Aacts acts cacts), (5, vp b27_o0 0), (7, vp b17 0), (9, vi ((s27.1 : Nat) : Int)), (16, vp b68 0)] ?_
            refine xRg ?_
            refine xBo 2 [(0, 0), (1, 4)] [some ⟨b68, 57, (cRBoard y65.1 A65_0_defs c65_0_defs A65_0_onset c65_0_onset A65_0_acked c65_0_acked)⟩, some ⟨b27_o0, 71, (cBoard y62.1 A62_b_defs c62_b_defs A62_b_conds c62_b_conds)⟩, k62_b_conds, some ⟨b40, 39, (cAct (List.getD acts s27.1 default))⟩, some ⟨b17, 57, (cRBoard y65.1 A65_0_defs c65_0_defs A65_0_onset c65_0_onset A65_0_acked c65_0_acked)⟩] [(0, vs A5_0 y5 c5_0), (1, vs Aacts acts cacts), (5, vp b27_o0 0), (7, vp b17 0), (9, vi ((s27.1 : Nat) : Int))] ?_
            refine xRe ?_
            have f62_b_defs := f62_b_defs.mono e67.b
            have h62_b_conds := h62_b_conds.mono e67.b
            refine xSel [some 1, some 4, some 2] ?_
            refine xSub [(0, vs A5_0 y5 c5_0), (1, vs Aacts acts cacts), (5, vp b27_o0 0), (7, vp b17 0), (9, vi ((s27.1 : Nat) : Int))] ?_
            have eS := (Option.some.inj hS).symm
            exact hN58 _ eS _ _ _ (e64.trans e67) ⟨b27_o0, A62_b_defs, c62_b_defs, A62_b_conds, c62_b_conds, k62_b_conds, A65_0_defs, c65_0_defs, A65_0_onset, c65_0_onset, A65_0_acked, c65_0_acked, by kernel_rfl, by kernel_rfl, f62_b_defs, h62_b_conds, f65_0_defs, f65_0_onset, f65_0_acked⟩
          ·have hS := cond_F h61 hS
           have h61p := of_decide_eq_false h61
           refine xSq ?_
           refine xRg ?_
           refine xB 3 [] [(0, vs A5_0 y5 c5_0), (1, vs Aacts acts cacts), (5, vp b27_o0 0), (7, vp b17 0), (9, vi ((s27.1 : Nat) : Int)), (118, vb ((Int.tmod (List.getD acts s27.1 default).kind 8) == 6))] ?_
           refine xRe ?_
           refine wpq_then ?_
           refine xJoinO hS (fun g own sl t70 => ∃ (b70_o0 : Nat) (A70_0_defs : Option Addr) (c70_0_defs : Nat) (A70_0_conds : Option Addr) (c70_0_conds : Nat) (k70_0_conds : Option Bk) (A70_1_defs : Option Addr) (c70_1_defs : Nat) (A70_1_onset : Option Addr) (c70_1_onset : Nat) (A70_1_acked : Option Addr) (c70_1_acked : Nat), own = [some ⟨b70_o0, 71, (cBoard t70.1 A70_0_defs c70_0_defs A70_0_conds c70_0_conds)⟩, some ⟨b17, 57, (cRBoard t70.2 A70_1_defs c70_1_defs A70_1_onset c70_1_onset A70_1_acked c70_1_acked)⟩, k70_0_conds] ∧ sl = [(0, vs A5_0 y5 c5_0), (1, vs Aacts acts cacts), (5, vp b70_o0 0), (7, vp b17 0), (9, vi ((s27.1 : Nat) : Int))] ∧ Arr g.b tyAlertDef A70_0_defs c70_0_defs t70.1.defs ∧ Buf g.b tyCnd 79 (.slice A70_0_conds (t70.1.conds).length c70_0_conds) k70_0_conds t70.1.conds ∧ Arr g.b tyAlertDef A70_1_defs c70_1_defs t70.2.defs ∧ Arr g.b (tyI .i64) A70_1_onset c70_1_onset t70.2.onset ∧ Arr g.b tyB A70_1_acked c70_1_acked t70.2.acked) ?_ ?_
           ·rintro g71 _ _ t70 e72 ⟨b70_o0, A70_0_defs, c70_0_defs, A70_0_conds, c70_0_conds, k70_0_conds, A70_1_defs, c70_1_defs, A70_1_onset, c70_1_onset, A70_1_acked, c70_1_acked, rfl, rfl, f70_0_defs, h70_0_conds, f70_1_defs, f70_1_onset, f70_1_acked⟩ hS
            have nf70_0_defs := f70_0_defs.len
            have nh70_0_conds := h70_0_conds.len
            have nf70_1_defs := f70_1_defs.len
            have nf70_1_onset := f70_1_onset.len
            have nf70_1_acked := f70_1_acked.len
            refine xSub [(0, vs A5_0 y5 c5_0), (1, vs Aacts acts cacts), (5, vp b70_o0 0), (7, vp b17 0), (9, vi ((s27.1 : Nat) : Int))] ?_
            have eS := (Option.some.inj hS).symm
            exact hN58 _ eS _ _ _ e72 ⟨b70_o0, A70_0_defs, c70_0_defs, A70_0_conds, c70_0_conds, k70_0_conds, A70_1_defs, c70_1_defs, A70_1_onset, c70_1_onset, A70_1_acked, c70_1_acked, by kernel_rfl, by kernel_rfl, f70_0_defs, h70_0_conds, f70_1_defs, f70_1_onset, f70_1_acked⟩
           ·intro uu70 hS hN70 hD70
            refine xCd (((Int.tmod (List.getD acts s27.1 default).kind 8) == 6)) (fun h73 => ?_) (fun h73 => ?_)
            ·have hS := cond_T h73 hS
             have h73p : (Int.tmod (List.getD acts s27.1 default).kind 8) = 6 := eq_of_beq h73
             refine xSq ?_
             refine xRg ?_
             refine xB 1 [] [(0, vs A5_0 y5 c5_0), (1, vs Aacts acts cacts), (5, vp b27_o0 0), (7, vp b17 0), (9, vi ((s27.1 : Nat) : Int)), (121, vp b27_o0 0)] ?_
             refine xSel [some 1, some 3, some 0, some 2] ?_
             obtain ⟨y74, hy74, hS⟩ := bindO_T hS
             refine xE (eC 2 (fun g' lr eb ln => c24 g' b27_o0 s27.2.1 A27_1_defs c27_1_defs A27_1_conds c27_1_conds k27_1_conds (by rw [eb]; exact f27_1_defs) (by rw [eb]; exact h27_1_conds) hy74)) ?_
             rintro _ g75 _ e76 ⟨_, rfl, A74_b_defs, c74_b_defs, A74_b_conds, c74_b_conds, k74_b_conds, rfl, rfl, f74_b_defs, h74_b_conds⟩
             have nf74_b_defs := f74_b_defs.len
             have nh74_b_conds := h74_b_conds.len
             refine xB 1 [] [(0, vs A5_0 y5 c5_0), (1, vs Aacts acts cacts), (5, vp b27_o0 0), (7, vp b17 0), (9, vi ((s27.1 : Nat) : Int)), (18, vi y74.2)] ?_
             refine xRe ?_
             refine wpq_then ?_
             refine xSq ?_
             refine xRg ?_
             refine xB 1 [(0, 3)] [(0, vs A5_0 y5 c5_0), (1, vs Aacts acts cacts), (5, vp b27_o0 0), (7, vp b17 0), (9, vi ((s27.1 : Nat) : Int)), (18, vi y74.2), (124, Value.agg #[vs A27_2_defs s27.2.2.defs c27_2_defs, vi s27.2.2.steps, vy s27.2.2.phase, vs A27_2_onset s27.2.2.onset c27_2_onset, vs A27_2_acked s27.2.2.acked c27_2_acked])] ?_
             have f27_2_defs := f27_2_defs.mono e76.b
             have f27_2_onset := f27_2_onset.mono e76.b
             have f27_2_acked := f27_2_acked.mono e76.b
             obtain ⟨y77, hy77, hS⟩ := bindO_T hS
             refine xE (eC 0 (fun g' lr eb ln => c31 g' s27.2.2 A27_2_defs c27_2_defs A27_2_onset c27_2_onset A27_2_acked c27_2_acked (by rw [eb]; exact f27_2_defs) (by rw [eb]; exact f27_2_onset) (by rw [eb]; exact f27_2_acked) hy77)) ?_
             rintro _ g78 _ e79 ⟨_, rfl, A77_0_defs, c77_0_defs, A77_0_onset, c77_0_onset, A77_0_acked, c77_0_acked, rfl, rfl, f77_0_defs, f77_0_onset, f77_0_acked⟩
             have nf77_0_defs := f77_0_defs.len
             have nf77_0_onset := f77_0_onset.len
             have nf77_0_acked := f77_0_acked.len
             refine xB 3 [] [(0, vs A5_0 y5 c5_0), (1, vs Aacts acts cacts), (5, vp b27_o0 0), (7, vp b17 0), (9, vi ((s27.1 : Nat) : Int)), (18, vi y74.2), (126, Value.agg #[vs A77_0_defs y77.1.defs c77_0_defs, vi y77.1.steps, vy y77.1.phase, vs A77_0_onset y77.1.onset c77_0_onset, vs A77_0_acked y77.1.acked c77_0_acked]), (127, vi y77.2)] ?_
             refine xE eB ?_
             rintro _ _ _ - ⟨b80, rfl, rfl, rfl⟩
             refine xBo 2 [(6, 0)] [some ⟨b80, 57, (cRBoard y77.1 A77_0_defs c77_0_defs A77_0_onset c77_0_onset A77_0_acked c77_0_acked)⟩, some ⟨b27_o0, 71, (cBoard y74.1 A74_b_defs c74_b_defs A74_b_conds c74_b_conds)⟩, k74_b_conds, some ⟨b40, 39, (cAct (List.getD acts s27.1 default))⟩, some ⟨b17, 57, (cRBoard s27.2.2 A27_2_defs c27_2_defs A27_2_onset c27_2_onset A27_2_acked c27_2_acked)⟩] [(0, vs A5_0 y5 c5_0), (1, vs Aacts acts cacts), (5, vp b27_o0 0), (7, vp b17 0), (9, vi ((s27.1 : Nat) : Int)), (18, vi y74.2), (19, vp b80 0), (20, vi y77.2)] ?_
             refine xRe ?_
             refine wpq_then ?_
             refine xSq ?_
             refine xSq ?_
             refine xRg ?_
             refine xB 3 [] [(0, vs A5_0 y5 c5_0), (1, vs Aacts acts cacts), (5, vp b27_o0 0), (7, vp b17 0), (9, vi ((s27.1 : Nat) : Int)), (19, vp b80 0), (130, vb (y74.2 != y77.2))] ?_
             refine xRe ?_
             refine wpq_then ?_
             refine xCd ((y74.2 != y77.2)) (fun h81 => ?_) (fun h81 => ?_)
             ·have hS := cond_T h81 hS
              have h81p : ¬ (y74.2 = y77.2) := ne_of_bne_ h81
              refine xSq ?_
              refine xRg ?_
              refine xB 1 [] [(4, vb false)] ?_
              refine xRe ?_
              refine wpq_then ?_
              have eS := (Option.some.inj hS).symm
              have eS := (hD70 _ eS).symm
              have eS := (hD58 _ eS).symm
              have eS := (hD41 _ eS).symm
              have eS := (hD27 _ eS).symm
              have eS := (hD20 _ eS).symm
              subst eS
              exact xRet [] [4] (e3.trans (e7.trans (e10.trans (e12.trans (e16.trans (e29.trans (e32.trans (e35.trans (e76.trans e79))))))))) ⟨by kernel_rfl, by kernel_rfl⟩ (fun _ _ h => h)
             ·have hS := cond_F h81 hS
              have h81p : y74.2 = y77.2 := eq_of_bne_false_ h81
              refine xSk ?_
              refine wpq_then ?_
              refine xSub [(0, vs A5_0 y5 c5_0), (1, vs Aacts acts cacts), (5, vp b27_o0 0), (7, vp b17 0), (9, vi ((s27.1 : Nat) : Int)), (19, vp b80 0)] ?_
              refine xRg ?_
              refine xBo 2 [(0, 0), (1, 4)] [some ⟨b80, 57, (cRBoard y77.1 A77_0_defs c77_0_defs A77_0_onset c77_0_onset A77_0_acked c77_0_acked)⟩, some ⟨b27_o0, 71, (cBoard y74.1 A74_b_defs c74_b_defs A74_b_conds c74_b_conds)⟩, k74_b_conds, some ⟨b40, 39, (cAct (List.getD acts s27.1 default))⟩, some ⟨b17, 57, (cRBoard y77.1 A77_0_defs c77_0_defs A77_0_onset c77_0_onset A77_0_acked c77_0_acked)⟩] [(0, vs A5_0 y5 c5_0), (1, vs Aacts acts cacts), (5, vp b27_o0 0), (7, vp b17 0), (9, vi ((s27.1 : Nat) : Int))] ?_
              refine xRe ?_
              have f74_b_defs := f74_b_defs.mono e79.b
              have h74_b_conds := h74_b_conds.mono e79.b
              refine xSel [some 1, some 4, some 2] ?_
              refine xSub [(0, vs A5_0 y5 c5_0), (1, vs Aacts acts cacts), (5, vp b27_o0 0), (7, vp b17 0), (9, vi ((s27.1 : Nat) : Int))] ?_
              have eS := (Option.some.inj hS).symm
              exact hN70 _ eS _ _ _ (e76.trans e79) ⟨b27_o0, A74_b_defs, c74_b_defs, A74_b_conds, c74_b_conds, k74_b_conds, A77_0_defs, c77_0_defs, A77_0_onset, c77_0_onset, A77_0_acked, c77_0_acked, by kernel_rfl, by kernel_rfl, f74_b_defs, h74_b_conds, f77_0_defs, f77_0_onset, f77_0_acked⟩
            ·have hS := cond_F h73 hS
             have h73p : ¬ ((Int.tmod (List.getD acts s27.1 default).kind 8) = 6) := ne_of_beq_false_ h73
             refine xSq ?_
             refine xRg ?_
             refine xB 2 [] [(0, vs A5_0 y5 c5_0), (1, vs Aacts acts cacts), (7, vp b17 0), (9, vi ((s27.1 : Nat) : Int)), (65, vs A5_0 y5 c5_0), (66, vp b27_o0 0)] ?_
             obtain ⟨y82, hy82, hS⟩ := bindO_T hS
             refine xE (eC 0 (fun g' lr eb ln => c22 g' ⟨b27_o0, 0, none⟩ s27.2.1 A27_1_defs c27_1_defs A27_1_conds c27_1_conds (cells_lent' 1 b27_o0 0 (cBoard s27.2.1 A27_1_defs c27_1_defs A27_1_conds c27_1_conds) ln) ((f27_1_defs.mono g34.br).mono lr) (arrm_of_buf h27_1_conds eb (lentk 3 (by kernel_rfl) ln)) hy82)) ?_
             rintro _ g83 _ e84 ⟨_, rfl, A82_0, c82_0, k82_0, rfl, rfl, h82_0⟩
             have nh82_0 := h82_0.len
             have f13 := f13.mono (e16.trans (e29.trans (e32.trans (e35.trans e84)))).b
             obtain ⟨y85, hy85, hS⟩ := bindO_T hS
             refine xE (eC 0 (fun g' lr eb ln => c25 g' (y5 : List AlertDef) A5_0 c5_0 (y82 : List UInt8) A82_0 c82_0 (ArrM.lent (f13.toM g83.br) lr eb) (arr_of_buf h82_0 (Psi.le_b eb) (lentk 0 (by kernel_rfl) ln)) hy85)) ?_
             rintro _ g86 _ e87 ⟨_, rfl, v85_0, k85_0, k85_0_0, rfl, rfl, hn85_0, hs85_0⟩
             refine xB 5 [] [(0, vs A5_0 y5 c5_0), (1, vs Aacts acts cacts), (7, vp b17 0), (9, vi ((s27.1 : Nat) : Int)), (21, v85_0), (22, vi y85.2)] ?_
             refine xRe ?_
             refine wpq_then ?_
             refine xSq ?_
             refine xSq ?_
             refine xRg ?_
             refine xB 3 [] [(0, vs A5_0 y5 c5_0), (1, vs Aacts acts cacts), (7, vp b17 0), (9, vi ((s27.1 : Nat) : Int)), (21, v85_0), (73, vb (y85.2 != 0))] ?_
             refine wpr_grp 6 [(0, vs A5_0 y5 c5_0), (1, vs Aacts acts cacts), (7, vp b17 0), (9, vi ((s27.1 : Nat) : Int)), (21, v85_0), (76, vb ((y85.2 != 0) || (Option.isNone (y85.1))))] (fun hk2 => ?_) ?_
             ·refine wpq_split 73 (b := (y85.2 != 0)) (by kernel_rfl) (fun q88 => ?_) (fun q88 => ?_)
              ·have q88p : ¬ (y85.2 = 0) := ne_of_bne_ q88
               refine xB 3 [] [(0, vs A5_0 y5 c5_0), (1, vs Aacts acts cacts), (7, vp b17 0), (9, vi ((s27.1 : Nat) : Int)), (21, v85_0), (76, vb true)] ?_
               refine wpq_re 76 (v := vb true) (Value.bool (((y85.2 != 0) || (Option.isNone (y85.1))))) (by kernel_rfl) (re_or1 q88) ?_
               exact wpq_sub _ (by kernel_rfl) hk2
              ·have q88p : y85.2 = 0 := eq_of_bne_false_ q88
               refine xB 1 [] [(0, vs A5_0 y5 c5_0), (1, vs Aacts acts cacts), (7, vp b17 0), (9, vi ((s27.1 : Nat) : Int)), (21, v85_0), (73, vb false), (74, v85_0)] ?_
               refine xV (qPn hn85_0 (fun d h => by obtain ⟨_, _, _, _, _, _, h1, _⟩ := hs85_0 d h; exact ⟨_, h1⟩)) ?_
               refine xB 1 [] [(0, vs A5_0 y5 c5_0), (1, vs Aacts acts cacts), (7, vp b17 0), (9, vi ((s27.1 : Nat) : Int)), (21, v85_0), (76, vb (Option.isNone (y85.1)))] ?_
               refine wpq_re 76 (v := vb (Option.isNone (y85.1))) (Value.bool (((y85.2 != 0) || (Option.isNone (y85.1))))) (by kernel_rfl) (re_or0 q88) ?_
               exact wpq_sub _ (by kernel_rfl) hk2
             ·refine xRe ?_
              refine wpq_then ?_
              refine xCd (((y85.2 != 0) || (Option.isNone (y85.1)))) (fun h89 => ?_) (fun h89 => ?_)
              ·have hS := cond_T h89 hS
               refine xSq ?_
               refine xRg ?_
               refine xB 1 [] [(4, vb false)] ?_
               refine xRe ?_
               refine wpq_then ?_
               have eS := (Option.some.inj hS).symm
               have eS := (hD70 _ eS).symm
               have eS := (hD58 _ eS).symm
               have eS := (hD41 _ eS).symm
               have eS := (hD27 _ eS).symm
               have eS := (hD20 _ eS).symm
               subst eS
               exact xRet [] [4] (e3.trans (e7.trans (e10.trans (e12.trans (e16.trans (e29.trans (e32.trans (e35.trans (e84.trans e87))))))))) ⟨by kernel_rfl, by kernel_rfl⟩ (fun _ _ h => h)
              ·have hS := cond_F h89 hS
               have h89l := (or_false_ h89).1
               have h89r := (or_false_ h89).2
               have h89lp : y85.2 = 0 := eq_of_bne_false_ h89l
               refine xSk ?_
               refine wpq_then ?_
               refine xSub [(0, vs A5_0 y5 c5_0), (1, vs Aacts acts cacts), (7, vp b17 0), (9, vi ((s27.1 : Nat) : Int)), (21, v85_0)] ?_
               refine xRg ?_
               refine xB 2 [] [(0, vs A5_0 y5 c5_0), (1, vs Aacts acts cacts), (5, v85_0), (7, vp b17 0), (9, vi ((s27.1 : Nat) : Int))] ?_
               refine xRe ?_
               obtain ⟨d90, ed90, hS⟩ := bindO_T hS
               obtain ⟨bd90, Ad90_defs, cd90_defs, Ad90_conds, cd90_conds, kd90_conds, rfl, rfl, rfl, fd90_defs, hd90_conds⟩ := hs85_0 d90 ed90
               have nfd90_defs := fd90_defs.len
               have nhd90_conds := hd90_conds.len
               have f27_2_defs := f27_2_defs.mono (e84.trans e87).b
               have f27_2_onset := f27_2_onset.mono (e84.trans e87).b
               have f27_2_acked := f27_2_acked.mono (e84.trans e87).b
               refine xSel [some 0, some 5, some 1] ?_
               refine xSub [(0, vs A5_0 y5 c5_0), (1, vs Aacts acts cacts), (5, vp bd90 0), (7, vp b17 0), (9, vi ((s27.1 : Nat) : Int))] ?_
               have eS := (Option.some.inj hS).symm
               exact hN70 _ eS _ _ _ (e84.trans e87) ⟨bd90, Ad90_defs, cd90_defs, Ad90_conds, cd90_conds, k85_0_0, A27_2_defs, c27_2_defs, A27_2_onset, c27_2_onset, A27_2_acked, c27_2_acked, by kernel_rfl, by kernel_rfl, fd90_defs, hd90_conds, f27_2_defs, f27_2_onset, f27_2_acked⟩
      ·have hS := cond_F h37 hS
       refine xEx 0 ?_
       refine wpq_thenX ?_
       refine wpq_thenX ?_
       refine wpq_blockE ?_
       refine xSel [] ?_
       refine xSub [] ?_
       have eS := (Option.some.inj hS).symm
       have eS := (hD27 _ eS).symm
       exact hN20 _ eS _ _ _ (e29.trans (e32.trans e35)) ⟨by kernel_rfl, by kernel_rfl⟩

end Go.Proofs.Ytfhchendnfpbkaa
