/-
Walks, printed by wip/gen. Conditions: each theorem's own.
-/
import Derived.Test.YtfhchendnfpbkaaA4
namespace Go.Proofs.Ytfhchendnfpbkaa
set_option linter.unusedVariables false
set_option linter.unusedSimpArgs false
open Go.RowKit
def o5_L1 (acts : List Act) (y5 : (List AlertDef)) (s23 : Nat × (List Bool) × (List Bool) × Board) (t39 : (List Bool) × (List Bool)) (t42 : Board × (List Bool)) (t50 : (List Bool)) (s58 : Nat) : Option (Ctl (Nat) (Ctl (Unit) (Ctl (Board × (List Bool) × (List Bool)) (Ctl (Nat × (List Bool) × (List Bool) × Board) (Ctl (Unit) (Bool)))))) :=
  (cond (decide (((s58 : Nat) : Int) < 16)) (letJ (τ := Bool) (cond ((List.getD t39.2 s58 false)) (!(List.getD t42.2 s58 false)) (false)) fun t68 => (bindO (τ := Bool) (cond (t68) (grd (decide (s58 < (y5).length)) (some ((landK .u16 (shrK .u16 (List.getD y5 s58 default).inhibit (IntKind.u8.wrap ((Int.tmod (List.getD acts s23.1 default).phase 8) + 1))) 1) == 0))) (some (false))) fun t71 => (cond ((!((List.getD t50 s58 false) == t71))) (some (Ctl.done (Ctl.done (Ctl.done (Ctl.done (Ctl.done ((false)))))))) (grd (decide (((s58 : Nat) : Int) + 1 ≤ 9223372036854775807)) (some (Ctl.go (s58 + 1))))))) (some (Ctl.done (Ctl.go ()))))
def o5_L2 (y47 : (List Int)) (s85 : Nat × (List Bool)) : Option (Ctl (Nat × (List Bool)) (Ctl ((List Bool)) (Ctl (Board × (List Bool) × (List Bool)) (Ctl (Nat × (List Bool) × (List Bool) × Board) (Ctl (Unit) (Bool)))))) :=
  (cond (decide (((s85.1 : Nat) : Int) < (((y47).length : Nat) : Int))) (letJ (τ := Bool) (cond ((decide ((List.getD y47 s85.1 0) < 0) || decide ((List.getD y47 s85.1 0) > 15))) (true) (List.getD s85.2 ((List.getD y47 s85.1 0)).toNat false)) fun t92 => (cond (t92) (some (Ctl.done (Ctl.done (Ctl.done (Ctl.done (Ctl.done ((false)))))))) (grd (decide (0 ≤ (List.getD y47 s85.1 0) ∧ (List.getD y47 s85.1 0) < 16)) (grd (decide (((s85.1 : Nat) : Int) + 1 ≤ 9223372036854775807)) (some (Ctl.go ((s85.1 + 1), ((List.set s85.2 ((List.getD y47 s85.1 0)).toNat true) : List Bool)))))))) (some (Ctl.done (Ctl.go (s85.2 : List Bool)))))
def o5_L3 (acts : List Act) (s23 : Nat × (List Bool) × (List Bool) × Board) (s138 : Nat × (List Bool) × (List Bool)) : Option (Ctl (Nat × (List Bool) × (List Bool)) ((List Bool) × (List Bool))) :=
  (cond (decide (((s138.1 : Nat) : Int) < 16)) (letJ (τ := Bool) (cond ((List.getD s138.2.1 s138.1 false)) (List.getD (List.set s138.2.2 s138.1 ((landK .u16 (shrK .u16 (List.getD acts s23.1 default).conds ((s138.1 : Nat) : Int)) 1) == 1)) s138.1 false) (false)) fun t149 => (grd (decide (((s138.1 : Nat) : Int) + 1 ≤ 9223372036854775807)) (some (Ctl.go ((s138.1 + 1), ((List.set s138.2.1 s138.1 t149) : List Bool), ((List.set s138.2.2 s138.1 ((landK .u16 (shrK .u16 (List.getD acts s23.1 default).conds ((s138.1 : Nat) : Int)) 1) == 1)) : List Bool)))))) (some (Ctl.done (((s138.2.1 : List Bool), (s138.2.2 : List Bool))))))
def o5_L0 (acts : List Act) (y5 : (List AlertDef)) (s23 : Nat × (List Bool) × (List Bool) × Board) : Option (Ctl (Nat × (List Bool) × (List Bool) × Board) (Ctl (Unit) (Bool))) :=
  (cond ((decide (((s23.1 : Nat) : Int) < (((acts).length : Nat) : Int)) && decide (((s23.1 : Nat) : Int) < 20))) (joinO (τ := Board × (List Bool) × (List Bool)) (ρ := Ctl (Nat × (List Bool) × (List Bool) × Board) (Ctl (Unit) (Bool))) (bindO (τ := Board × Int) (o17 s23.2.2.2 ((List.getD acts s23.1 default).conds : Int) ((IntKind.u8.wrap ((Int.tmod (List.getD acts s23.1 default).phase 8) + 1)) : Int)) fun y35 => (cond ((y35.2 != 0)) (some (Ctl.done (Ctl.done (Ctl.done ((false)))))) (bindO (τ := (List Bool) × (List Bool)) (loopO (σ := Nat × (List Bool) × (List Bool)) (ρ := (List Bool) × (List Bool)) fuelN (o5_L3 acts s23) (0, (s23.2.1 : List Bool), (s23.2.2.1 : List Bool))) fun t39 => (joinO (τ := Board × (List Bool)) (ρ := Ctl (Board × (List Bool) × (List Bool)) (Ctl (Nat × (List Bool) × (List Bool) × Board) (Ctl (Unit) (Bool)))) (cond (((Int.tmod (List.getD acts s23.1 default).kind 2) == 1)) (letJ (τ := Bool) (cond ((List.getD t39.2 ((landK .i64 (List.getD acts s23.1 default).index 15)).toNat false)) (!(List.getD t39.1 ((landK .i64 (List.getD acts s23.1 default).index 15)).toNat false)) (false)) fun t110 => (bindO (τ := Bool) (cond (t110) (grd (decide (0 ≤ (landK .i64 (List.getD acts s23.1 default).index 15) ∧ (landK .i64 (List.getD acts s23.1 default).index 15) < (((y5).length : Nat) : Int))) (some ((landK .u16 (shrK .u16 (List.getD y5 ((landK .i64 (List.getD acts s23.1 default).index 15)).toNat default).inhibit (IntKind.u8.wrap ((Int.tmod (List.getD acts s23.1 default).phase 8) + 1))) 1) == 0))) (some (false))) fun t113 => (bindO (τ := Board × Int) (o18 y35.1 ((landK .i64 (List.getD acts s23.1 default).index 15) : Int)) fun y116 => (cond ((!((y116.2 == 0) == t113))) (some (Ctl.done (Ctl.done (Ctl.done (Ctl.done ((false))))))) (some (Ctl.go ((y116.1 : Board), ((List.set t39.1 ((landK .i64 (List.getD acts s23.1 default).index 15)).toNat ((List.getD t39.1 ((landK .i64 (List.getD acts s23.1 default).index 15)).toNat false) || t113)) : List Bool)))))))) (some (Ctl.go ((y35.1 : Board), (t39.1 : List Bool))))) fun t42 => (bindO (τ := (List Int)) (o19 t42.1) fun y47 => (joinO (τ := (List Bool)) (ρ := Ctl (Board × (List Bool) × (List Bool)) (Ctl (Nat × (List Bool) × (List Bool) × Board) (Ctl (Unit) (Bool)))) (loopO (σ := Nat × (List Bool)) (ρ := Ctl ((List Bool)) (Ctl (Board × (List Bool) × (List Bool)) (Ctl (Nat × (List Bool) × (List Bool) × Board) (Ctl (Unit) (Bool))))) fuelN (o5_L2 y47) (0, ((List.replicate 16 false) : List Bool))) fun t50 => (joinO (τ := Unit) (ρ := Ctl (Board × (List Bool) × (List Bool)) (Ctl (Nat × (List Bool) × (List Bool) × Board) (Ctl (Unit) (Bool)))) (loopO (σ := Nat) (ρ := Ctl (Unit) (Ctl (Board × (List Bool) × (List Bool)) (Ctl (Nat × (List Bool) × (List Bool) × Board) (Ctl (Unit) (Bool))))) fuelN (o5_L1 acts y5 s23 t39 t42 t50) (0)) fun t53 => (some (Ctl.go ((t42.1 : Board), (t42.2 : List Bool), (t39.2 : List Bool))))))))))) fun t28 => (grd (decide (((s23.1 : Nat) : Int) + 1 ≤ 9223372036854775807)) (some (Ctl.go ((s23.1 + 1), (t28.2.1 : List Bool), (t28.2.2 : List Bool), (t28.1 : Board)))))) (some (Ctl.done (Ctl.go ()))))
def o5 (acts : List Act) : Option (Bool) :=
  (bindO (τ := Bool) (o10) fun y1 => (cond ((!y1)) (some ((false))) (bindO (τ := (List AlertDef)) (o15) fun y5 => (bindO (τ := (Option Board) × Int) (o12 (y5 : List AlertDef)) fun y8 => (cond (((y8.2 != 0) || (Option.isNone (y8.1)))) (some ((false))) (joinO (τ := Unit) (ρ := Bool) (bindO (τ := Board) (y8.1) fun d20 => (loopO (σ := Nat × (List Bool) × (List Bool) × Board) (ρ := Ctl (Unit) (Bool)) fuelN (o5_L0 acts y5) (0, ((List.replicate 16 false) : List Bool), ((List.replicate 16 false) : List Bool), (d20 : Board)))) fun t17 => (some ((true)))))))))
set_option maxRecDepth 100000 in
theorem c5 (g : Gh) (acts : List Act) (Aacts : Option Addr) (cacts : Nat) (facts : Arr g.r tyAct Aacts cacts acts) {r : Bool} (hS : o5 acts = some r) :
    Ctr Try.prog 5 [vs Aacts acts cacts] g [] (fun v ψ o => v = vb r ∧ o = []) := by
  unfold o5 at hS
  refine xFn Try.f5 (Try.f5.body.getD .skip) 168 ?_
  have nfacts := facts.len
  refine xSq ?_
  refine xRg ?_
  refine xB 1 [] [(0, vs Aacts acts cacts)] ?_
  refine xRe ?_
  refine wpq_then ?_
  refine xSq ?_
  refine xSq ?_
  refine xRg ?_
  obtain ⟨y1, hy1, hS⟩ := bindO_T hS
  refine xE (eC 0 (fun g' lr eb ln => c10 g'  hy1)) ?_
  rintro _ g2 _ e3 ⟨_, rfl, rfl, rfl⟩
  refine xB 1 [] [(0, vs Aacts acts cacts), (19, vb (!y1))] ?_
  refine xRe ?_
  refine wpq_then ?_
  refine xCd ((!y1)) (fun h4 => ?_) (fun h4 => ?_)
  · have hS := cond_T h4 hS
    have h4n := not_eq_true_ h4
    refine xSq ?_
    refine xRg ?_
    refine xB 1 [] [(2, vb false)] ?_
    refine xRe ?_
    refine wpq_then ?_
    have eS := (Option.some.inj hS).symm
    subst eS
    exact xRet [] [2] e3 ⟨by kernel_rfl, by kernel_rfl⟩ (fun _ _ h => h)
  · have hS := cond_F h4 hS
    have h4n := not_eq_false_ h4
    refine xSk ?_
    refine wpq_then ?_
    refine xSub [(0, vs Aacts acts cacts)] ?_
    refine xSq ?_
    refine xRg ?_
    obtain ⟨y5, hy5, hS⟩ := bindO_T hS
    refine xE (eC 0 (fun g' lr eb ln => c15 g'  hy5)) ?_
    rintro _ g6 _ e7 ⟨_, rfl, A5_0, c5_0, k5_0, rfl, rfl, h5_0⟩
    have nh5_0 := h5_0.len
    refine xB 1 [] [(0, vs Aacts acts cacts), (3, vs A5_0 y5 c5_0)] ?_
    refine xRe ?_
    refine wpq_then ?_
    refine xSq ?_
    refine xRg ?_
    refine xB 1 [] [(0, vs Aacts acts cacts), (3, vs A5_0 y5 c5_0), (22, vs A5_0 y5 c5_0)] ?_
    obtain ⟨y8, hy8, hS⟩ := bindO_T hS
    refine xE (eC 0 (fun g' lr eb ln => c12 g' (y5 : List AlertDef) A5_0 c5_0 (arrm_of_buf h5_0 eb (lentk 0 (by kernel_rfl) ln)) hy8)) ?_
    rintro _ g9 _ e10 ⟨_, rfl, v8_0, k8_0, k8_0_0, rfl, rfl, hn8_0, hs8_0⟩
    refine xB 5 [] [(0, vs Aacts acts cacts), (3, vs A5_0 y5 c5_0), (4, v8_0), (5, vi y8.2)] ?_
    refine xRe ?_
    refine wpq_then ?_
    refine xSq ?_
    refine xSq ?_
    refine xRg ?_
    refine xB 3 [] [(0, vs Aacts acts cacts), (3, vs A5_0 y5 c5_0), (4, v8_0), (28, vb (y8.2 != 0))] ?_
    refine wpr_grp 6 [(0, vs Aacts acts cacts), (3, vs A5_0 y5 c5_0), (4, v8_0), (31, vb ((y8.2 != 0) || (Option.isNone (y8.1))))] (fun hk2 => ?_) ?_
    · refine wpq_split 28 (b := (y8.2 != 0)) (by kernel_rfl) (fun q11 => ?_) (fun q11 => ?_)
      · have q11p : ¬ (y8.2 = 0) := ne_of_bne_ q11
        refine xB 3 [] [(0, vs Aacts acts cacts), (3, vs A5_0 y5 c5_0), (4, v8_0), (31, vb true)] ?_
        refine wpq_re 31 (v := vb true) (Value.bool (((y8.2 != 0) || (Option.isNone (y8.1))))) (by kernel_rfl) (re_or1 q11) ?_
        exact wpq_sub _ (by kernel_rfl) hk2
      · have q11p : y8.2 = 0 := eq_of_bne_false_ q11
        refine xB 1 [] [(0, vs Aacts acts cacts), (3, vs A5_0 y5 c5_0), (4, v8_0), (28, vb false), (29, v8_0)] ?_
        refine xV (qPn hn8_0 (fun d h => by obtain ⟨_, _, _, _, _, _, h1, _⟩ := hs8_0 d h; exact ⟨_, h1⟩)) ?_
        refine xB 1 [] [(0, vs Aacts acts cacts), (3, vs A5_0 y5 c5_0), (4, v8_0), (31, vb (Option.isNone (y8.1)))] ?_
        refine wpq_re 31 (v := vb (Option.isNone (y8.1))) (Value.bool (((y8.2 != 0) || (Option.isNone (y8.1))))) (by kernel_rfl) (re_or0 q11) ?_
        exact wpq_sub _ (by kernel_rfl) hk2
    · refine xRe ?_
      refine wpq_then ?_
      refine xCd (((y8.2 != 0) || (Option.isNone (y8.1)))) (fun h12 => ?_) (fun h12 => ?_)
      · have hS := cond_T h12 hS
        refine xSq ?_
        refine xRg ?_
        refine xB 1 [] [(2, vb false)] ?_
        refine xRe ?_
        refine wpq_then ?_
        have eS := (Option.some.inj hS).symm
        subst eS
        exact xRet [] [2] (e3.trans (e7.trans e10)) ⟨by kernel_rfl, by kernel_rfl⟩ (fun _ _ h => h)
      · have hS := cond_F h12 hS
        have h12l := (or_false_ h12).1
        have h12r := (or_false_ h12).2
        have h12lp : y8.2 = 0 := eq_of_bne_false_ h12l
        refine xSk ?_
        refine wpq_then ?_
        refine xSub [(0, vs Aacts acts cacts), (3, vs A5_0 y5 c5_0), (4, v8_0)] ?_
        refine xSq ?_
        refine xRg ?_
        refine xE eB ?_
        rintro _ _ _ - ⟨b13, rfl, rfl, rfl⟩
        refine wpq_name (T := tyB) (p := g9.b) (et := 37) (v := .slice (some ⟨b13, 0, none⟩) 16 16) (xs := (List.replicate 16 false)) 0 (k := some ⟨b13, 37, (List.replicate 16 [vb false]).flatten⟩) (by kernel_rfl) (buf_zeros (show tyB.rep _ _ _ from rfl) (by decide)) (fun k14 h14 => ?_)
        have hz14 : 16 = ((List.replicate 16 false)).length := h14.leneq
        refine wpq_addnone ?_
        refine xE eB ?_
        rintro _ _ _ - ⟨b15, rfl, rfl, rfl⟩
        refine wpq_name (T := tyB) (p := g9.b) (et := 37) (v := .slice (some ⟨b15, 0, none⟩) 16 16) (xs := (List.replicate 16 false)) 0 (k := some ⟨b15, 37, (List.replicate 16 [vb false]).flatten⟩) (by kernel_rfl) (buf_zeros (show tyB.rep _ _ _ from rfl) (by decide)) (fun k16 h16 => ?_)
        have hz16 : 16 = ((List.replicate 16 false)).length := h16.leneq
        refine wpq_addnone ?_
        refine xRe ?_
        refine wpq_then ?_
        refine xSq ?_
        refine xSq ?_
        refine xRg ?_
        refine xB 1 [] [(0, vs Aacts acts cacts), (3, vs A5_0 y5 c5_0), (4, v8_0), (6, vp b13 0), (7, vp b15 0), (8, vi 0)] ?_
        refine xRe ?_
        refine wpq_then ?_
        refine xJoinO hS (fun g own sl t17 => own = [] ∧ sl = []) ?_ ?_
        · rintro g18 _ _ t17 e19 ⟨rfl, rfl⟩ hS
          refine wpq_then ?_
          refine xSq ?_
          refine xRg ?_
          refine xB 1 [] [(2, vb true)] ?_
          refine xRe ?_
          refine wpq_then ?_
          have eS := (Option.some.inj hS).symm
          subst eS
          exact xRet [] [2] (e3.trans (e7.trans (e10.trans e19))) ⟨by kernel_rfl, by kernel_rfl⟩ (fun _ _ h => h)
        · intro uu17 hS hN17 hD17
          refine xBl 0 ?_
          obtain ⟨d20, ed20, hS⟩ := bindO_T hS
          obtain ⟨bd20, Ad20_defs, cd20_defs, Ad20_conds, cd20_conds, kd20_conds, rfl, rfl, rfl, fd20_defs, hd20_conds⟩ := hs8_0 d20 ed20
          have nfd20_defs := fd20_defs.len
          have nhd20_conds := hd20_conds.len
          refine xSel [none, none, some 4, some 6, some 1, some 3, some 5] ?_
          refine xSub [(0, vs Aacts acts cacts), (3, vs A5_0 y5 c5_0), (4, vp bd20 0), (6, vp b13 0), (7, vp b15 0), (8, vi 0)] ?_
          refine xLo hS (fun g own sl s23 => ∃ (k23_1 : Option Bk) (k23_2 : Option Bk) (A23_3_defs : Option Addr) (c23_3_defs : Nat) (A23_3_conds : Option Addr) (c23_3_conds : Nat) (k23_3_conds : Option Bk), own = [none, none, some ⟨bd20, 71, (cBoard s23.2.2.2 A23_3_defs c23_3_defs A23_3_conds c23_3_conds)⟩, k5_0, k23_1, k23_2, k23_3_conds] ∧ sl = [(0, vs Aacts acts cacts), (3, vs A5_0 y5 c5_0), (4, vp bd20 0), (6, vp b13 0), (7, vp b15 0), (8, vi ((s23.1 : Nat) : Int))] ∧ Buf g.b tyB 37 (.slice (some ⟨b15, 0, none⟩) (s23.2.1).length 16) k23_1 s23.2.1 ∧ Buf g.b tyB 37 (.slice (some ⟨b13, 0, none⟩) (s23.2.2.1).length 16) k23_2 s23.2.2.1 ∧ Arr g.b tyAlertDef A23_3_defs c23_3_defs s23.2.2.2.defs ∧ Buf g.b tyCnd 79 (.slice A23_3_conds (s23.2.2.2.conds).length c23_3_conds) k23_3_conds s23.2.2.2.conds ∧ 16 = (s23.2.1).length ∧ 16 = (s23.2.2.1).length) ⟨k16, k14, Ad20_defs, cd20_defs, Ad20_conds, cd20_conds, k8_0_0, by kernel_rfl, by kernel_rfl, (Buf.re h16 hz16 rfl), (Buf.re h14 hz16 rfl), fd20_defs, hd20_conds, hz16, hz16⟩ ?_
          rintro g24 _ _ s23 uu23 e25 ⟨k23_1, k23_2, A23_3_defs, c23_3_defs, A23_3_conds, c23_3_conds, k23_3_conds, rfl, rfl, h23_1, h23_2, f23_3_defs, h23_3_conds, hz23_v0, hz23_v1⟩ hS Qr23 hN23 hD23
          have nh23_1 := h23_1.len
          have nh23_2 := h23_2.len
          have nf23_3_defs := f23_3_defs.len
          have nh23_3_conds := h23_3_conds.len
          unfold o5_L0 at hS
          refine xSq ?_
          refine xSq ?_
          refine xRg ?_
          refine xB 5 [] [(0, vs Aacts acts cacts), (3, vs A5_0 y5 c5_0), (4, vp bd20 0), (6, vp b13 0), (7, vp b15 0), (8, vi ((s23.1 : Nat) : Int)), (36, vb (decide (((s23.1 : Nat) : Int) < (((acts).length : Nat) : Int))))] ?_
          refine wpr_grp 8 [(0, vs Aacts acts cacts), (3, vs A5_0 y5 c5_0), (4, vp bd20 0), (6, vp b13 0), (7, vp b15 0), (8, vi ((s23.1 : Nat) : Int)), (39, vb (decide (((s23.1 : Nat) : Int) < (((acts).length : Nat) : Int)) && decide (((s23.1 : Nat) : Int) < 20)))] (fun hk4 => ?_) ?_
          · refine wpq_split 36 (b := decide (((s23.1 : Nat) : Int) < (((acts).length : Nat) : Int))) (by kernel_rfl) (fun q26 => ?_) (fun q26 => ?_)
            · have q26p := of_decide_eq_true q26
              refine xB 3 [] [(0, vs Aacts acts cacts), (3, vs A5_0 y5 c5_0), (4, vp bd20 0), (6, vp b13 0), (7, vp b15 0), (8, vi ((s23.1 : Nat) : Int)), (39, vb (decide (((s23.1 : Nat) : Int) < 20)))] ?_
              refine wpq_re 39 (v := vb (decide (((s23.1 : Nat) : Int) < 20))) (Value.bool ((decide (((s23.1 : Nat) : Int) < (((acts).length : Nat) : Int)) && decide (((s23.1 : Nat) : Int) < 20)))) (by kernel_rfl) (re_and1 q26) ?_
              exact wpq_sub _ (by kernel_rfl) hk4
            · have q26p := of_decide_eq_false q26
              refine xB 3 [] [(0, vs Aacts acts cacts), (3, vs A5_0 y5 c5_0), (4, vp bd20 0), (6, vp b13 0), (7, vp b15 0), (8, vi ((s23.1 : Nat) : Int)), (39, vb false)] ?_
              refine wpq_re 39 (v := vb false) (Value.bool ((decide (((s23.1 : Nat) : Int) < (((acts).length : Nat) : Int)) && decide (((s23.1 : Nat) : Int) < 20)))) (by kernel_rfl) (re_and0 q26) ?_
              exact wpq_sub _ (by kernel_rfl) hk4
          · refine xRe ?_
            refine wpq_then ?_
            refine xCd ((decide (((s23.1 : Nat) : Int) < (((acts).length : Nat) : Int)) && decide (((s23.1 : Nat) : Int) < 20))) (fun h27 => ?_) (fun h27 => ?_)
            · have hS := cond_T h27 hS
              have h27l := (and_true_ h27).1
              have h27r := (and_true_ h27).2
              have h27lp := of_decide_eq_true h27l
              have h27rp := of_decide_eq_true h27r
              refine xSk ?_
              refine wpq_then ?_
              refine xSub [(0, vs Aacts acts cacts), (3, vs A5_0 y5 c5_0), (4, vp bd20 0), (6, vp b13 0), (7, vp b15 0), (8, vi ((s23.1 : Nat) : Int))] ?_
              refine xSq ?_
              refine xJoinO hS (fun g own sl t28 => ∃ (A28_0_defs : Option Addr) (c28_0_defs : Nat) (A28_0_conds : Option Addr) (c28_0_conds : Nat) (k28_0_conds : Option Bk) (k28_1 : Option Bk) (k28_2 : Option Bk), own = [some ⟨bd20, 71, (cBoard t28.1 A28_0_defs c28_0_defs A28_0_conds c28_0_conds)⟩, none, none, k5_0, k28_0_conds, k28_1, k28_2] ∧ sl = [(0, vs Aacts acts cacts), (3, vs A5_0 y5 c5_0), (4, vp bd20 0), (6, vp b13 0), (7, vp b15 0), (8, vi ((s23.1 : Nat) : Int))] ∧ Arr g.b tyAlertDef A28_0_defs c28_0_defs t28.1.defs ∧ Buf g.b tyCnd 79 (.slice A28_0_conds (t28.1.conds).length c28_0_conds) k28_0_conds t28.1.conds ∧ Buf g.b tyB 37 (.slice (some ⟨b15, 0, none⟩) (t28.2.1).length 16) k28_1 t28.2.1 ∧ Buf g.b tyB 37 (.slice (some ⟨b13, 0, none⟩) (t28.2.2).length 16) k28_2 t28.2.2 ∧ 16 = (t28.2.1).length ∧ 16 = (t28.2.2).length) ?_ ?_
              · rintro g29 _ _ t28 e30 ⟨A28_0_defs, c28_0_defs, A28_0_conds, c28_0_conds, k28_0_conds, k28_1, k28_2, rfl, rfl, f28_0_defs, h28_0_conds, h28_1, h28_2, hz28_v0, hz28_v1⟩ hS
                have nf28_0_defs := f28_0_defs.len
                have nh28_0_conds := h28_0_conds.len
                have nh28_1 := h28_1.len
                have nh28_2 := h28_2.len
                refine wpq_then ?_
                refine xRg ?_
                obtain ⟨q31, hS⟩ := grd_T hS
                have q31p := of_decide_eq_true q31
                refine xB 1 [] [(0, vs Aacts acts cacts), (3, vs A5_0 y5 c5_0), (4, vp bd20 0), (6, vp b13 0), (7, vp b15 0), (8, vi ((s23.1 : Nat) : Int)), (40, vi ((s23.1 : Nat) : Int))] ?_
                refine xV (qAdd .i64 (((s23.1 : Nat) : Int)) (1) (wr64 (by omega))) ?_
                refine xB 1 [] [(0, vs Aacts acts cacts), (3, vs A5_0 y5 c5_0), (4, vp bd20 0), (6, vp b13 0), (7, vp b15 0), (8, vi (((s23.1 : Nat) : Int) + 1))] ?_
                refine xRe ?_
                refine wpq_thenN ?_
                refine xSel [none, none, some 0, some 3, some 5, some 6, some 4] ?_
                refine xSub [(0, vs Aacts acts cacts), (3, vs A5_0 y5 c5_0), (4, vp bd20 0), (6, vp b13 0), (7, vp b15 0), (8, vi (((s23.1 : Nat) : Int) + 1))] ?_
                have eS := (Option.some.inj hS).symm
                exact hN23 _ eS _ _ _ e30 ⟨k28_1, k28_2, A28_0_defs, c28_0_defs, A28_0_conds, c28_0_conds, k28_0_conds, by kernel_rfl, by kernel_rfl, h28_1, h28_2, f28_0_defs, h28_0_conds, hz28_v0, hz28_v1⟩
              · intro uu28 hS hN28 hD28
                refine xBl 1 ?_
                refine xSq ?_
                refine xRg ?_
                have facts := facts.mono (e3.trans (e7.trans (e10.trans e25))).r
                have i33 : s23.1 < (acts).length := by omega
                obtain ⟨ad32, cs32, hA32, hr32, hc32⟩ := facts.at_ (get_getD (d := default) i33)
                obtain ⟨rfl⟩ := hr32
                refine xB 2 [] [(0, vs Aacts acts cacts), (3, vs A5_0 y5 c5_0), (4, vp bd20 0), (6, vp b13 0), (7, vp b15 0), (8, vi ((s23.1 : Nat) : Int)), (42, vs Aacts acts cacts), (43, vi ((s23.1 : Nat) : Int))] ?_
                refine xV (qIx s23.1 4 hA32 rfl i33) ?_
                refine xV (qLdP (Addr.add ad32 (s23.1 * 4)) 0 hc32) ?_
                refine xE eB ?_
                rintro _ _ _ - ⟨b34, rfl, rfl, rfl⟩
                refine xBo 1 [(5, 0)] [some ⟨b34, 39, (cAct (List.getD acts s23.1 default))⟩, none, none, some ⟨bd20, 71, (cBoard s23.2.2.2 A23_3_defs c23_3_defs A23_3_conds c23_3_conds)⟩, k5_0, k23_1, k23_2, k23_3_conds] [(0, vs Aacts acts cacts), (3, vs A5_0 y5 c5_0), (4, vp bd20 0), (6, vp b13 0), (7, vp b15 0), (8, vi ((s23.1 : Nat) : Int)), (9, vp b34 0)] ?_
                refine xRe ?_
                refine wpq_then ?_
                refine xSq ?_
                refine xRg ?_
                refine xB 2 [(1, 0)] [(0, vs Aacts acts cacts), (3, vs A5_0 y5 c5_0), (4, vp bd20 0), (6, vp b13 0), (7, vp b15 0), (8, vi ((s23.1 : Nat) : Int)), (9, vp b34 0), (47, vy ((List.getD acts s23.1 default).phase))] ?_
                refine xV (qRem .u8 ((List.getD acts s23.1 default).phase) (8) _ (by omega) rfl) ?_
                have z31 := u8_in_ ((Int.tmod (List.getD acts s23.1 default).phase 8) + 1)
                refine xB 2 [] [(0, vs Aacts acts cacts), (3, vs A5_0 y5 c5_0), (4, vp bd20 0), (6, vp b13 0), (7, vp b15 0), (8, vi ((s23.1 : Nat) : Int)), (9, vp b34 0), (10, vy (IntKind.u8.wrap ((Int.tmod (List.getD acts s23.1 default).phase 8) + 1)))] ?_
                refine xRe ?_
                refine wpq_then ?_
                refine xSq ?_
                refine xSq ?_
                refine xRg ?_
                refine xB 4 [(2, 0)] [(0, vs Aacts acts cacts), (3, vs A5_0 y5 c5_0), (4, vp bd20 0), (6, vp b13 0), (7, vp b15 0), (8, vi ((s23.1 : Nat) : Int)), (9, vp b34 0), (10, vy (IntKind.u8.wrap ((Int.tmod (List.getD acts s23.1 default).phase 8) + 1))), (50, vp bd20 0), (52, Value.int .u16 ((List.getD acts s23.1 default).conds)), (53, vy (IntKind.u8.wrap ((Int.tmod (List.getD acts s23.1 default).phase 8) + 1)))] ?_
                refine xSel [some 3, some 7, some 0, some 1, some 2, some 4, some 5, some 6] ?_
                obtain ⟨y35, hy35, hS⟩ := bindO_T hS
                refine xE (eC 2 (fun g' lr eb ln => c17 g' bd20 s23.2.2.2 A23_3_defs c23_3_defs A23_3_conds c23_3_conds k23_3_conds ((List.getD acts s23.1 default).conds : Int) ((IntKind.u8.wrap ((Int.tmod (List.getD acts s23.1 default).phase 8) + 1)) : Int) (by rw [eb]; exact f23_3_defs) (by rw [eb]; exact h23_3_conds) hy35)) ?_
                rintro _ g36 _ e37 ⟨_, rfl, A35_b_defs, c35_b_defs, A35_b_conds, c35_b_conds, k35_b_conds, rfl, rfl, f35_b_defs, h35_b_conds⟩
                have nf35_b_defs := f35_b_defs.len
                have nh35_b_conds := h35_b_conds.len
                refine xB 1 [] [(0, vs Aacts acts cacts), (3, vs A5_0 y5 c5_0), (4, vp bd20 0), (6, vp b13 0), (7, vp b15 0), (8, vi ((s23.1 : Nat) : Int)), (9, vp b34 0), (10, vy (IntKind.u8.wrap ((Int.tmod (List.getD acts s23.1 default).phase 8) + 1))), (55, vb (y35.2 != 0))] ?_
                refine xRe ?_
                refine wpq_then ?_
                refine xCd ((y35.2 != 0)) (fun h38 => ?_) (fun h38 => ?_)
                · have hS := cond_T h38 hS
                  have h38p : ¬ (y35.2 = 0) := ne_of_bne_ h38
                  refine xSq ?_
                  refine xRg ?_
                  refine xB 1 [] [(2, vb false)] ?_
                  refine xRe ?_
                  refine wpq_then ?_
                  have eS := (Option.some.inj hS).symm
                  have eS := (hD28 _ eS).symm
                  have eS := (hD23 _ eS).symm
                  have eS := (hD17 _ eS).symm
                  subst eS
                  exact xRet [] [2] (e3.trans (e7.trans (e10.trans (e25.trans e37)))) ⟨by kernel_rfl, by kernel_rfl⟩ (fun _ _ h => h)
                · have hS := cond_F h38 hS
                  have h38p : y35.2 = 0 := eq_of_bne_false_ h38
                  refine xSk ?_
                  refine wpq_then ?_
                  refine xSub [(0, vs Aacts acts cacts), (3, vs A5_0 y5 c5_0), (4, vp bd20 0), (6, vp b13 0), (7, vp b15 0), (8, vi ((s23.1 : Nat) : Int)), (9, vp b34 0), (10, vy (IntKind.u8.wrap ((Int.tmod (List.getD acts s23.1 default).phase 8) + 1)))] ?_
                  refine xSq ?_
                  refine xSq ?_
                  refine xRg ?_
                  refine xB 1 [] [(0, vs Aacts acts cacts), (3, vs A5_0 y5 c5_0), (4, vp bd20 0), (6, vp b13 0), (7, vp b15 0), (8, vi ((s23.1 : Nat) : Int)), (9, vp b34 0), (10, vy (IntKind.u8.wrap ((Int.tmod (List.getD acts s23.1 default).phase 8) + 1))), (56, vi 0)] ?_
                  refine xRe ?_
                  refine wpq_then ?_
                  refine xBindO hS (fun g own sl t39 => ∃ (k39_0 : Option Bk) (k39_1 : Option Bk), own = [some ⟨bd20, 71, (cBoard y35.1 A35_b_defs c35_b_defs A35_b_conds c35_b_conds)⟩, some ⟨b34, 39, (cAct (List.getD acts s23.1 default))⟩, none, none, k5_0, k35_b_conds, k39_0, k39_1] ∧ sl = [(0, vs Aacts acts cacts), (3, vs A5_0 y5 c5_0), (4, vp bd20 0), (6, vp b13 0), (7, vp b15 0), (8, vi ((s23.1 : Nat) : Int)), (9, vp b34 0), (10, vy (IntKind.u8.wrap ((Int.tmod (List.getD acts s23.1 default).phase 8) + 1)))] ∧ Buf g.b tyB 37 (.slice (some ⟨b15, 0, none⟩) (t39.1).length 16) k39_0 t39.1 ∧ Buf g.b tyB 37 (.slice (some ⟨b13, 0, none⟩) (t39.2).length 16) k39_1 t39.2 ∧ 16 = (t39.1).length ∧ 16 = (t39.2).length) ?_ ?_
                  · rintro g40 _ _ t39 e41 ⟨k39_0, k39_1, rfl, rfl, h39_0, h39_1, hz39_v0, hz39_v1⟩ hS
                    have nh39_0 := h39_0.len
                    have nh39_1 := h39_1.len
                    refine wpq_then ?_
                    refine xSq ?_
                    refine xSq ?_
                    refine xRg ?_
                    have z32 := land64 (List.getD acts s23.1 default).index 15 (by omega)
                    refine xB 4 [(1, 1)] [(0, vs Aacts acts cacts), (3, vs A5_0 y5 c5_0), (4, vp bd20 0), (6, vp b13 0), (7, vp b15 0), (8, vi ((s23.1 : Nat) : Int)), (9, vp b34 0), (10, vy (IntKind.u8.wrap ((Int.tmod (List.getD acts s23.1 default).phase 8) + 1))), (12, vi (landK .i64 (List.getD acts s23.1 default).index 15))] ?_
                    refine xRe ?_
                    refine wpq_then ?_
                    refine xSq ?_
                    refine xRg ?_
                    refine xB 2 [(1, 1)] [(0, vs Aacts acts cacts), (3, vs A5_0 y5 c5_0), (4, vp bd20 0), (6, vp b13 0), (7, vp b15 0), (8, vi ((s23.1 : Nat) : Int)), (10, vy (IntKind.u8.wrap ((Int.tmod (List.getD acts s23.1 default).phase 8) + 1))), (12, vi (landK .i64 (List.getD acts s23.1 default).index 15)), (82, vy ((List.getD acts s23.1 default).kind))] ?_
                    refine xV (qRem .u8 ((List.getD acts s23.1 default).kind) (2) _ (by omega) rfl) ?_
                    refine xB 1 [] [(0, vs Aacts acts cacts), (3, vs A5_0 y5 c5_0), (4, vp bd20 0), (6, vp b13 0), (7, vp b15 0), (8, vi ((s23.1 : Nat) : Int)), (10, vy (IntKind.u8.wrap ((Int.tmod (List.getD acts s23.1 default).phase 8) + 1))), (12, vi (landK .i64 (List.getD acts s23.1 default).index 15)), (84, vb ((Int.tmod (List.getD acts s23.1 default).kind 2) == 1))] ?_
                    refine xRe ?_
                    refine wpq_then ?_
                    refine xJoinO hS (fun g own sl t42 => ∃ (A42_0_defs : Option Addr) (c42_0_defs : Nat) (A42_0_conds : Option Addr) (c42_0_conds : Nat) (k42_0_conds : Option Bk) (k42_1 : Option Bk), own = [some ⟨bd20, 71, (cBoard t42.1 A42_0_defs c42_0_defs A42_0_conds c42_0_conds)⟩, none, none, k5_0, k42_0_conds, k42_1, k39_1] ∧ sl = [(0, vs Aacts acts cacts), (3, vs A5_0 y5 c5_0), (4, vp bd20 0), (6, vp b13 0), (7, vp b15 0), (8, vi ((s23.1 : Nat) : Int)), (10, vy (IntKind.u8.wrap ((Int.tmod (List.getD acts s23.1 default).phase 8) + 1)))] ∧ Arr g.b tyAlertDef A42_0_defs c42_0_defs t42.1.defs ∧ Buf g.b tyCnd 79 (.slice A42_0_conds (t42.1.conds).length c42_0_conds) k42_0_conds t42.1.conds ∧ Buf g.b tyB 37 (.slice (some ⟨b15, 0, none⟩) (t42.2).length 16) k42_1 t42.2 ∧ 16 = (t42.2).length) ?_ ?_
                    · rintro g43 _ _ t42 e44 ⟨A42_0_defs, c42_0_defs, A42_0_conds, c42_0_conds, k42_0_conds, k42_1, rfl, rfl, f42_0_defs, h42_0_conds, h42_1, hz42_v0⟩ hS
                      have nf42_0_defs := f42_0_defs.len
                      have nh42_0_conds := h42_0_conds.len
                      have nh42_1 := h42_1.len
                      refine wpq_then ?_
                      refine xSq ?_
                      refine xRg ?_
                      refine xE eB ?_
                      rintro _ _ _ - ⟨b45, rfl, rfl, rfl⟩
                      refine wpq_name (T := tyB) (p := g43.b) (et := 37) (v := .slice (some ⟨b45, 0, none⟩) 16 16) (xs := (List.replicate 16 false)) 0 (k := some ⟨b45, 37, (List.replicate 16 [vb false]).flatten⟩) (by kernel_rfl) (buf_zeros (show tyB.rep _ _ _ from rfl) (by decide)) (fun k46 h46 => ?_)
                      have hz46 : 16 = ((List.replicate 16 false)).length := h46.leneq
                      refine wpq_addnone ?_
                      refine xRe ?_
                      refine wpq_then ?_
                      refine xSq ?_
                      refine xSq ?_
                      refine xRg ?_
                      refine xB 1 [] [(0, vs Aacts acts cacts), (3, vs A5_0 y5 c5_0), (4, vp bd20 0), (6, vp b13 0), (7, vp b15 0), (8, vi ((s23.1 : Nat) : Int)), (10, vy (IntKind.u8.wrap ((Int.tmod (List.getD acts s23.1 default).phase 8) + 1))), (14, vp b45 0), (119, vp bd20 0)] ?_
                      obtain ⟨y47, hy47, hS⟩ := bindO_T hS
                      refine xE (eC 0 (fun g' lr eb ln => c19 g' ⟨bd20, 0, none⟩ t42.1 A42_0_defs c42_0_defs A42_0_conds c42_0_conds (cells_lent' 2 bd20 0 (cBoard t42.1 A42_0_defs c42_0_defs A42_0_conds c42_0_conds) ln) ((f42_0_defs.mono g43.br).mono lr) (arrm_of_buf h42_0_conds eb (lentk 6 (by kernel_rfl) ln)) hy47)) ?_
                      rintro _ g48 _ e49 ⟨_, rfl, A47_0, c47_0, k47_0, rfl, rfl, h47_0⟩
                      have nh47_0 := h47_0.len
                      refine xB 2 [] [(0, vs Aacts acts cacts), (3, vs A5_0 y5 c5_0), (4, vp bd20 0), (6, vp b13 0), (7, vp b15 0), (8, vi ((s23.1 : Nat) : Int)), (10, vy (IntKind.u8.wrap ((Int.tmod (List.getD acts s23.1 default).phase 8) + 1))), (14, vp b45 0), (120, vs A47_0 y47 c47_0), (121, vi (((y47).length : Nat) : Int)), (122, vi 0)] ?_
                      refine xRe ?_
                      refine wpq_then ?_
                      refine xJoinO hS (fun g own sl t50 => ∃ (k50_0 : Option Bk), own = [none, some ⟨bd20, 71, (cBoard t42.1 A42_0_defs c42_0_defs A42_0_conds c42_0_conds)⟩, none, none, k5_0, k50_0, k42_0_conds, k42_1, k39_1] ∧ sl = [(0, vs Aacts acts cacts), (3, vs A5_0 y5 c5_0), (4, vp bd20 0), (6, vp b13 0), (7, vp b15 0), (8, vi ((s23.1 : Nat) : Int)), (10, vy (IntKind.u8.wrap ((Int.tmod (List.getD acts s23.1 default).phase 8) + 1))), (14, vp b45 0)] ∧ Buf g.b tyB 37 (.slice (some ⟨b45, 0, none⟩) (t50).length 16) k50_0 t50 ∧ 16 = (t50).length) ?_ ?_
                      · rintro g51 _ _ t50 e52 ⟨k50_0, rfl, rfl, h50_0, hz50_v0⟩ hS
                        have nh50_0 := h50_0.len
                        refine wpq_then ?_
                        refine xSq ?_
                        refine xRg ?_
                        refine xB 1 [] [(0, vs Aacts acts cacts), (3, vs A5_0 y5 c5_0), (4, vp bd20 0), (6, vp b13 0), (7, vp b15 0), (8, vi ((s23.1 : Nat) : Int)), (10, vy (IntKind.u8.wrap ((Int.tmod (List.getD acts s23.1 default).phase 8) + 1))), (14, vp b45 0), (140, vi 0)] ?_
                        refine xRe ?_
                        refine wpq_then ?_
                        refine xJoinO hS (fun g own sl t53 => own = [some ⟨bd20, 71, (cBoard t42.1 A42_0_defs c42_0_defs A42_0_conds c42_0_conds)⟩, none, none, k5_0, k42_0_conds, k42_1, k39_1] ∧ sl = [(0, vs Aacts acts cacts), (3, vs A5_0 y5 c5_0), (4, vp bd20 0), (6, vp b13 0), (7, vp b15 0), (8, vi ((s23.1 : Nat) : Int))]) ?_ ?_
                        · rintro g54 _ _ t53 e55 ⟨rfl, rfl⟩ hS
                          refine wpq_blockN ?_
                          have f42_0_defs := f42_0_defs.mono (e49.trans (e52.trans e55)).b
                          have h42_0_conds := h42_0_conds.mono (e49.trans (e52.trans e55)).b
                          have h42_1 := h42_1.mono (e49.trans (e52.trans e55)).b
                          have h39_1 := h39_1.mono (e44.trans (e49.trans (e52.trans e55))).b
                          refine xSel [some 0, none, none, some 3, some 4, some 5, some 6] ?_
                          refine xSub [(0, vs Aacts acts cacts), (3, vs A5_0 y5 c5_0), (4, vp bd20 0), (6, vp b13 0), (7, vp b15 0), (8, vi ((s23.1 : Nat) : Int))] ?_
                          have eS := (Option.some.inj hS).symm
                          exact hN28 _ eS _ _ _ (e37.trans (e41.trans (e44.trans (e49.trans (e52.trans e55))))) ⟨A42_0_defs, c42_0_defs, A42_0_conds, c42_0_conds, k42_0_conds, k42_1, k39_1, by kernel_rfl, by kernel_rfl, f42_0_defs, h42_0_conds, h42_1, h39_1, hz42_v0, hz39_v1⟩
                        · intro uu53 hS hN53 hD53
                          refine xBl 6 ?_
                          refine xSel [none, some 1, none, none, some 4, some 5, some 6, some 7, some 8] ?_
                          refine xSub [(0, vs Aacts acts cacts), (3, vs A5_0 y5 c5_0), (4, vp bd20 0), (6, vp b13 0), (7, vp b15 0), (8, vi ((s23.1 : Nat) : Int)), (10, vy (IntKind.u8.wrap ((Int.tmod (List.getD acts s23.1 default).phase 8) + 1))), (14, vp b45 0), (140, vi 0)] ?_
                          refine xLo hS (fun g own sl s58 => own = [none, some ⟨bd20, 71, (cBoard t42.1 A42_0_defs c42_0_defs A42_0_conds c42_0_conds)⟩, none, none, k5_0, k50_0, k42_0_conds, k42_1, k39_1] ∧ sl = [(0, vs Aacts acts cacts), (3, vs A5_0 y5 c5_0), (4, vp bd20 0), (6, vp b13 0), (7, vp b15 0), (8, vi ((s23.1 : Nat) : Int)), (10, vy (IntKind.u8.wrap ((Int.tmod (List.getD acts s23.1 default).phase 8) + 1))), (14, vp b45 0), (140, vi ((s58 : Nat) : Int))]) ⟨by kernel_rfl, by kernel_rfl⟩ ?_
                          rintro g59 _ _ s58 uu58 e60 ⟨rfl, rfl⟩ hS Qr58 hN58 hD58
                          unfold o5_L1 at hS
                          refine xSq ?_
                          refine xRg ?_
                          refine xB 1 [] [(0, vs Aacts acts cacts), (3, vs A5_0 y5 c5_0), (4, vp bd20 0), (6, vp b13 0), (7, vp b15 0), (8, vi ((s23.1 : Nat) : Int)), (10, vy (IntKind.u8.wrap ((Int.tmod (List.getD acts s23.1 default).phase 8) + 1))), (14, vp b45 0), (140, vi ((s58 : Nat) : Int)), (141, vb (decide (((s58 : Nat) : Int) < 16)))] ?_
                          refine xRe ?_
                          refine wpq_then ?_
                          refine xSq ?_
                          refine xCd (decide (((s58 : Nat) : Int) < 16)) (fun h61 => ?_) (fun h61 => ?_)
                          · have hS := cond_T h61 hS
                            have h61p := of_decide_eq_true h61
                            refine xSk ?_
                            refine wpq_then ?_
                            refine xSub [(0, vs Aacts acts cacts), (3, vs A5_0 y5 c5_0), (4, vp bd20 0), (6, vp b13 0), (7, vp b15 0), (8, vi ((s23.1 : Nat) : Int)), (10, vy (IntKind.u8.wrap ((Int.tmod (List.getD acts s23.1 default).phase 8) + 1))), (14, vp b45 0), (140, vi ((s58 : Nat) : Int))] ?_
                            refine xSq ?_
                            refine xBl 7 ?_
                            refine xSq ?_
                            refine xRg ?_
                            refine xB 2 [] [(0, vs Aacts acts cacts), (3, vs A5_0 y5 c5_0), (4, vp bd20 0), (6, vp b13 0), (7, vp b15 0), (8, vi ((s23.1 : Nat) : Int)), (10, vy (IntKind.u8.wrap ((Int.tmod (List.getD acts s23.1 default).phase 8) + 1))), (14, vp b45 0), (17, vi ((s58 : Nat) : Int)), (140, vi ((s58 : Nat) : Int))] ?_
                            refine xRe ?_
                            refine wpq_then ?_
                            refine xSq ?_
                            refine xDr 0 [2, 5, 9, 17] [] [some ⟨bd20, 71, (cBoard t42.1 A42_0_defs c42_0_defs A42_0_conds c42_0_conds)⟩, k5_0, k50_0, k42_1, k39_1] 24 (fun RG => ?_) (fun _ _ _ _ _ h => h)
                            have h50_0 := h50_0.mono e60.b
                            have i63 : s58 < 16 := by omega
                            have i64 : s58 < (t50).length := by omega
                            obtain ⟨kc62, cs62, hA62, hk62, hr62, hw62⟩ := h50_0.open_ i64 false
                            obtain ⟨kb62, rfl⟩ : ∃ z, z = kc62 := ⟨_, rfl⟩
                            subst hk62
                            have hr62 : cs62 = [vb (List.getD t50 s58 false)] := hr62
                            subst hr62
                            refine xT 23 [0] [] [some 1, some 4, some 5, some 7, some 8] [(0, vs Aacts acts cacts), (3, vs A5_0 y5 c5_0), (4, vp bd20 0), (6, vp b13 0), (7, vp b15 0), (8, vi ((s23.1 : Nat) : Int)), (10, vy (IntKind.u8.wrap ((Int.tmod (List.getD acts s23.1 default).phase 8) + 1))), (14, vp b45 0), (17, vi ((s58 : Nat) : Int)), (140, vi ((s58 : Nat) : Int)), (143, vi ((s58 : Nat) : Int))] RG (Psi.le.refl _) ?_
                            refine xTp 1 RG (fun _ => (qIxRA s58 1 kb62.g hA62 rfl i63)) ?_
                            refine xTv 2 [some 1, some 4, some 5, some 7, some 8] RG (Psi.le.refl _) (qLdB s58 1 0 2 hw62) ?_
                            have h39_1 := h39_1.mono (e44.trans (e49.trans (e52.trans e60))).b
                            have i66 : s58 < 16 := by omega
                            have i67 : s58 < (t39.2).length := by omega
                            obtain ⟨kc65, cs65, hA65, hk65, hr65, hw65⟩ := h39_1.open_ i67 false
                            obtain ⟨kb65, rfl⟩ : ∃ z, z = kc65 := ⟨_, rfl⟩
                            subst hk65
                            have hr65 : cs65 = [vb (List.getD t39.2 s58 false)] := hr65
                            subst hr65
                            refine xT 20 [3] [] [some 1, some 4, some 5, some 7, some 8] [(0, vs Aacts acts cacts), (3, vs A5_0 y5 c5_0), (4, vp bd20 0), (6, vp b13 0), (7, vp b15 0), (8, vi ((s23.1 : Nat) : Int)), (10, vy (IntKind.u8.wrap ((Int.tmod (List.getD acts s23.1 default).phase 8) + 1))), (14, vp b45 0), (17, vi ((s58 : Nat) : Int)), (140, vi ((s58 : Nat) : Int)), (145, vb (List.getD t50 s58 false)), (146, vi ((s58 : Nat) : Int))] RG (Psi.le.refl _) ?_
                            refine xTp 4 RG (fun _ => (qIxRA s58 1 kb65.g hA65 rfl i66)) ?_
                            refine xTv 5 [some 1, some 4, some 5, some 7, some 8] RG (Psi.le.refl _) (qLdB s58 1 0 4 hw65) ?_
                            refine xT 17 [6] [] [some 1, some 4, some 5, some 7, some 8] [(0, vs Aacts acts cacts), (3, vs A5_0 y5 c5_0), (4, vp bd20 0), (6, vp b13 0), (7, vp b15 0), (8, vi ((s23.1 : Nat) : Int)), (10, vy (IntKind.u8.wrap ((Int.tmod (List.getD acts s23.1 default).phase 8) + 1))), (14, vp b45 0), (17, vi ((s58 : Nat) : Int)), (140, vi ((s58 : Nat) : Int)), (145, vb (List.getD t50 s58 false)), (149, vb (List.getD t39.2 s58 false))] RG (Psi.le.refl _) ?_
                            refine xGJlA hS 12 [true, true, true, true, true, true, true, true, true, true, true, true, false, false, false, false, false, false, false, false, false, false, false, false] (fun g own sl t68 => own = [none, some ⟨bd20, 71, (cBoard t42.1 A42_0_defs c42_0_defs A42_0_conds c42_0_conds)⟩, none, none, k5_0, (some kb62), k42_0_conds, k42_1, (some kb65)] ∧ sl = [(0, vs Aacts acts cacts), (3, vs A5_0 y5 c5_0), (4, vp bd20 0), (6, vp b13 0), (7, vp b15 0), (8, vi ((s23.1 : Nat) : Int)), (10, vy (IntKind.u8.wrap ((Int.tmod (List.getD acts s23.1 default).phase 8) + 1))), (14, vp b45 0), (17, vi ((s58 : Nat) : Int)), (140, vi ((s58 : Nat) : Int)), (145, vb (List.getD t50 s58 false)), (154, vb t68)]) ?_ ?_
                            · rintro g69 _ _ t68 e70 ⟨rfl, rfl⟩ hS
                              refine xT 11 [12] [] [some 1, some 4, some 5, some 7, some 8] [(0, vs Aacts acts cacts), (3, vs A5_0 y5 c5_0), (4, vp bd20 0), (6, vp b13 0), (7, vp b15 0), (8, vi ((s23.1 : Nat) : Int)), (10, vy (IntKind.u8.wrap ((Int.tmod (List.getD acts s23.1 default).phase 8) + 1))), (14, vp b45 0), (17, vi ((s58 : Nat) : Int)), (140, vi ((s58 : Nat) : Int)), (145, vb (List.getD t50 s58 false)), (155, vb t68)] RG e70.r ?_
                              refine xGJoA hS 1 [true, true, true, true, true, true, true, true, true, true, true, true, true, true, true, true, true, true, true, true, true, true, true, false] (fun g own sl t71 => own = [none, some ⟨bd20, 71, (cBoard t42.1 A42_0_defs c42_0_defs A42_0_conds c42_0_conds)⟩, none, none, k5_0, (some kb62), k42_0_conds, k42_1, (some kb65)] ∧ sl = [(0, vs Aacts acts cacts), (3, vs A5_0 y5 c5_0), (4, vp bd20 0), (6, vp b13 0), (7, vp b15 0), (8, vi ((s23.1 : Nat) : Int)), (10, vy (IntKind.u8.wrap ((Int.tmod (List.getD acts s23.1 default).phase 8) + 1))), (14, vp b45 0), (140, vi ((s58 : Nat) : Int)), (145, vb (List.getD t50 s58 false)), (165, vb t71)]) ?_ ?_
                              · rintro g72 _ _ t71 e73 ⟨rfl, rfl⟩ hS
                                refine xT 0 [23] [] [some 1, some 4, some 5, some 7, some 8] [(0, vs Aacts acts cacts), (3, vs A5_0 y5 c5_0), (4, vp bd20 0), (6, vp b13 0), (7, vp b15 0), (8, vi ((s23.1 : Nat) : Int)), (10, vy (IntKind.u8.wrap ((Int.tmod (List.getD acts s23.1 default).phase 8) + 1))), (14, vp b45 0), (140, vi ((s58 : Nat) : Int)), (166, vb (!((List.getD t50 s58 false) == t71)))] RG (e70.trans e73).r ?_
                                refine xAe (lds := [2, 5, 9, 17]) ?_
                                refine wpq_then ?_
                                refine xCd ((!((List.getD t50 s58 false) == t71))) (fun h74 => ?_) (fun h74 => ?_)
                                · have hS := cond_T h74 hS
                                  have h74n := not_eq_true_ h74
                                  have h74np : ¬ ((List.getD t50 s58 false) = t71) := ne_of_beq_false_ h74n
                                  refine xSq ?_
                                  refine xRg ?_
                                  refine xB 1 [] [(2, vb false)] ?_
                                  refine xRe ?_
                                  refine wpq_then ?_
                                  have eS := (Option.some.inj hS).symm
                                  have eS := (hD58 _ eS).symm
                                  have eS := (hD53 _ eS).symm
                                  have eS := (hD28 _ eS).symm
                                  have eS := (hD23 _ eS).symm
                                  have eS := (hD17 _ eS).symm
                                  subst eS
                                  exact xRet [] [2] (e3.trans (e7.trans (e10.trans (e25.trans (e37.trans (e41.trans (e44.trans (e49.trans (e52.trans (e60.trans (e70.trans e73))))))))))) ⟨by kernel_rfl, by kernel_rfl⟩ (fun _ _ h => h)
                                · have hS := cond_F h74 hS
                                  have h74n := not_eq_false_ h74
                                  have h74np : (List.getD t50 s58 false) = t71 := eq_of_beq h74n
                                  refine xSk ?_
                                  refine wpq_blockN ?_
                                  refine wpq_then ?_
                                  refine xSub [(0, vs Aacts acts cacts), (3, vs A5_0 y5 c5_0), (4, vp bd20 0), (6, vp b13 0), (7, vp b15 0), (8, vi ((s23.1 : Nat) : Int)), (10, vy (IntKind.u8.wrap ((Int.tmod (List.getD acts s23.1 default).phase 8) + 1))), (14, vp b45 0), (140, vi ((s58 : Nat) : Int))] ?_
                                  refine xRg ?_
                                  obtain ⟨q75, hS⟩ := grd_T hS
                                  have q75p := of_decide_eq_true q75
                                  refine xV (qAdd .i64 (((s58 : Nat) : Int)) (1) (wr64 (by omega))) ?_
                                  refine xB 1 [] [(0, vs Aacts acts cacts), (3, vs A5_0 y5 c5_0), (4, vp bd20 0), (6, vp b13 0), (7, vp b15 0), (8, vi ((s23.1 : Nat) : Int)), (10, vy (IntKind.u8.wrap ((Int.tmod (List.getD acts s23.1 default).phase 8) + 1))), (14, vp b45 0), (140, vi (((s58 : Nat) : Int) + 1))] ?_
                                  refine xRe ?_
                                  refine wpq_thenN ?_
                                  refine xSel [none, some 1, none, none, some 4, some 5, some 6, some 7, some 8] ?_
                                  refine xSub [(0, vs Aacts acts cacts), (3, vs A5_0 y5 c5_0), (4, vp bd20 0), (6, vp b13 0), (7, vp b15 0), (8, vi ((s23.1 : Nat) : Int)), (10, vy (IntKind.u8.wrap ((Int.tmod (List.getD acts s23.1 default).phase 8) + 1))), (14, vp b45 0), (140, vi (((s58 : Nat) : Int) + 1))] ?_
                                  have eS := (Option.some.inj hS).symm
                                  exact hN58 _ eS _ _ _ (e70.trans e73) ⟨by kernel_rfl, by kernel_rfl⟩
                              · intro uu71 hS hN71
                                refine wpq_split 155 (b := t68) (by kernel_rfl) (fun q76 => ?_) (fun q76 => ?_)
                                · have hS := cond_T q76 hS
                                  have h5_0 := h5_0.mono (e10.trans (e25.trans (e37.trans (e41.trans (e44.trans (e49.trans (e52.trans e60))))))).b
                                  obtain ⟨q78, hS⟩ := grd_T hS
                                  have q78p := of_decide_eq_true q78
                                  obtain ⟨kc77, cs77, hA77, hk77, hr77, hw77⟩ := h5_0.open_ q78p default
                                  obtain ⟨kb77, rfl⟩ : ∃ z, z = kc77 := ⟨_, rfl⟩
                                  subst hk77
                                  obtain ⟨rfl⟩ := hr77
                                  refine xT 9 [13, 14] [] [some 1, some 4, some 5, some 7, some 8] [(0, vs Aacts acts cacts), (3, vs A5_0 y5 c5_0), (4, vp bd20 0), (6, vp b13 0), (7, vp b15 0), (8, vi ((s23.1 : Nat) : Int)), (10, vy (IntKind.u8.wrap ((Int.tmod (List.getD acts s23.1 default).phase 8) + 1))), (14, vp b45 0), (140, vi ((s58 : Nat) : Int)), (145, vb (List.getD t50 s58 false)), (155, vb true), (156, vs A5_0 y5 c5_0), (157, vi ((s58 : Nat) : Int))] RG e70.r ?_
                                  refine xTp 15 RG (fun _ => (qIxB s58 3 kb77.g hA77 rfl q78p)) ?_
                                  refine xT 7 [16] [] [some 1, some 4, some 5, some 7, some 8] [(0, vs Aacts acts cacts), (3, vs A5_0 y5 c5_0), (4, vp bd20 0), (6, vp b13 0), (7, vp b15 0), (8, vi ((s23.1 : Nat) : Int)), (10, vy (IntKind.u8.wrap ((Int.tmod (List.getD acts s23.1 default).phase 8) + 1))), (14, vp b45 0), (140, vi ((s58 : Nat) : Int)), (145, vb (List.getD t50 s58 false)), (155, vb true), (159, Value.pointer (some ⟨kb77.g, s58 * 3 + 2, none⟩))] RG e70.r ?_
                                  refine xTv 17 [some 1, some 4, some 5, some 7, some 8] RG e70.r (qLdB s58 3 2 1 hw77) ?_
                                  refine xT 5 [18] [] [some 1, some 4, some 5, some 7, some 8] [(0, vs Aacts acts cacts), (3, vs A5_0 y5 c5_0), (4, vp bd20 0), (6, vp b13 0), (7, vp b15 0), (8, vi ((s23.1 : Nat) : Int)), (10, vy (IntKind.u8.wrap ((Int.tmod (List.getD acts s23.1 default).phase 8) + 1))), (14, vp b45 0), (140, vi ((s58 : Nat) : Int)), (145, vb (List.getD t50 s58 false)), (155, vb true), (160, Value.int .u16 ((List.getD y5 s58 default).inhibit)), (161, vy (IntKind.u8.wrap ((Int.tmod (List.getD acts s23.1 default).phase 8) + 1)))] RG e70.r ?_
                                  refine xTp 19 RG (fun _ => (qShr .u16 .u8 ((List.getD y5 s58 default).inhibit) ((IntKind.u8.wrap ((Int.tmod (List.getD acts s23.1 default).phase 8) + 1))) (u8_in _).1)) ?_
                                  refine xT 1 [20, 21, 22] [] [some 1, some 4, some 5, some 7, some 8] [(0, vs Aacts acts cacts), (3, vs A5_0 y5 c5_0), (4, vp bd20 0), (6, vp b13 0), (7, vp b15 0), (8, vi ((s23.1 : Nat) : Int)), (10, vy (IntKind.u8.wrap ((Int.tmod (List.getD acts s23.1 default).phase 8) + 1))), (14, vp b45 0), (140, vi ((s58 : Nat) : Int)), (145, vb (List.getD t50 s58 false)), (165, vb ((landK .u16 (shrK .u16 (List.getD y5 s58 default).inhibit (IntKind.u8.wrap ((Int.tmod (List.getD acts s23.1 default).phase 8) + 1))) 1) == 0))] RG e70.r ?_
                                  refine xSel [none, some 1, none, none, some 4, some 5, some 6, some 7, some 8] ?_
                                  refine xSub [(0, vs Aacts acts cacts), (3, vs A5_0 y5 c5_0), (4, vp bd20 0), (6, vp b13 0), (7, vp b15 0), (8, vi ((s23.1 : Nat) : Int)), (10, vy (IntKind.u8.wrap ((Int.tmod (List.getD acts s23.1 default).phase 8) + 1))), (14, vp b45 0), (140, vi ((s58 : Nat) : Int)), (145, vb (List.getD t50 s58 false)), (165, vb ((landK .u16 (shrK .u16 (List.getD y5 s58 default).inhibit (IntKind.u8.wrap ((Int.tmod (List.getD acts s23.1 default).phase 8) + 1))) 1) == 0))] ?_
                                  exact hN71 _ (Option.some.inj hS).symm _ _ _ (Gh.le.refl _) ⟨by kernel_rfl, by kernel_rfl⟩
                                · have hS := cond_F q76 hS
                                  refine xT 1 [13, 14, 15, 16, 17, 18, 19, 20, 21, 22] [] [some 1, some 4, some 5, some 7, some 8] [(0, vs Aacts acts cacts), (3, vs A5_0 y5 c5_0), (4, vp bd20 0), (6, vp b13 0), (7, vp b15 0), (8, vi ((s23.1 : Nat) : Int)), (10, vy (IntKind.u8.wrap ((Int.tmod (List.getD acts s23.1 default).phase 8) + 1))), (14, vp b45 0), (140, vi ((s58 : Nat) : Int)), (145, vb (List.getD t50 s58 false)), (165, vb false)] RG e70.r ?_
                                  refine xSel [none, some 1, none, none, some 4, some 5, some 6, some 7, some 8] ?_
                                  refine xSub [(0, vs Aacts acts cacts), (3, vs A5_0 y5 c5_0), (4, vp bd20 0), (6, vp b13 0), (7, vp b15 0), (8, vi ((s23.1 : Nat) : Int)), (10, vy (IntKind.u8.wrap ((Int.tmod (List.getD acts s23.1 default).phase 8) + 1))), (14, vp b45 0), (140, vi ((s58 : Nat) : Int)), (145, vb (List.getD t50 s58 false)), (165, vb false)] ?_
                                  exact hN71 _ (Option.some.inj hS).symm _ _ _ (Gh.le.refl _) ⟨by kernel_rfl, by kernel_rfl⟩
                            · intro uu68 hS hN68
                              refine wpq_split 149 (b := (List.getD t39.2 s58 false)) (by kernel_rfl) (fun q79 => ?_) (fun q79 => ?_)
                              · have hS := cond_T q79 hS
                                have h42_1 := h42_1.mono (e49.trans (e52.trans e60)).b
                                have i81 : s58 < 16 := by omega
                                have i82 : s58 < (t42.2).length := by omega
                                obtain ⟨kc80, cs80, hA80, hk80, hr80, hw80⟩ := h42_1.open_ i82 false
                                obtain ⟨kb80, rfl⟩ : ∃ z, z = kc80 := ⟨_, rfl⟩
                                subst hk80
                                have hr80 : cs80 = [vb (List.getD t42.2 s58 false)] := hr80
                                subst hr80
                                refine xT 16 [7] [] [some 1, some 4, some 5, some 7, some 8] [(0, vs Aacts acts cacts), (3, vs A5_0 y5 c5_0), (4, vp bd20 0), (6, vp b13 0), (7, vp b15 0), (8, vi ((s23.1 : Nat) : Int)), (10, vy (IntKind.u8.wrap ((Int.tmod (List.getD acts s23.1 default).phase 8) + 1))), (14, vp b45 0), (17, vi ((s58 : Nat) : Int)), (140, vi ((s58 : Nat) : Int)), (145, vb (List.getD t50 s58 false)), (149, vb true), (150, vi ((s58 : Nat) : Int))] RG (Psi.le.refl _) ?_
                                refine xTp 8 RG (fun _ => (qIxRA s58 1 kb80.g hA80 rfl i81)) ?_
                                refine xTv 9 [some 1, some 4, some 5, some 7, some 8] RG (Psi.le.refl _) (qLdB s58 1 0 3 hw80) ?_
                                refine xT 12 [10, 11] [] [some 1, some 4, some 5, some 7, some 8] [(0, vs Aacts acts cacts), (3, vs A5_0 y5 c5_0), (4, vp bd20 0), (6, vp b13 0), (7, vp b15 0), (8, vi ((s23.1 : Nat) : Int)), (10, vy (IntKind.u8.wrap ((Int.tmod (List.getD acts s23.1 default).phase 8) + 1))), (14, vp b45 0), (17, vi ((s58 : Nat) : Int)), (140, vi ((s58 : Nat) : Int)), (145, vb (List.getD t50 s58 false)), (154, vb (!(List.getD t42.2 s58 false)))] RG (Psi.le.refl _) ?_
                                refine xSel [none, some 1, none, none, some 4, some 5, some 6, some 7, some 8] ?_
                                refine xSub [(0, vs Aacts acts cacts), (3, vs A5_0 y5 c5_0), (4, vp bd20 0), (6, vp b13 0), (7, vp b15 0), (8, vi ((s23.1 : Nat) : Int)), (10, vy (IntKind.u8.wrap ((Int.tmod (List.getD acts s23.1 default).phase 8) + 1))), (14, vp b45 0), (17, vi ((s58 : Nat) : Int)), (140, vi ((s58 : Nat) : Int)), (145, vb (List.getD t50 s58 false)), (154, vb (!(List.getD t42.2 s58 false)))] ?_
                                exact hN68 _ hS.symm _ _ _ (Gh.le.refl _) ⟨by kernel_rfl, by kernel_rfl⟩
                              · have hS := cond_F q79 hS
                                refine xT 12 [7, 8, 9, 10, 11] [] [some 1, some 4, some 5, some 7, some 8] [(0, vs Aacts acts cacts), (3, vs A5_0 y5 c5_0), (4, vp bd20 0), (6, vp b13 0), (7, vp b15 0), (8, vi ((s23.1 : Nat) : Int)), (10, vy (IntKind.u8.wrap ((Int.tmod (List.getD acts s23.1 default).phase 8) + 1))), (14, vp b45 0), (17, vi ((s58 : Nat) : Int)), (140, vi ((s58 : Nat) : Int)), (145, vb (List.getD t50 s58 false)), (154, vb false)] RG (Psi.le.refl _) ?_
                                refine xSel [none, some 1, none, none, some 4, some 5, some 6, some 7, some 8] ?_
                                refine xSub [(0, vs Aacts acts cacts), (3, vs A5_0 y5 c5_0), (4, vp bd20 0), (6, vp b13 0), (7, vp b15 0), (8, vi ((s23.1 : Nat) : Int)), (10, vy (IntKind.u8.wrap ((Int.tmod (List.getD acts s23.1 default).phase 8) + 1))), (14, vp b45 0), (17, vi ((s58 : Nat) : Int)), (140, vi ((s58 : Nat) : Int)), (145, vb (List.getD t50 s58 false)), (154, vb false)] ?_
                                exact hN68 _ hS.symm _ _ _ (Gh.le.refl _) ⟨by kernel_rfl, by kernel_rfl⟩
                          · have hS := cond_F h61 hS
                            have h61p := of_decide_eq_false h61
                            refine xEx 6 ?_
                            refine wpq_thenX ?_
                            refine wpq_thenX ?_
                            refine wpq_blockE ?_
                            refine xSel [some 1, none, none, some 4, some 6, some 7, some 8] ?_
                            refine xSub [(0, vs Aacts acts cacts), (3, vs A5_0 y5 c5_0), (4, vp bd20 0), (6, vp b13 0), (7, vp b15 0), (8, vi ((s23.1 : Nat) : Int))] ?_
                            have eS := (Option.some.inj hS).symm
                            have eS := (hD58 _ eS).symm
                            exact hN53 _ eS _ _ _ e60 ⟨by kernel_rfl, by kernel_rfl⟩
                      · intro uu50 hS hN50 hD50
                        refine xBl 4 ?_
                        have h46 := h46.mono e49.b
                        refine xSel [none, some 3, none, none, some 6, some 0, some 2, some 7, some 8, some 9] ?_
                        refine xSub [(0, vs Aacts acts cacts), (3, vs A5_0 y5 c5_0), (4, vp bd20 0), (6, vp b13 0), (7, vp b15 0), (8, vi ((s23.1 : Nat) : Int)), (10, vy (IntKind.u8.wrap ((Int.tmod (List.getD acts s23.1 default).phase 8) + 1))), (14, vp b45 0), (120, vs A47_0 y47 c47_0), (121, vi (((y47).length : Nat) : Int)), (122, vi 0)] ?_
                        refine xLo hS (fun g own sl s85 => ∃ (k85_1 : Option Bk), own = [none, some ⟨bd20, 71, (cBoard t42.1 A42_0_defs c42_0_defs A42_0_conds c42_0_conds)⟩, none, none, k5_0, k47_0, k85_1, k42_0_conds, k42_1, k39_1] ∧ sl = [(0, vs Aacts acts cacts), (3, vs A5_0 y5 c5_0), (4, vp bd20 0), (6, vp b13 0), (7, vp b15 0), (8, vi ((s23.1 : Nat) : Int)), (10, vy (IntKind.u8.wrap ((Int.tmod (List.getD acts s23.1 default).phase 8) + 1))), (14, vp b45 0), (120, vs A47_0 y47 c47_0), (121, vi (((y47).length : Nat) : Int)), (122, vi ((s85.1 : Nat) : Int))] ∧ Buf g.b tyB 37 (.slice (some ⟨b45, 0, none⟩) (s85.2).length 16) k85_1 s85.2 ∧ 16 = (s85.2).length) ⟨k46, by kernel_rfl, by kernel_rfl, (Buf.re h46 hz46 rfl), hz46⟩ ?_
                        rintro g86 _ _ s85 uu85 e87 ⟨k85_1, rfl, rfl, h85_1, hz85_v0⟩ hS Qr85 hN85 hD85
                        have nh85_1 := h85_1.len
                        unfold o5_L2 at hS
                        refine xSq ?_
                        refine xRg ?_
                        refine xB 1 [] [(0, vs Aacts acts cacts), (3, vs A5_0 y5 c5_0), (4, vp bd20 0), (6, vp b13 0), (7, vp b15 0), (8, vi ((s23.1 : Nat) : Int)), (10, vy (IntKind.u8.wrap ((Int.tmod (List.getD acts s23.1 default).phase 8) + 1))), (14, vp b45 0), (120, vs A47_0 y47 c47_0), (121, vi (((y47).length : Nat) : Int)), (122, vi ((s85.1 : Nat) : Int)), (123, vb (decide (((s85.1 : Nat) : Int) < (((y47).length : Nat) : Int))))] ?_
                        refine xRe ?_
                        refine wpq_then ?_
                        refine xSq ?_
                        refine xCd (decide (((s85.1 : Nat) : Int) < (((y47).length : Nat) : Int))) (fun h88 => ?_) (fun h88 => ?_)
                        · have hS := cond_T h88 hS
                          have h88p := of_decide_eq_true h88
                          refine xSk ?_
                          refine wpq_then ?_
                          refine xSub [(0, vs Aacts acts cacts), (3, vs A5_0 y5 c5_0), (4, vp bd20 0), (6, vp b13 0), (7, vp b15 0), (8, vi ((s23.1 : Nat) : Int)), (10, vy (IntKind.u8.wrap ((Int.tmod (List.getD acts s23.1 default).phase 8) + 1))), (14, vp b45 0), (120, vs A47_0 y47 c47_0), (121, vi (((y47).length : Nat) : Int)), (122, vi ((s85.1 : Nat) : Int))] ?_
                          refine xSq ?_
                          refine xBl 5 ?_
                          refine xSq ?_
                          refine xRg ?_
                          have h47_0 := h47_0.mono e87.b
                          have i90 : s85.1 < (y47).length := by omega
                          obtain ⟨kc89, cs89, hA89, hk89, hr89, hw89⟩ := h47_0.open_ i90 0
                          obtain ⟨kb89, rfl⟩ : ∃ z, z = kc89 := ⟨_, rfl⟩
                          subst hk89
                          have hr89 : cs89 = [vi (List.getD y47 s85.1 0)] := hr89
                          subst hr89
                          refine xV (qIxB s85.1 1 kb89.g hA89 rfl i90) ?_
                          refine xV (qLdB s85.1 1 0 5 hw89) ?_
                          refine xB 1 [] [(0, vs Aacts acts cacts), (3, vs A5_0 y5 c5_0), (4, vp bd20 0), (6, vp b13 0), (7, vp b15 0), (8, vi ((s23.1 : Nat) : Int)), (10, vy (IntKind.u8.wrap ((Int.tmod (List.getD acts s23.1 default).phase 8) + 1))), (14, vp b45 0), (16, vi (List.getD y47 s85.1 0)), (120, vs A47_0 y47 c47_0), (121, vi (((y47).length : Nat) : Int)), (122, vi ((s85.1 : Nat) : Int))] ?_
                          refine xRe ?_
                          refine wpq_then ?_
                          refine xSq ?_
                          refine xSq ?_
                          refine xRg ?_
                          refine xB 3 [] [(0, vs Aacts acts cacts), (3, vs A5_0 y5 c5_0), (4, vp bd20 0), (6, vp b13 0), (7, vp b15 0), (8, vi ((s23.1 : Nat) : Int)), (10, vy (IntKind.u8.wrap ((Int.tmod (List.getD acts s23.1 default).phase 8) + 1))), (14, vp b45 0), (16, vi (List.getD y47 s85.1 0)), (120, vs A47_0 y47 c47_0), (121, vi (((y47).length : Nat) : Int)), (122, vi ((s85.1 : Nat) : Int)), (128, vb (decide ((List.getD y47 s85.1 0) < 0)))] ?_
                          refine wpr_grp 6 [(0, vs Aacts acts cacts), (3, vs A5_0 y5 c5_0), (4, vp bd20 0), (6, vp b13 0), (7, vp b15 0), (8, vi ((s23.1 : Nat) : Int)), (10, vy (IntKind.u8.wrap ((Int.tmod (List.getD acts s23.1 default).phase 8) + 1))), (14, vp b45 0), (16, vi (List.getD y47 s85.1 0)), (120, vs A47_0 y47 c47_0), (121, vi (((y47).length : Nat) : Int)), (122, vi ((s85.1 : Nat) : Int)), (131, vb (decide ((List.getD y47 s85.1 0) < 0) || decide ((List.getD y47 s85.1 0) > 15)))] (fun hk2 => ?_) ?_
                          · refine wpq_split 128 (b := decide ((List.getD y47 s85.1 0) < 0)) (by kernel_rfl) (fun q91 => ?_) (fun q91 => ?_)
                            · have q91p := of_decide_eq_true q91
                              refine xB 3 [] [(0, vs Aacts acts cacts), (3, vs A5_0 y5 c5_0), (4, vp bd20 0), (6, vp b13 0), (7, vp b15 0), (8, vi ((s23.1 : Nat) : Int)), (10, vy (IntKind.u8.wrap ((Int.tmod (List.getD acts s23.1 default).phase 8) + 1))), (14, vp b45 0), (16, vi (List.getD y47 s85.1 0)), (120, vs A47_0 y47 c47_0), (121, vi (((y47).length : Nat) : Int)), (122, vi ((s85.1 : Nat) : Int)), (131, vb true)] ?_
                              refine wpq_re 131 (v := vb true) (Value.bool ((decide ((List.getD y47 s85.1 0) < 0) || decide ((List.getD y47 s85.1 0) > 15)))) (by kernel_rfl) (re_or1 q91) ?_
                              exact wpq_sub _ (by kernel_rfl) hk2
                            · have q91p := of_decide_eq_false q91
                              refine xB 3 [] [(0, vs Aacts acts cacts), (3, vs A5_0 y5 c5_0), (4, vp bd20 0), (6, vp b13 0), (7, vp b15 0), (8, vi ((s23.1 : Nat) : Int)), (10, vy (IntKind.u8.wrap ((Int.tmod (List.getD acts s23.1 default).phase 8) + 1))), (14, vp b45 0), (16, vi (List.getD y47 s85.1 0)), (120, vs A47_0 y47 c47_0), (121, vi (((y47).length : Nat) : Int)), (122, vi ((s85.1 : Nat) : Int)), (131, vb (decide ((List.getD y47 s85.1 0) > 15)))] ?_
                              refine wpq_re 131 (v := vb (decide ((List.getD y47 s85.1 0) > 15))) (Value.bool ((decide ((List.getD y47 s85.1 0) < 0) || decide ((List.getD y47 s85.1 0) > 15)))) (by kernel_rfl) (re_or0 q91) ?_
                              exact wpq_sub _ (by kernel_rfl) hk2
                          · refine xB 1 [] [(0, vs Aacts acts cacts), (3, vs A5_0 y5 c5_0), (4, vp bd20 0), (6, vp b13 0), (7, vp b15 0), (8, vi ((s23.1 : Nat) : Int)), (10, vy (IntKind.u8.wrap ((Int.tmod (List.getD acts s23.1 default).phase 8) + 1))), (14, vp b45 0), (16, vi (List.getD y47 s85.1 0)), (120, vs A47_0 y47 c47_0), (121, vi (((y47).length : Nat) : Int)), (122, vi ((s85.1 : Nat) : Int)), (132, vb (decide ((List.getD y47 s85.1 0) < 0) || decide ((List.getD y47 s85.1 0) > 15)))] ?_
                            refine xGJl hS 11 (fun g own sl t92 => own = [none, some ⟨bd20, 71, (cBoard t42.1 A42_0_defs c42_0_defs A42_0_conds c42_0_conds)⟩, none, none, k5_0, (some kb89), k85_1, k42_0_conds, k42_1, k39_1] ∧ sl = [(0, vs Aacts acts cacts), (3, vs A5_0 y5 c5_0), (4, vp bd20 0), (6, vp b13 0), (7, vp b15 0), (8, vi ((s23.1 : Nat) : Int)), (10, vy (IntKind.u8.wrap ((Int.tmod (List.getD acts s23.1 default).phase 8) + 1))), (14, vp b45 0), (16, vi (List.getD y47 s85.1 0)), (120, vs A47_0 y47 c47_0), (121, vi (((y47).length : Nat) : Int)), (122, vi ((s85.1 : Nat) : Int)), (136, vb t92)]) ?_ ?_
                            · rintro g93 _ _ t92 e94 ⟨rfl, rfl⟩ hS
                              refine xRe ?_
                              refine wpq_then ?_
                              refine xCd (t92) (fun h95 => ?_) (fun h95 => ?_)
                              · have hS := cond_T h95 hS
                                refine xSq ?_
                                refine xRg ?_
                                refine xB 1 [] [(2, vb false)] ?_
                                refine xRe ?_
                                refine wpq_then ?_
                                have eS := (Option.some.inj hS).symm
                                have eS := (hD85 _ eS).symm
                                have eS := (hD50 _ eS).symm
                                have eS := (hD28 _ eS).symm
                                have eS := (hD23 _ eS).symm
                                have eS := (hD17 _ eS).symm
                                subst eS
                                exact xRet [] [2] (e3.trans (e7.trans (e10.trans (e25.trans (e37.trans (e41.trans (e44.trans (e49.trans (e87.trans e94))))))))) ⟨by kernel_rfl, by kernel_rfl⟩ (fun _ _ h => h)
                              · have hS := cond_F h95 hS
                                refine xSk ?_
                                refine wpq_then ?_
                                refine xSub [(0, vs Aacts acts cacts), (3, vs A5_0 y5 c5_0), (4, vp bd20 0), (6, vp b13 0), (7, vp b15 0), (8, vi ((s23.1 : Nat) : Int)), (10, vy (IntKind.u8.wrap ((Int.tmod (List.getD acts s23.1 default).phase 8) + 1))), (14, vp b45 0), (16, vi (List.getD y47 s85.1 0)), (120, vs A47_0 y47 c47_0), (121, vi (((y47).length : Nat) : Int)), (122, vi ((s85.1 : Nat) : Int))] ?_
                                refine xRg ?_
                                have h85_1 := h85_1.mono e94.b
                                obtain ⟨q97, hS⟩ := grd_T hS
                                have q97p := of_decide_eq_true q97
                                have i98 : ((List.getD y47 s85.1 0)).toNat < 16 := by omega
                                have i99 : ((List.getD y47 s85.1 0)).toNat < (s85.2).length := by omega
                                obtain ⟨kc96, cs96, hA96, hk96, hr96, hw96⟩ := h85_1.open_ i99 false
                                obtain ⟨kb96, rfl⟩ : ∃ z, z = kc96 := ⟨_, rfl⟩
                                subst hk96
                                have hr96 : cs96 = [vb (List.getD s85.2 ((List.getD y47 s85.1 0)).toNat false)] := hr96
                                subst hr96
                                refine xB 1 [] [(0, vs Aacts acts cacts), (3, vs A5_0 y5 c5_0), (4, vp bd20 0), (6, vp b13 0), (7, vp b15 0), (8, vi ((s23.1 : Nat) : Int)), (10, vy (IntKind.u8.wrap ((Int.tmod (List.getD acts s23.1 default).phase 8) + 1))), (14, vp b45 0), (120, vs A47_0 y47 c47_0), (121, vi (((y47).length : Nat) : Int)), (122, vi ((s85.1 : Nat) : Int)), (137, vi (List.getD y47 s85.1 0))] ?_
                                refine xV (qIxRA ((List.getD y47 s85.1 0)).toNat 1 kb96.g hA96 (show ((List.getD y47 s85.1 0) : Int) = _ from by omega) i98) ?_
                                refine xD (eStB ((List.getD y47 s85.1 0)).toNat 1 0 6 [vb true] h85_1 rfl hw96 (show tyB.rep _ _ _ from rfl) i99) ?_
                                rintro _ _ _ - ⟨k100, rfl, rfl, h100⟩
                                have hz100 : (s85.2).length = ((List.set s85.2 ((List.getD y47 s85.1 0)).toNat true)).length := by simp
                                have hz100_1 : 16 = ((List.set s85.2 ((List.getD y47 s85.1 0)).toNat true)).length := hz85_v0.trans hz100
                                refine xRe ?_
                                refine wpq_blockN ?_
                                refine wpq_then ?_
                                refine xSub [(0, vs Aacts acts cacts), (3, vs A5_0 y5 c5_0), (4, vp bd20 0), (6, vp b13 0), (7, vp b15 0), (8, vi ((s23.1 : Nat) : Int)), (10, vy (IntKind.u8.wrap ((Int.tmod (List.getD acts s23.1 default).phase 8) + 1))), (14, vp b45 0), (120, vs A47_0 y47 c47_0), (121, vi (((y47).length : Nat) : Int)), (122, vi ((s85.1 : Nat) : Int))] ?_
                                refine xRg ?_
                                obtain ⟨q101, hS⟩ := grd_T hS
                                have q101p := of_decide_eq_true q101
                                refine xV (qAdd .i64 (((s85.1 : Nat) : Int)) (1) (wr64 (by omega))) ?_
                                refine xB 1 [] [(0, vs Aacts acts cacts), (3, vs A5_0 y5 c5_0), (4, vp bd20 0), (6, vp b13 0), (7, vp b15 0), (8, vi ((s23.1 : Nat) : Int)), (10, vy (IntKind.u8.wrap ((Int.tmod (List.getD acts s23.1 default).phase 8) + 1))), (14, vp b45 0), (120, vs A47_0 y47 c47_0), (121, vi (((y47).length : Nat) : Int)), (122, vi (((s85.1 : Nat) : Int) + 1))] ?_
                                refine xRe ?_
                                refine wpq_thenN ?_
                                refine xSel [none, some 1, none, none, some 4, some 5, some 6, some 7, some 8, some 9] ?_
                                refine xSub [(0, vs Aacts acts cacts), (3, vs A5_0 y5 c5_0), (4, vp bd20 0), (6, vp b13 0), (7, vp b15 0), (8, vi ((s23.1 : Nat) : Int)), (10, vy (IntKind.u8.wrap ((Int.tmod (List.getD acts s23.1 default).phase 8) + 1))), (14, vp b45 0), (120, vs A47_0 y47 c47_0), (121, vi (((y47).length : Nat) : Int)), (122, vi (((s85.1 : Nat) : Int) + 1))] ?_
                                have eS := (Option.some.inj hS).symm
                                exact hN85 _ eS _ _ _ e94 ⟨k100, by kernel_rfl, by kernel_rfl, (Buf.re h100 hz100 rfl), hz100_1⟩
                            · intro uu92 hS hN92
                              refine wpq_split 132 (b := (decide ((List.getD y47 s85.1 0) < 0) || decide ((List.getD y47 s85.1 0) > 15))) (by kernel_rfl) (fun q102 => ?_) (fun q102 => ?_)
                              · have hS := cond_T q102 hS
                                refine xB 4 [] [(0, vs Aacts acts cacts), (3, vs A5_0 y5 c5_0), (4, vp bd20 0), (6, vp b13 0), (7, vp b15 0), (8, vi ((s23.1 : Nat) : Int)), (10, vy (IntKind.u8.wrap ((Int.tmod (List.getD acts s23.1 default).phase 8) + 1))), (14, vp b45 0), (16, vi (List.getD y47 s85.1 0)), (120, vs A47_0 y47 c47_0), (121, vi (((y47).length : Nat) : Int)), (122, vi ((s85.1 : Nat) : Int)), (136, vb true)] ?_
                                refine xSel [none, some 1, none, none, some 4, some 5, some 6, some 7, some 8, some 9] ?_
                                refine xSub [(0, vs Aacts acts cacts), (3, vs A5_0 y5 c5_0), (4, vp bd20 0), (6, vp b13 0), (7, vp b15 0), (8, vi ((s23.1 : Nat) : Int)), (10, vy (IntKind.u8.wrap ((Int.tmod (List.getD acts s23.1 default).phase 8) + 1))), (14, vp b45 0), (16, vi (List.getD y47 s85.1 0)), (120, vs A47_0 y47 c47_0), (121, vi (((y47).length : Nat) : Int)), (122, vi ((s85.1 : Nat) : Int)), (136, vb true)] ?_
                                exact hN92 _ hS.symm _ _ _ (Gh.le.refl _) ⟨by kernel_rfl, by kernel_rfl⟩
                              · have hS := cond_F q102 hS
                                have q102l := (or_false_ q102).1
                                have q102r := (or_false_ q102).2
                                have q102lp := of_decide_eq_false q102l
                                have q102rp := of_decide_eq_false q102r
                                have i104 : ((List.getD y47 s85.1 0)).toNat < 16 := by omega
                                have i105 : ((List.getD y47 s85.1 0)).toNat < (s85.2).length := by omega
                                obtain ⟨kc103, cs103, hA103, hk103, hr103, hw103⟩ := h85_1.open_ i105 false
                                obtain ⟨kb103, rfl⟩ : ∃ z, z = kc103 := ⟨_, rfl⟩
                                subst hk103
                                have hr103 : cs103 = [vb (List.getD s85.2 ((List.getD y47 s85.1 0)).toNat false)] := hr103
                                subst hr103
                                refine xB 1 [] [(0, vs Aacts acts cacts), (3, vs A5_0 y5 c5_0), (4, vp bd20 0), (6, vp b13 0), (7, vp b15 0), (8, vi ((s23.1 : Nat) : Int)), (10, vy (IntKind.u8.wrap ((Int.tmod (List.getD acts s23.1 default).phase 8) + 1))), (14, vp b45 0), (16, vi (List.getD y47 s85.1 0)), (120, vs A47_0 y47 c47_0), (121, vi (((y47).length : Nat) : Int)), (122, vi ((s85.1 : Nat) : Int)), (132, vb false), (133, vi (List.getD y47 s85.1 0))] ?_
                                refine xV (qIxRA ((List.getD y47 s85.1 0)).toNat 1 kb103.g hA103 (show ((List.getD y47 s85.1 0) : Int) = _ from by omega) i104) ?_
                                refine xV (qLdB ((List.getD y47 s85.1 0)).toNat 1 0 6 hw103) ?_
                                refine xB 1 [] [(0, vs Aacts acts cacts), (3, vs A5_0 y5 c5_0), (4, vp bd20 0), (6, vp b13 0), (7, vp b15 0), (8, vi ((s23.1 : Nat) : Int)), (10, vy (IntKind.u8.wrap ((Int.tmod (List.getD acts s23.1 default).phase 8) + 1))), (14, vp b45 0), (16, vi (List.getD y47 s85.1 0)), (120, vs A47_0 y47 c47_0), (121, vi (((y47).length : Nat) : Int)), (122, vi ((s85.1 : Nat) : Int)), (136, vb (List.getD s85.2 ((List.getD y47 s85.1 0)).toNat false))] ?_
                                refine xSel [none, some 1, none, none, some 4, some 5, some 6, some 7, some 8, some 9] ?_
                                refine xSub [(0, vs Aacts acts cacts), (3, vs A5_0 y5 c5_0), (4, vp bd20 0), (6, vp b13 0), (7, vp b15 0), (8, vi ((s23.1 : Nat) : Int)), (10, vy (IntKind.u8.wrap ((Int.tmod (List.getD acts s23.1 default).phase 8) + 1))), (14, vp b45 0), (16, vi (List.getD y47 s85.1 0)), (120, vs A47_0 y47 c47_0), (121, vi (((y47).length : Nat) : Int)), (122, vi ((s85.1 : Nat) : Int)), (136, vb (List.getD s85.2 ((List.getD y47 s85.1 0)).toNat false))] ?_
                                exact hN92 _ hS.symm _ _ _ (Gh.le.refl _) ⟨by kernel_rfl, by kernel_rfl⟩
                        · have hS := cond_F h88 hS
                          have h88p := of_decide_eq_false h88
                          refine xEx 4 ?_
                          refine wpq_thenX ?_
                          refine wpq_thenX ?_
                          refine wpq_blockE ?_
                          refine xSel [none, some 1, none, none, some 4, some 6, some 7, some 8, some 9] ?_
                          refine xSub [(0, vs Aacts acts cacts), (3, vs A5_0 y5 c5_0), (4, vp bd20 0), (6, vp b13 0), (7, vp b15 0), (8, vi ((s23.1 : Nat) : Int)), (10, vy (IntKind.u8.wrap ((Int.tmod (List.getD acts s23.1 default).phase 8) + 1))), (14, vp b45 0)] ?_
                          have eS := (Option.some.inj hS).symm
                          have eS := (hD85 _ eS).symm
                          exact hN50 _ eS _ _ _ e87 ⟨k85_1, by kernel_rfl, by kernel_rfl, h85_1, hz85_v0⟩
                    · intro uu42 hS hN42 hD42
                      refine xCd (((Int.tmod (List.getD acts s23.1 default).kind 2) == 1)) (fun h106 => ?_) (fun h106 => ?_)
                      · have hS := cond_T h106 hS
                        have h106p : (Int.tmod (List.getD acts s23.1 default).kind 2) = 1 := eq_of_beq h106
                        refine xSq ?_
                        refine xRg ?_
                        have i108 : ((landK .i64 (List.getD acts s23.1 default).index 15)).toNat < 16 := by omega
                        have i109 : ((landK .i64 (List.getD acts s23.1 default).index 15)).toNat < (t39.2).length := by omega
                        obtain ⟨kc107, cs107, hA107, hk107, hr107, hw107⟩ := h39_1.open_ i109 false
                        obtain ⟨kb107, rfl⟩ : ∃ z, z = kc107 := ⟨_, rfl⟩
                        subst hk107
                        have hr107 : cs107 = [vb (List.getD t39.2 ((landK .i64 (List.getD acts s23.1 default).index 15)).toNat false)] := hr107
                        subst hr107
                        refine xB 1 [] [(0, vs Aacts acts cacts), (3, vs A5_0 y5 c5_0), (4, vp bd20 0), (6, vp b13 0), (7, vp b15 0), (8, vi ((s23.1 : Nat) : Int)), (10, vy (IntKind.u8.wrap ((Int.tmod (List.getD acts s23.1 default).phase 8) + 1))), (12, vi (landK .i64 (List.getD acts s23.1 default).index 15)), (85, vi (landK .i64 (List.getD acts s23.1 default).index 15))] ?_
                        refine xV (qIxRA ((landK .i64 (List.getD acts s23.1 default).index 15)).toNat 1 kb107.g hA107 (show ((landK .i64 (List.getD acts s23.1 default).index 15) : Int) = _ from by omega) i108) ?_
                        refine xV (qLdB ((landK .i64 (List.getD acts s23.1 default).index 15)).toNat 1 0 7 hw107) ?_
                        refine xB 1 [] [(0, vs Aacts acts cacts), (3, vs A5_0 y5 c5_0), (4, vp bd20 0), (6, vp b13 0), (7, vp b15 0), (8, vi ((s23.1 : Nat) : Int)), (10, vy (IntKind.u8.wrap ((Int.tmod (List.getD acts s23.1 default).phase 8) + 1))), (12, vi (landK .i64 (List.getD acts s23.1 default).index 15)), (88, vb (List.getD t39.2 ((landK .i64 (List.getD acts s23.1 default).index 15)).toNat false))] ?_
                        refine xGJl hS 9 (fun g own sl t110 => own = [some ⟨bd20, 71, (cBoard y35.1 A35_b_defs c35_b_defs A35_b_conds c35_b_conds)⟩, none, none, k5_0, k35_b_conds, k39_0, (some kb107)] ∧ sl = [(0, vs Aacts acts cacts), (3, vs A5_0 y5 c5_0), (4, vp bd20 0), (6, vp b13 0), (7, vp b15 0), (8, vi ((s23.1 : Nat) : Int)), (10, vy (IntKind.u8.wrap ((Int.tmod (List.getD acts s23.1 default).phase 8) + 1))), (12, vi (landK .i64 (List.getD acts s23.1 default).index 15)), (93, vb t110)]) ?_ ?_
                        · rintro g111 _ _ t110 e112 ⟨rfl, rfl⟩ hS
                          refine xB 1 [] [(0, vs Aacts acts cacts), (3, vs A5_0 y5 c5_0), (4, vp bd20 0), (6, vp b13 0), (7, vp b15 0), (8, vi ((s23.1 : Nat) : Int)), (10, vy (IntKind.u8.wrap ((Int.tmod (List.getD acts s23.1 default).phase 8) + 1))), (12, vi (landK .i64 (List.getD acts s23.1 default).index 15)), (94, vb t110)] ?_
                          refine xGJo hS 20 (fun g own sl t113 => own = [some ⟨bd20, 71, (cBoard y35.1 A35_b_defs c35_b_defs A35_b_conds c35_b_conds)⟩, none, none, k5_0, k35_b_conds, k39_0, (some kb107)] ∧ sl = [(0, vs Aacts acts cacts), (3, vs A5_0 y5 c5_0), (4, vp bd20 0), (6, vp b13 0), (7, vp b15 0), (8, vi ((s23.1 : Nat) : Int)), (10, vy (IntKind.u8.wrap ((Int.tmod (List.getD acts s23.1 default).phase 8) + 1))), (12, vi (landK .i64 (List.getD acts s23.1 default).index 15)), (104, vb t113)]) ?_ ?_
                          · rintro g114 _ _ t113 e115 ⟨rfl, rfl⟩ hS
                            refine xB 1 [] [(0, vs Aacts acts cacts), (3, vs A5_0 y5 c5_0), (4, vp bd20 0), (6, vp b13 0), (7, vp b15 0), (8, vi ((s23.1 : Nat) : Int)), (10, vy (IntKind.u8.wrap ((Int.tmod (List.getD acts s23.1 default).phase 8) + 1))), (12, vi (landK .i64 (List.getD acts s23.1 default).index 15)), (13, vb t113)] ?_
                            refine xRe ?_
                            refine wpq_then ?_
                            refine xSq ?_
                            refine xSq ?_
                            refine xRg ?_
                            refine xB 2 [] [(0, vs Aacts acts cacts), (3, vs A5_0 y5 c5_0), (4, vp bd20 0), (6, vp b13 0), (7, vp b15 0), (8, vi ((s23.1 : Nat) : Int)), (10, vy (IntKind.u8.wrap ((Int.tmod (List.getD acts s23.1 default).phase 8) + 1))), (12, vi (landK .i64 (List.getD acts s23.1 default).index 15)), (13, vb t113), (105, vp bd20 0), (106, vi (landK .i64 (List.getD acts s23.1 default).index 15))] ?_
                            refine xSel [some 0, some 4, some 1, some 2, some 3, some 5, some 6] ?_
                            have f35_b_defs := f35_b_defs.mono (e41.trans (e112.trans e115)).b
                            have h35_b_conds := h35_b_conds.mono (e41.trans (e112.trans e115)).b
                            obtain ⟨y116, hy116, hS⟩ := bindO_T hS
                            refine xE (eC 2 (fun g' lr eb ln => c18 g' bd20 y35.1 A35_b_defs c35_b_defs A35_b_conds c35_b_conds k35_b_conds ((landK .i64 (List.getD acts s23.1 default).index 15) : Int) (by rw [eb]; exact f35_b_defs) (by rw [eb]; exact h35_b_conds) hy116)) ?_
                            rintro _ g117 _ e118 ⟨_, rfl, A116_b_defs, c116_b_defs, A116_b_conds, c116_b_conds, k116_b_conds, rfl, rfl, f116_b_defs, h116_b_conds⟩
                            have nf116_b_defs := f116_b_defs.len
                            have nh116_b_conds := h116_b_conds.len
                            refine xB 3 [] [(0, vs Aacts acts cacts), (3, vs A5_0 y5 c5_0), (4, vp bd20 0), (6, vp b13 0), (7, vp b15 0), (8, vi ((s23.1 : Nat) : Int)), (10, vy (IntKind.u8.wrap ((Int.tmod (List.getD acts s23.1 default).phase 8) + 1))), (12, vi (landK .i64 (List.getD acts s23.1 default).index 15)), (13, vb t113), (110, vb (!((y116.2 == 0) == t113)))] ?_
                            refine xRe ?_
                            refine wpq_then ?_
                            refine xCd ((!((y116.2 == 0) == t113))) (fun h119 => ?_) (fun h119 => ?_)
                            · have hS := cond_T h119 hS
                              have h119n := not_eq_true_ h119
                              have h119np : ¬ ((y116.2 == 0) = t113) := ne_of_beq_false_ h119n
                              refine xSq ?_
                              refine xRg ?_
                              refine xB 1 [] [(2, vb false)] ?_
                              refine xRe ?_
                              refine wpq_then ?_
                              have eS := (Option.some.inj hS).symm
                              have eS := (hD42 _ eS).symm
                              have eS := (hD28 _ eS).symm
                              have eS := (hD23 _ eS).symm
                              have eS := (hD17 _ eS).symm
                              subst eS
                              exact xRet [] [2] (e3.trans (e7.trans (e10.trans (e25.trans (e37.trans (e41.trans (e112.trans (e115.trans e118)))))))) ⟨by kernel_rfl, by kernel_rfl⟩ (fun _ _ h => h)
                            · have hS := cond_F h119 hS
                              have h119n := not_eq_false_ h119
                              have h119np : (y116.2 == 0) = t113 := eq_of_beq h119n
                              refine xSk ?_
                              refine wpq_then ?_
                              refine xSub [(0, vs Aacts acts cacts), (3, vs A5_0 y5 c5_0), (4, vp bd20 0), (6, vp b13 0), (7, vp b15 0), (8, vi ((s23.1 : Nat) : Int)), (10, vy (IntKind.u8.wrap ((Int.tmod (List.getD acts s23.1 default).phase 8) + 1))), (12, vi (landK .i64 (List.getD acts s23.1 default).index 15)), (13, vb t113)] ?_
                              refine xRg ?_
                              have h39_0 := h39_0.mono (e112.trans (e115.trans e118)).b
                              have i121 : ((landK .i64 (List.getD acts s23.1 default).index 15)).toNat < 16 := by omega
                              have i122 : ((landK .i64 (List.getD acts s23.1 default).index 15)).toNat < (t39.1).length := by omega
                              obtain ⟨kc120, cs120, hA120, hk120, hr120, hw120⟩ := h39_0.open_ i122 false
                              obtain ⟨kb120, rfl⟩ : ∃ z, z = kc120 := ⟨_, rfl⟩
                              subst hk120
                              have hr120 : cs120 = [vb (List.getD t39.1 ((landK .i64 (List.getD acts s23.1 default).index 15)).toNat false)] := hr120
                              subst hr120
                              refine xB 2 [] [(0, vs Aacts acts cacts), (3, vs A5_0 y5 c5_0), (4, vp bd20 0), (6, vp b13 0), (7, vp b15 0), (8, vi ((s23.1 : Nat) : Int)), (10, vy (IntKind.u8.wrap ((Int.tmod (List.getD acts s23.1 default).phase 8) + 1))), (13, vb t113), (111, vi (landK .i64 (List.getD acts s23.1 default).index 15)), (112, vi (landK .i64 (List.getD acts s23.1 default).index 15))] ?_
                              refine xV (qIxRA ((landK .i64 (List.getD acts s23.1 default).index 15)).toNat 1 kb120.g hA120 (show ((landK .i64 (List.getD acts s23.1 default).index 15) : Int) = _ from by omega) i121) ?_
                              refine xV (qLdB ((landK .i64 (List.getD acts s23.1 default).index 15)).toNat 1 0 5 hw120) ?_
                              refine xB 1 [] [(0, vs Aacts acts cacts), (3, vs A5_0 y5 c5_0), (4, vp bd20 0), (6, vp b13 0), (7, vp b15 0), (8, vi ((s23.1 : Nat) : Int)), (10, vy (IntKind.u8.wrap ((Int.tmod (List.getD acts s23.1 default).phase 8) + 1))), (13, vb t113), (111, vi (landK .i64 (List.getD acts s23.1 default).index 15)), (115, vb (List.getD t39.1 ((landK .i64 (List.getD acts s23.1 default).index 15)).toNat false))] ?_
                              refine wpr_grp 7 [(0, vs Aacts acts cacts), (3, vs A5_0 y5 c5_0), (4, vp bd20 0), (6, vp b13 0), (7, vp b15 0), (8, vi ((s23.1 : Nat) : Int)), (10, vy (IntKind.u8.wrap ((Int.tmod (List.getD acts s23.1 default).phase 8) + 1))), (111, vi (landK .i64 (List.getD acts s23.1 default).index 15)), (117, vb ((List.getD t39.1 ((landK .i64 (List.getD acts s23.1 default).index 15)).toNat false) || t113))] (fun hk4 => ?_) ?_
                              · refine wpq_split 115 (b := (List.getD t39.1 ((landK .i64 (List.getD acts s23.1 default).index 15)).toNat false)) (by kernel_rfl) (fun q123 => ?_) (fun q123 => ?_)
                                · refine xB 2 [] [(0, vs Aacts acts cacts), (3, vs A5_0 y5 c5_0), (4, vp bd20 0), (6, vp b13 0), (7, vp b15 0), (8, vi ((s23.1 : Nat) : Int)), (10, vy (IntKind.u8.wrap ((Int.tmod (List.getD acts s23.1 default).phase 8) + 1))), (111, vi (landK .i64 (List.getD acts s23.1 default).index 15)), (117, vb true)] ?_
                                  refine wpq_re 117 (v := vb true) (Value.bool (((List.getD t39.1 ((landK .i64 (List.getD acts s23.1 default).index 15)).toNat false) || t113))) (by kernel_rfl) (re_or1 q123) ?_
                                  exact wpq_sub _ (by kernel_rfl) hk4
                                · refine xB 2 [] [(0, vs Aacts acts cacts), (3, vs A5_0 y5 c5_0), (4, vp bd20 0), (6, vp b13 0), (7, vp b15 0), (8, vi ((s23.1 : Nat) : Int)), (10, vy (IntKind.u8.wrap ((Int.tmod (List.getD acts s23.1 default).phase 8) + 1))), (111, vi (landK .i64 (List.getD acts s23.1 default).index 15)), (117, vb t113)] ?_
                                  refine wpq_re 117 (v := vb t113) (Value.bool (((List.getD t39.1 ((landK .i64 (List.getD acts s23.1 default).index 15)).toNat false) || t113))) (by kernel_rfl) (re_or0 q123) ?_
                                  exact wpq_sub _ (by kernel_rfl) hk4
                              · have i125 : ((landK .i64 (List.getD acts s23.1 default).index 15)).toNat < 16 := by omega
                                have i126 : ((landK .i64 (List.getD acts s23.1 default).index 15)).toNat < (t39.1).length := by omega
                                obtain ⟨kc124, cs124, hA124, hk124, hr124, hw124⟩ := h39_0.open_ i126 false
                                cases hk124
                                have hr124 : cs124 = [vb (List.getD t39.1 ((landK .i64 (List.getD acts s23.1 default).index 15)).toNat false)] := hr124
                                subst hr124
                                refine xV (qIxRA ((landK .i64 (List.getD acts s23.1 default).index 15)).toNat 1 kb120.g hA124 (show ((landK .i64 (List.getD acts s23.1 default).index 15) : Int) = _ from by omega) i125) ?_
                                refine xD (eStB ((landK .i64 (List.getD acts s23.1 default).index 15)).toNat 1 0 5 [vb ((List.getD t39.1 ((landK .i64 (List.getD acts s23.1 default).index 15)).toNat false) || t113)] h39_0 rfl hw124 (show tyB.rep _ _ _ from rfl) i126) ?_
                                rintro _ _ _ - ⟨k127, rfl, rfl, h127⟩
                                have hz127 : (t39.1).length = ((List.set t39.1 ((landK .i64 (List.getD acts s23.1 default).index 15)).toNat ((List.getD t39.1 ((landK .i64 (List.getD acts s23.1 default).index 15)).toNat false) || t113))).length := by simp
                                have hz127_1 : 16 = ((List.set t39.1 ((landK .i64 (List.getD acts s23.1 default).index 15)).toNat ((List.getD t39.1 ((landK .i64 (List.getD acts s23.1 default).index 15)).toNat false) || t113))).length := hz39_v0.trans hz127
                                refine xRe ?_
                                refine xSel [some 0, none, none, some 4, some 1, some 5, some 6] ?_
                                refine xSub [(0, vs Aacts acts cacts), (3, vs A5_0 y5 c5_0), (4, vp bd20 0), (6, vp b13 0), (7, vp b15 0), (8, vi ((s23.1 : Nat) : Int)), (10, vy (IntKind.u8.wrap ((Int.tmod (List.getD acts s23.1 default).phase 8) + 1)))] ?_
                                have eS := (Option.some.inj hS).symm
                                exact hN42 _ eS _ _ _ (e112.trans (e115.trans e118)) ⟨A116_b_defs, c116_b_defs, A116_b_conds, c116_b_conds, k116_b_conds, k127, by kernel_rfl, by kernel_rfl, f116_b_defs, h116_b_conds, (Buf.re h127 hz127 rfl), hz127_1⟩
                          · intro uu113 hS hN113
                            refine wpq_split 94 (b := t110) (by kernel_rfl) (fun q128 => ?_) (fun q128 => ?_)
                            · have hS := cond_T q128 hS
                              have h5_0 := h5_0.mono (e10.trans (e25.trans (e37.trans (e41.trans e112)))).b
                              obtain ⟨q130, hS⟩ := grd_T hS
                              have q130p := of_decide_eq_true q130
                              have i131 : ((landK .i64 (List.getD acts s23.1 default).index 15)).toNat < (y5).length := by omega
                              obtain ⟨kc129, cs129, hA129, hk129, hr129, hw129⟩ := h5_0.open_ i131 default
                              obtain ⟨kb129, rfl⟩ : ∃ z, z = kc129 := ⟨_, rfl⟩
                              subst hk129
                              obtain ⟨rfl⟩ := hr129
                              refine xB 2 [] [(0, vs Aacts acts cacts), (3, vs A5_0 y5 c5_0), (4, vp bd20 0), (6, vp b13 0), (7, vp b15 0), (8, vi ((s23.1 : Nat) : Int)), (10, vy (IntKind.u8.wrap ((Int.tmod (List.getD acts s23.1 default).phase 8) + 1))), (12, vi (landK .i64 (List.getD acts s23.1 default).index 15)), (94, vb true), (95, vs A5_0 y5 c5_0), (96, vi (landK .i64 (List.getD acts s23.1 default).index 15))] ?_
                              refine xV (qIxB ((landK .i64 (List.getD acts s23.1 default).index 15)).toNat 3 kb129.g hA129 (show ((landK .i64 (List.getD acts s23.1 default).index 15) : Int) = _ from by omega) i131) ?_
                              refine xB 1 [] [(0, vs Aacts acts cacts), (3, vs A5_0 y5 c5_0), (4, vp bd20 0), (6, vp b13 0), (7, vp b15 0), (8, vi ((s23.1 : Nat) : Int)), (10, vy (IntKind.u8.wrap ((Int.tmod (List.getD acts s23.1 default).phase 8) + 1))), (12, vi (landK .i64 (List.getD acts s23.1 default).index 15)), (94, vb true), (98, Value.pointer (some ⟨kb129.g, ((landK .i64 (List.getD acts s23.1 default).index 15)).toNat * 3 + 2, none⟩))] ?_
                              refine xV (qLdB ((landK .i64 (List.getD acts s23.1 default).index 15)).toNat 3 2 3 hw129) ?_
                              refine xB 1 [] [(0, vs Aacts acts cacts), (3, vs A5_0 y5 c5_0), (4, vp bd20 0), (6, vp b13 0), (7, vp b15 0), (8, vi ((s23.1 : Nat) : Int)), (10, vy (IntKind.u8.wrap ((Int.tmod (List.getD acts s23.1 default).phase 8) + 1))), (12, vi (landK .i64 (List.getD acts s23.1 default).index 15)), (94, vb true), (99, Value.int .u16 ((List.getD y5 ((landK .i64 (List.getD acts s23.1 default).index 15)).toNat default).inhibit)), (100, vy (IntKind.u8.wrap ((Int.tmod (List.getD acts s23.1 default).phase 8) + 1)))] ?_
                              refine xV (qShr .u16 .u8 ((List.getD y5 ((landK .i64 (List.getD acts s23.1 default).index 15)).toNat default).inhibit) ((IntKind.u8.wrap ((Int.tmod (List.getD acts s23.1 default).phase 8) + 1))) (u8_in _).1) ?_
                              refine xB 3 [] [(0, vs Aacts acts cacts), (3, vs A5_0 y5 c5_0), (4, vp bd20 0), (6, vp b13 0), (7, vp b15 0), (8, vi ((s23.1 : Nat) : Int)), (10, vy (IntKind.u8.wrap ((Int.tmod (List.getD acts s23.1 default).phase 8) + 1))), (12, vi (landK .i64 (List.getD acts s23.1 default).index 15)), (104, vb ((landK .u16 (shrK .u16 (List.getD y5 ((landK .i64 (List.getD acts s23.1 default).index 15)).toNat default).inhibit (IntKind.u8.wrap ((Int.tmod (List.getD acts s23.1 default).phase 8) + 1))) 1) == 0))] ?_
                              refine xSel [some 0, none, none, some 3, some 4, some 5, some 6] ?_
                              refine xSub [(0, vs Aacts acts cacts), (3, vs A5_0 y5 c5_0), (4, vp bd20 0), (6, vp b13 0), (7, vp b15 0), (8, vi ((s23.1 : Nat) : Int)), (10, vy (IntKind.u8.wrap ((Int.tmod (List.getD acts s23.1 default).phase 8) + 1))), (12, vi (landK .i64 (List.getD acts s23.1 default).index 15)), (104, vb ((landK .u16 (shrK .u16 (List.getD y5 ((landK .i64 (List.getD acts s23.1 default).index 15)).toNat default).inhibit (IntKind.u8.wrap ((Int.tmod (List.getD acts s23.1 default).phase 8) + 1))) 1) == 0))] ?_
                              exact hN113 _ (Option.some.inj hS).symm _ _ _ (Gh.le.refl _) ⟨by kernel_rfl, by kernel_rfl⟩
                            · have hS := cond_F q128 hS
                              refine xB 10 [] [(0, vs Aacts acts cacts), (3, vs A5_0 y5 c5_0), (4, vp bd20 0), (6, vp b13 0), (7, vp b15 0), (8, vi ((s23.1 : Nat) : Int)), (10, vy (IntKind.u8.wrap ((Int.tmod (List.getD acts s23.1 default).phase 8) + 1))), (12, vi (landK .i64 (List.getD acts s23.1 default).index 15)), (104, vb false)] ?_
                              refine xSel [some 0, none, none, some 3, some 4, some 5, some 6] ?_
                              refine xSub [(0, vs Aacts acts cacts), (3, vs A5_0 y5 c5_0), (4, vp bd20 0), (6, vp b13 0), (7, vp b15 0), (8, vi ((s23.1 : Nat) : Int)), (10, vy (IntKind.u8.wrap ((Int.tmod (List.getD acts s23.1 default).phase 8) + 1))), (12, vi (landK .i64 (List.getD acts s23.1 default).index 15)), (104, vb false)] ?_
                              exact hN113 _ (Option.some.inj hS).symm _ _ _ (Gh.le.refl _) ⟨by kernel_rfl, by kernel_rfl⟩
                        · intro uu110 hS hN110
                          refine wpq_split 88 (b := (List.getD t39.2 ((landK .i64 (List.getD acts s23.1 default).index 15)).toNat false)) (by kernel_rfl) (fun q132 => ?_) (fun q132 => ?_)
                          · have hS := cond_T q132 hS
                            have i134 : ((landK .i64 (List.getD acts s23.1 default).index 15)).toNat < 16 := by omega
                            have i135 : ((landK .i64 (List.getD acts s23.1 default).index 15)).toNat < (t39.1).length := by omega
                            obtain ⟨kc133, cs133, hA133, hk133, hr133, hw133⟩ := h39_0.open_ i135 false
                            obtain ⟨kb133, rfl⟩ : ∃ z, z = kc133 := ⟨_, rfl⟩
                            subst hk133
                            have hr133 : cs133 = [vb (List.getD t39.1 ((landK .i64 (List.getD acts s23.1 default).index 15)).toNat false)] := hr133
                            subst hr133
                            refine xB 1 [] [(0, vs Aacts acts cacts), (3, vs A5_0 y5 c5_0), (4, vp bd20 0), (6, vp b13 0), (7, vp b15 0), (8, vi ((s23.1 : Nat) : Int)), (10, vy (IntKind.u8.wrap ((Int.tmod (List.getD acts s23.1 default).phase 8) + 1))), (12, vi (landK .i64 (List.getD acts s23.1 default).index 15)), (88, vb true), (89, vi (landK .i64 (List.getD acts s23.1 default).index 15))] ?_
                            refine xV (qIxRA ((landK .i64 (List.getD acts s23.1 default).index 15)).toNat 1 kb133.g hA133 (show ((landK .i64 (List.getD acts s23.1 default).index 15) : Int) = _ from by omega) i134) ?_
                            refine xV (qLdB ((landK .i64 (List.getD acts s23.1 default).index 15)).toNat 1 0 6 hw133) ?_
                            refine xB 2 [] [(0, vs Aacts acts cacts), (3, vs A5_0 y5 c5_0), (4, vp bd20 0), (6, vp b13 0), (7, vp b15 0), (8, vi ((s23.1 : Nat) : Int)), (10, vy (IntKind.u8.wrap ((Int.tmod (List.getD acts s23.1 default).phase 8) + 1))), (12, vi (landK .i64 (List.getD acts s23.1 default).index 15)), (93, vb (!(List.getD t39.1 ((landK .i64 (List.getD acts s23.1 default).index 15)).toNat false)))] ?_
                            refine xSel [some 0, none, none, some 4, some 5, some 6, some 7] ?_
                            refine xSub [(0, vs Aacts acts cacts), (3, vs A5_0 y5 c5_0), (4, vp bd20 0), (6, vp b13 0), (7, vp b15 0), (8, vi ((s23.1 : Nat) : Int)), (10, vy (IntKind.u8.wrap ((Int.tmod (List.getD acts s23.1 default).phase 8) + 1))), (12, vi (landK .i64 (List.getD acts s23.1 default).index 15)), (93, vb (!(List.getD t39.1 ((landK .i64 (List.getD acts s23.1 default).index 15)).toNat false)))] ?_
                            exact hN110 _ hS.symm _ _ _ (Gh.le.refl _) ⟨by kernel_rfl, by kernel_rfl⟩
                          · have hS := cond_F q132 hS
                            refine xB 5 [] [(0, vs Aacts acts cacts), (3, vs A5_0 y5 c5_0), (4, vp bd20 0), (6, vp b13 0), (7, vp b15 0), (8, vi ((s23.1 : Nat) : Int)), (10, vy (IntKind.u8.wrap ((Int.tmod (List.getD acts s23.1 default).phase 8) + 1))), (12, vi (landK .i64 (List.getD acts s23.1 default).index 15)), (93, vb false)] ?_
                            refine xSel [some 0, none, none, some 4, some 5, some 6, some 7] ?_
                            refine xSub [(0, vs Aacts acts cacts), (3, vs A5_0 y5 c5_0), (4, vp bd20 0), (6, vp b13 0), (7, vp b15 0), (8, vi ((s23.1 : Nat) : Int)), (10, vy (IntKind.u8.wrap ((Int.tmod (List.getD acts s23.1 default).phase 8) + 1))), (12, vi (landK .i64 (List.getD acts s23.1 default).index 15)), (93, vb false)] ?_
                            exact hN110 _ hS.symm _ _ _ (Gh.le.refl _) ⟨by kernel_rfl, by kernel_rfl⟩
                      · have hS := cond_F h106 hS
                        have h106p : ¬ ((Int.tmod (List.getD acts s23.1 default).kind 2) = 1) := ne_of_beq_false_ h106
                        refine xSk ?_
                        have f35_b_defs := f35_b_defs.mono e41.b
                        have h35_b_conds := h35_b_conds.mono e41.b
                        refine xSel [some 0, none, none, some 4, some 5, some 6, some 7] ?_
                        refine xSub [(0, vs Aacts acts cacts), (3, vs A5_0 y5 c5_0), (4, vp bd20 0), (6, vp b13 0), (7, vp b15 0), (8, vi ((s23.1 : Nat) : Int)), (10, vy (IntKind.u8.wrap ((Int.tmod (List.getD acts s23.1 default).phase 8) + 1)))] ?_
                        have eS := (Option.some.inj hS).symm
                        exact hN42 _ eS _ _ _ (Gh.le.refl _) ⟨A35_b_defs, c35_b_defs, A35_b_conds, c35_b_conds, k35_b_conds, k39_0, by kernel_rfl, by kernel_rfl, f35_b_defs, h35_b_conds, h39_0, hz39_v0⟩
                  · intro uu39 hS hN39
                    refine xBl 2 ?_
                    have h23_1 := h23_1.mono e37.b
                    have h23_2 := h23_2.mono e37.b
                    refine xSel [some 0, some 2, none, none, some 5, some 1, some 6, some 7] ?_
                    refine xSub [(0, vs Aacts acts cacts), (3, vs A5_0 y5 c5_0), (4, vp bd20 0), (6, vp b13 0), (7, vp b15 0), (8, vi ((s23.1 : Nat) : Int)), (9, vp b34 0), (10, vy (IntKind.u8.wrap ((Int.tmod (List.getD acts s23.1 default).phase 8) + 1))), (56, vi 0)] ?_
                    refine xLo hS (fun g own sl s138 => ∃ (k138_1 : Option Bk) (k138_2 : Option Bk), own = [some ⟨bd20, 71, (cBoard y35.1 A35_b_defs c35_b_defs A35_b_conds c35_b_conds)⟩, some ⟨b34, 39, (cAct (List.getD acts s23.1 default))⟩, none, none, k5_0, k35_b_conds, k138_1, k138_2] ∧ sl = [(0, vs Aacts acts cacts), (3, vs A5_0 y5 c5_0), (4, vp bd20 0), (6, vp b13 0), (7, vp b15 0), (8, vi ((s23.1 : Nat) : Int)), (9, vp b34 0), (10, vy (IntKind.u8.wrap ((Int.tmod (List.getD acts s23.1 default).phase 8) + 1))), (56, vi ((s138.1 : Nat) : Int))] ∧ Buf g.b tyB 37 (.slice (some ⟨b15, 0, none⟩) (s138.2.1).length 16) k138_1 s138.2.1 ∧ Buf g.b tyB 37 (.slice (some ⟨b13, 0, none⟩) (s138.2.2).length 16) k138_2 s138.2.2 ∧ 16 = (s138.2.1).length ∧ 16 = (s138.2.2).length) ⟨k23_1, k23_2, by kernel_rfl, by kernel_rfl, h23_1, h23_2, hz23_v0, hz23_v1⟩ ?_
                    rintro g139 _ _ s138 uu138 e140 ⟨k138_1, k138_2, rfl, rfl, h138_1, h138_2, hz138_v0, hz138_v1⟩ hS Qr138 hN138 hD138
                    have nh138_1 := h138_1.len
                    have nh138_2 := h138_2.len
                    unfold o5_L3 at hS
                    refine xSq ?_
                    refine xRg ?_
                    refine xB 1 [] [(0, vs Aacts acts cacts), (3, vs A5_0 y5 c5_0), (4, vp bd20 0), (6, vp b13 0), (7, vp b15 0), (8, vi ((s23.1 : Nat) : Int)), (9, vp b34 0), (10, vy (IntKind.u8.wrap ((Int.tmod (List.getD acts s23.1 default).phase 8) + 1))), (56, vi ((s138.1 : Nat) : Int)), (57, vb (decide (((s138.1 : Nat) : Int) < 16)))] ?_
                    refine xRe ?_
                    refine wpq_then ?_
                    refine xSq ?_
                    refine xCd (decide (((s138.1 : Nat) : Int) < 16)) (fun h141 => ?_) (fun h141 => ?_)
                    · have hS := cond_T h141 hS
                      have h141p := of_decide_eq_true h141
                      refine xSk ?_
                      refine wpq_then ?_
                      refine xSub [(0, vs Aacts acts cacts), (3, vs A5_0 y5 c5_0), (4, vp bd20 0), (6, vp b13 0), (7, vp b15 0), (8, vi ((s23.1 : Nat) : Int)), (9, vp b34 0), (10, vy (IntKind.u8.wrap ((Int.tmod (List.getD acts s23.1 default).phase 8) + 1))), (56, vi ((s138.1 : Nat) : Int))] ?_
                      refine xSq ?_
                      refine xBl 3 ?_
                      refine xSq ?_
                      refine xRg ?_
                      refine xB 2 [] [(0, vs Aacts acts cacts), (3, vs A5_0 y5 c5_0), (4, vp bd20 0), (6, vp b13 0), (7, vp b15 0), (8, vi ((s23.1 : Nat) : Int)), (9, vp b34 0), (10, vy (IntKind.u8.wrap ((Int.tmod (List.getD acts s23.1 default).phase 8) + 1))), (11, vi ((s138.1 : Nat) : Int)), (56, vi ((s138.1 : Nat) : Int))] ?_
                      refine xRe ?_
                      refine wpq_then ?_
                      refine xSq ?_
                      refine xRg ?_
                      refine xB 4 [(2, 1)] [(0, vs Aacts acts cacts), (3, vs A5_0 y5 c5_0), (4, vp bd20 0), (6, vp b13 0), (7, vp b15 0), (8, vi ((s23.1 : Nat) : Int)), (9, vp b34 0), (10, vy (IntKind.u8.wrap ((Int.tmod (List.getD acts s23.1 default).phase 8) + 1))), (11, vi ((s138.1 : Nat) : Int)), (56, vi ((s138.1 : Nat) : Int)), (59, vi ((s138.1 : Nat) : Int)), (61, Value.int .u16 ((List.getD acts s23.1 default).conds)), (62, vi ((s138.1 : Nat) : Int))] ?_
                      refine xV (qShr .u16 .i64 ((List.getD acts s23.1 default).conds) (((s138.1 : Nat) : Int)) (by omega)) ?_
                      have i143 : s138.1 < 16 := by omega
                      have i144 : s138.1 < (s138.2.2).length := by omega
                      obtain ⟨kc142, cs142, hA142, hk142, hr142, hw142⟩ := h138_2.open_ i144 false
                      obtain ⟨kb142, rfl⟩ : ∃ z, z = kc142 := ⟨_, rfl⟩
                      subst hk142
                      have hr142 : cs142 = [vb (List.getD s138.2.2 s138.1 false)] := hr142
                      subst hr142
                      refine xB 2 [] [(0, vs Aacts acts cacts), (3, vs A5_0 y5 c5_0), (4, vp bd20 0), (6, vp b13 0), (7, vp b15 0), (8, vi ((s23.1 : Nat) : Int)), (9, vp b34 0), (10, vy (IntKind.u8.wrap ((Int.tmod (List.getD acts s23.1 default).phase 8) + 1))), (11, vi ((s138.1 : Nat) : Int)), (56, vi ((s138.1 : Nat) : Int)), (59, vi ((s138.1 : Nat) : Int)), (65, vb ((landK .u16 (shrK .u16 (List.getD acts s23.1 default).conds ((s138.1 : Nat) : Int)) 1) == 1))] ?_
                      refine xV (qIxRA s138.1 1 kb142.g hA142 rfl i143) ?_
                      refine xD (eStB s138.1 1 0 7 [vb ((landK .u16 (shrK .u16 (List.getD acts s23.1 default).conds ((s138.1 : Nat) : Int)) 1) == 1)] h138_2 rfl hw142 (show tyB.rep _ _ _ from rfl) i144) ?_
                      rintro _ _ _ - ⟨k145, rfl, rfl, h145⟩
                      have hz145 : (s138.2.2).length = ((List.set s138.2.2 s138.1 ((landK .u16 (shrK .u16 (List.getD acts s23.1 default).conds ((s138.1 : Nat) : Int)) 1) == 1))).length := by simp
                      have hz145_1 : 16 = ((List.set s138.2.2 s138.1 ((landK .u16 (shrK .u16 (List.getD acts s23.1 default).conds ((s138.1 : Nat) : Int)) 1) == 1))).length := hz138_v1.trans hz145
                      refine xRe ?_
                      refine wpq_then ?_
                      refine xSub [(0, vs Aacts acts cacts), (3, vs A5_0 y5 c5_0), (4, vp bd20 0), (6, vp b13 0), (7, vp b15 0), (8, vi ((s23.1 : Nat) : Int)), (9, vp b34 0), (10, vy (IntKind.u8.wrap ((Int.tmod (List.getD acts s23.1 default).phase 8) + 1))), (11, vi ((s138.1 : Nat) : Int)), (56, vi ((s138.1 : Nat) : Int))] ?_
                      refine xRg ?_
                      have i147 : s138.1 < 16 := by omega
                      have i148 : s138.1 < (s138.2.1).length := by omega
                      obtain ⟨kc146, cs146, hA146, hk146, hr146, hw146⟩ := h138_1.open_ i148 false
                      obtain ⟨kb146, rfl⟩ : ∃ z, z = kc146 := ⟨_, rfl⟩
                      subst hk146
                      have hr146 : cs146 = [vb (List.getD s138.2.1 s138.1 false)] := hr146
                      subst hr146
                      refine xB 2 [] [(0, vs Aacts acts cacts), (3, vs A5_0 y5 c5_0), (4, vp bd20 0), (6, vp b13 0), (7, vp b15 0), (8, vi ((s23.1 : Nat) : Int)), (9, vp b34 0), (10, vy (IntKind.u8.wrap ((Int.tmod (List.getD acts s23.1 default).phase 8) + 1))), (11, vi ((s138.1 : Nat) : Int)), (56, vi ((s138.1 : Nat) : Int)), (67, vi ((s138.1 : Nat) : Int)), (68, vi ((s138.1 : Nat) : Int))] ?_
                      refine xV (qIxRA s138.1 1 kb146.g hA146 rfl i147) ?_
                      refine xV (qLdB s138.1 1 0 6 hw146) ?_
                      refine xB 1 [] [(0, vs Aacts acts cacts), (3, vs A5_0 y5 c5_0), (4, vp bd20 0), (6, vp b13 0), (7, vp b15 0), (8, vi ((s23.1 : Nat) : Int)), (9, vp b34 0), (10, vy (IntKind.u8.wrap ((Int.tmod (List.getD acts s23.1 default).phase 8) + 1))), (11, vi ((s138.1 : Nat) : Int)), (56, vi ((s138.1 : Nat) : Int)), (67, vi ((s138.1 : Nat) : Int)), (71, vb (List.getD s138.2.1 s138.1 false))] ?_
                      refine xGJl hS 9 (fun g own sl t149 => own = [some ⟨bd20, 71, (cBoard y35.1 A35_b_defs c35_b_defs A35_b_conds c35_b_conds)⟩, some ⟨b34, 39, (cAct (List.getD acts s23.1 default))⟩, none, none, k5_0, k35_b_conds, (some kb146), k145] ∧ sl = [(0, vs Aacts acts cacts), (3, vs A5_0 y5 c5_0), (4, vp bd20 0), (6, vp b13 0), (7, vp b15 0), (8, vi ((s23.1 : Nat) : Int)), (9, vp b34 0), (10, vy (IntKind.u8.wrap ((Int.tmod (List.getD acts s23.1 default).phase 8) + 1))), (56, vi ((s138.1 : Nat) : Int)), (67, vi ((s138.1 : Nat) : Int)), (75, vb t149)]) ?_ ?_
                      · rintro g150 _ _ t149 e151 ⟨rfl, rfl⟩ hS
                        have h138_1 := h138_1.mono e151.b
                        have i153 : s138.1 < 16 := by omega
                        have i154 : s138.1 < (s138.2.1).length := by omega
                        obtain ⟨kc152, cs152, hA152, hk152, hr152, hw152⟩ := h138_1.open_ i154 false
                        cases hk152
                        have hr152 : cs152 = [vb (List.getD s138.2.1 s138.1 false)] := hr152
                        subst hr152
                        refine xV (qIxRA s138.1 1 kb146.g hA152 rfl i153) ?_
                        refine xD (eStB s138.1 1 0 6 [vb t149] h138_1 rfl hw152 (show tyB.rep _ _ _ from rfl) i154) ?_
                        rintro _ _ _ - ⟨k155, rfl, rfl, h155⟩
                        have hz155 : (s138.2.1).length = ((List.set s138.2.1 s138.1 t149)).length := by simp
                        have hz155_1 : 16 = ((List.set s138.2.1 s138.1 t149)).length := hz138_v0.trans hz155
                        refine xRe ?_
                        refine wpq_blockN ?_
                        refine wpq_then ?_
                        refine xSub [(0, vs Aacts acts cacts), (3, vs A5_0 y5 c5_0), (4, vp bd20 0), (6, vp b13 0), (7, vp b15 0), (8, vi ((s23.1 : Nat) : Int)), (9, vp b34 0), (10, vy (IntKind.u8.wrap ((Int.tmod (List.getD acts s23.1 default).phase 8) + 1))), (56, vi ((s138.1 : Nat) : Int))] ?_
                        refine xRg ?_
                        obtain ⟨q156, hS⟩ := grd_T hS
                        have q156p := of_decide_eq_true q156
                        refine xV (qAdd .i64 (((s138.1 : Nat) : Int)) (1) (wr64 (by omega))) ?_
                        refine xB 1 [] [(0, vs Aacts acts cacts), (3, vs A5_0 y5 c5_0), (4, vp bd20 0), (6, vp b13 0), (7, vp b15 0), (8, vi ((s23.1 : Nat) : Int)), (9, vp b34 0), (10, vy (IntKind.u8.wrap ((Int.tmod (List.getD acts s23.1 default).phase 8) + 1))), (56, vi (((s138.1 : Nat) : Int) + 1))] ?_
                        refine xRe ?_
                        refine wpq_thenN ?_
                        have h145 := h145.mono e151.b
                        refine xSel [some 0, some 1, none, none, some 4, some 5, some 6, some 7] ?_
                        refine xSub [(0, vs Aacts acts cacts), (3, vs A5_0 y5 c5_0), (4, vp bd20 0), (6, vp b13 0), (7, vp b15 0), (8, vi ((s23.1 : Nat) : Int)), (9, vp b34 0), (10, vy (IntKind.u8.wrap ((Int.tmod (List.getD acts s23.1 default).phase 8) + 1))), (56, vi (((s138.1 : Nat) : Int) + 1))] ?_
                        have eS := (Option.some.inj hS).symm
                        exact hN138 _ eS _ _ _ e151 ⟨k155, k145, by kernel_rfl, by kernel_rfl, (Buf.re h155 hz155 rfl), (Buf.re h145 hz145 rfl), hz155_1, hz145_1⟩
                      · intro uu149 hS hN149
                        refine wpq_split 71 (b := (List.getD s138.2.1 s138.1 false)) (by kernel_rfl) (fun q157 => ?_) (fun q157 => ?_)
                        · have hS := cond_T q157 hS
                          have i159 : s138.1 < 16 := by omega
                          have i160 : s138.1 < ((List.set s138.2.2 s138.1 ((landK .u16 (shrK .u16 (List.getD acts s23.1 default).conds ((s138.1 : Nat) : Int)) 1) == 1))).length := by omega
                          obtain ⟨kc158, cs158, hA158, hk158, hr158, hw158⟩ := h145.open_ i160 false
                          obtain ⟨kb158, rfl⟩ : ∃ z, z = kc158 := ⟨_, rfl⟩
                          subst hk158
                          have hr158 : cs158 = [vb (List.getD (List.set s138.2.2 s138.1 ((landK .u16 (shrK .u16 (List.getD acts s23.1 default).conds ((s138.1 : Nat) : Int)) 1) == 1)) s138.1 false)] := hr158
                          subst hr158
                          refine xB 1 [] [(0, vs Aacts acts cacts), (3, vs A5_0 y5 c5_0), (4, vp bd20 0), (6, vp b13 0), (7, vp b15 0), (8, vi ((s23.1 : Nat) : Int)), (9, vp b34 0), (10, vy (IntKind.u8.wrap ((Int.tmod (List.getD acts s23.1 default).phase 8) + 1))), (56, vi ((s138.1 : Nat) : Int)), (67, vi ((s138.1 : Nat) : Int)), (71, vb true), (72, vi ((s138.1 : Nat) : Int))] ?_
                          refine xV (qIxRA s138.1 1 kb158.g hA158 rfl i159) ?_
                          refine xV (qLdB s138.1 1 0 7 hw158) ?_
                          refine xB 1 [] [(0, vs Aacts acts cacts), (3, vs A5_0 y5 c5_0), (4, vp bd20 0), (6, vp b13 0), (7, vp b15 0), (8, vi ((s23.1 : Nat) : Int)), (9, vp b34 0), (10, vy (IntKind.u8.wrap ((Int.tmod (List.getD acts s23.1 default).phase 8) + 1))), (56, vi ((s138.1 : Nat) : Int)), (67, vi ((s138.1 : Nat) : Int)), (75, vb (List.getD (List.set s138.2.2 s138.1 ((landK .u16 (shrK .u16 (List.getD acts s23.1 default).conds ((s138.1 : Nat) : Int)) 1) == 1)) s138.1 false))] ?_
                          refine xSel [some 0, some 1, none, none, some 4, some 5, some 6, some 7] ?_
                          refine xSub [(0, vs Aacts acts cacts), (3, vs A5_0 y5 c5_0), (4, vp bd20 0), (6, vp b13 0), (7, vp b15 0), (8, vi ((s23.1 : Nat) : Int)), (9, vp b34 0), (10, vy (IntKind.u8.wrap ((Int.tmod (List.getD acts s23.1 default).phase 8) + 1))), (56, vi ((s138.1 : Nat) : Int)), (67, vi ((s138.1 : Nat) : Int)), (75, vb (List.getD (List.set s138.2.2 s138.1 ((landK .u16 (shrK .u16 (List.getD acts s23.1 default).conds ((s138.1 : Nat) : Int)) 1) == 1)) s138.1 false))] ?_
                          exact hN149 _ hS.symm _ _ _ (Gh.le.refl _) ⟨by kernel_rfl, by kernel_rfl⟩
                        · have hS := cond_F q157 hS
                          refine xB 4 [] [(0, vs Aacts acts cacts), (3, vs A5_0 y5 c5_0), (4, vp bd20 0), (6, vp b13 0), (7, vp b15 0), (8, vi ((s23.1 : Nat) : Int)), (9, vp b34 0), (10, vy (IntKind.u8.wrap ((Int.tmod (List.getD acts s23.1 default).phase 8) + 1))), (56, vi ((s138.1 : Nat) : Int)), (67, vi ((s138.1 : Nat) : Int)), (75, vb false)] ?_
                          refine xSel [some 0, some 1, none, none, some 4, some 5, some 6, some 7] ?_
                          refine xSub [(0, vs Aacts acts cacts), (3, vs A5_0 y5 c5_0), (4, vp bd20 0), (6, vp b13 0), (7, vp b15 0), (8, vi ((s23.1 : Nat) : Int)), (9, vp b34 0), (10, vy (IntKind.u8.wrap ((Int.tmod (List.getD acts s23.1 default).phase 8) + 1))), (56, vi ((s138.1 : Nat) : Int)), (67, vi ((s138.1 : Nat) : Int)), (75, vb false)] ?_
                          exact hN149 _ hS.symm _ _ _ (Gh.le.refl _) ⟨by kernel_rfl, by kernel_rfl⟩
                    · have hS := cond_F h141 hS
                      have h141p := of_decide_eq_false h141
                      refine xEx 2 ?_
                      refine wpq_thenX ?_
                      refine wpq_thenX ?_
                      refine wpq_blockE ?_
                      refine xSel [some 0, some 1, none, none, some 4, some 5, some 6, some 7] ?_
                      refine xSub [(0, vs Aacts acts cacts), (3, vs A5_0 y5 c5_0), (4, vp bd20 0), (6, vp b13 0), (7, vp b15 0), (8, vi ((s23.1 : Nat) : Int)), (9, vp b34 0), (10, vy (IntKind.u8.wrap ((Int.tmod (List.getD acts s23.1 default).phase 8) + 1)))] ?_
                      have eS := (Option.some.inj hS).symm
                      have eS := (hD138 _ eS).symm
                      exact hN39 _ eS _ _ _ e140 ⟨k138_1, k138_2, by kernel_rfl, by kernel_rfl, h138_1, h138_2, hz138_v0, hz138_v1⟩
            · have hS := cond_F h27 hS
              refine xEx 0 ?_
              refine wpq_thenX ?_
              refine wpq_thenX ?_
              refine wpq_blockE ?_
              refine xSel [] ?_
              refine xSub [] ?_
              have eS := (Option.some.inj hS).symm
              have eS := (hD23 _ eS).symm
              exact hN17 _ eS _ _ _ e25 ⟨by kernel_rfl, by kernel_rfl⟩

end Go.Proofs.Ytfhchendnfpbkaa
