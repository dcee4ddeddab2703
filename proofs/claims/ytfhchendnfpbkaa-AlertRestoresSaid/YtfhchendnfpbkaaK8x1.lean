/-
Walks, printed by wip/gen, with half of their indentation. Conditions: each theorem's own.
-/
import Derived.Test.YtfhchendnfpbkaaK8x0
namespace Go.Proofs.Ytfhchendnfpbkaa
set_option linter.unusedVariables false
set_option linter.unusedSimpArgs false
open Go.RowKit
def o26_L0 (l : List AlertDef) (p : List UInt8) (y10 : Int) (s24 : Nat × (List Int) × (List Bool)) : Option (Ctl (Nat × (List Int) × (List Bool)) (Ctl ((List Int) × (List Bool)) (RBoard × Int))) :=
 (cond (decide (((s24.1 : Nat) : Int) < (((l).length : Nat) : Int))) (grd (decide (0 ≤ (IntKind.i64.wrap (9 + (IntKind.i64.wrap (9 * ((s24.1 : Nat) : Int))))) ∧ (IntKind.i64.wrap (9 + (IntKind.i64.wrap (9 * ((s24.1 : Nat) : Int))))) < (((p).length : Nat) : Int))) (grd (decide (0 ≤ (IntKind.i64.wrap (10 + (IntKind.i64.wrap (9 * ((s24.1 : Nat) : Int))))) ∧ (IntKind.i64.wrap (10 + (IntKind.i64.wrap (9 * ((s24.1 : Nat) : Int))))) ≤ (((p).length : Nat) : Int))) (bindO (τ := Int) (o49 ((List.drop ((IntKind.i64.wrap (10 + (IntKind.i64.wrap (9 * ((s24.1 : Nat) : Int)))))).toNat p) : List UInt8)) fun y33 => (cond ((((((((List.getD p ((IntKind.i64.wrap (9 + (IntKind.i64.wrap (9 * ((s24.1 : Nat) : Int)))))).toNat 0).toNat : Int) != 0) && (((List.getD p ((IntKind.i64.wrap (9 + (IntKind.i64.wrap (9 * ((s24.1 : Nat) : Int)))))).toNat 0).toNat : Int) != 1)) && (((List.getD p ((IntKind.i64.wrap (9 + (IntKind.i64.wrap (9 * ((s24.1 : Nat) : Int)))))).toNat 0).toNat : Int) != 3)) || ((((List.getD p ((IntKind.i64.wrap (9 + (IntKind.i64.wrap (9 * ((s24.1 : Nat) : Int)))))).toNat 0).toNat : Int) == 0) && (y33 != 0))) || (decide (((List.getD p ((IntKind.i64.wrap (9 + (IntKind.i64.wrap (9 * ((s24.1 : Nat) : Int)))))).toNat 0).toNat : Int) > 0) && (decide (y33 < 1) || decide (y33 > y10))))) (some (Ctl.done (Ctl.done (((⟨([] : List AlertDef), 0, 0, ([] : List Int), ([] : List Bool)⟩ : RBoard), (4 : Int)))))) (grd (decide (s24.1 < (s24.2.1).length)) (grd (decide (s24.1 < (s24.2.2).length)) (grd (decide (((s24.1 : Nat) : Int) + 1 ≤ 9223372036854775807)) (some (Ctl.go ((s24.1 + 1), ((List.set s24.2.1 s24.1 (y33 : Int)) : List Int), ((List.set s24.2.2 s24.1 (((List.getD p ((IntKind.i64.wrap (9 + (IntKind.i64.wrap (9 * ((s24.1 : Nat) : Int)))))).toNat 0).toNat : Int) == 3)) : List Bool))))))))))) (some (Ctl.done (Ctl.go ((s24.2.1 : List Int), (s24.2.2 : List Bool))))))
def o26 (l : List AlertDef) (p : List UInt8) : Option (RBoard × Int) :=
 (bindO (τ := RBoard × Int) (o28 (l : List AlertDef)) fun y2 => (cond ((y2.2 != 0)) (some (((⟨([] : List AlertDef), 0, 0, ([] : List Int), ([] : List Bool)⟩ : RBoard), (y2.2 : Int)))) (cond (((((p).length : Nat) : Int) != (9 + (9 * (((l).length : Nat) : Int))))) (some (((⟨([] : List AlertDef), 0, 0, ([] : List Int), ([] : List Bool)⟩ : RBoard), (4 : Int)))) (bindO (τ := Int) (o49 (p : List UInt8)) fun y10 => (cond (((((decide (y10 < 0) || decide (y10 > 4611686018427387904)) || decide (((List.getD p 8 0).toNat : Int) < 1)) || decide (((List.getD p 8 0).toNat : Int) > 8)) || ((y10 == 0) && (((List.getD p 8 0).toNat : Int) != 1)))) (some (((⟨([] : List AlertDef), 0, 0, ([] : List Int), ([] : List Bool)⟩ : RBoard), (4 : Int)))) (joinO (τ := (List Int) × (List Bool)) (ρ := RBoard × Int) (loopO (σ := Nat × (List Int) × (List Bool)) (ρ := Ctl ((List Int) × (List Bool)) (RBoard × Int)) fuelN (o26_L0 l p y10) (0, (y2.1.onset : List Int), (y2.1.acked : List Bool))) fun t19 => (some (((⟨y2.1.defs, y10, ((List.getD p 8 0).toNat : Int), t19.1, t19.2⟩ : RBoard), (0 : Int))))))))))
set_option maxRecDepth 100000 in
theorem c26 (g : Gh) (l : List AlertDef) (Al : Option Addr) (cl : Nat) (p : List UInt8) (Ap : Option Addr) (cp : Nat) (fl : Arr g.b tyAlertDef Al cl l) (fp : Arr g.r tyU8 Ap cp p) {r : RBoard × Int} (hS : o26 l p = some r) :
  Ctr Try.prog 26 [vs Al l cl, vs Ap p cp] g [] (fun v ψ o => ∃ (Ar_0_defs : Option Addr) (cr_0_defs : Nat) (Ar_0_onset : Option Addr) (cr_0_onset : Nat) (kr_0_onset : Option Bk) (Ar_0_acked : Option Addr) (cr_0_acked : Nat) (kr_0_acked : Option Bk), v = Value.tuple #[Value.agg #[vs Ar_0_defs r.1.defs cr_0_defs, vi r.1.steps, vy r.1.phase, vs Ar_0_onset r.1.onset cr_0_onset, vs Ar_0_acked r.1.acked cr_0_acked], vi r.2] ∧ o = [kr_0_onset, kr_0_acked] ∧ Arr ψ tyAlertDef Ar_0_defs cr_0_defs r.1.defs ∧ Buf ψ (tyI .i64) 2 (.slice Ar_0_onset (r.1.onset).length cr_0_onset) kr_0_onset r.1.onset ∧ Buf ψ tyB 4 (.slice Ar_0_acked (r.1.acked).length cr_0_acked) kr_0_acked r.1.acked) := by
 unfold o26 at hS
 refine xFn Try.f26 (Try.f26.body.getD .skip) 127 ?_
 have nfl := fl.len
 have nfp := fp.len
 refine xSq ?_
 refine xRg ?_
 refine xE eB ?_
 rintro _ _ _ - ⟨b1, rfl, rfl, rfl⟩
 refine xB 1 [] [(0, vs Al l cl), (1, vs Ap p cp), (4, vp b1 0)] ?_
 refine xRe ?_
 refine wpq_then ?_
 refine xSq ?_
 refine xRg ?_
 refine xB 1 [] [(0, vs Al l cl), (1, vs Ap p cp), (4, vp b1 0), (12, vs Al l cl)] ?_
 obtain ⟨y2, hy2, hS⟩ := bindO_T hS
 refine xE (eC 0 (fun g' lr eb ln => c28 g' (l : List AlertDef) Al cl (by rw [eb]; exact fl) hy2)) ?_
 rintro _ g3 _ e4 ⟨_, rfl, A2_0_defs, c2_0_defs, A2_0_onset, c2_0_onset, k2_0_onset, A2_0_acked, c2_0_acked, k2_0_acked, rfl, rfl, f2_0_defs, h2_0_onset, h2_0_acked⟩
 have nf2_0_defs := f2_0_defs.len
 have nh2_0_onset := h2_0_onset.len
 have nh2_0_acked := h2_0_acked.len
 refine xB 3 [] [(0, vs Al l cl), (1, vs Ap p cp), (4, vp b1 0), (14, Value.agg #[vs A2_0_defs y2.1.defs c2_0_defs, vi y2.1.steps, vy y2.1.phase, vs A2_0_onset y2.1.onset c2_0_onset, vs A2_0_acked y2.1.acked c2_0_acked]), (15, vi y2.2)] ?_
 refine xE eB ?_
 rintro _ _ _ - ⟨b5, rfl, rfl, rfl⟩
 refine xBo 2 [(6, 0)] [some ⟨b5, 57, (cRBoard y2.1 A2_0_defs c2_0_defs A2_0_onset c2_0_onset A2_0_acked c2_0_acked)⟩, k2_0_onset, k2_0_acked, some ⟨b1, 57, (cRBoard (⟨([] : List AlertDef), 0, 0, ([] : List Int), ([] : List Bool)⟩ : RBoard) none 0 none 0 none 0)⟩] [(0, vs Al l cl), (1, vs Ap p cp), (4, vp b1 0), (6, vp b5 0), (7, vi y2.2)] ?_
 refine xRe ?_
 refine wpq_then ?_
 refine xSq ?_
 refine xSq ?_
 refine xRg ?_
 refine xB 2 [] [(0, vs Al l cl), (1, vs Ap p cp), (4, vp b1 0), (6, vp b5 0), (7, vi y2.2), (17, vb (y2.2 != 0))] ?_
 refine xRe ?_
 refine wpq_then ?_
 refine xCd ((y2.2 != 0)) (fun h6 => ?_) (fun h6 => ?_)
 ·have hS := cond_T h6 hS
  have h6p : ¬ (y2.2 = 0) := ne_of_bne_ h6
  refine xSq ?_
  refine xRg ?_
  refine xBo 4 [(2, 3)] [some ⟨b5, 57, (cRBoard y2.1 A2_0_defs c2_0_defs A2_0_onset c2_0_onset A2_0_acked c2_0_acked)⟩, k2_0_onset, k2_0_acked, some ⟨b1, 57, (cRBoard (⟨([] : List AlertDef), 0, 0, ([] : List Int), ([] : List Bool)⟩ : RBoard) none 0 none 0 none 0)⟩] [(4, vp b1 0), (5, vi y2.2)] ?_
  refine xRe ?_
  refine wpq_then ?_
  have eS := (Option.some.inj hS).symm
  subst eS
  exact xRetC [none, none] [(4, 3)] e4 ⟨none, 0, none, 0, none, none, 0, none, by kernel_rfl, by kernel_rfl, Arr.nil, Buf.nil, Buf.nil⟩ (fun _ _ h => h)
 ·have hS := cond_F h6 hS
  have h6p : y2.2 = 0 := eq_of_bne_false_ h6
  refine xSk ?_
  refine wpq_then ?_
  refine xSub [(0, vs Al l cl), (1, vs Ap p cp), (4, vp b1 0), (6, vp b5 0)] ?_
  refine xSq ?_
  refine xSq ?_
  refine xRg ?_
  refine xB 4 [] [(0, vs Al l cl), (1, vs Ap p cp), (4, vp b1 0), (6, vp b5 0), (21, vi (((p).length : Nat) : Int)), (23, vi (((l).length : Nat) : Int))] ?_
  refine xV (qMul .i64 (9) ((((l).length : Nat) : Int)) (wr64 (by omega))) ?_
  refine xV (qAdd .i64 (9) ((9 * (((l).length : Nat) : Int))) (wr64 (by omega))) ?_
  refine xB 1 [] [(0, vs Al l cl), (1, vs Ap p cp), (4, vp b1 0), (6, vp b5 0), (26, vb ((((p).length : Nat) : Int) != (9 + (9 * (((l).length : Nat) : Int)))))] ?_
  refine xRe ?_
  refine wpq_then ?_
  refine xCd (((((p).length : Nat) : Int) != (9 + (9 * (((l).length : Nat) : Int))))) (fun h7 => ?_) (fun h7 => ?_)
  ·have hS := cond_T h7 hS
   have h7p : ¬ ((((p).length : Nat) : Int) = (9 + (9 * (((l).length : Nat) : Int)))) := ne_of_bne_ h7
   refine xSq ?_
   refine xRg ?_
   refine xBo 3 [(1, 3)] [some ⟨b5, 57, (cRBoard y2.1 A2_0_defs c2_0_defs A2_0_onset c2_0_onset A2_0_acked c2_0_acked)⟩, k2_0_onset, k2_0_acked, some ⟨b1, 57, (cRBoard (⟨([] : List AlertDef), 0, 0, ([] : List Int), ([] : List Bool)⟩ : RBoard) none 0 none 0 none 0)⟩] [(4, vp b1 0), (5, vi 4)] ?_
   refine xRe ?_
   refine wpq_then ?_
   have eS := (Option.some.inj hS).symm
   subst eS
   exact xRetC [none, none] [(4, 3)] e4 ⟨none, 0, none, 0, none, none, 0, none, by kernel_rfl, by kernel_rfl, Arr.nil, Buf.nil, Buf.nil⟩ (fun _ _ h => h)
  ·have hS := cond_F h7 hS
   have h7p : (((p).length : Nat) : Int) = (9 + (9 * (((l).length : Nat) : Int))) := eq_of_bne_false_ h7
   refine xSk ?_
   refine wpq_then ?_
   refine xSub [(0, vs Al l cl), (1, vs Ap p cp), (4, vp b1 0), (6, vp b5 0)] ?_
   refine xSq ?_
   refine xDr 0 [4] [8, 7] [some ⟨b1, 57, (cRBoard (⟨([] : List AlertDef), 0, 0, ([] : List Int), ([] : List Bool)⟩ : RBoard) none 0 none 0 none 0)⟩] 9 (fun RG => ?_) (fun _ _ _ _ _ h => h)
   have fp := fp.mono e4.r
   have i9 : 8 < (p).length := by omega
   obtain ⟨ad8, cs8, hA8, hr8, hc8⟩ := fp.at_ (get_getD (d := 0) i9)
   have hr8 : cs8 = [vy ((List.getD p 8 0).toNat : Int)] := hr8
   subst hr8
   have nb8 := UInt8.toNat_lt (List.getD p 8 0)
   refine xT 7 [0, 2] [] [some 3] [(0, vs Al l cl), (1, vs Ap p cp), (4, vp b1 0), (6, vp b5 0), (28, vs Ap p cp), (30, vs Ap p cp)] RG (Psi.le.refl _) ?_
   refine xTp 3 RG (fun _ => (qIx 8 1 hA8 rfl i9)) ?_
   refine xTv 4 [some 3] RG (Psi.le.refl _) (qLdP (Addr.add ad8 (8 * 1)) 0 hc8) ?_
   obtain ⟨y10, hy10, hS⟩ := bindO_T hS
   refine xO1 (lds := [4]) 1 ?_
   refine xIe (lds := [4]) (Psi.le.refl _) (eC 0 (fun g' lr eb ln => c49 g' (p : List UInt8) Ap cp (fp.mono lr) hy10)) ?_
   rintro _ g11 _ e12 ⟨_, rfl, rfl, rfl⟩
   refine kk [some 3] ?_
   refine xT 3 [5] [] [some 3] [(0, vs Al l cl), (1, vs Ap p cp), (4, vp b1 0), (6, vp b5 0), (29, vi y10), (32, vy ((List.getD p 8 0).toNat : Int)), (33, vp b5 1)] RG e12.r ?_
   refine xO1 (lds := [4]) 6 ?_
   refine xId (lds := [4]) e12.r (eStL b5 1 0) ?_
   rintro _ _ _ - ⟨rfl, rfl⟩
   refine kk [some 3] ?_
   refine xT 1 [7] [] [some 3] [(0, vs Al l cl), (1, vs Ap p cp), (4, vp b1 0), (6, vp b5 0), (32, vy ((List.getD p 8 0).toNat : Int)), (34, vp b5 2)] RG e12.r ?_
   refine xO1 (lds := [4]) 8 ?_
   refine xId (lds := [4]) e12.r (eStL b5 2 0) ?_
   rintro _ _ _ - ⟨rfl, rfl⟩
   refine kf ?_
   refine xAe (lds := [4]) ?_
   refine wpq_then ?_
   refine xSub [(0, vs Al l cl), (1, vs Ap p cp), (4, vp b1 0), (6, vp b5 0)] ?_
   refine xSq ?_
   refine xSq ?_
   refine xRg ?_
   refine xB 4 [(1, 0)] [(0, vs Al l cl), (1, vs Ap p cp), (4, vp b1 0), (6, vp b5 0), (38, vb (decide (y10 < 0)))] ?_
   refine wpr_grp 8 [(0, vs Al l cl), (1, vs Ap p cp), (4, vp b1 0), (6, vp b5 0), (42, vb (decide (y10 < 0) || decide (y10 > 4611686018427387904)))] (fun hk3 => ?_) ?_
   ·refine wpq_split 38 (b := decide (y10 < 0)) (by kernel_rfl) (fun q13 => ?_) (fun q13 => ?_)
    ·have q13p := of_decide_eq_true q13
     refine xB 4 [] [(0, vs Al l cl), (1, vs Ap p cp), (4, vp b1 0), (6, vp b5 0), (42, vb true)] ?_
     refine wpq_re 42 (v := vb true) (Value.bool ((decide (y10 < 0) || decide (y10 > 4611686018427387904)))) (by kernel_rfl) (re_or1 q13) ?_
     exact wpq_sub _ (by kernel_rfl) hk3
    ·have q13p := of_decide_eq_false q13
     refine xB 4 [(5, 0)] [(0, vs Al l cl), (1, vs Ap p cp), (4, vp b1 0), (6, vp b5 0), (42, vb (decide (y10 > 4611686018427387904)))] ?_
     refine wpq_re 42 (v := vb (decide (y10 > 4611686018427387904))) (Value.bool ((decide (y10 < 0) || decide (y10 > 4611686018427387904)))) (by kernel_rfl) (re_or0 q13) ?_
     exact wpq_sub _ (by kernel_rfl) hk3
   ·refine xB 1 [] [(0, vs Al l cl), (1, vs Ap p cp), (4, vp b1 0), (6, vp b5 0), (43, vb (decide (y10 < 0) || decide (y10 > 4611686018427387904)))] ?_
    refine wpr_grp 13 [(0, vs Al l cl), (1, vs Ap p cp), (4, vp b1 0), (6, vp b5 0), (47, vb ((decide (y10 < 0) || decide (y10 > 4611686018427387904)) || decide (((List.getD p 8 0).toNat : Int) < 1)))] (fun hk8 => ?_) ?_
    ·refine wpq_split 43 (b := (decide (y10 < 0) || decide (y10 > 4611686018427387904))) (by kernel_rfl) (fun q14 => ?_) (fun q14 => ?_)
     ·refine xB 4 [] [(0, vs Al l cl), (1, vs Ap p cp), (4, vp b1 0), (6, vp b5 0), (47, vb true)] ?_
      refine wpq_re 47 (v := vb true) (Value.bool (((decide (y10 < 0) || decide (y10 > 4611686018427387904)) || decide (((List.getD p 8 0).toNat : Int) < 1)))) (by kernel_rfl) (re_or1 q14) ?_
      exact wpq_sub _ (by kernel_rfl) hk8
     ·have q14l := (or_false_ q14).1
      have q14r := (or_false_ q14).2
      have q14lp := of_decide_eq_false q14l
      have q14rp := of_decide_eq_false q14r
      refine xB 4 [(10, 0)] [(0, vs Al l cl), (1, vs Ap p cp), (4, vp b1 0), (6, vp b5 0), (47, vb (decide (((List.getD p 8 0).toNat : Int) < 1)))] ?_
      refine wpq_re 47 (v := vb (decide (((List.getD p 8 0).toNat : Int) < 1))) (Value.bool (((decide (y10 < 0) || decide (y10 > 4611686018427387904)) || decide (((List.getD p 8 0).toNat : Int) < 1)))) (by kernel_rfl) (re_or0 q14) ?_
      exact wpq_sub _ (by kernel_rfl) hk8
    ·refine xB 1 [] [(0, vs Al l cl), (1, vs Ap p cp), (4, vp b1 0), (6, vp b5 0), (48, vb ((decide (y10 < 0) || decide (y10 > 4611686018427387904)) || decide (((List.getD p 8 0).toNat : Int) < 1)))] ?_
     refine wpr_grp 18 [(0, vs Al l cl), (1, vs Ap p cp), (4, vp b1 0), (6, vp b5 0), (52, vb (((decide (y10 < 0) || decide (y10 > 4611686018427387904)) || decide (((List.getD p 8 0).toNat : Int) < 1)) || decide (((List.getD p 8 0).toNat : Int) > 8)))] (fun hk13 => ?_) ?_
     ·refine wpq_split 48 (b := ((decide (y10 < 0) || decide (y10 > 4611686018427387904)) || decide (((List.getD p 8 0).toNat : Int) < 1))) (by kernel_rfl) (fun q15 => ?_) (fun q15 => ?_)
      ·refine xB 4 [] [(0, vs Al l cl), (1, vs Ap p cp), (4, vp b1 0), (6, vp b5 0), (52, vb true)] ?_
       refine wpq_re 52 (v := vb true) (Value.bool ((((decide (y10 < 0) || decide (y10 > 4611686018427387904)) || decide (((List.getD p 8 0).toNat : Int) < 1)) || decide (((List.getD p 8 0).toNat : Int) > 8)))) (by kernel_rfl) (re_or1 q15) ?_
       exact wpq_sub _ (by kernel_rfl) hk13
      ·have q15l := (or_false_ q15).1
       have q15r := (or_false_ q15).2
       have q15ll := (or_false_ q15l).1
       have q15lr := (or_false_ q15l).2
       have q15llp := of_decide_eq_false q15ll
       have q15lrp := of_decide_eq_false q15lr
       have q15rp := of_decide_eq_false q15r
       refine xB 4 [(15, 0)] [(0, vs Al l cl), (1, vs Ap p cp), (4, vp b1 0), (6, vp b5 0), (52, vb (decide (((List.getD p 8 0).toNat : Int) > 8)))] ?_
       refine wpq_re 52 (v := vb (decide (((List.getD p 8 0).toNat : Int) > 8))) (Value.bool ((((decide (y10 < 0) || decide (y10 > 4611686018427387904)) || decide (((List.getD p 8 0).toNat : Int) < 1)) || decide (((List.getD p 8 0).toNat : Int) > 8)))) (by kernel_rfl) (re_or0 q15) ?_
       exact wpq_sub _ (by kernel_rfl) hk13
     ·refine xB 1 [] [(0, vs Al l cl), (1, vs Ap p cp), (4, vp b1 0), (6, vp b5 0), (53, vb (((decide (y10 < 0) || decide (y10 > 4611686018427387904)) || decide (((List.getD p 8 0).toNat : Int) < 1)) || decide (((List.getD p 8 0).toNat : Int) > 8)))] ?_
      refine wpr_grp 28 [(0, vs Al l cl), (1, vs Ap p cp), (4, vp b1 0), (6, vp b5 0), (62, vb ((((decide (y10 < 0) || decide (y10 > 4611686018427387904)) || decide (((List.getD p 8 0).toNat : Int) < 1)) || decide (((List.getD p 8 0).toNat : Int) > 8)) || ((y10 == 0) && (((List.getD p 8 0).toNat : Int) != 1))))] (fun hk18 => ?_) ?_
      ·refine wpq_split 53 (b := (((decide (y10 < 0) || decide (y10 > 4611686018427387904)) || decide (((List.getD p 8 0).toNat : Int) < 1)) || decide (((List.getD p 8 0).toNat : Int) > 8))) (by kernel_rfl) (fun q16 => ?_) (fun q16 => ?_)
       ·refine xB 9 [] [(0, vs Al l cl), (1, vs Ap p cp), (4, vp b1 0), (6, vp b5 0), (62, vb true)] ?_
        refine wpq_re 62 (v := vb true) (Value.bool (((((decide (y10 < 0) || decide (y10 > 4611686018427387904)) || decide (((List.getD p 8 0).toNat : Int) < 1)) || decide (((List.getD p 8 0).toNat : Int) > 8)) || ((y10 == 0) && (((List.getD p 8 0).toNat : Int) != 1))))) (by kernel_rfl) (re_or1 q16) ?_
        exact wpq_sub _ (by kernel_rfl) hk18
       ·have q16l := (or_false_ q16).1
        have q16r := (or_false_ q16).2
        have q16ll := (or_false_ q16l).1
        have q16lr := (or_false_ q16l).2
        have q16lll := (or_false_ q16ll).1
        have q16llr := (or_false_ q16ll).2
        have q16lllp := of_decide_eq_false q16lll
        have q16llrp := of_decide_eq_false q16llr
        have q16lrp := of_decide_eq_false q16lr
        have q16rp := of_decide_eq_false q16r
        refine xB 4 [(20, 0)] [(0, vs Al l cl), (1, vs Ap p cp), (4, vp b1 0), (6, vp b5 0), (53, vb false), (57, vb (y10 == 0))] ?_
        refine wpr_grp 27 [(0, vs Al l cl), (1, vs Ap p cp), (4, vp b1 0), (6, vp b5 0), (53, vb false), (61, vb ((y10 == 0) && (((List.getD p 8 0).toNat : Int) != 1)))] (fun hk22 => ?_) ?_
        ·refine wpq_split 57 (b := (y10 == 0)) (by kernel_rfl) (fun q17 => ?_) (fun q17 => ?_)
         ·have q17p : y10 = 0 := eq_of_beq q17
          refine xB 4 [(24, 0)] [(0, vs Al l cl), (1, vs Ap p cp), (4, vp b1 0), (6, vp b5 0), (53, vb false), (61, vb (((List.getD p 8 0).toNat : Int) != 1))] ?_
          refine wpq_re 61 (v := vb (((List.getD p 8 0).toNat : Int) != 1)) (Value.bool (((y10 == 0) && (((List.getD p 8 0).toNat : Int) != 1)))) (by kernel_rfl) (re_and1 q17) ?_
          exact wpq_sub _ (by kernel_rfl) hk22
         ·have q17p : ¬ (y10 = 0) := ne_of_beq_false_ q17
          refine xB 4 [] [(0, vs Al l cl), (1, vs Ap p cp), (4, vp b1 0), (6, vp b5 0), (53, vb false), (61, vb false)] ?_
          refine wpq_re 61 (v := vb false) (Value.bool (((y10 == 0) && (((List.getD p 8 0).toNat : Int) != 1)))) (by kernel_rfl) (re_and0 q17) ?_
          exact wpq_sub _ (by kernel_rfl) hk22
        ·refine xB 1 [] [(0, vs Al l cl), (1, vs Ap p cp), (4, vp b1 0), (6, vp b5 0), (62, vb ((y10 == 0) && (((List.getD p 8 0).toNat : Int) != 1)))] ?_
         refine wpq_re 62 (v := vb ((y10 == 0) && (((List.getD p 8 0).toNat : Int) != 1))) (Value.bool (((((decide (y10 < 0) || decide (y10 > 4611686018427387904)) || decide (((List.getD p 8 0).toNat : Int) < 1)) || decide (((List.getD p 8 0).toNat : Int) > 8)) || ((y10 == 0) && (((List.getD p 8 0).toNat : Int) != 1))))) (by kernel_rfl) (re_or0 q16) ?_
         exact wpq_sub _ (by kernel_rfl) hk18
      ·refine xRe ?_
       refine wpq_then ?_
       refine xCd (((((decide (y10 < 0) || decide (y10 > 4611686018427387904)) || decide (((List.getD p 8 0).toNat : Int) < 1)) || decide (((List.getD p 8 0).toNat : Int) > 8)) || ((y10 == 0) && (((List.getD p 8 0).toNat : Int) != 1)))) (fun h18 => ?_) (fun h18 => ?_)
       ·have hS := cond_T h18 hS
        refine xSq ?_
        refine xRg ?_
        refine xBo 3 [(1, 3)] [some ⟨b5, 57, (cRBoard ({ y2.1 with steps := y10, phase := ((List.getD p 8 0).toNat : Int) }) A2_0_defs c2_0_defs A2_0_onset c2_0_onset A2_0_acked c2_0_acked)⟩, k2_0_onset, k2_0_acked, some ⟨b1, 57, (cRBoard (⟨([] : List AlertDef), 0, 0, ([] : List Int), ([] : List Bool)⟩ : RBoard) none 0 none 0 none 0)⟩] [(4, vp b1 0), (5, vi 4)] ?_
        refine xRe ?_
        refine wpq_then ?_
        have eS := (Option.some.inj hS).symm
        subst eS
        exact xRetC [none, none] [(4, 3)] (e4.trans e12) ⟨none, 0, none, 0, none, none, 0, none, by kernel_rfl, by kernel_rfl, Arr.nil, Buf.nil, Buf.nil⟩ (fun _ _ h => h)
       ·have hS := cond_F h18 hS
        have h18l := (or_false_ h18).1
        have h18r := (or_false_ h18).2
        have h18ll := (or_false_ h18l).1
        have h18lr := (or_false_ h18l).2
        have h18lll := (or_false_ h18ll).1
        have h18llr := (or_false_ h18ll).2
        have h18llll := (or_false_ h18lll).1
        have h18lllr := (or_false_ h18lll).2
        have h18llllp := of_decide_eq_false h18llll
        have h18lllrp := of_decide_eq_false h18lllr
        have h18llrp := of_decide_eq_false h18llr
        have h18lrp := of_decide_eq_false h18lr
        refine xSk ?_
        refine wpq_then ?_
        refine xSub [(0, vs Al l cl), (1, vs Ap p cp), (4, vp b1 0), (6, vp b5 0)] ?_
        refine xSq ?_
        refine xSq ?_
        refine xRg ?_
        refine xB 3 [] [(1, vs Ap p cp), (4, vp b1 0), (6, vp b5 0), (65, vi (((l).length : Nat) : Int)), (66, vi 0)] ?_
        refine xRe ?_
        refine wpq_then ?_
        refine xJoinO hS (fun g own sl t19 => ∃ (k19_0 : Option Bk) (k19_1 : Option Bk), own = [some ⟨b5, 57, (cRBoard (⟨y2.1.defs, y10, ((List.getD p 8 0).toNat : Int), t19.1, t19.2⟩ : RBoard) A2_0_defs c2_0_defs A2_0_onset c2_0_onset A2_0_acked c2_0_acked)⟩, some ⟨b1, 57, (cRBoard (⟨([] : List AlertDef), 0, 0, ([] : List Int), ([] : List Bool)⟩ : RBoard) none 0 none 0 none 0)⟩, k19_0, k19_1] ∧ sl = [(4, vp b1 0), (6, vp b5 0)] ∧ Buf g.b (tyI .i64) 2 (.slice A2_0_onset (t19.1).length c2_0_onset) k19_0 t19.1 ∧ Buf g.b tyB 4 (.slice A2_0_acked (t19.2).length c2_0_acked) k19_1 t19.2) ?_ ?_
        ·rintro g20 _ _ t19 e21 ⟨k19_0, k19_1, rfl, rfl, h19_0, h19_1⟩ hS
         have nh19_0 := h19_0.len
         have nh19_1 := h19_1.len
         refine wpq_then ?_
         refine xSq ?_
         refine xRg ?_
         refine xBo 3 [(0, 0), (1, 1)] [some ⟨b5, 57, (cRBoard (⟨y2.1.defs, y10, ((List.getD p 8 0).toNat : Int), t19.1, t19.2⟩ : RBoard) A2_0_defs c2_0_defs A2_0_onset c2_0_onset A2_0_acked c2_0_acked)⟩, some ⟨b1, 57, (cRBoard (⟨y2.1.defs, y10, ((List.getD p 8 0).toNat : Int), t19.1, t19.2⟩ : RBoard) A2_0_defs c2_0_defs A2_0_onset c2_0_onset A2_0_acked c2_0_acked)⟩, k19_0, k19_1] [(4, vp b1 0), (5, vi 0)] ?_
         refine xRe ?_
         refine wpq_then ?_
         have f2_0_defs := f2_0_defs.mono (e12.trans e21).b
         have eS := (Option.some.inj hS).symm
         subst eS
         exact xRetC [some 2, some 3] [(4, 1)] (e4.trans (e12.trans e21)) ⟨A2_0_defs, c2_0_defs, A2_0_onset, c2_0_onset, k19_0, A2_0_acked, c2_0_acked, k19_1, by kernel_rfl, by kernel_rfl, f2_0_defs, h19_0, h19_1⟩ (fun _ _ h => h)
        ·intro uu19 hS hN19 hD19
         refine xBl 0 ?_
         have h2_0_onset := h2_0_onset.mono e12.b
         have h2_0_acked := h2_0_acked.mono e12.b
         refine xSel [some 0, some 3, some 1, some 2] ?_
         refine xSub [(1, vs Ap p cp), (4, vp b1 0), (6, vp b5 0), (65, vi (((l).length : Nat) : Int)), (66, vi 0)] ?_
         refine xLo hS (fun g own sl s24 => ∃ (k24_1 : Option Bk) (k24_2 : Option Bk), own = [some ⟨b5, 57, (cRBoard (⟨y2.1.defs, y10, ((List.getD p 8 0).toNat : Int), s24.2.1, s24.2.2⟩ : RBoard) A2_0_defs c2_0_defs A2_0_onset c2_0_onset A2_0_acked c2_0_acked)⟩, some ⟨b1, 57, (cRBoard (⟨([] : List AlertDef), 0, 0, ([] : List Int), ([] : List Bool)⟩ : RBoard) none 0 none 0 none 0)⟩, k24_1, k24_2] ∧ sl = [(1, vs Ap p cp), (4, vp b1 0), (6, vp b5 0), (65, vi (((l).length : Nat) : Int)), (66, vi ((s24.1 : Nat) : Int))] ∧ Buf g.b (tyI .i64) 2 (.slice A2_0_onset (s24.2.1).length c2_0_onset) k24_1 s24.2.1 ∧ Buf g.b tyB 4 (.slice A2_0_acked (s24.2.2).length c2_0_acked) k24_2 s24.2.2) ⟨k2_0_onset, k2_0_acked, by kernel_rfl, by kernel_rfl, h2_0_onset, h2_0_acked⟩ ?_
         rintro g25 _ _ s24 uu24 e26 ⟨k24_1, k24_2, rfl, rfl, h24_1, h24_2⟩ hS Qr24 hN24 hD24
         have nh24_1 := h24_1.len
         have nh24_2 := h24_2.len
         unfold o26_L0 at hS
         refine xSq ?_
         refine xRg ?_
         refine xB 1 [] [(1, vs Ap p cp), (4, vp b1 0), (6, vp b5 0), (65, vi (((l).length : Nat) : Int)), (66, vi ((s24.1 : Nat) : Int)), (67, vb (decide (((s24.1 : Nat) : Int) < (((l).length : Nat) : Int))))] ?_
         refine xRe ?_
         refine wpq_then ?_
         refine xSq ?_
         refine xCd (decide (((s24.1 : Nat) : Int) < (((l).length : Nat) : Int))) (fun h27 => ?_) (fun h27 => ?_)
         ·have hS := cond_T h27 hS
          have h27p := of_decide_eq_true h27
          refine xSk ?_
          refine wpq_then ?_
          refine xSub [(1, vs Ap p cp), (4, vp b1 0), (6, vp b5 0), (65, vi (((l).length : Nat) : Int)), (66, vi ((s24.1 : Nat) : Int))] ?_
          refine xSq ?_
          refine xBl 1 ?_
          refine xSq ?_
          refine xRg ?_
          refine xB 2 [] [(1, vs Ap p cp), (4, vp b1 0), (6, vp b5 0), (8, vi ((s24.1 : Nat) : Int)), (65, vi (((l).length : Nat) : Int)), (66, vi ((s24.1 : Nat) : Int))] ?_
          refine xRe ?_
          refine wpq_then ?_
          refine xSq ?_
          refine xRg ?_
          have z45 := i64_in_ (9 * ((s24.1 : Nat) : Int))
          have z46 := i64_in_ (9 + (IntKind.i64.wrap (9 * ((s24.1 : Nat) : Int))))
          have fp := fp.mono (e12.trans e26).r
          obtain ⟨q29, hS⟩ := grd_T hS
          have q29p := of_decide_eq_true q29
          have i30 : ((IntKind.i64.wrap (9 + (IntKind.i64.wrap (9 * ((s24.1 : Nat) : Int)))))).toNat < (p).length := by omega
          obtain ⟨ad28, cs28, hA28, hr28, hc28⟩ := fp.at_ (get_getD (d := 0) i30)
          have hr28 : cs28 = [vy ((List.getD p ((IntKind.i64.wrap (9 + (IntKind.i64.wrap (9 * ((s24.1 : Nat) : Int)))))).toNat 0).toNat : Int)] := hr28
          subst hr28
          have nb28 := UInt8.toNat_lt (List.getD p ((IntKind.i64.wrap (9 + (IntKind.i64.wrap (9 * ((s24.1 : Nat) : Int)))))).toNat 0)
          refine xB 4 [] [(1, vs Ap p cp), (4, vp b1 0), (6, vp b5 0), (8, vi ((s24.1 : Nat) : Int)), (65, vi (((l).length : Nat) : Int)), (66, vi ((s24.1 : Nat) : Int)), (69, vs Ap p cp), (72, vi (IntKind.i64.wrap (9 + (IntKind.i64.wrap (9 * ((s24.1 : Nat) : Int))))))] ?_
          refine xV (qIx ((IntKind.i64.wrap (9 + (IntKind.i64.wrap (9 * ((s24.1 : Nat) : Int)))))).toNat 1 hA28 (show ((IntKind.i64.wrap (9 + (IntKind.i64.wrap (9 * ((s24.1 : Nat) : Int))))) : Int) = _ from by omega) i30) ?_
          refine xV (qLdP (Addr.add ad28 (((IntKind.i64.wrap (9 + (IntKind.i64.wrap (9 * ((s24.1 : Nat) : Int)))))).toNat * 1)) 0 hc28) ?_
          refine xB 1 [] [(1, vs Ap p cp), (4, vp b1 0), (6, vp b5 0), (8, vi ((s24.1 : Nat) : Int)), (9, vy ((List.getD p ((IntKind.i64.wrap (9 + (IntKind.i64.wrap (9 * ((s24.1 : Nat) : Int)))))).toNat 0).toNat : Int)), (65, vi (((l).length : Nat) : Int)), (66, vi ((s24.1 : Nat) : Int))] ?_
          refine xRe ?_
          refine wpq_then ?_
          refine xSq ?_
          refine xRg ?_
          have z47 := i64_in_ (9 * ((s24.1 : Nat) : Int))
          have z48 := i64_in_ (10 + (IntKind.i64.wrap (9 * ((s24.1 : Nat) : Int))))
          obtain ⟨q31, hS⟩ := grd_T hS
          have q31p := of_decide_eq_true q31
          have ncapf32 := fp.cap
          have f32 : Arr g25.r tyU8 (offA Ap cp ((IntKind.i64.wrap (10 + (IntKind.i64.wrap (9 * ((s24.1 : Nat) : Int)))))).toNat 1) (cp - ((IntKind.i64.wrap (10 + (IntKind.i64.wrap (9 * ((s24.1 : Nat) : Int)))))).toNat) (List.drop ((IntKind.i64.wrap (10 + (IntKind.i64.wrap (9 * ((s24.1 : Nat) : Int)))))).toNat p) := fp.cut_from ((IntKind.i64.wrap (10 + (IntKind.i64.wrap (9 * ((s24.1 : Nat) : Int)))))).toNat (by omega)
          have nf32 := f32.len
          have hlf32 : (p).length - ((IntKind.i64.wrap (10 + (IntKind.i64.wrap (9 * ((s24.1 : Nat) : Int)))))).toNat = ((List.drop ((IntKind.i64.wrap (10 + (IntKind.i64.wrap (9 * ((s24.1 : Nat) : Int)))))).toNat p)).length := by simp only [List.length_take, List.length_drop] <;> omega
          have hvf32 : ((((List.drop ((IntKind.i64.wrap (10 + (IntKind.i64.wrap (9 * ((s24.1 : Nat) : Int)))))).toNat p)).length : Nat) : Int) = (((p).length : Nat) : Int) - (IntKind.i64.wrap (10 + (IntKind.i64.wrap (9 * ((s24.1 : Nat) : Int))))) := by omega
          refine xB 4 [] [(1, vs Ap p cp), (4, vp b1 0), (6, vp b5 0), (8, vi ((s24.1 : Nat) : Int)), (9, vy ((List.getD p ((IntKind.i64.wrap (9 + (IntKind.i64.wrap (9 * ((s24.1 : Nat) : Int)))))).toNat 0).toNat : Int)), (65, vi (((l).length : Nat) : Int)), (66, vi ((s24.1 : Nat) : Int)), (75, vs Ap p cp), (78, vi (IntKind.i64.wrap (10 + (IntKind.i64.wrap (9 * ((s24.1 : Nat) : Int))))))] ?_
          refine xV (qSl (m := 1) (A := Ap) (len := (p).length) (c := cp) ((IntKind.i64.wrap (10 + (IntKind.i64.wrap (9 * ((s24.1 : Nat) : Int)))))).toNat (p).length (some (IntKind.i64.wrap (10 + (IntKind.i64.wrap (9 * ((s24.1 : Nat) : Int)))))) none ((List.drop ((IntKind.i64.wrap (10 + (IntKind.i64.wrap (9 * ((s24.1 : Nat) : Int)))))).toNat p)).length (show _ = _ by omega) rfl (by omega) (by omega) hlf32) ?_
          obtain ⟨y33, hy33, hS⟩ := bindO_T hS
          refine xE (eC 0 (fun g' lr eb ln => c49 g' ((List.drop ((IntKind.i64.wrap (10 + (IntKind.i64.wrap (9 * ((s24.1 : Nat) : Int)))))).toNat p) : List UInt8) (offA Ap cp ((IntKind.i64.wrap (10 + (IntKind.i64.wrap (9 * ((s24.1 : Nat) : Int)))))).toNat 1) (cp - ((IntKind.i64.wrap (10 + (IntKind.i64.wrap (9 * ((s24.1 : Nat) : Int)))))).toNat) (f32.mono lr) hy33)) ?_
          rintro _ g34 _ e35 ⟨_, rfl, rfl, rfl⟩
          refine xB 1 [] [(1, vs Ap p cp), (4, vp b1 0), (6, vp b5 0), (8, vi ((s24.1 : Nat) : Int)), (9, vy ((List.getD p ((IntKind.i64.wrap (9 + (IntKind.i64.wrap (9 * ((s24.1 : Nat) : Int)))))).toNat 0).toNat : Int)), (10, vi y33), (65, vi (((l).length : Nat) : Int)), (66, vi ((s24.1 : Nat) : Int))] ?_
          refine xRe ?_
          refine wpq_then ?_
          refine xSq ?_
          refine xSq ?_
          refine xRg ?_
          refine xB 3 [] [(1, vs Ap p cp), (4, vp b1 0), (6, vp b5 0), (8, vi ((s24.1 : Nat) : Int)), (9, vy ((List.getD p ((IntKind.i64.wrap (9 + (IntKind.i64.wrap (9 * ((s24.1 : Nat) : Int)))))).toNat 0).toNat : Int)), (10, vi y33), (65, vi (((l).length : Nat) : Int)), (66, vi ((s24.1 : Nat) : Int)), (83, vb (((List.getD p ((IntKind.i64.wrap (9 + (IntKind.i64.wrap (9 * ((s24.1 : Nat) : Int)))))).toNat 0).toNat : Int) != 0))] ?_
          refine wpr_grp 6 [(1, vs Ap p cp), (4, vp b1 0), (6, vp b5 0), (8, vi ((s24.1 : Nat) : Int)), (9, vy ((List.getD p ((IntKind.i64.wrap (9 + (IntKind.i64.wrap (9 * ((s24.1 : Nat) : Int)))))).toNat 0).toNat : Int)), (10, vi y33), (65, vi (((l).length : Nat) : Int)), (66, vi ((s24.1 : Nat) : Int)), (86, vb ((((List.getD p ((IntKind.i64.wrap (9 + (IntKind.i64.wrap (9 * ((s24.1 : Nat) : Int)))))).toNat 0).toNat : Int) != 0) && (((List.getD p ((IntKind.i64.wrap (9 + (IntKind.i64.wrap (9 * ((s24.1 : Nat) : Int)))))).toNat 0).toNat : Int) != 1)))] (fun hk2 => ?_) ?_
          ·refine wpq_split 83 (b := (((List.getD p ((IntKind.i64.wrap (9 + (IntKind.i64.wrap (9 * ((s24.1 : Nat) : Int)))))).toNat 0).toNat : Int) != 0)) (by kernel_rfl) (fun q36 => ?_) (fun q36 => ?_)
           ·have q36p : ¬ (((List.getD p ((IntKind.i64.wrap (9 + (IntKind.i64.wrap (9 * ((s24.1 : Nat) : Int)))))).toNat 0).toNat : Int) = 0) := ne_of_bne_ q36
            refine xB 3 [] [(1, vs Ap p cp), (4, vp b1 0), (6, vp b5 0), (8, vi ((s24.1 : Nat) : Int)), (9, vy ((List.getD p ((IntKind.i64.wrap (9 + (IntKind.i64.wrap (9 * ((s24.1 : Nat) : Int)))))).toNat 0).toNat : Int)), (10, vi y33), (65, vi (((l).length : Nat) : Int)), (66, vi ((s24.1 : Nat) : Int)), (86, vb (((List.getD p ((IntKind.i64.wrap (9 + (IntKind.i64.wrap (9 * ((s24.1 : Nat) : Int)))))).toNat 0).toNat : Int) != 1))] ?_
            refine wpq_re 86 (v := vb (((List.getD p ((IntKind.i64.wrap (9 + (IntKind.i64.wrap (9 * ((s24.1 : Nat) : Int)))))).toNat 0).toNat : Int) != 1)) (Value.bool (((((List.getD p ((IntKind.i64.wrap (9 + (IntKind.i64.wrap (9 * ((s24.1 : Nat) : Int)))))).toNat 0).toNat : Int) != 0) && (((List.getD p ((IntKind.i64.wrap (9 + (IntKind.i64.wrap (9 * ((s24.1 : Nat) : Int)))))).toNat 0).toNat : Int) != 1)))) (by kernel_rfl) (re_and1 q36) ?_
            exact wpq_sub _ (by kernel_rfl) hk2
           ·have q36p : ((List.getD p ((IntKind.i64.wrap (9 + (IntKind.i64.wrap (9 * ((s24.1 : Nat) : Int)))))).toNat 0).toNat : Int) = 0 := eq_of_bne_false_ q36
            refine xB 3 [] [(1, vs Ap p cp), (4, vp b1 0), (6, vp b5 0), (8, vi ((s24.1 : Nat) : Int)), (9, vy ((List.getD p ((IntKind.i64.wrap (9 + (IntKind.i64.wrap (9 * ((s24.1 : Nat) : Int)))))).toNat 0).toNat : Int)), (10, vi y33), (65, vi (((l).length : Nat) : Int)), (66, vi ((s24.1 : Nat) : Int)), (86, vb false)] ?_
            refine wpq_re 86 (v := vb false) (Value.bool (((((List.getD p ((IntKind.i64.wrap (9 + (IntKind.i64.wrap (9 * ((s24.1 : Nat) : Int)))))).toNat 0).toNat : Int) != 0) && (((List.getD p ((IntKind.i64.wrap (9 + (IntKind.i64.wrap (9 * ((s24.1 : Nat) : Int)))))).toNat 0).toNat : Int) != 1)))) (by kernel_rfl) (re_and0 q36) ?_
            exact wpq_sub _ (by kernel_rfl) hk2
          ·refine xB 1 [] [(1, vs Ap p cp), (4, vp b1 0), (6, vp b5 0), (8, vi ((s24.1 : Nat) : Int)), (9, vy ((List.getD p ((IntKind.i64.wrap (9 + (IntKind.i64.wrap (9 * ((s24.1 : Nat) : Int)))))).toNat 0).toNat : Int)), (10, vi y33), (65, vi (((l).length : Nat) : Int)), (66, vi ((s24.1 : Nat) : Int)), (87, vb ((((List.getD p ((IntKind.i64.wrap (9 + (IntKind.i64.wrap (9 * ((s24.1 : Nat) : Int)))))).toNat 0).toNat : Int) != 0) && (((List.getD p ((IntKind.i64.wrap (9 + (IntKind.i64.wrap (9 * ((s24.1 : Nat) : Int)))))).toNat 0).toNat : Int) != 1)))] ?_
           refine wpr_grp 10 [(1, vs Ap p cp), (4, vp b1 0), (6, vp b5 0), (8, vi ((s24.1 : Nat) : Int)), (9, vy ((List.getD p ((IntKind.i64.wrap (9 + (IntKind.i64.wrap (9 * ((s24.1 : Nat) : Int)))))).toNat 0).toNat : Int)), (10, vi y33), (65, vi (((l).length : Nat) : Int)), (66, vi ((s24.1 : Nat) : Int)), (90, vb (((((List.getD p ((IntKind.i64.wrap (9 + (IntKind.i64.wrap (9 * ((s24.1 : Nat) : Int)))))).toNat 0).toNat : Int) != 0) && (((List.getD p ((IntKind.i64.wrap (9 + (IntKind.i64.wrap (9 * ((s24.1 : Nat) : Int)))))).toNat 0).toNat : Int) != 1)) && (((List.getD p ((IntKind.i64.wrap (9 + (IntKind.i64.wrap (9 * ((s24.1 : Nat) : Int)))))).toNat 0).toNat : Int) != 3)))] (fun hk6 => ?_) ?_
           ·refine wpq_split 87 (b := ((((List.getD p ((IntKind.i64.wrap (9 + (IntKind.i64.wrap (9 * ((s24.1 : Nat) : Int)))))).toNat 0).toNat : Int) != 0) && (((List.getD p ((IntKind.i64.wrap (9 + (IntKind.i64.wrap (9 * ((s24.1 : Nat) : Int)))))).toNat 0).toNat : Int) != 1))) (by kernel_rfl) (fun q37 => ?_) (fun q37 => ?_)
            ·have q37l := (and_true_ q37).1
             have q37r := (and_true_ q37).2
             have q37lp : ¬ (((List.getD p ((IntKind.i64.wrap (9 + (IntKind.i64.wrap (9 * ((s24.1 : Nat) : Int)))))).toNat 0).toNat : Int) = 0) := ne_of_bne_ q37l
             have q37rp : ¬ (((List.getD p ((IntKind.i64.wrap (9 + (IntKind.i64.wrap (9 * ((s24.1 : Nat) : Int)))))).toNat 0).toNat : Int) = 1) := ne_of_bne_ q37r
             refine xB 3 [] [(1, vs Ap p cp), (4, vp b1 0), (6, vp b5 0), (8, vi ((s24.1 : Nat) : Int)), (9, vy ((List.getD p ((IntKind.i64.wrap (9 + (IntKind.i64.wrap (9 * ((s24.1 : Nat) : Int)))))).toNat 0).toNat : Int)), (10, vi y33), (65, vi (((l).length : Nat) : Int)), (66, vi ((s24.1 : Nat) : Int)), (90, vb (((List.getD p ((IntKind.i64.wrap (9 + (IntKind.i64.wrap (9 * ((s24.1 : Nat) : Int)))))).toNat 0).toNat : Int) != 3))] ?_
             refine wpq_re 90 (v := vb (((List.getD p ((IntKind.i64.wrap (9 + (IntKind.i64.wrap (9 * ((s24.1 : Nat) : Int)))))).toNat 0).toNat : Int) != 3)) (Value.bool ((((((List.getD p ((IntKind.i64.wrap (9 + (IntKind.i64.wrap (9 * ((s24.1 : Nat) : Int)))))).toNat 0).toNat : Int) != 0) && (((List.getD p ((IntKind.i64.wrap (9 + (IntKind.i64.wrap (9 * ((s24.1 : Nat) : Int)))))).toNat 0).toNat : Int) != 1)) && (((List.getD p ((IntKind.i64.wrap (9 + (IntKind.i64.wrap (9 * ((s24.1 : Nat) : Int)))))).toNat 0).toNat : Int) != 3)))) (by kernel_rfl) (re_and1 q37) ?_
             exact wpq_sub _ (by kernel_rfl) hk6
            ·refine xB 3 [] [(1, vs Ap p cp), (4, vp b1 0), (6, vp b5 0), (8, vi ((s24.1 : Nat) : Int)), (9, vy ((List.getD p ((IntKind.i64.wrap (9 + (IntKind.i64.wrap (9 * ((s24.1 : Nat) : Int)))))).toNat 0).toNat : Int)), (10, vi y33), (65, vi (((l).length : Nat) : Int)), (66, vi ((s24.1 : Nat) : Int)), (90, vb false)] ?_
             refine wpq_re 90 (v := vb false) (Value.bool ((((((List.getD p ((IntKind.i64.wrap (9 + (IntKind.i64.wrap (9 * ((s24.1 : Nat) : Int)))))).toNat 0).toNat : Int) != 0) && (((List.getD p ((IntKind.i64.wrap (9 + (IntKind.i64.wrap (9 * ((s24.1 : Nat) : Int)))))).toNat 0).toNat : Int) != 1)) && (((List.getD p ((IntKind.i64.wrap (9 + (IntKind.i64.wrap (9 * ((s24.1 : Nat) : Int)))))).toNat 0).toNat : Int) != 3)))) (by kernel_rfl) (re_and0 q37) ?_
             exact wpq_sub _ (by kernel_rfl) hk6
           ·refine xB 1 [] [(1, vs Ap p cp), (4, vp b1 0), (6, vp b5 0), (8, vi ((s24.1 : Nat) : Int)), (9, vy ((List.getD p ((IntKind.i64.wrap (9 + (IntKind.i64.wrap (9 * ((s24.1 : Nat) : Int)))))).toNat 0).toNat : Int)), (10, vi y33), (65, vi (((l).length : Nat) : Int)), (66, vi ((s24.1 : Nat) : Int)), (91, vb (((((List.getD p ((IntKind.i64.wrap (9 + (IntKind.i64.wrap (9 * ((s24.1 : Nat) : Int)))))).toNat 0).toNat : Int) != 0) && (((List.getD p ((IntKind.i64.wrap (9 + (IntKind.i64.wrap (9 * ((s24.1 : Nat) : Int)))))).toNat 0).toNat : Int) != 1)) && (((List.getD p ((IntKind.i64.wrap (9 + (IntKind.i64.wrap (9 * ((s24.1 : Nat) : Int)))))).toNat 0).toNat : Int) != 3)))] ?_
            refine wpr_grp 18 [(1, vs Ap p cp), (4, vp b1 0), (6, vp b5 0), (8, vi ((s24.1 : Nat) : Int)), (9, vy ((List.getD p ((IntKind.i64.wrap (9 + (IntKind.i64.wrap (9 * ((s24.1 : Nat) : Int)))))).toNat 0).toNat : Int)), (10, vi y33), (65, vi (((l).length : Nat) : Int)), (66, vi ((s24.1 : Nat) : Int)), (98, vb ((((((List.getD p ((IntKind.i64.wrap (9 + (IntKind.i64.wrap (9 * ((s24.1 : Nat) : Int)))))).toNat 0).toNat : Int) != 0) && (((List.getD p ((IntKind.i64.wrap (9 + (IntKind.i64.wrap (9 * ((s24.1 : Nat) : Int)))))).toNat 0).toNat : Int) != 1)) && (((List.getD p ((IntKind.i64.wrap (9 + (IntKind.i64.wrap (9 * ((s24.1 : Nat) : Int)))))).toNat 0).toNat : Int) != 3)) || ((((List.getD p ((IntKind.i64.wrap (9 + (IntKind.i64.wrap (9 * ((s24.1 : Nat) : Int)))))).toNat 0).toNat : Int) == 0) && (y33 != 0))))] (fun hk10 => ?_) ?_
            ·refine wpq_split 91 (b := (((((List.getD p ((IntKind.i64.wrap (9 + (IntKind.i64.wrap (9 * ((s24.1 : Nat) : Int)))))).toNat 0).toNat : Int) != 0) && (((List.getD p ((IntKind.i64.wrap (9 + (IntKind.i64.wrap (9 * ((s24.1 : Nat) : Int)))))).toNat 0).toNat : Int) != 1)) && (((List.getD p ((IntKind.i64.wrap (9 + (IntKind.i64.wrap (9 * ((s24.1 : Nat) : Int)))))).toNat 0).toNat : Int) != 3))) (by kernel_rfl) (fun q38 => ?_) (fun q38 => ?_)
             ·have q38l := (and_true_ q38).1
              have q38r := (and_true_ q38).2
              have q38ll := (and_true_ q38l).1
              have q38lr := (and_true_ q38l).2
              have q38llp : ¬ (((List.getD p ((IntKind.i64.wrap (9 + (IntKind.i64.wrap (9 * ((s24.1 : Nat) : Int)))))).toNat 0).toNat : Int) = 0) := ne_of_bne_ q38ll
              have q38lrp : ¬ (((List.getD p ((IntKind.i64.wrap (9 + (IntKind.i64.wrap (9 * ((s24.1 : Nat) : Int)))))).toNat 0).toNat : Int) = 1) := ne_of_bne_ q38lr
              have q38rp : ¬ (((List.getD p ((IntKind.i64.wrap (9 + (IntKind.i64.wrap (9 * ((s24.1 : Nat) : Int)))))).toNat 0).toNat : Int) = 3) := ne_of_bne_ q38r
              refine xB 7 [] [(1, vs Ap p cp), (4, vp b1 0), (6, vp b5 0), (8, vi ((s24.1 : Nat) : Int)), (9, vy ((List.getD p ((IntKind.i64.wrap (9 + (IntKind.i64.wrap (9 * ((s24.1 : Nat) : Int)))))).toNat 0).toNat : Int)), (10, vi y33), (65, vi (((l).length : Nat) : Int)), (66, vi ((s24.1 : Nat) : Int)), (98, vb true)] ?_
              refine wpq_re 98 (v := vb true) (Value.bool (((((((List.getD p ((IntKind.i64.wrap (9 + (IntKind.i64.wrap (9 * ((s24.1 : Nat) : Int)))))).toNat 0).toNat : Int) != 0) && (((List.getD p ((IntKind.i64.wrap (9 + (IntKind.i64.wrap (9 * ((s24.1 : Nat) : Int)))))).toNat 0).toNat : Int) != 1)) && (((List.getD p ((IntKind.i64.wrap (9 + (IntKind.i64.wrap (9 * ((s24.1 : Nat) : Int)))))).toNat 0).toNat : Int) != 3)) || ((((List.getD p ((IntKind.i64.wrap (9 + (IntKind.i64.wrap (9 * ((s24.1 : Nat) : Int)))))).toNat 0).toNat : Int) == 0) && (y33 != 0))))) (by kernel_rfl) (re_or1 q38) ?_
              exact wpq_sub _ (by kernel_rfl) hk10
             ·refine xB 3 [] [(1, vs Ap p cp), (4, vp b1 0), (6, vp b5 0), (8, vi ((s24.1 : Nat) : Int)), (9, vy ((List.getD p ((IntKind.i64.wrap (9 + (IntKind.i64.wrap (9 * ((s24.1 : Nat) : Int)))))).toNat 0).toNat : Int)), (10, vi y33), (65, vi (((l).length : Nat) : Int)), (66, vi ((s24.1 : Nat) : Int)), (91, vb false), (94, vb (((List.getD p ((IntKind.i64.wrap (9 + (IntKind.i64.wrap (9 * ((s24.1 : Nat) : Int)))))).toNat 0).toNat : Int) == 0))] ?_
              refine wpr_grp 17 [(1, vs Ap p cp), (4, vp b1 0), (6, vp b5 0), (8, vi ((s24.1 : Nat) : Int)), (9, vy ((List.getD p ((IntKind.i64.wrap (9 + (IntKind.i64.wrap (9 * ((s24.1 : Nat) : Int)))))).toNat 0).toNat : Int)), (10, vi y33), (65, vi (((l).length : Nat) : Int)), (66, vi ((s24.1 : Nat) : Int)), (91, vb false), (97, vb ((((List.getD p ((IntKind.i64.wrap (9 + (IntKind.i64.wrap (9 * ((s24.1 : Nat) : Int)))))).toNat 0).toNat : Int) == 0) && (y33 != 0)))] (fun hk13 => ?_) ?_
              ·refine wpq_split 94 (b := (((List.getD p ((IntKind.i64.wrap (9 + (IntKind.i64.wrap (9 * ((s24.1 : Nat) : Int)))))).toNat 0).toNat : Int) == 0)) (by kernel_rfl) (fun q39 => ?_) (fun q39 => ?_)
               ·have q39p : ((List.getD p ((IntKind.i64.wrap (9 + (IntKind.i64.wrap (9 * ((s24.1 : Nat) : Int)))))).toNat 0).toNat : Int) = 0 := eq_of_beq q39
                refine xB 3 [] [(1, vs Ap p cp), (4, vp b1 0), (6, vp b5 0), (8, vi ((s24.1 : Nat) : Int)), (9, vy ((List.getD p ((IntKind.i64.wrap (9 + (IntKind.i64.wrap (9 * ((s24.1 : Nat) : Int)))))).toNat 0).toNat : Int)), (10, vi y33), (65, vi (((l).length : Nat) : Int)), (66, vi ((s24.1 : Nat) : Int)), (91, vb false), (97, vb (y33 != 0))] ?_
                refine wpq_re 97 (v := vb (y33 != 0)) (Value.bool (((((List.getD p ((IntKind.i64.wrap (9 + (IntKind.i64.wrap (9 * ((s24.1 : Nat) : Int)))))).toNat 0).toNat : Int) == 0) && (y33 != 0)))) (by kernel_rfl) (re_and1 q39) ?_
                exact wpq_sub _ (by kernel_rfl) hk13
               ·have q39p : ¬ (((List.getD p ((IntKind.i64.wrap (9 + (IntKind.i64.wrap (9 * ((s24.1 : Nat) : Int)))))).toNat 0).toNat : Int) = 0) := ne_of_beq_false_ q39
                refine xB 3 [] [(1, vs Ap p cp), (4, vp b1 0), (6, vp b5 0), (8, vi ((s24.1 : Nat) : Int)), (9, vy ((List.getD p ((IntKind.i64.wrap (9 + (IntKind.i64.wrap (9 * ((s24.1 : Nat) : Int)))))).toNat 0).toNat : Int)), (10, vi y33), (65, vi (((l).length : Nat) : Int)), (66, vi ((s24.1 : Nat) : Int)), (91, vb false), (97, vb false)] ?_
                refine wpq_re 97 (v := vb false) (Value.bool (((((List.getD p ((IntKind.i64.wrap (9 + (IntKind.i64.wrap (9 * ((s24.1 : Nat) : Int)))))).toNat 0).toNat : Int) == 0) && (y33 != 0)))) (by kernel_rfl) (re_and0 q39) ?_
                exact wpq_sub _ (by kernel_rfl) hk13
              ·refine xB 1 [] [(1, vs Ap p cp), (4, vp b1 0), (6, vp b5 0), (8, vi ((s24.1 : Nat) : Int)), (9, vy ((List.getD p ((IntKind.i64.wrap (9 + (IntKind.i64.wrap (9 * ((s24.1 : Nat) : Int)))))).toNat 0).toNat : Int)), (10, vi y33), (65, vi (((l).length : Nat) : Int)), (66, vi ((s24.1 : Nat) : Int)), (98, vb ((((List.getD p ((IntKind.i64.wrap (9 + (IntKind.i64.wrap (9 * ((s24.1 : Nat) : Int)))))).toNat 0).toNat : Int) == 0) && (y33 != 0)))] ?_
               refine wpq_re 98 (v := vb ((((List.getD p ((IntKind.i64.wrap (9 + (IntKind.i64.wrap (9 * ((s24.1 : Nat) : Int)))))).toNat 0).toNat : Int) == 0) && (y33 != 0))) (Value.bool (((((((List.getD p ((IntKind.i64.wrap (9 + (IntKind.i64.wrap (9 * ((s24.1 : Nat) : Int)))))).toNat 0).toNat : Int) != 0) && (((List.getD p ((IntKind.i64.wrap (9 + (IntKind.i64.wrap (9 * ((s24.1 : Nat) : Int)))))).toNat 0).toNat : Int) != 1)) && (((List.getD p ((IntKind.i64.wrap (9 + (IntKind.i64.wrap (9 * ((s24.1 : Nat) : Int)))))).toNat 0).toNat : Int) != 3)) || ((((List.getD p ((IntKind.i64.wrap (9 + (IntKind.i64.wrap (9 * ((s24.1 : Nat) : Int)))))).toNat 0).toNat : Int) == 0) && (y33 != 0))))) (by kernel_rfl) (re_or0 q38) ?_
               exact wpq_sub _ (by kernel_rfl) hk10
            ·refine xB 1 [] [(1, vs Ap p cp), (4, vp b1 0), (6, vp b5 0), (8, vi ((s24.1 : Nat) : Int)), (9, vy ((List.getD p ((IntKind.i64.wrap (9 + (IntKind.i64.wrap (9 * ((s24.1 : Nat) : Int)))))).toNat 0).toNat : Int)), (10, vi y33), (65, vi (((l).length : Nat) : Int)), (66, vi ((s24.1 : Nat) : Int)), (99, vb ((((((List.getD p ((IntKind.i64.wrap (9 + (IntKind.i64.wrap (9 * ((s24.1 : Nat) : Int)))))).toNat 0).toNat : Int) != 0) && (((List.getD p ((IntKind.i64.wrap (9 + (IntKind.i64.wrap (9 * ((s24.1 : Nat) : Int)))))).toNat 0).toNat : Int) != 1)) && (((List.getD p ((IntKind.i64.wrap (9 + (IntKind.i64.wrap (9 * ((s24.1 : Nat) : Int)))))).toNat 0).toNat : Int) != 3)) || ((((List.getD p ((IntKind.i64.wrap (9 + (IntKind.i64.wrap (9 * ((s24.1 : Nat) : Int)))))).toNat 0).toNat : Int) == 0) && (y33 != 0))))] ?_
             refine wpr_grp 32 [(1, vs Ap p cp), (4, vp b1 0), (6, vp b5 0), (8, vi ((s24.1 : Nat) : Int)), (9, vy ((List.getD p ((IntKind.i64.wrap (9 + (IntKind.i64.wrap (9 * ((s24.1 : Nat) : Int)))))).toNat 0).toNat : Int)), (10, vi y33), (65, vi (((l).length : Nat) : Int)), (66, vi ((s24.1 : Nat) : Int)), (112, vb (((((((List.getD p ((IntKind.i64.wrap (9 + (IntKind.i64.wrap (9 * ((s24.1 : Nat) : Int)))))).toNat 0).toNat : Int) != 0) && (((List.getD p ((IntKind.i64.wrap (9 + (IntKind.i64.wrap (9 * ((s24.1 : Nat) : Int)))))).toNat 0).toNat : Int) != 1)) && (((List.getD p ((IntKind.i64.wrap (9 + (IntKind.i64.wrap (9 * ((s24.1 : Nat) : Int)))))).toNat 0).toNat : Int) != 3)) || ((((List.getD p ((IntKind.i64.wrap (9 + (IntKind.i64.wrap (9 * ((s24.1 : Nat) : Int)))))).toNat 0).toNat : Int) == 0) && (y33 != 0))) || (decide (((List.getD p ((IntKind.i64.wrap (9 + (IntKind.i64.wrap (9 * ((s24.1 : Nat) : Int)))))).toNat 0).toNat : Int) > 0) && (decide (y33 < 1) || decide (y33 > y10)))))] (fun hk18 => ?_) ?_
             ·refine wpq_split 99 (b := ((((((List.getD p ((IntKind.i64.wrap (9 + (IntKind.i64.wrap (9 * ((s24.1 : Nat) : Int)))))).toNat 0).toNat : Int) != 0) && (((List.getD p ((IntKind.i64.wrap (9 + (IntKind.i64.wrap (9 * ((s24.1 : Nat) : Int)))))).toNat 0).toNat : Int) != 1)) && (((List.getD p ((IntKind.i64.wrap (9 + (IntKind.i64.wrap (9 * ((s24.1 : Nat) : Int)))))).toNat 0).toNat : Int) != 3)) || ((((List.getD p ((IntKind.i64.wrap (9 + (IntKind.i64.wrap (9 * ((s24.1 : Nat) : Int)))))).toNat 0).toNat : Int) == 0) && (y33 != 0)))) (by kernel_rfl) (fun q40 => ?_) (fun q40 => ?_)
              ·refine xB 13 [] [(1, vs Ap p cp), (4, vp b1 0), (6, vp b5 0), (8, vi ((s24.1 : Nat) : Int)), (9, vy ((List.getD p ((IntKind.i64.wrap (9 + (IntKind.i64.wrap (9 * ((s24.1 : Nat) : Int)))))).toNat 0).toNat : Int)), (10, vi y33), (65, vi (((l).length : Nat) : Int)), (66, vi ((s24.1 : Nat) : Int)), (112, vb true)] ?_
               refine wpq_re 112 (v := vb true) (Value.bool ((((((((List.getD p ((IntKind.i64.wrap (9 + (IntKind.i64.wrap (9 * ((s24.1 : Nat) : Int)))))).toNat 0).toNat : Int) != 0) && (((List.getD p ((IntKind.i64.wrap (9 + (IntKind.i64.wrap (9 * ((s24.1 : Nat) : Int)))))).toNat 0).toNat : Int) != 1)) && (((List.getD p ((IntKind.i64.wrap (9 + (IntKind.i64.wrap (9 * ((s24.1 : Nat) : Int)))))).toNat 0).toNat : Int) != 3)) || ((((List.getD p ((IntKind.i64.wrap (9 + (IntKind.i64.wrap (9 * ((s24.1 : Nat) : Int)))))).toNat 0).toNat : Int) == 0) && (y33 != 0))) || (decide (((List.getD p ((IntKind.i64.wrap (9 + (IntKind.i64.wrap (9 * ((s24.1 : Nat) : Int)))))).toNat 0).toNat : Int) > 0) && (decide (y33 < 1) || decide (y33 > y10)))))) (by kernel_rfl) (re_or1 q40) ?_
               exact wpq_sub _ (by kernel_rfl) hk18
              ·have q40l := (or_false_ q40).1
               have q40r := (or_false_ q40).2
               refine xB 3 [] [(1, vs Ap p cp), (4, vp b1 0), (6, vp b5 0), (8, vi ((s24.1 : Nat) : Int)), (9, vy ((List.getD p ((IntKind.i64.wrap (9 + (IntKind.i64.wrap (9 * ((s24.1 : Nat) : Int)))))).toNat 0).toNat : Int)), (10, vi y33), (65, vi (((l).length : Nat) : Int)), (66, vi ((s24.1 : Nat) : Int)), (99, vb false), (102, vb (decide (((List.getD p ((IntKind.i64.wrap (9 + (IntKind.i64.wrap (9 * ((s24.1 : Nat) : Int)))))).toNat 0).toNat : Int) > 0)))] ?_
               refine wpr_grp 31 [(1, vs Ap p cp), (4, vp b1 0), (6, vp b5 0), (8, vi ((s24.1 : Nat) : Int)), (9, vy ((List.getD p ((IntKind.i64.wrap (9 + (IntKind.i64.wrap (9 * ((s24.1 : Nat) : Int)))))).toNat 0).toNat : Int)), (10, vi y33), (65, vi (((l).length : Nat) : Int)), (66, vi ((s24.1 : Nat) : Int)), (99, vb false), (111, vb (decide (((List.getD p ((IntKind.i64.wrap (9 + (IntKind.i64.wrap (9 * ((s24.1 : Nat) : Int)))))).toNat 0).toNat : Int) > 0) && (decide (y33 < 1) || decide (y33 > y10))))] (fun hk21 => ?_) ?_
               ·refine wpq_split 102 (b := decide (((List.getD p ((IntKind.i64.wrap (9 + (IntKind.i64.wrap (9 * ((s24.1 : Nat) : Int)))))).toNat 0).toNat : Int) > 0)) (by kernel_rfl) (fun q41 => ?_) (fun q41 => ?_)
                ·have q41p := of_decide_eq_true q41
                 refine xB 3 [] [(1, vs Ap p cp), (4, vp b1 0), (6, vp b5 0), (8, vi ((s24.1 : Nat) : Int)), (9, vy ((List.getD p ((IntKind.i64.wrap (9 + (IntKind.i64.wrap (9 * ((s24.1 : Nat) : Int)))))).toNat 0).toNat : Int)), (10, vi y33), (65, vi (((l).length : Nat) : Int)), (66, vi ((s24.1 : Nat) : Int)), (99, vb false), (102, vb true), (105, vb (decide (y33 < 1)))] ?_
                 refine wpr_grp 30 [(1, vs Ap p cp), (4, vp b1 0), (6, vp b5 0), (8, vi ((s24.1 : Nat) : Int)), (9, vy ((List.getD p ((IntKind.i64.wrap (9 + (IntKind.i64.wrap (9 * ((s24.1 : Nat) : Int)))))).toNat 0).toNat : Int)), (10, vi y33), (65, vi (((l).length : Nat) : Int)), (66, vi ((s24.1 : Nat) : Int)), (99, vb false), (102, vb true), (110, vb (decide (y33 < 1) || decide (y33 > y10)))] (fun hk24 => ?_) ?_
                 ·refine wpq_split 105 (b := decide (y33 < 1)) (by kernel_rfl) (fun q42 => ?_) (fun q42 => ?_)
                  ·have q42p := of_decide_eq_true q42
                   refine xB 5 [] [(1, vs Ap p cp), (4, vp b1 0), (6, vp b5 0), (8, vi ((s24.1 : Nat) : Int)), (9, vy ((List.getD p ((IntKind.i64.wrap (9 + (IntKind.i64.wrap (9 * ((s24.1 : Nat) : Int)))))).toNat 0).toNat : Int)), (10, vi y33), (65, vi (((l).length : Nat) : Int)), (66, vi ((s24.1 : Nat) : Int)), (99, vb false), (102, vb true), (110, vb true)] ?_
                   refine wpq_re 110 (v := vb true) (Value.bool ((decide (y33 < 1) || decide (y33 > y10)))) (by kernel_rfl) (re_or1 q42) ?_
                   exact wpq_sub _ (by kernel_rfl) hk24
                  ·have q42p := of_decide_eq_false q42
                   refine xB 5 [(27, 0)] [(1, vs Ap p cp), (4, vp b1 0), (6, vp b5 0), (8, vi ((s24.1 : Nat) : Int)), (9, vy ((List.getD p ((IntKind.i64.wrap (9 + (IntKind.i64.wrap (9 * ((s24.1 : Nat) : Int)))))).toNat 0).toNat : Int)), (10, vi y33), (65, vi (((l).length : Nat) : Int)), (66, vi ((s24.1 : Nat) : Int)), (99, vb false), (102, vb true), (110, vb (decide (y33 > y10)))] ?_
                   refine wpq_re 110 (v := vb (decide (y33 > y10))) (Value.bool ((decide (y33 < 1) || decide (y33 > y10)))) (by kernel_rfl) (re_or0 q42) ?_
                   exact wpq_sub _ (by kernel_rfl) hk24
                 ·refine xB 1 [] [(1, vs Ap p cp), (4, vp b1 0), (6, vp b5 0), (8, vi ((s24.1 : Nat) : Int)), (9, vy ((List.getD p ((IntKind.i64.wrap (9 + (IntKind.i64.wrap (9 * ((s24.1 : Nat) : Int)))))).toNat 0).toNat : Int)), (10, vi y33), (65, vi (((l).length : Nat) : Int)), (66, vi ((s24.1 : Nat) : Int)), (99, vb false), (111, vb (decide (y33 < 1) || decide (y33 > y10)))] ?_
                  refine wpq_re 111 (v := vb (decide (y33 < 1) || decide (y33 > y10))) (Value.bool ((decide (((List.getD p ((IntKind.i64.wrap (9 + (IntKind.i64.wrap (9 * ((s24.1 : Nat) : Int)))))).toNat 0).toNat : Int) > 0) && (decide (y33 < 1) || decide (y33 > y10))))) (by kernel_rfl) (re_and1 q41) ?_
                  exact wpq_sub _ (by kernel_rfl) hk21
                ·have q41p := of_decide_eq_false q41
                 refine xB 9 [] [(1, vs Ap p cp), (4, vp b1 0), (6, vp b5 0), (8, vi ((s24.1 : Nat) : Int)), (9, vy ((List.getD p ((IntKind.i64.wrap (9 + (IntKind.i64.wrap (9 * ((s24.1 : Nat) : Int)))))).toNat 0).toNat : Int)), (10, vi y33), (65, vi (((l).length : Nat) : Int)), (66, vi ((s24.1 : Nat) : Int)), (99, vb false), (111, vb false)] ?_
                 refine wpq_re 111 (v := vb false) (Value.bool ((decide (((List.getD p ((IntKind.i64.wrap (9 + (IntKind.i64.wrap (9 * ((s24.1 : Nat) : Int)))))).toNat 0).toNat : Int) > 0) && (decide (y33 < 1) || decide (y33 > y10))))) (by kernel_rfl) (re_and0 q41) ?_
                 exact wpq_sub _ (by kernel_rfl) hk21
               ·refine xB 1 [] [(1, vs Ap p cp), (4, vp b1 0), (6, vp b5 0), (8, vi ((s24.1 : Nat) : Int)), (9, vy ((List.getD p ((IntKind.i64.wrap (9 + (IntKind.i64.wrap (9 * ((s24.1 : Nat) : Int)))))).toNat 0).toNat : Int)), (10, vi y33), (65, vi (((l).length : Nat) : Int)), (66, vi ((s24.1 : Nat) : Int)), (112, vb (decide (((List.getD p ((IntKind.i64.wrap (9 + (IntKind.i64.wrap (9 * ((s24.1 : Nat) : Int)))))).toNat 0).toNat : Int) > 0) && (decide (y33 < 1) || decide (y33 > y10))))] ?_
                refine wpq_re 112 (v := vb (decide (((List.getD p ((IntKind.i64.wrap (9 + (IntKind.i64.wrap (9 * ((s24.1 : Nat) : Int)))))).toNat 0).toNat : Int) > 0) && (decide (y33 < 1) || decide (y33 > y10)))) (Value.bool ((((((((List.getD p ((IntKind.i64.wrap (9 + (IntKind.i64.wrap (9 * ((s24.1 : Nat) : Int)))))).toNat 0).toNat : Int) != 0) && (((List.getD p ((IntKind.i64.wrap (9 + (IntKind.i64.wrap (9 * ((s24.1 : Nat) : Int)))))).toNat 0).toNat : Int) != 1)) && (((List.getD p ((IntKind.i64.wrap (9 + (IntKind.i64.wrap (9 * ((s24.1 : Nat) : Int)))))).toNat 0).toNat : Int) != 3)) || ((((List.getD p ((IntKind.i64.wrap (9 + (IntKind.i64.wrap (9 * ((s24.1 : Nat) : Int)))))).toNat 0).toNat : Int) == 0) && (y33 != 0))) || (decide (((List.getD p ((IntKind.i64.wrap (9 + (IntKind.i64.wrap (9 * ((s24.1 : Nat) : Int)))))).toNat 0).toNat : Int) > 0) && (decide (y33 < 1) || decide (y33 > y10)))))) (by kernel_rfl) (re_or0 q40) ?_
                exact wpq_sub _ (by kernel_rfl) hk18
             ·refine xRe ?_
              refine wpq_then ?_
              refine xCd ((((((((List.getD p ((IntKind.i64.wrap (9 + (IntKind.i64.wrap (9 * ((s24.1 : Nat) : Int)))))).toNat 0).toNat : Int) != 0) && (((List.getD p ((IntKind.i64.wrap (9 + (IntKind.i64.wrap (9 * ((s24.1 : Nat) : Int)))))).toNat 0).toNat : Int) != 1)) && (((List.getD p ((IntKind.i64.wrap (9 + (IntKind.i64.wrap (9 * ((s24.1 : Nat) : Int)))))).toNat 0).toNat : Int) != 3)) || ((((List.getD p ((IntKind.i64.wrap (9 + (IntKind.i64.wrap (9 * ((s24.1 : Nat) : Int)))))).toNat 0).toNat : Int) == 0) && (y33 != 0))) || (decide (((List.getD p ((IntKind.i64.wrap (9 + (IntKind.i64.wrap (9 * ((s24.1 : Nat) : Int)))))).toNat 0).toNat : Int) > 0) && (decide (y33 < 1) || decide (y33 > y10))))) (fun h43 => ?_) (fun h43 => ?_)
              ·have hS := cond_T h43 hS
               refine xSq ?_
               refine xRg ?_
               refine xBo 3 [(1, 1)] [some ⟨b5, 57, (cRBoard (⟨y2.1.defs, y10, ((List.getD p 8 0).toNat : Int), s24.2.1, s24.2.2⟩ : RBoard) A2_0_defs c2_0_defs A2_0_onset c2_0_onset A2_0_acked c2_0_acked)⟩, some ⟨b1, 57, (cRBoard (⟨([] : List AlertDef), 0, 0, ([] : List Int), ([] : List Bool)⟩ : RBoard) none 0 none 0 none 0)⟩, k24_1, k24_2] [(4, vp b1 0), (5, vi 4)] ?_
               refine xRe ?_
               refine wpq_then ?_
               have eS := (Option.some.inj hS).symm
               have eS := (hD24 _ eS).symm
               have eS := (hD19 _ eS).symm
               subst eS
               exact xRetC [none, none] [(4, 1)] (e4.trans (e12.trans (e26.trans e35))) ⟨none, 0, none, 0, none, none, 0, none, by kernel_rfl, by kernel_rfl, Arr.nil, Buf.nil, Buf.nil⟩ (fun _ _ h => h)
              ·have hS := cond_F h43 hS
               have h43l := (or_false_ h43).1
               have h43r := (or_false_ h43).2
               have h43ll := (or_false_ h43l).1
               have h43lr := (or_false_ h43l).2
               refine xSk ?_
               refine wpq_then ?_
               refine xSub [(1, vs Ap p cp), (4, vp b1 0), (6, vp b5 0), (8, vi ((s24.1 : Nat) : Int)), (9, vy ((List.getD p ((IntKind.i64.wrap (9 + (IntKind.i64.wrap (9 * ((s24.1 : Nat) : Int)))))).toNat 0).toNat : Int)), (10, vi y33), (65, vi (((l).length : Nat) : Int)), (66, vi ((s24.1 : Nat) : Int))] ?_
               refine xDr 0 [1, 4] [12, 11] [some ⟨b5, 57, (cRBoard (⟨y2.1.defs, y10, ((List.getD p 8 0).toNat : Int), s24.2.1, s24.2.2⟩ : RBoard) A2_0_defs c2_0_defs A2_0_onset c2_0_onset A2_0_acked c2_0_acked)⟩, some ⟨b1, 57, (cRBoard (⟨([] : List AlertDef), 0, 0, ([] : List Int), ([] : List Bool)⟩ : RBoard) none 0 none 0 none 0)⟩] 13 (fun RG => ?_) (fun _ _ _ _ _ h => h)
               have h24_1 := h24_1.mono e35.b
               obtain ⟨q45, hS⟩ := grd_T hS
               have q45p := of_decide_eq_true q45
               obtain ⟨kc44, cs44, hA44, hk44, hr44, hw44⟩ := h24_1.open_ q45p 0
               obtain ⟨kb44, rfl⟩ : ∃ z, z = kc44 := ⟨_, rfl⟩
               subst hk44
               have hr44 : cs44 = [vi (List.getD s24.2.1 s24.1 0)] := hr44
               subst hr44
               refine xT 4 [0, 1, 2, 3, 4, 5, 6, 7, 8] [(1, 0), (4, 0)] [some 0, some 1] [(1, vs Ap p cp), (4, vp b1 0), (6, vp b5 0), (65, vi (((l).length : Nat) : Int)), (66, vi ((s24.1 : Nat) : Int)), (115, vs A2_0_onset s24.2.1 c2_0_onset), (116, vi ((s24.1 : Nat) : Int)), (118, vs A2_0_acked s24.2.2 c2_0_acked), (119, vi ((s24.1 : Nat) : Int)), (120, vi y33), (122, vb (((List.getD p ((IntKind.i64.wrap (9 + (IntKind.i64.wrap (9 * ((s24.1 : Nat) : Int)))))).toNat 0).toNat : Int) == 3))] RG (Psi.le.refl _) ?_
               refine xTp 9 RG (fun _ => (qIxB s24.1 1 kb44.g hA44 rfl q45p)) ?_
               refine xO1 (lds := [1, 4]) 10 ?_
               refine xId (lds := [1, 4]) (Psi.le.refl _) (eStB s24.1 1 0 2 [vi y33] h24_1 rfl hw44 (show (tyI .i64).rep _ _ _ from rfl) q45p) ?_
               rintro _ _ _ - ⟨k46, rfl, rfl, h46⟩
               refine kk [some 0, some 1] ?_
               have hz46 : (s24.2.1).length = ((List.set s24.2.1 s24.1 (y33 : Int))).length := by simp
               have h24_2 := h24_2.mono e35.b
               obtain ⟨q48, hS⟩ := grd_T hS
               have q48p := of_decide_eq_true q48
               obtain ⟨kc47, cs47, hA47, hk47, hr47, hw47⟩ := h24_2.open_ q48p false
               obtain ⟨kb47, rfl⟩ : ∃ z, z = kc47 := ⟨_, rfl⟩
               subst hk47
               have hr47 : cs47 = [vb (List.getD s24.2.2 s24.1 false)] := hr47
               subst hr47
               refine xTp 11 RG (fun _ => (qIxB s24.1 1 kb47.g hA47 rfl q48p)) ?_
               refine xO1 (lds := [1, 4]) 12 ?_
               refine xId (lds := [1, 4]) (Psi.le.refl _) (eStB s24.1 1 0 3 [vb (((List.getD p ((IntKind.i64.wrap (9 + (IntKind.i64.wrap (9 * ((s24.1 : Nat) : Int)))))).toNat 0).toNat : Int) == 3)] h24_2 rfl hw47 (show tyB.rep _ _ _ from rfl) q48p) ?_
               rintro _ _ _ - ⟨k49, rfl, rfl, h49⟩
               refine kf ?_
               have hz49 : (s24.2.2).length = ((List.set s24.2.2 s24.1 (((List.getD p ((IntKind.i64.wrap (9 + (IntKind.i64.wrap (9 * ((s24.1 : Nat) : Int)))))).toNat 0).toNat : Int) == 3))).length := by simp
               refine xAe (lds := [1, 4]) ?_
               refine wpq_blockN ?_
               refine wpq_then ?_
               refine xSub [(1, vs Ap p cp), (4, vp b1 0), (6, vp b5 0), (65, vi (((l).length : Nat) : Int)), (66, vi ((s24.1 : Nat) : Int))] ?_
               refine xRg ?_
               obtain ⟨q50, hS⟩ := grd_T hS
               have q50p := of_decide_eq_true q50
               refine xV (qAdd .i64 (((s24.1 : Nat) : Int)) (1) (wr64 (by omega))) ?_
               refine xB 1 [] [(1, vs Ap p cp), (4, vp b1 0), (6, vp b5 0), (65, vi (((l).length : Nat) : Int)), (66, vi (((s24.1 : Nat) : Int) + 1))] ?_
               refine xRe ?_
               refine wpq_thenN ?_
               refine xOwn [some ⟨b5, 57, [vs A2_0_defs y2.1.defs c2_0_defs, vi y10, vy ((List.getD p 8 0).toNat : Int), Value.slice A2_0_onset ((s24.2.1).length) c2_0_onset, Value.slice A2_0_acked ((s24.2.2).length) c2_0_acked]⟩, some ⟨b1, 57, (cRBoard (⟨([] : List AlertDef), 0, 0, ([] : List Int), ([] : List Bool)⟩ : RBoard) none 0 none 0 none 0)⟩, k46, k49] ?_
               have h46 := Buf.re h46 hz46 (rfl : (List.set s24.2.1 s24.1 (y33 : Int)) = _)
               have h49 := Buf.re h49 hz49 (rfl : (List.set s24.2.2 s24.1 (((List.getD p ((IntKind.i64.wrap (9 + (IntKind.i64.wrap (9 * ((s24.1 : Nat) : Int)))))).toNat 0).toNat : Int) == 3)) = _)
               refine wpq_own [some ⟨b5, 57, (cRBoard (⟨y2.1.defs, y10, ((List.getD p 8 0).toNat : Int), (List.set s24.2.1 s24.1 (y33 : Int)), (List.set s24.2.2 s24.1 (((List.getD p ((IntKind.i64.wrap (9 + (IntKind.i64.wrap (9 * ((s24.1 : Nat) : Int)))))).toNat 0).toNat : Int) == 3))⟩ : RBoard) A2_0_defs c2_0_defs A2_0_onset c2_0_onset A2_0_acked c2_0_acked)⟩, some ⟨b1, 57, (cRBoard (⟨([] : List AlertDef), 0, 0, ([] : List Int), ([] : List Bool)⟩ : RBoard) none 0 none 0 none 0)⟩, k46, k49] (by rw [hz46, hz49]) ?_
               refine xSub [(1, vs Ap p cp), (4, vp b1 0), (6, vp b5 0), (65, vi (((l).length : Nat) : Int)), (66, vi (((s24.1 : Nat) : Int) + 1))] ?_
               have eS := (Option.some.inj hS).symm
               exact hN24 _ eS _ _ _ e35 ⟨k46, k49, by kernel_rfl, by kernel_rfl, h46, h49⟩
         ·have hS := cond_F h27 hS
          have h27p := of_decide_eq_false h27
          refine xEx 0 ?_
          refine wpq_thenX ?_
          refine wpq_thenX ?_
          refine wpq_blockE ?_
          refine xSub [(4, vp b1 0), (6, vp b5 0)] ?_
          have eS := (Option.some.inj hS).symm
          have eS := (hD24 _ eS).symm
          exact hN19 _ eS _ _ _ e26 ⟨k24_1, k24_2, by kernel_rfl, by kernel_rfl, h24_1, h24_2⟩

def o57 (b : RBoard) (i : Int) : Option (Bool) :=
 (grd (decide (0 ≤ i ∧ i < (((b.onset).length : Nat) : Int))) (bindO (τ := Bool) (cond (decide ((List.getD b.onset (i).toNat 0) > 0)) (grd (decide (0 ≤ i ∧ i < (((b.acked).length : Nat) : Int))) (some (!(List.getD b.acked (i).toNat false)))) (some (false))) fun t5 => (bindO (τ := Bool) (cond (t5) (grd (decide (0 ≤ i ∧ i < (((b.defs).length : Nat) : Int))) (grd (decide (0 ≤ b.phase)) (some ((landK .u16 (shrK .u16 (List.getD b.defs (i).toNat default).inhibit b.phase) 1) == 0)))) (some (false))) fun t8 => (some ((t8))))))
set_option maxRecDepth 100000 in
theorem c57 (g : Gh) (b : RBoard) (Ab_defs : Option Addr) (cb_defs : Nat) (Ab_onset : Option Addr) (cb_onset : Nat) (Ab_acked : Option Addr) (cb_acked : Nat) (i : Int) (fb_defs : Arr g.r tyAlertDef Ab_defs cb_defs b.defs) (fb_onset : Arr g.r (tyI .i64) Ab_onset cb_onset b.onset) (fb_acked : Arr g.r tyB Ab_acked cb_acked b.acked) {r : Bool} (hS : o57 b i = some r) :
  Ctr Try.prog 57 [Value.agg #[vs Ab_defs b.defs cb_defs, vi b.steps, vy b.phase, vs Ab_onset b.onset cb_onset, vs Ab_acked b.acked cb_acked], vi i] g [] (fun v ψ o => v = vb r ∧ o = []) := by
 unfold o57 at hS
 refine xFn Try.f57 (Try.f57.body.getD .skip) 32 ?_
 have nfb_defs := fb_defs.len
 have nfb_onset := fb_onset.len
 have nfb_acked := fb_acked.len
 refine xSq ?_
 refine xRg ?_
 refine xE eB ?_
 rintro _ _ _ - ⟨b1, rfl, rfl, rfl⟩
 refine xB 1 [] [(1, vi i), (2, vp b1 0)] ?_
 refine xRe ?_
 refine wpq_then ?_
 refine xSq ?_
 refine xDr 0 [1, 4, 8, 11, 16, 20, 22] [27] [some ⟨b1, 57, (cRBoard b Ab_defs cb_defs Ab_onset cb_onset Ab_acked cb_acked)⟩] 28 (fun RG => ?_) (fun _ _ _ _ _ h => h)
 obtain ⟨q3, hS⟩ := grd_T hS
 have q3p := of_decide_eq_true q3
 have i4 : (i).toNat < (b.onset).length := by omega
 obtain ⟨ad2, cs2, hA2, hr2, hc2⟩ := fb_onset.at_ (get_getD (d := 0) i4)
 have hr2 : cs2 = [vi (List.getD b.onset (i).toNat 0)] := hr2
 subst hr2
 refine xT 25 [0, 1, 2] [(1, 0)] [some 0] [(1, vi i), (2, vp b1 0), (6, vs Ab_onset b.onset cb_onset), (7, vi i)] RG (Psi.le.refl _) ?_
 refine xTp 3 RG (fun _ => (qIx (i).toNat 1 hA2 (show (i : Int) = _ from by omega) i4)) ?_
 refine xTv 4 [some 0] RG (Psi.le.refl _) (qLdP (Addr.add ad2 ((i).toNat * 1)) 0 hc2) ?_
 refine xT 21 [5, 6] [] [some 0] [(1, vi i), (2, vp b1 0), (11, vb (decide ((List.getD b.onset (i).toNat 0) > 0)))] RG (Psi.le.refl _) ?_
 refine xGJoA hS 14 [true, true, true, true, true, true, true, true, true, true, true, true, true, true, false, false, false, false, false, false, false, false, false, false, false, false, false, false] (fun g own sl t5 => own = [some ⟨b1, 57, (cRBoard b Ab_defs cb_defs Ab_onset cb_onset Ab_acked cb_acked)⟩] ∧ sl = [(1, vi i), (2, vp b1 0), (18, vb t5)]) ?_ ?_
 ·rintro g6 _ _ t5 e7 ⟨rfl, rfl⟩ hS
  refine xT 13 [14] [] [some 0] [(1, vi i), (2, vp b1 0), (19, vb t5)] RG e7.r ?_
  refine xGJoA hS 1 [true, true, true, true, true, true, true, true, true, true, true, true, true, true, true, true, true, true, true, true, true, true, true, true, true, true, true, false] (fun g own sl t8 => own = [some ⟨b1, 57, (cRBoard b Ab_defs cb_defs Ab_onset cb_onset Ab_acked cb_acked)⟩] ∧ sl = [(31, vb t8)]) ?_ ?_
  ·rintro g9 _ _ t8 e10 ⟨rfl, rfl⟩ hS
   refine xT 0 [27] [] [some 0] [(4, vb t8)] RG (e7.trans e10).r ?_
   refine xAe (lds := [1, 4, 8, 11, 16, 20, 22]) ?_
   refine wpq_then ?_
   have eS := (Option.some.inj hS).symm
   subst eS
   exact xRet [] [4] (e7.trans e10) ⟨by kernel_rfl, by kernel_rfl⟩ (fun _ _ h => h)
  ·intro uu8 hS hN8
   refine wpq_split 19 (b := t5) (by kernel_rfl) (fun q11 => ?_) (fun q11 => ?_)
   ·have hS := cond_T q11 hS
    obtain ⟨q13, hS⟩ := grd_T hS
    have q13p := of_decide_eq_true q13
    have i14 : (i).toNat < (b.defs).length := by omega
    obtain ⟨ad12, cs12, hA12, hr12, hc12⟩ := fb_defs.at_ (get_getD (d := default) i14)
    obtain ⟨rfl⟩ := hr12
    refine xT 10 [15, 16, 17] [(16, 0)] [some 0] [(2, vp b1 0), (19, vb true), (21, vs Ab_defs b.defs cb_defs), (22, vi i)] RG e7.r ?_
    refine xTp 18 RG (fun _ => (qIx (i).toNat 3 hA12 (show (i : Int) = _ from by omega) i14)) ?_
    refine xT 8 [19] [] [some 0] [(2, vp b1 0), (19, vb true), (24, Value.pointer (some (Addr.add (Addr.add ad12 ((i).toNat * 3)) 2)))] RG e7.r ?_
    refine xTv 20 [some 0] RG e7.r (qLdP (Addr.add ad12 ((i).toNat * 3)) 2 hc12) ?_
    obtain ⟨q15, hS⟩ := grd_T hS
    have q15p := of_decide_eq_true q15
    refine xT 5 [21, 22] [(22, 0)] [some 0] [(19, vb true), (25, Value.int .u16 ((List.getD b.defs (i).toNat default).inhibit)), (27, vy b.phase)] RG e7.r ?_
    refine xTp 23 RG (fun _ => (qShr .u16 .u8 ((List.getD b.defs (i).toNat default).inhibit) (b.phase) (by omega))) ?_
    refine xT 1 [24, 25, 26] [] [some 0] [(31, vb ((landK .u16 (shrK .u16 (List.getD b.defs (i).toNat default).inhibit b.phase) 1) == 0))] RG e7.r ?_
    refine xSub [(31, vb ((landK .u16 (shrK .u16 (List.getD b.defs (i).toNat default).inhibit b.phase) 1) == 0))] ?_
    exact hN8 _ (Option.some.inj hS).symm _ _ _ (Gh.le.refl _) ⟨by kernel_rfl, by kernel_rfl⟩
   ·have hS := cond_F q11 hS
    refine xT 1 [15, 16, 17, 18, 19, 20, 21, 22, 23, 24, 25, 26] [] [some 0] [(31, vb false)] RG e7.r ?_
    refine xSub [(31, vb false)] ?_
    exact hN8 _ (Option.some.inj hS).symm _ _ _ (Gh.le.refl _) ⟨by kernel_rfl, by kernel_rfl⟩
 ·intro uu5 hS hN5
  refine wpq_split 11 (b := decide ((List.getD b.onset (i).toNat 0) > 0)) (by kernel_rfl) (fun q16 => ?_) (fun q16 => ?_)
  ·have hS := cond_T q16 hS
   have q16p := of_decide_eq_true q16
   obtain ⟨q18, hS⟩ := grd_T hS
   have q18p := of_decide_eq_true q18
   have i19 : (i).toNat < (b.acked).length := by omega
   obtain ⟨ad17, cs17, hA17, hr17, hc17⟩ := fb_acked.at_ (get_getD (d := false) i19)
   have hr17 : cs17 = [vb (List.getD b.acked (i).toNat false)] := hr17
   subst hr17
   refine xT 18 [7, 8, 9] [(8, 0)] [some 0] [(1, vi i), (2, vp b1 0), (11, vb true), (13, vs Ab_acked b.acked cb_acked), (14, vi i)] RG (Psi.le.refl _) ?_
   refine xTp 10 RG (fun _ => (qIx (i).toNat 1 hA17 (show (i : Int) = _ from by omega) i19)) ?_
   refine xTv 11 [some 0] RG (Psi.le.refl _) (qLdP (Addr.add ad17 ((i).toNat * 1)) 0 hc17) ?_
   refine xT 14 [12, 13] [] [some 0] [(1, vi i), (2, vp b1 0), (18, vb (!(List.getD b.acked (i).toNat false)))] RG (Psi.le.refl _) ?_
   refine xSub [(1, vi i), (2, vp b1 0), (18, vb (!(List.getD b.acked (i).toNat false)))] ?_
   exact hN5 _ (Option.some.inj hS).symm _ _ _ (Gh.le.refl _) ⟨by kernel_rfl, by kernel_rfl⟩
  ·have hS := cond_F q16 hS
   have q16p := of_decide_eq_false q16
   refine xT 14 [7, 8, 9, 10, 11, 12, 13] [] [some 0] [(1, vi i), (2, vp b1 0), (18, vb false)] RG (Psi.le.refl _) ?_
   refine xSub [(1, vi i), (2, vp b1 0), (18, vb false)] ?_
   exact hN5 _ (Option.some.inj hS).symm _ _ _ (Gh.le.refl _) ⟨by kernel_rfl, by kernel_rfl⟩

def o64 (b : RBoard) (i : Int) (j : Int) : Option (Bool) :=
 (grd (decide (0 ≤ i ∧ i < (((b.defs).length : Nat) : Int))) (grd (decide (0 ≤ j ∧ j < (((b.defs).length : Nat) : Int))) (cond (((List.getD b.defs (i).toNat default).level != (List.getD b.defs (j).toNat default).level)) (grd (decide (0 ≤ i ∧ i < (((b.defs).length : Nat) : Int))) (grd (decide (0 ≤ j ∧ j < (((b.defs).length : Nat) : Int))) (some ((decide ((List.getD b.defs (i).toNat default).level < (List.getD b.defs (j).toNat default).level)))))) (grd (decide (0 ≤ i ∧ i < (((b.onset).length : Nat) : Int))) (grd (decide (0 ≤ j ∧ j < (((b.onset).length : Nat) : Int))) (cond (((List.getD b.onset (i).toNat 0) != (List.getD b.onset (j).toNat 0))) (grd (decide (0 ≤ i ∧ i < (((b.onset).length : Nat) : Int))) (grd (decide (0 ≤ j ∧ j < (((b.onset).length : Nat) : Int))) (some ((decide ((List.getD b.onset (i).toNat 0) > (List.getD b.onset (j).toNat 0))))))) (some ((decide (i < j))))))))))
set_option maxRecDepth 100000 in
theorem c64 (g : Gh) (b : RBoard) (Ab_defs : Option Addr) (cb_defs : Nat) (Ab_onset : Option Addr) (cb_onset : Nat) (Ab_acked : Option Addr) (cb_acked : Nat) (i : Int) (j : Int) (fb_defs : Arr g.r tyAlertDef Ab_defs cb_defs b.defs) (fb_onset : Arr g.r (tyI .i64) Ab_onset cb_onset b.onset) (fb_acked : Arr g.r tyB Ab_acked cb_acked b.acked) {r : Bool} (hS : o64 b i j = some r) :
  Ctr Try.prog 64 [Value.agg #[vs Ab_defs b.defs cb_defs, vi b.steps, vy b.phase, vs Ab_onset b.onset cb_onset, vs Ab_acked b.acked cb_acked], vi i, vi j] g [] (fun v ψ o => v = vb r ∧ o = []) := by
 unfold o64 at hS
 refine xFn Try.f64 (Try.f64.body.getD .skip) 58 ?_
 have nfb_defs := fb_defs.len
 have nfb_onset := fb_onset.len
 have nfb_acked := fb_acked.len
 refine xSq ?_
 refine xRg ?_
 refine xE eB ?_
 rintro _ _ _ - ⟨b1, rfl, rfl, rfl⟩
 refine xB 1 [] [(1, vi i), (2, vi j), (3, vp b1 0)] ?_
 refine xRe ?_
 refine wpq_then ?_
 refine xSq ?_
 refine xSq ?_
 refine xDr 0 [1, 5, 7, 11] [] [some ⟨b1, 57, (cRBoard b Ab_defs cb_defs Ab_onset cb_onset Ab_acked cb_acked)⟩] 13 (fun RG => ?_) (fun _ _ _ _ _ h => h)
 obtain ⟨q3, hS⟩ := grd_T hS
 have q3p := of_decide_eq_true q3
 have i4 : (i).toNat < (b.defs).length := by omega
 obtain ⟨ad2, cs2, hA2, hr2, hc2⟩ := fb_defs.at_ (get_getD (d := default) i4)
 obtain ⟨rfl⟩ := hr2
 refine xT 10 [0, 1, 2] [(1, 0)] [some 0] [(1, vi i), (2, vi j), (3, vp b1 0), (8, vs Ab_defs b.defs cb_defs), (9, vi i)] RG (Psi.le.refl _) ?_
 refine xTp 3 RG (fun _ => (qIx (i).toNat 3 hA2 (show (i : Int) = _ from by omega) i4)) ?_
 refine xT 8 [4] [] [some 0] [(1, vi i), (2, vi j), (3, vp b1 0), (11, Value.pointer (some (Addr.add (Addr.add ad2 ((i).toNat * 3)) 1)))] RG (Psi.le.refl _) ?_
 refine xTv 5 [some 0] RG (Psi.le.refl _) (qLdP (Addr.add ad2 ((i).toNat * 3)) 1 hc2) ?_
 obtain ⟨q6, hS⟩ := grd_T hS
 have q6p := of_decide_eq_true q6
 have i7 : (j).toNat < (b.defs).length := by omega
 obtain ⟨ad5, cs5, hA5, hr5, hc5⟩ := fb_defs.at_ (get_getD (d := default) i7)
 obtain ⟨rfl⟩ := hr5
 refine xT 4 [6, 7, 8] [(7, 0)] [some 0] [(1, vi i), (2, vi j), (3, vp b1 0), (12, vy ((List.getD b.defs (i).toNat default).level)), (14, vs Ab_defs b.defs cb_defs), (15, vi j)] RG (Psi.le.refl _) ?_
 refine xTp 9 RG (fun _ => (qIx (j).toNat 3 hA5 (show (j : Int) = _ from by omega) i7)) ?_
 refine xT 2 [10] [] [some 0] [(1, vi i), (2, vi j), (3, vp b1 0), (12, vy ((List.getD b.defs (i).toNat default).level)), (17, Value.pointer (some (Addr.add (Addr.add ad5 ((j).toNat * 3)) 1)))] RG (Psi.le.refl _) ?_
 refine xTv 11 [some 0] RG (Psi.le.refl _) (qLdP (Addr.add ad5 ((j).toNat * 3)) 1 hc5) ?_
 refine xT 0 [12] [] [some 0] [(1, vi i), (2, vi j), (3, vp b1 0), (19, vb ((List.getD b.defs (i).toNat default).level != (List.getD b.defs (j).toNat default).level))] RG (Psi.le.refl _) ?_
 refine xAe (lds := [1, 5, 7, 11]) ?_
 refine wpq_then ?_
 refine xCd (((List.getD b.defs (i).toNat default).level != (List.getD b.defs (j).toNat default).level)) (fun h8 => ?_) (fun h8 => ?_)
 ·have hS := cond_T h8 hS
  have h8p : ¬ ((List.getD b.defs (i).toNat default).level = (List.getD b.defs (j).toNat default).level) := ne_of_bne_ h8
  refine xSq ?_
  refine xDr 0 [1, 5, 7, 11] [13] [some ⟨b1, 57, (cRBoard b Ab_defs cb_defs Ab_onset cb_onset Ab_acked cb_acked)⟩] 14 (fun RG => ?_) (fun _ _ _ _ _ h => h)
  obtain ⟨q10, hS⟩ := grd_T hS
  have q10p := of_decide_eq_true q10
  have i11 : (i).toNat < (b.defs).length := by omega
  obtain ⟨ad9, cs9, hA9, hr9, hc9⟩ := fb_defs.at_ (get_getD (d := default) i11)
  obtain ⟨rfl⟩ := hr9
  refine xT 11 [0, 1, 2] [(1, 0)] [some 0] [(2, vi j), (3, vp b1 0), (21, vs Ab_defs b.defs cb_defs), (22, vi i)] RG (Psi.le.refl _) ?_
  refine xTp 3 RG (fun _ => (qIx (i).toNat 3 hA9 (show (i : Int) = _ from by omega) i11)) ?_
  refine xT 9 [4] [] [some 0] [(2, vi j), (3, vp b1 0), (24, Value.pointer (some (Addr.add (Addr.add ad9 ((i).toNat * 3)) 1)))] RG (Psi.le.refl _) ?_
  refine xTv 5 [some 0] RG (Psi.le.refl _) (qLdP (Addr.add ad9 ((i).toNat * 3)) 1 hc9) ?_
  obtain ⟨q13, hS⟩ := grd_T hS
  have q13p := of_decide_eq_true q13
  have i14 : (j).toNat < (b.defs).length := by omega
  obtain ⟨ad12, cs12, hA12, hr12, hc12⟩ := fb_defs.at_ (get_getD (d := default) i14)
  obtain ⟨rfl⟩ := hr12
  refine xT 5 [6, 7, 8] [(7, 0)] [some 0] [(25, vy ((List.getD b.defs (i).toNat default).level)), (27, vs Ab_defs b.defs cb_defs), (28, vi j)] RG (Psi.le.refl _) ?_
  refine xTp 9 RG (fun _ => (qIx (j).toNat 3 hA12 (show (j : Int) = _ from by omega) i14)) ?_
  refine xT 3 [10] [] [some 0] [(25, vy ((List.getD b.defs (i).toNat default).level)), (30, Value.pointer (some (Addr.add (Addr.add ad12 ((j).toNat * 3)) 1)))] RG (Psi.le.refl _) ?_
  refine xTv 11 [some 0] RG (Psi.le.refl _) (qLdP (Addr.add ad12 ((j).toNat * 3)) 1 hc12) ?_
  refine xT 0 [12, 13] [] [some 0] [(6, vb (decide ((List.getD b.defs (i).toNat default).level < (List.getD b.defs (j).toNat default).level)))] RG (Psi.le.refl _) ?_
  refine xAe (lds := [1, 5, 7, 11]) ?_
  refine wpq_then ?_
  have eS := (Option.some.inj hS).symm
  subst eS
  exact xRet [] [6] (Gh.le.refl _) ⟨by kernel_rfl, by kernel_rfl⟩ (fun _ _ h => h)
 ·have hS := cond_F h8 hS
  have h8p : (List.getD b.defs (i).toNat default).level = (List.getD b.defs (j).toNat default).level := eq_of_bne_false_ h8
  refine xSk ?_
  refine wpq_then ?_
  refine xSub [(1, vi i), (2, vi j), (3, vp b1 0)] ?_
  refine xSq ?_
  refine xSq ?_
  refine xDr 0 [1, 4, 6, 9] [] [some ⟨b1, 57, (cRBoard b Ab_defs cb_defs Ab_onset cb_onset Ab_acked cb_acked)⟩] 11 (fun RG => ?_) (fun _ _ _ _ _ h => h)
  obtain ⟨q16, hS⟩ := grd_T hS
  have q16p := of_decide_eq_true q16
  have i17 : (i).toNat < (b.onset).length := by omega
  obtain ⟨ad15, cs15, hA15, hr15, hc15⟩ := fb_onset.at_ (get_getD (d := 0) i17)
  have hr15 : cs15 = [vi (List.getD b.onset (i).toNat 0)] := hr15
  subst hr15
  refine xT 8 [0, 1, 2] [(1, 0)] [some 0] [(1, vi i), (2, vi j), (3, vp b1 0), (34, vs Ab_onset b.onset cb_onset), (35, vi i)] RG (Psi.le.refl _) ?_
  refine xTp 3 RG (fun _ => (qIx (i).toNat 1 hA15 (show (i : Int) = _ from by omega) i17)) ?_
  refine xTv 4 [some 0] RG (Psi.le.refl _) (qLdP (Addr.add ad15 ((i).toNat * 1)) 0 hc15) ?_
  obtain ⟨q19, hS⟩ := grd_T hS
  have q19p := of_decide_eq_true q19
  have i20 : (j).toNat < (b.onset).length := by omega
  obtain ⟨ad18, cs18, hA18, hr18, hc18⟩ := fb_onset.at_ (get_getD (d := 0) i20)
  have hr18 : cs18 = [vi (List.getD b.onset (j).toNat 0)] := hr18
  subst hr18
  refine xT 3 [5, 6, 7] [(6, 0)] [some 0] [(1, vi i), (2, vi j), (3, vp b1 0), (37, vi (List.getD b.onset (i).toNat 0)), (39, vs Ab_onset b.onset cb_onset), (40, vi j)] RG (Psi.le.refl _) ?_
  refine xTp 8 RG (fun _ => (qIx (j).toNat 1 hA18 (show (j : Int) = _ from by omega) i20)) ?_
  refine xTv 9 [some 0] RG (Psi.le.refl _) (qLdP (Addr.add ad18 ((j).toNat * 1)) 0 hc18) ?_
  refine xT 0 [10] [] [some 0] [(1, vi i), (2, vi j), (3, vp b1 0), (43, vb ((List.getD b.onset (i).toNat 0) != (List.getD b.onset (j).toNat 0)))] RG (Psi.le.refl _) ?_
  refine xAe (lds := [1, 4, 6, 9]) ?_
  refine wpq_then ?_
  refine xCd (((List.getD b.onset (i).toNat 0) != (List.getD b.onset (j).toNat 0))) (fun h21 => ?_) (fun h21 => ?_)
  ·have hS := cond_T h21 hS
   have h21p : ¬ ((List.getD b.onset (i).toNat 0) = (List.getD b.onset (j).toNat 0)) := ne_of_bne_ h21
   refine xSq ?_
   refine xDr 0 [1, 4, 6, 9] [11] [some ⟨b1, 57, (cRBoard b Ab_defs cb_defs Ab_onset cb_onset Ab_acked cb_acked)⟩] 12 (fun RG => ?_) (fun _ _ _ _ _ h => h)
   obtain ⟨q23, hS⟩ := grd_T hS
   have q23p := of_decide_eq_true q23
   have i24 : (i).toNat < (b.onset).length := by omega
   obtain ⟨ad22, cs22, hA22, hr22, hc22⟩ := fb_onset.at_ (get_getD (d := 0) i24)
   have hr22 : cs22 = [vi (List.getD b.onset (i).toNat 0)] := hr22
   subst hr22
   refine xT 9 [0, 1, 2] [(1, 0)] [some 0] [(2, vi j), (3, vp b1 0), (45, vs Ab_onset b.onset cb_onset), (46, vi i)] RG (Psi.le.refl _) ?_
   refine xTp 3 RG (fun _ => (qIx (i).toNat 1 hA22 (show (i : Int) = _ from by omega) i24)) ?_
   refine xTv 4 [some 0] RG (Psi.le.refl _) (qLdP (Addr.add ad22 ((i).toNat * 1)) 0 hc22) ?_
   obtain ⟨q26, hS⟩ := grd_T hS
   have q26p := of_decide_eq_true q26
   have i27 : (j).toNat < (b.onset).length := by omega
   obtain ⟨ad25, cs25, hA25, hr25, hc25⟩ := fb_onset.at_ (get_getD (d := 0) i27)
   have hr25 : cs25 = [vi (List.getD b.onset (j).toNat 0)] := hr25
   subst hr25
   refine xT 4 [5, 6, 7] [(6, 0)] [some 0] [(48, vi (List.getD b.onset (i).toNat 0)), (50, vs Ab_onset b.onset cb_onset), (51, vi j)] RG (Psi.le.refl _) ?_
   refine xTp 8 RG (fun _ => (qIx (j).toNat 1 hA25 (show (j : Int) = _ from by omega) i27)) ?_
   refine xTv 9 [some 0] RG (Psi.le.refl _) (qLdP (Addr.add ad25 ((j).toNat * 1)) 0 hc25) ?_
   refine xT 0 [10, 11] [] [some 0] [(6, vb (decide ((List.getD b.onset (i).toNat 0) > (List.getD b.onset (j).toNat 0))))] RG (Psi.le.refl _) ?_
   refine xAe (lds := [1, 4, 6, 9]) ?_
   refine wpq_then ?_
   have eS := (Option.some.inj hS).symm
   subst eS
   exact xRet [] [6] (Gh.le.refl _) ⟨by kernel_rfl, by kernel_rfl⟩ (fun _ _ h => h)
  ·have hS := cond_F h21 hS
   have h21p : (List.getD b.onset (i).toNat 0) = (List.getD b.onset (j).toNat 0) := eq_of_bne_false_ h21
   refine xSk ?_
   refine wpq_then ?_
   refine xSub [(1, vi i), (2, vi j)] ?_
   refine xSq ?_
   refine xRg ?_
   refine xB 4 [] [(6, vb (decide (i < j)))] ?_
   refine xRe ?_
   refine wpq_then ?_
   have eS := (Option.some.inj hS).symm
   subst eS
   exact xRet [] [6] (Gh.le.refl _) ⟨by kernel_rfl, by kernel_rfl⟩ (fun _ _ h => h)

def o50_L1 (b : RBoard) (s7 : (List Int) × Nat) (s39 : Nat) : Option (Ctl (Nat) (Nat)) :=
 (bindO (τ := Bool) (cond (decide (((s39 : Nat) : Int) < (((s7.1).length : Nat) : Int))) (bindO (τ := Bool) (o64 b ((List.getD s7.1 s39 0) : Int) (((s7.2 : Nat) : Int) : Int)) fun y50 => (some (y50))) (some (false))) fun t42 => (cond (t42) (grd (decide (((s39 : Nat) : Int) + 1 ≤ 9223372036854775807)) (some (Ctl.go (s39 + 1)))) (some (Ctl.done (s39)))))
def o50_L0 (b : RBoard) (s7 : (List Int) × Nat) : Option (Ctl ((List Int) × Nat) ((List Int))) :=
 (cond (decide (((s7.2 : Nat) : Int) < (((b.defs).length : Nat) : Int))) (bindO (τ := (List Int)) (bindO (τ := Bool) (o57 b (((s7.2 : Nat) : Int) : Int)) fun y15 => (cond ((!y15)) (some ((s7.1 : List Int))) (bindO (τ := Nat) (loopO (σ := Nat) (ρ := Nat) fuelN (o50_L1 b s7) (0)) fun t19 => (grd (decide (((t19 : Nat) : Int) ≤ (((s7.1).length : Nat) : Int))) (grd (decide ((0 + ((List.take t19 s7.1)).length) * 8 ≤ 140737488355328)) (grd (decide ((((List.take t19 s7.1)).length + (([(((s7.2 : Nat) : Int) : Int)] : List Int)).length) * 8 ≤ 140737488355328)) (grd (decide (((t19 : Nat) : Int) ≤ (((s7.1).length : Nat) : Int))) (grd (decide (((((List.take t19 s7.1) ++ ([(((s7.2 : Nat) : Int) : Int)] : List Int))).length + ((List.drop t19 s7.1)).length) * 8 ≤ 140737488355328)) (some (((((List.take t19 s7.1) ++ ([(((s7.2 : Nat) : Int) : Int)] : List Int)) ++ (List.drop t19 s7.1)) : List Int))))))))))) fun t11 => (grd (decide (((s7.2 : Nat) : Int) + 1 ≤ 9223372036854775807)) (some (Ctl.go ((t11 : List Int), (s7.2 + 1)))))) (some (Ctl.done ((s7.1 : List Int)))))
def o50 (b : RBoard) : Option ((List Int)) :=
 (bindO (τ := (List Int)) (loopO (σ := (List Int) × Nat) (ρ := (List Int)) fuelN (o50_L0 b) (([] : List Int), 0)) fun t2 => (some ((t2 : List Int))))
set_option maxRecDepth 100000 in
theorem c50 (g : Gh) (b : RBoard) (Ab_defs : Option Addr) (cb_defs : Nat) (Ab_onset : Option Addr) (cb_onset : Nat) (Ab_acked : Option Addr) (cb_acked : Nat) (fb_defs : Arr g.r tyAlertDef Ab_defs cb_defs b.defs) (fb_onset : Arr g.r (tyI .i64) Ab_onset cb_onset b.onset) (fb_acked : Arr g.r tyB Ab_acked cb_acked b.acked) {r : (List Int)} (hS : o50 b = some r) :
  Ctr Try.prog 50 [Value.agg #[vs Ab_defs b.defs cb_defs, vi b.steps, vy b.phase, vs Ab_onset b.onset cb_onset, vs Ab_acked b.acked cb_acked]] g [] (fun v ψ o => ∃ (Ar_0 : Option Addr) (cr_0 : Nat) (kr_0 : Option Bk), v = vs Ar_0 r cr_0 ∧ o = [kr_0] ∧ Buf ψ (tyI .i64) 3 (.slice Ar_0 (r).length cr_0) kr_0 r) := by
 unfold o50 at hS
 refine xFn Try.f50 (Try.f50.body.getD .skip) 48 ?_
 have nfb_defs := fb_defs.len
 have nfb_onset := fb_onset.len
 have nfb_acked := fb_acked.len
 refine xSq ?_
 refine xRg ?_
 refine xE eB ?_
 rintro _ _ _ - ⟨b1, rfl, rfl, rfl⟩
 refine xB 1 [] [(1, vp b1 0)] ?_
 refine xRe ?_
 refine wpq_then ?_
 refine xSq ?_
 refine xRg ?_
 refine xB 1 [] [(1, vp b1 0), (3, Value.slice none 0 0)] ?_
 refine xRe ?_
 refine wpq_then ?_
 refine xSq ?_
 refine xSq ?_
 refine xRg ?_
 refine xB 4 [(1, 0)] [(1, vp b1 0), (3, Value.slice none 0 0), (9, vi (((b.defs).length : Nat) : Int)), (10, vi 0)] ?_
 refine xRe ?_
 refine wpq_then ?_
 refine xBindO hS (fun g own sl t2 => ∃ (A2_0 : Option Addr) (c2_0 : Nat) (k2_0 : Option Bk), own = [k2_0] ∧ sl = [(3, vs A2_0 t2 c2_0)] ∧ Buf g.b (tyI .i64) 3 (.slice A2_0 (t2).length c2_0) k2_0 t2) ?_ ?_
 ·rintro g3 _ _ t2 e4 ⟨A2_0, c2_0, k2_0, rfl, rfl, h2_0⟩ hS
  have nh2_0 := h2_0.len
  refine wpq_then ?_
  refine xSq ?_
  refine xRg ?_
  refine xB 2 [] [(2, vs A2_0 t2 c2_0)] ?_
  refine xRe ?_
  refine wpq_then ?_
  have eS := (Option.some.inj hS).symm
  subst eS
  exact xRet [some 0] [2] e4 ⟨A2_0, c2_0, k2_0, by kernel_rfl, by kernel_rfl, h2_0⟩ (fun _ _ h => h)
 ·intro uu2 hS hN2
  refine xBl 0 ?_
  refine xSel [some 0, none] ?_
  refine xSub [(1, vp b1 0), (3, Value.slice none 0 0), (9, vi (((b.defs).length : Nat) : Int)), (10, vi 0)] ?_
  refine xLo hS (fun g own sl s7 => ∃ (A7_0 : Option Addr) (c7_0 : Nat) (k7_0 : Option Bk), own = [some ⟨b1, 57, (cRBoard b Ab_defs cb_defs Ab_onset cb_onset Ab_acked cb_acked)⟩, k7_0] ∧ sl = [(1, vp b1 0), (3, vs A7_0 s7.1 c7_0), (9, vi (((b.defs).length : Nat) : Int)), (10, vi ((s7.2 : Nat) : Int))] ∧ Buf g.b (tyI .i64) 3 (.slice A7_0 (s7.1).length c7_0) k7_0 s7.1) ⟨none, 0, none, by kernel_rfl, by kernel_rfl, Buf.nil⟩ ?_
  rintro g8 _ _ s7 uu7 e9 ⟨A7_0, c7_0, k7_0, rfl, rfl, h7_0⟩ hS Qr7 hN7 hD7
  have nh7_0 := h7_0.len
  unfold o50_L0 at hS
  refine xSq ?_
  refine xRg ?_
  refine xB 1 [] [(1, vp b1 0), (3, vs A7_0 s7.1 c7_0), (9, vi (((b.defs).length : Nat) : Int)), (10, vi ((s7.2 : Nat) : Int)), (11, vb (decide (((s7.2 : Nat) : Int) < (((b.defs).length : Nat) : Int))))] ?_
  refine xRe ?_
  refine wpq_then ?_
  refine xSq ?_
  refine xCd (decide (((s7.2 : Nat) : Int) < (((b.defs).length : Nat) : Int))) (fun h10 => ?_) (fun h10 => ?_)
  ·have hS := cond_T h10 hS
   have h10p := of_decide_eq_true h10
   refine xSk ?_
   refine wpq_then ?_
   refine xSub [(1, vp b1 0), (3, vs A7_0 s7.1 c7_0), (9, vi (((b.defs).length : Nat) : Int)), (10, vi ((s7.2 : Nat) : Int))] ?_
   refine xSq ?_
   refine xBindO hS (fun g own sl t11 => ∃ (A11_0 : Option Addr) (c11_0 : Nat) (k11_0 : Option Bk), own = [some ⟨b1, 57, (cRBoard b Ab_defs cb_defs Ab_onset cb_onset Ab_acked cb_acked)⟩, k11_0] ∧ sl = [(1, vp b1 0), (3, vs A11_0 t11 c11_0), (9, vi (((b.defs).length : Nat) : Int)), (10, vi ((s7.2 : Nat) : Int))] ∧ Buf g.b (tyI .i64) 3 (.slice A11_0 (t11).length c11_0) k11_0 t11) ?_ ?_
   ·rintro g12 _ _ t11 e13 ⟨A11_0, c11_0, k11_0, rfl, rfl, h11_0⟩ hS
    have nh11_0 := h11_0.len
    refine wpq_then ?_
    refine xRg ?_
    obtain ⟨q14, hS⟩ := grd_T hS
    have q14p := of_decide_eq_true q14
    refine xV (qAdd .i64 (((s7.2 : Nat) : Int)) (1) (wr64 (by omega))) ?_
    refine xB 1 [] [(1, vp b1 0), (3, vs A11_0 t11 c11_0), (9, vi (((b.defs).length : Nat) : Int)), (10, vi (((s7.2 : Nat) : Int) + 1))] ?_
    refine xRe ?_
    refine wpq_thenN ?_
    refine xSub [(1, vp b1 0), (3, vs A11_0 t11 c11_0), (9, vi (((b.defs).length : Nat) : Int)), (10, vi (((s7.2 : Nat) : Int) + 1))] ?_
    have eS := (Option.some.inj hS).symm
    exact hN7 _ eS _ _ _ e13 ⟨A11_0, c11_0, k11_0, by kernel_rfl, by kernel_rfl, h11_0⟩
   ·intro uu11 hS hN11
    refine xBl 1 ?_
    refine xSq ?_
    refine xRg ?_
    refine xB 2 [] [(1, vp b1 0), (3, vs A7_0 s7.1 c7_0), (4, vi ((s7.2 : Nat) : Int)), (9, vi (((b.defs).length : Nat) : Int)), (10, vi ((s7.2 : Nat) : Int))] ?_
    refine xRe ?_
    refine wpq_then ?_
    refine xSq ?_
    refine xSq ?_
    refine xRg ?_
    refine xB 2 [(0, 0)] [(1, vp b1 0), (3, vs A7_0 s7.1 c7_0), (4, vi ((s7.2 : Nat) : Int)), (9, vi (((b.defs).length : Nat) : Int)), (10, vi ((s7.2 : Nat) : Int)), (13, Value.agg #[vs Ab_defs b.defs cb_defs, vi b.steps, vy b.phase, vs Ab_onset b.onset cb_onset, vs Ab_acked b.acked cb_acked]), (14, vi ((s7.2 : Nat) : Int))] ?_
    have fb_defs := fb_defs.mono e9.r
    have fb_onset := fb_onset.mono e9.r
    have fb_acked := fb_acked.mono e9.r
    obtain ⟨y15, hy15, hS⟩ := bindO_T hS
    refine xE (eC 0 (fun g' lr eb ln => c57 g' b Ab_defs cb_defs Ab_onset cb_onset Ab_acked cb_acked (((s7.2 : Nat) : Int) : Int) (fb_defs.mono lr) (fb_onset.mono lr) (fb_acked.mono lr) hy15)) ?_
    rintro _ g16 _ e17 ⟨_, rfl, rfl, rfl⟩
    refine xB 1 [] [(1, vp b1 0), (3, vs A7_0 s7.1 c7_0), (4, vi ((s7.2 : Nat) : Int)), (9, vi (((b.defs).length : Nat) : Int)), (10, vi ((s7.2 : Nat) : Int)), (16, vb (!y15))] ?_
    refine xRe ?_
    refine wpq_then ?_
    refine xCd ((!y15)) (fun h18 => ?_) (fun h18 => ?_)
    ·have hS := cond_T h18 hS
     have h18n := not_eq_true_ h18
     refine xEx 1 ?_
     refine wpq_thenX ?_
     refine wpq_blockE ?_
     have h7_0 := h7_0.mono e17.b
     refine xSub [(1, vp b1 0), (3, vs A7_0 s7.1 c7_0), (9, vi (((b.defs).length : Nat) : Int)), (10, vi ((s7.2 : Nat) : Int))] ?_
     have eS := (Option.some.inj hS).symm
     exact hN11 _ eS _ _ _ e17 ⟨A7_0, c7_0, k7_0, by kernel_rfl, by kernel_rfl, h7_0⟩
    ·have hS := cond_F h18 hS
     have h18n := not_eq_false_ h18
     refine xSk ?_
     refine wpq_then ?_
     refine xSub [(1, vp b1 0), (3, vs A7_0 s7.1 c7_0), (4, vi ((s7.2 : Nat) : Int)), (9, vi (((b.defs).length : Nat) : Int)), (10, vi ((s7.2 : Nat) : Int))] ?_
     refine xSq ?_
     refine xRg ?_
     refine xB 1 [] [(1, vp b1 0), (3, vs A7_0 s7.1 c7_0), (4, vi ((s7.2 : Nat) : Int)), (5, vi 0), (9, vi (((b.defs).length : Nat) : Int)), (10, vi ((s7.2 : Nat) : Int))] ?_
     refine xRe ?_
     refine wpq_then ?_
     refine xSq ?_
     refine xBindO hS (fun g own sl t19 => own = [some ⟨b1, 57, (cRBoard b Ab_defs cb_defs Ab_onset cb_onset Ab_acked cb_acked)⟩, k7_0] ∧ sl = [(1, vp b1 0), (3, vs A7_0 s7.1 c7_0), (4, vi ((s7.2 : Nat) : Int)), (5, vi ((t19 : Nat) : Int)), (9, vi (((b.defs).length : Nat) : Int)), (10, vi ((s7.2 : Nat) : Int))]) ?_ ?_
     ·rintro g20 _ _ t19 e21 ⟨rfl, rfl⟩ hS
      refine wpq_then ?_
      refine xSq ?_
      refine xRg ?_
      refine xE (eBs (T := (tyI .i64)) (p := g20.b) (et := 3) (xs := ([] : List Int)) reps_nil (by simp)) ?_
      rintro _ _ _ - ⟨A22, c22, k22, rfl, rfl, rfl, h22⟩
      refine xB 2 [] [(1, vp b1 0), (3, vs A7_0 s7.1 c7_0), (4, vi ((s7.2 : Nat) : Int)), (5, vi ((t19 : Nat) : Int)), (9, vi (((b.defs).length : Nat) : Int)), (10, vi ((s7.2 : Nat) : Int)), (32, vs A22 ([] : List Int) c22), (33, vs A7_0 s7.1 c7_0), (34, vi ((t19 : Nat) : Int))] ?_
      have h7_0 := h7_0.mono (e17.trans e21).b
      refine wpq_freeze 2 (by kernel_rfl) h7_0 (fun g23 e24 f25 => ?_)
      obtain ⟨q26, hS⟩ := grd_T hS
      have q26p := of_decide_eq_true q26
      have ncapf27 := f25.cap
      have f27 : Arr g23.b (tyI .i64) (offA A7_0 c7_0 0 1) (c7_0 - 0) (List.take t19 s7.1) := f25.cut_to t19 (by omega)
      have nf27 := f27.len
      have hlf27 : t19 - 0 = ((List.take t19 s7.1)).length := by simp only [List.length_take, List.length_drop] <;> omega
      have hvf27 : ((((List.take t19 s7.1)).length : Nat) : Int) = ((t19 : Nat) : Int) - 0 := by omega
      refine xV (qSl (m := 1) (A := A7_0) (len := (s7.1).length) (c := c7_0) 0 t19 none (some ((t19 : Nat) : Int)) ((List.take t19 s7.1)).length rfl rfl (by omega) (by omega) hlf27) ?_
      have h22 := h22.mono e24.b
      obtain ⟨nw28, hp28, hs28⟩ := f27.srcB
      obtain ⟨q29, hS⟩ := grd_T hS
      have q29p := of_decide_eq_true q29
      refine xE (eApp (T := (tyI .i64)) (p := g23.b) (et := 3) (bytes := 8) (xs := ([] : List Int)) (ys := ((List.take t19 s7.1) : List Int)) 0 h22 rfl (fun w hs => hs28 w _ hs) hp28 (by first | omega | (simp only [List.length_cons, List.length_nil] at *; omega)) (by first | omega | (simp only [List.length_cons, List.length_nil] at *; omega))) ?_
      rintro _ _ _ - ⟨A28, c28, k28, rfl, rfl, rfl, h28⟩
      have h28 : Buf g23.b (tyI .i64) 3 (.slice A28 (((List.take t19 s7.1) : List Int)).length c28) k28 ((List.take t19 s7.1) : List Int) := h28
      have nh28 := h28.len
      refine xB 1 [] [(1, vp b1 0), (3, vs A7_0 s7.1 c7_0), (4, vi ((s7.2 : Nat) : Int)), (5, vi ((t19 : Nat) : Int)), (6, vs A28 (List.take t19 s7.1) c28), (9, vi (((b.defs).length : Nat) : Int)), (10, vi ((s7.2 : Nat) : Int))] ?_
      refine xRe ?_
      refine wpq_then ?_
      refine xSq ?_
      refine xRg ?_
      refine xB 2 [] [(1, vp b1 0), (3, vs A7_0 s7.1 c7_0), (5, vi ((t19 : Nat) : Int)), (6, vs A28 (List.take t19 s7.1) c28), (9, vi (((b.defs).length : Nat) : Int)), (10, vi ((s7.2 : Nat) : Int)), (37, vs A28 (List.take t19 s7.1) c28), (38, vi ((s7.2 : Nat) : Int))] ?_
      refine xE (eBs (T := (tyI .i64)) (p := g23.b) (et := 3) (xs := ([(((s7.2 : Nat) : Int) : Int)] : List Int)) (reps_cons (c := [vi ((s7.2 : Nat) : Int)]) (show (tyI .i64).rep _ _ _ from rfl) reps_nil) (by simp)) ?_
      rintro _ _ _ - ⟨A30, c30, k30, rfl, rfl, rfl, h30⟩
      obtain ⟨nw31, hp31, hs31⟩ := h30.srcO (g := g23)
      obtain ⟨q32, hS⟩ := grd_T hS
      have q32p := of_decide_eq_true q32
      refine xE (eApp (T := (tyI .i64)) (p := g23.b) (et := 3) (bytes := 8) (xs := ((List.take t19 s7.1) : List Int)) (ys := (([(((s7.2 : Nat) : Int) : Int)] : List Int) : List Int)) 1 h28 rfl (fun w hs => hs31 0 w _ hs (by kernel_rfl)) hp31 (by first | omega | (simp only [List.length_cons, List.length_nil] at *; omega)) (by first | omega | (simp only [List.length_cons, List.length_nil] at *; omega))) ?_
      rintro _ _ _ - ⟨A31, c31, k31, rfl, rfl, rfl, h31⟩
      have nh31 := h31.len
      have hz31 : (((List.take t19 s7.1) ++ ([(((s7.2 : Nat) : Int) : Int)] : List Int)) : List Int).length = ((List.take t19 s7.1)).length + (([(((s7.2 : Nat) : Int) : Int)] : List Int)).length := List.length_append
      refine xB 1 [] [(1, vp b1 0), (3, vs A7_0 s7.1 c7_0), (5, vi ((t19 : Nat) : Int)), (6, vs A31 ((List.take t19 s7.1) ++ ([(((s7.2 : Nat) : Int) : Int)] : List Int)) c31), (9, vi (((b.defs).length : Nat) : Int)), (10, vi ((s7.2 : Nat) : Int))] ?_
      refine xRe ?_
      refine wpq_then ?_
      refine xRg ?_
      obtain ⟨q33, hS⟩ := grd_T hS
      have q33p := of_decide_eq_true q33
      have ncapf34 := f25.cap
      have f34 : Arr g23.b (tyI .i64) (offA A7_0 c7_0 t19 1) (c7_0 - t19) (List.drop t19 s7.1) := f25.cut_from t19 (by omega)
      have nf34 := f34.len
      have hlf34 : (s7.1).length - t19 = ((List.drop t19 s7.1)).length := by simp only [List.length_take, List.length_drop] <;> omega
      have hvf34 : ((((List.drop t19 s7.1)).length : Nat) : Int) = (((s7.1).length : Nat) : Int) - ((t19 : Nat) : Int) := by omega
      refine xB 3 [] [(1, vp b1 0), (3, vs A7_0 s7.1 c7_0), (9, vi (((b.defs).length : Nat) : Int)), (10, vi ((s7.2 : Nat) : Int)), (41, vs A31 ((List.take t19 s7.1) ++ ([(((s7.2 : Nat) : Int) : Int)] : List Int)) c31), (42, vs A7_0 s7.1 c7_0), (43, vi ((t19 : Nat) : Int))] ?_
      refine xV (qSl (m := 1) (A := A7_0) (len := (s7.1).length) (c := c7_0) t19 (s7.1).length (some ((t19 : Nat) : Int)) none ((List.drop t19 s7.1)).length rfl rfl (by omega) (by omega) hlf34) ?_
      obtain ⟨nw35, hp35, hs35⟩ := f34.srcB
      obtain ⟨q36, hS⟩ := grd_T hS
      have q36p := of_decide_eq_true q36
      refine xE (eApp (T := (tyI .i64)) (p := g23.b) (et := 3) (bytes := 8) (xs := (((List.take t19 s7.1) ++ ([(((s7.2 : Nat) : Int) : Int)] : List Int)) : List Int)) (ys := ((List.drop t19 s7.1) : List Int)) 1 h31 rfl (fun w hs => hs35 w _ hs) hp35 (by first | omega | (simp only [List.length_cons, List.length_nil] at *; omega)) (by first | omega | (simp only [List.length_cons, List.length_nil] at *; omega))) ?_
      rintro _ _ _ - ⟨A35, c35, k35, rfl, rfl, rfl, h35⟩
      have nh35 := h35.len
      have hz35 : ((((List.take t19 s7.1) ++ ([(((s7.2 : Nat) : Int) : Int)] : List Int)) ++ (List.drop t19 s7.1)) : List Int).length = (((List.take t19 s7.1) ++ ([(((s7.2 : Nat) : Int) : Int)] : List Int))).length + ((List.drop t19 s7.1)).length := List.length_append
      refine xB 1 [] [(1, vp b1 0), (3, vs A35 (((List.take t19 s7.1) ++ ([(((s7.2 : Nat) : Int) : Int)] : List Int)) ++ (List.drop t19 s7.1)) c35), (9, vi (((b.defs).length : Nat) : Int)), (10, vi ((s7.2 : Nat) : Int))] ?_
      refine xRe ?_
      refine wpq_blockN ?_
      refine xSel [some 2, some 1] ?_
      refine xSub [(1, vp b1 0), (3, vs A35 (((List.take t19 s7.1) ++ ([(((s7.2 : Nat) : Int) : Int)] : List Int)) ++ (List.drop t19 s7.1)) c35), (9, vi (((b.defs).length : Nat) : Int)), (10, vi ((s7.2 : Nat) : Int))] ?_
      have eS := (Option.some.inj hS).symm
      exact hN11 _ eS _ _ _ (e17.trans (e21.trans e24)) ⟨A35, c35, k35, by kernel_rfl, by kernel_rfl, h35⟩
     ·intro uu19 hS hN19
      refine xBl 2 ?_
      refine xSub [(1, vp b1 0), (3, vs A7_0 s7.1 c7_0), (4, vi ((s7.2 : Nat) : Int)), (5, vi 0), (9, vi (((b.defs).length : Nat) : Int)), (10, vi ((s7.2 : Nat) : Int))] ?_
      refine xLo hS (fun g own sl s39 => own = [some ⟨b1, 57, (cRBoard b Ab_defs cb_defs Ab_onset cb_onset Ab_acked cb_acked)⟩, k7_0] ∧ sl = [(1, vp b1 0), (3, vs A7_0 s7.1 c7_0), (4, vi ((s7.2 : Nat) : Int)), (5, vi ((s39 : Nat) : Int)), (9, vi (((b.defs).length : Nat) : Int)), (10, vi ((s7.2 : Nat) : Int))]) ⟨by kernel_rfl, by kernel_rfl⟩ ?_
      rintro g40 _ _ s39 uu39 e41 ⟨rfl, rfl⟩ hS Qr39 hN39 hD39
      unfold o50_L1 at hS
      refine xSq ?_
      refine xSq ?_
      refine xDr 0 [5, 9] [] [some ⟨b1, 57, (cRBoard b Ab_defs cb_defs Ab_onset cb_onset Ab_acked cb_acked)⟩, k7_0] 13 (fun RG => ?_) (fun _ _ _ _ _ h => h)
      refine xT 8 [0, 1, 2, 3, 4] [] [some 0, some 1] [(1, vp b1 0), (3, vs A7_0 s7.1 c7_0), (4, vi ((s7.2 : Nat) : Int)), (5, vi ((s39 : Nat) : Int)), (9, vi (((b.defs).length : Nat) : Int)), (10, vi ((s7.2 : Nat) : Int)), (21, vb (decide (((s39 : Nat) : Int) < (((s7.1).length : Nat) : Int))))] RG (Psi.le.refl _) ?_
      refine xGJoA hS 0 [true, true, true, true, true, true, true, true, true, true, true, true, true] (fun g own sl t42 => own = [some ⟨b1, 57, (cRBoard b Ab_defs cb_defs Ab_onset cb_onset Ab_acked cb_acked)⟩, k7_0] ∧ sl = [(1, vp b1 0), (3, vs A7_0 s7.1 c7_0), (4, vi ((s7.2 : Nat) : Int)), (5, vi ((s39 : Nat) : Int)), (9, vi (((b.defs).length : Nat) : Int)), (10, vi ((s7.2 : Nat) : Int)), (29, vb t42)]) ?_ ?_
      ·rintro g43 _ _ t42 e44 ⟨rfl, rfl⟩ hS
       refine xAe (lds := [5, 9]) ?_
       refine wpq_then ?_
       refine xCd (t42) (fun h45 => ?_) (fun h45 => ?_)
       ·have hS := cond_T h45 hS
        refine xSk ?_
        refine wpq_then ?_
        refine xSub [(1, vp b1 0), (3, vs A7_0 s7.1 c7_0), (4, vi ((s7.2 : Nat) : Int)), (5, vi ((s39 : Nat) : Int)), (9, vi (((b.defs).length : Nat) : Int)), (10, vi ((s7.2 : Nat) : Int))] ?_
        refine xBl 3 ?_
        refine xRg ?_
        obtain ⟨q46, hS⟩ := grd_T hS
        have q46p := of_decide_eq_true q46
        refine xB 1 [] [(1, vp b1 0), (3, vs A7_0 s7.1 c7_0), (4, vi ((s7.2 : Nat) : Int)), (5, vi ((s39 : Nat) : Int)), (9, vi (((b.defs).length : Nat) : Int)), (10, vi ((s7.2 : Nat) : Int)), (30, vi ((s39 : Nat) : Int))] ?_
        refine xV (qAdd .i64 (((s39 : Nat) : Int)) (1) (wr64 (by omega))) ?_
        refine xB 1 [] [(1, vp b1 0), (3, vs A7_0 s7.1 c7_0), (4, vi ((s7.2 : Nat) : Int)), (5, vi (((s39 : Nat) : Int) + 1)), (9, vi (((b.defs).length : Nat) : Int)), (10, vi ((s7.2 : Nat) : Int))] ?_
        refine xRe ?_
        refine wpq_blockN ?_
        refine wpq_thenN ?_
        refine xSub [(1, vp b1 0), (3, vs A7_0 s7.1 c7_0), (4, vi ((s7.2 : Nat) : Int)), (5, vi (((s39 : Nat) : Int) + 1)), (9, vi (((b.defs).length : Nat) : Int)), (10, vi ((s7.2 : Nat) : Int))] ?_
        have eS := (Option.some.inj hS).symm
        exact hN39 _ eS _ _ _ e44 ⟨by kernel_rfl, by kernel_rfl⟩
       ·have hS := cond_F h45 hS
        refine xEx 2 ?_
        refine wpq_thenX ?_
        refine wpq_thenX ?_
        refine wpq_blockE ?_
        refine xSub [(1, vp b1 0), (3, vs A7_0 s7.1 c7_0), (4, vi ((s7.2 : Nat) : Int)), (5, vi ((s39 : Nat) : Int)), (9, vi (((b.defs).length : Nat) : Int)), (10, vi ((s7.2 : Nat) : Int))] ?_
        have eS := (Option.some.inj hS).symm
        have eS := (hD39 _ eS).symm
        exact hN19 _ eS _ _ _ (e41.trans e44) ⟨by kernel_rfl, by kernel_rfl⟩
      ·intro uu42 hS hN42
       refine wpq_split 21 (b := decide (((s39 : Nat) : Int) < (((s7.1).length : Nat) : Int))) (by kernel_rfl) (fun q47 => ?_) (fun q47 => ?_)
       ·have hS := cond_T q47 hS
        have q47p := of_decide_eq_true q47
        have h7_0 := h7_0.mono (e17.trans e41).b
        have i49 : s39 < (s7.1).length := by omega
        obtain ⟨kc48, cs48, hA48, hk48, hr48, hw48⟩ := h7_0.open_ i49 0
        obtain ⟨kb48, rfl⟩ : ∃ z, z = kc48 := ⟨_, rfl⟩
        subst hk48
        have hr48 : cs48 = [vi (List.getD s7.1 s39 0)] := hr48
        subst hr48
        refine xT 5 [5, 6, 7] [(5, 0)] [some 0, some 1] [(1, vp b1 0), (3, vs A7_0 s7.1 c7_0), (4, vi ((s7.2 : Nat) : Int)), (5, vi ((s39 : Nat) : Int)), (9, vi (((b.defs).length : Nat) : Int)), (10, vi ((s7.2 : Nat) : Int)), (21, vb true), (22, Value.agg #[vs Ab_defs b.defs cb_defs, vi b.steps, vy b.phase, vs Ab_onset b.onset cb_onset, vs Ab_acked b.acked cb_acked]), (23, vs A7_0 s7.1 c7_0), (24, vi ((s39 : Nat) : Int))] RG (Psi.le.refl _) ?_
        refine xTp 8 RG (fun _ => (qIxB s39 1 kb48.g hA48 rfl i49)) ?_
        refine xTv 9 [some 0, some 1] RG (Psi.le.refl _) (qLdB s39 1 0 1 hw48) ?_
        refine xT 2 [10] [] [some 0, some 1] [(1, vp b1 0), (3, vs A7_0 s7.1 c7_0), (4, vi ((s7.2 : Nat) : Int)), (5, vi ((s39 : Nat) : Int)), (9, vi (((b.defs).length : Nat) : Int)), (10, vi ((s7.2 : Nat) : Int)), (21, vb true), (22, Value.agg #[vs Ab_defs b.defs cb_defs, vi b.steps, vy b.phase, vs Ab_onset b.onset cb_onset, vs Ab_acked b.acked cb_acked]), (26, vi (List.getD s7.1 s39 0)), (27, vi ((s7.2 : Nat) : Int))] RG (Psi.le.refl _) ?_
        have fb_defs := fb_defs.mono (e17.trans e41).r
        have fb_onset := fb_onset.mono (e17.trans e41).r
        have fb_acked := fb_acked.mono (e17.trans e41).r
        obtain ⟨y50, hy50, hS⟩ := bindO_T hS
        refine xO1 (lds := [5, 9]) 11 ?_
        refine xIe (lds := [5, 9]) (Psi.le.refl _) (eC 0 (fun g' lr eb ln => c64 g' b Ab_defs cb_defs Ab_onset cb_onset Ab_acked cb_acked ((List.getD s7.1 s39 0) : Int) (((s7.2 : Nat) : Int) : Int) (fb_defs.mono lr) (fb_onset.mono lr) (fb_acked.mono lr) hy50)) ?_
        rintro _ g51 _ e52 ⟨_, rfl, rfl, rfl⟩
        refine kk [some 0, some 1] ?_
        refine xT 0 [12] [] [some 0, some 1] [(1, vp b1 0), (3, vs A7_0 s7.1 c7_0), (4, vi ((s7.2 : Nat) : Int)), (5, vi ((s39 : Nat) : Int)), (9, vi (((b.defs).length : Nat) : Int)), (10, vi ((s7.2 : Nat) : Int)), (29, vb y50)] RG e52.r ?_
        refine xSub [(1, vp b1 0), (3, vs A7_0 s7.1 c7_0), (4, vi ((s7.2 : Nat) : Int)), (5, vi ((s39 : Nat) : Int)), (9, vi (((b.defs).length : Nat) : Int)), (10, vi ((s7.2 : Nat) : Int)), (29, vb y50)] ?_
        exact hN42 _ (Option.some.inj hS).symm _ _ _ e52 ⟨by kernel_rfl, by kernel_rfl⟩
       ·have hS := cond_F q47 hS
        have q47p := of_decide_eq_false q47
        refine xT 2 [5, 6, 7, 8, 9, 10] [] [some 0, some 1] [(1, vp b1 0), (3, vs A7_0 s7.1 c7_0), (4, vi ((s7.2 : Nat) : Int)), (5, vi ((s39 : Nat) : Int)), (9, vi (((b.defs).length : Nat) : Int)), (10, vi ((s7.2 : Nat) : Int)), (21, vb false), (22, undef), (26, undef), (27, undef)] RG (Psi.le.refl _) ?_
        refine xO1 (lds := [5, 9]) 11 ?_
        refine xIb (lds := [5, 9]) [] ?_
        refine xT 0 [12] [] [some 0, some 1] [(1, vp b1 0), (3, vs A7_0 s7.1 c7_0), (4, vi ((s7.2 : Nat) : Int)), (5, vi ((s39 : Nat) : Int)), (9, vi (((b.defs).length : Nat) : Int)), (10, vi ((s7.2 : Nat) : Int)), (29, vb false)] RG (Psi.le.refl _) ?_
        refine xSub [(1, vp b1 0), (3, vs A7_0 s7.1 c7_0), (4, vi ((s7.2 : Nat) : Int)), (5, vi ((s39 : Nat) : Int)), (9, vi (((b.defs).length : Nat) : Int)), (10, vi ((s7.2 : Nat) : Int)), (29, vb false)] ?_
        exact hN42 _ (Option.some.inj hS).symm _ _ _ (Gh.le.refl _) ⟨by kernel_rfl, by kernel_rfl⟩
  ·have hS := cond_F h10 hS
   have h10p := of_decide_eq_false h10
   refine xEx 0 ?_
   refine wpq_thenX ?_
   refine wpq_thenX ?_
   refine wpq_blockE ?_
   refine xSel [some 1] ?_
   refine xSub [(3, vs A7_0 s7.1 c7_0)] ?_
   have eS := (Option.some.inj hS).symm
   have eS := (hD7 _ eS).symm
   exact hN2 _ eS _ _ _ e9 ⟨A7_0, c7_0, k7_0, by kernel_rfl, by kernel_rfl, h7_0⟩

def o51_L0 (b : RBoard) (s7 : (List Int) × Nat) : Option (Ctl ((List Int) × Nat) ((List Int))) :=
 (cond (decide (((s7.2 : Nat) : Int) < (((b.defs).length : Nat) : Int))) (grd (decide (s7.2 < (b.onset).length)) (bindO (τ := (List Int)) (cond (decide ((List.getD b.onset s7.2 0) > 0)) (grd (decide (((s7.1).length + (([(((s7.2 : Nat) : Int) : Int)] : List Int)).length) * 8 ≤ 140737488355328)) (some (((s7.1 ++ ([(((s7.2 : Nat) : Int) : Int)] : List Int)) : List Int)))) (some ((s7.1 : List Int)))) fun t13 => (grd (decide (((s7.2 : Nat) : Int) + 1 ≤ 9223372036854775807)) (some (Ctl.go ((t13 : List Int), (s7.2 + 1))))))) (some (Ctl.done ((s7.1 : List Int)))))
def o51 (b : RBoard) : Option ((List Int)) :=
 (bindO (τ := (List Int)) (loopO (σ := (List Int) × Nat) (ρ := (List Int)) fuelN (o51_L0 b) (([] : List Int), 0)) fun t2 => (some ((t2 : List Int))))
set_option maxRecDepth 100000 in
theorem c51 (g : Gh) (b : RBoard) (Ab_defs : Option Addr) (cb_defs : Nat) (Ab_onset : Option Addr) (cb_onset : Nat) (Ab_acked : Option Addr) (cb_acked : Nat) (fb_defs : Arr g.r tyAlertDef Ab_defs cb_defs b.defs) (fb_onset : Arr g.r (tyI .i64) Ab_onset cb_onset b.onset) (fb_acked : Arr g.r tyB Ab_acked cb_acked b.acked) {r : (List Int)} (hS : o51 b = some r) :
  Ctr Try.prog 51 [Value.agg #[vs Ab_defs b.defs cb_defs, vi b.steps, vy b.phase, vs Ab_onset b.onset cb_onset, vs Ab_acked b.acked cb_acked]] g [] (fun v ψ o => ∃ (Ar_0 : Option Addr) (cr_0 : Nat) (kr_0 : Option Bk), v = vs Ar_0 r cr_0 ∧ o = [kr_0] ∧ Buf ψ (tyI .i64) 3 (.slice Ar_0 (r).length cr_0) kr_0 r) := by
 unfold o51 at hS
 refine xFn Try.f51 (Try.f51.body.getD .skip) 23 ?_
 have nfb_defs := fb_defs.len
 have nfb_onset := fb_onset.len
 have nfb_acked := fb_acked.len
 refine xSq ?_
 refine xRg ?_
 refine xE eB ?_
 rintro _ _ _ - ⟨b1, rfl, rfl, rfl⟩
 refine xB 1 [] [(1, vp b1 0)] ?_
 refine xRe ?_
 refine wpq_then ?_
 refine xSq ?_
 refine xRg ?_
 refine xB 1 [] [(1, vp b1 0), (3, Value.slice none 0 0)] ?_
 refine xRe ?_
 refine wpq_then ?_
 refine xSq ?_
 refine xSq ?_
 refine xRg ?_
 refine xB 4 [(1, 0)] [(1, vp b1 0), (3, Value.slice none 0 0), (7, vi (((b.defs).length : Nat) : Int)), (8, vi 0)] ?_
 refine xRe ?_
 refine wpq_then ?_
 refine xBindO hS (fun g own sl t2 => ∃ (A2_0 : Option Addr) (c2_0 : Nat) (k2_0 : Option Bk), own = [k2_0] ∧ sl = [(3, vs A2_0 t2 c2_0)] ∧ Buf g.b (tyI .i64) 3 (.slice A2_0 (t2).length c2_0) k2_0 t2) ?_ ?_
 ·rintro g3 _ _ t2 e4 ⟨A2_0, c2_0, k2_0, rfl, rfl, h2_0⟩ hS
  have nh2_0 := h2_0.len
  refine wpq_then ?_
  refine xSq ?_
  refine xRg ?_
  refine xB 2 [] [(2, vs A2_0 t2 c2_0)] ?_
  refine xRe ?_
  refine wpq_then ?_
  have eS := (Option.some.inj hS).symm
  subst eS
  exact xRet [some 0] [2] e4 ⟨A2_0, c2_0, k2_0, by kernel_rfl, by kernel_rfl, h2_0⟩ (fun _ _ h => h)
 ·intro uu2 hS hN2
  refine xBl 0 ?_
  refine xSel [some 0, none] ?_
  refine xSub [(1, vp b1 0), (3, Value.slice none 0 0), (7, vi (((b.defs).length : Nat) : Int)), (8, vi 0)] ?_
  refine xLo hS (fun g own sl s7 => ∃ (A7_0 : Option Addr) (c7_0 : Nat) (k7_0 : Option Bk), own = [some ⟨b1, 57, (cRBoard b Ab_defs cb_defs Ab_onset cb_onset Ab_acked cb_acked)⟩, k7_0] ∧ sl = [(1, vp b1 0), (3, vs A7_0 s7.1 c7_0), (7, vi (((b.defs).length : Nat) : Int)), (8, vi ((s7.2 : Nat) : Int))] ∧ Buf g.b (tyI .i64) 3 (.slice A7_0 (s7.1).length c7_0) k7_0 s7.1) ⟨none, 0, none, by kernel_rfl, by kernel_rfl, Buf.nil⟩ ?_
  rintro g8 _ _ s7 uu7 e9 ⟨A7_0, c7_0, k7_0, rfl, rfl, h7_0⟩ hS Qr7 hN7 hD7
  have nh7_0 := h7_0.len
  unfold o51_L0 at hS
  refine xSq ?_
  refine xRg ?_
  refine xB 1 [] [(1, vp b1 0), (3, vs A7_0 s7.1 c7_0), (7, vi (((b.defs).length : Nat) : Int)), (8, vi ((s7.2 : Nat) : Int)), (9, vb (decide (((s7.2 : Nat) : Int) < (((b.defs).length : Nat) : Int))))] ?_
  refine xRe ?_
  refine wpq_then ?_
  refine xSq ?_
  refine xCd (decide (((s7.2 : Nat) : Int) < (((b.defs).length : Nat) : Int))) (fun h10 => ?_) (fun h10 => ?_)
  ·have hS := cond_T h10 hS
   have h10p := of_decide_eq_true h10
   refine xSk ?_
   refine wpq_then ?_
   refine xSub [(1, vp b1 0), (3, vs A7_0 s7.1 c7_0), (7, vi (((b.defs).length : Nat) : Int)), (8, vi ((s7.2 : Nat) : Int))] ?_
   refine xSq ?_
   refine xBl 1 ?_
   refine xSq ?_
   refine xRg ?_
   refine xB 2 [] [(1, vp b1 0), (3, vs A7_0 s7.1 c7_0), (4, vi ((s7.2 : Nat) : Int)), (7, vi (((b.defs).length : Nat) : Int)), (8, vi ((s7.2 : Nat) : Int))] ?_
   refine xRe ?_
   refine wpq_then ?_
   refine xSq ?_
   refine xRg ?_
   have fb_onset := fb_onset.mono e9.r
   obtain ⟨q12, hS⟩ := grd_T hS
   have q12p := of_decide_eq_true q12
   obtain ⟨ad11, cs11, hA11, hr11, hc11⟩ := fb_onset.at_ (get_getD (d := 0) q12p)
   have hr11 : cs11 = [vi (List.getD b.onset s7.2 0)] := hr11
   subst hr11
   refine xB 3 [(1, 0)] [(1, vp b1 0), (3, vs A7_0 s7.1 c7_0), (4, vi ((s7.2 : Nat) : Int)), (7, vi (((b.defs).length : Nat) : Int)), (8, vi ((s7.2 : Nat) : Int)), (12, vs Ab_onset b.onset cb_onset), (13, vi ((s7.2 : Nat) : Int))] ?_
   refine xV (qIx s7.2 1 hA11 rfl q12p) ?_
   refine xV (qLdP (Addr.add ad11 (s7.2 * 1)) 0 hc11) ?_
   refine xB 1 [] [(1, vp b1 0), (3, vs A7_0 s7.1 c7_0), (4, vi ((s7.2 : Nat) : Int)), (7, vi (((b.defs).length : Nat) : Int)), (8, vi ((s7.2 : Nat) : Int)), (16, vb (decide ((List.getD b.onset s7.2 0) > 0)))] ?_
   refine xRe ?_
   refine wpq_then ?_
   refine xBindO hS (fun g own sl t13 => ∃ (A13_0 : Option Addr) (c13_0 : Nat) (k13_0 : Option Bk), own = [some ⟨b1, 57, (cRBoard b Ab_defs cb_defs Ab_onset cb_onset Ab_acked cb_acked)⟩, k13_0] ∧ sl = [(1, vp b1 0), (3, vs A13_0 t13 c13_0), (7, vi (((b.defs).length : Nat) : Int)), (8, vi ((s7.2 : Nat) : Int))] ∧ Buf g.b (tyI .i64) 3 (.slice A13_0 (t13).length c13_0) k13_0 t13) ?_ ?_
   ·rintro g14 _ _ t13 e15 ⟨A13_0, c13_0, k13_0, rfl, rfl, h13_0⟩ hS
    have nh13_0 := h13_0.len
    refine wpq_blockN ?_
    refine wpq_then ?_
    refine xRg ?_
    obtain ⟨q16, hS⟩ := grd_T hS
    have q16p := of_decide_eq_true q16
    refine xV (qAdd .i64 (((s7.2 : Nat) : Int)) (1) (wr64 (by omega))) ?_
    refine xB 1 [] [(1, vp b1 0), (3, vs A13_0 t13 c13_0), (7, vi (((b.defs).length : Nat) : Int)), (8, vi (((s7.2 : Nat) : Int) + 1))] ?_
    refine xRe ?_
    refine wpq_thenN ?_
    refine xSub [(1, vp b1 0), (3, vs A13_0 t13 c13_0), (7, vi (((b.defs).length : Nat) : Int)), (8, vi (((s7.2 : Nat) : Int) + 1))] ?_
    have eS := (Option.some.inj hS).symm
    exact hN7 _ eS _ _ _ e15 ⟨A13_0, c13_0, k13_0, by kernel_rfl, by kernel_rfl, h13_0⟩
   ·intro uu13 hS hN13
    refine xCd (decide ((List.getD b.onset s7.2 0) > 0)) (fun h17 => ?_) (fun h17 => ?_)
    ·have hS := cond_T h17 hS
     have h17p := of_decide_eq_true h17
     refine xRg ?_
     refine xB 2 [] [(1, vp b1 0), (3, vs A7_0 s7.1 c7_0), (7, vi (((b.defs).length : Nat) : Int)), (8, vi ((s7.2 : Nat) : Int)), (17, vs A7_0 s7.1 c7_0), (18, vi ((s7.2 : Nat) : Int))] ?_
     refine xE (eBs (T := (tyI .i64)) (p := g8.b) (et := 3) (xs := ([(((s7.2 : Nat) : Int) : Int)] : List Int)) (reps_cons (c := [vi ((s7.2 : Nat) : Int)]) (show (tyI .i64).rep _ _ _ from rfl) reps_nil) (by simp)) ?_
     rintro _ _ _ - ⟨A18, c18, k18, rfl, rfl, rfl, h18⟩
     obtain ⟨nw19, hp19, hs19⟩ := h18.srcO (g := g8)
     obtain ⟨q20, hS⟩ := grd_T hS
     have q20p := of_decide_eq_true q20
     refine xE (eApp (T := (tyI .i64)) (p := g8.b) (et := 3) (bytes := 8) (xs := (s7.1 : List Int)) (ys := (([(((s7.2 : Nat) : Int) : Int)] : List Int) : List Int)) 2 h7_0 rfl (fun w hs => hs19 0 w _ hs (by kernel_rfl)) hp19 (by first | omega | (simp only [List.length_cons, List.length_nil] at *; omega)) (by first | omega | (simp only [List.length_cons, List.length_nil] at *; omega))) ?_
     rintro _ _ _ - ⟨A19, c19, k19, rfl, rfl, rfl, h19⟩
     have nh19 := h19.len
     have hz19 : ((s7.1 ++ ([(((s7.2 : Nat) : Int) : Int)] : List Int)) : List Int).length = (s7.1).length + (([(((s7.2 : Nat) : Int) : Int)] : List Int)).length := List.length_append
     refine xB 1 [] [(1, vp b1 0), (3, vs A19 (s7.1 ++ ([(((s7.2 : Nat) : Int) : Int)] : List Int)) c19), (7, vi (((b.defs).length : Nat) : Int)), (8, vi ((s7.2 : Nat) : Int))] ?_
     refine xRe ?_
     refine xSel [some 1, some 2] ?_
     refine xSub [(1, vp b1 0), (3, vs A19 (s7.1 ++ ([(((s7.2 : Nat) : Int) : Int)] : List Int)) c19), (7, vi (((b.defs).length : Nat) : Int)), (8, vi ((s7.2 : Nat) : Int))] ?_
     have eS := (Option.some.inj hS).symm
     exact hN13 _ eS _ _ _ (Gh.le.refl _) ⟨A19, c19, k19, by kernel_rfl, by kernel_rfl, h19⟩
    ·have hS := cond_F h17 hS
     have h17p := of_decide_eq_false h17
     refine xSk ?_
     refine xSub [(1, vp b1 0), (3, vs A7_0 s7.1 c7_0), (7, vi (((b.defs).length : Nat) : Int)), (8, vi ((s7.2 : Nat) : Int))] ?_
     have eS := (Option.some.inj hS).symm
     exact hN13 _ eS _ _ _ (Gh.le.refl _) ⟨A7_0, c7_0, k7_0, by kernel_rfl, by kernel_rfl, h7_0⟩
  ·have hS := cond_F h10 hS
   have h10p := of_decide_eq_false h10
   refine xEx 0 ?_
   refine wpq_thenX ?_
   refine wpq_thenX ?_
   refine wpq_blockE ?_
   refine xSel [some 1] ?_
   refine xSub [(3, vs A7_0 s7.1 c7_0)] ?_
   have eS := (Option.some.inj hS).symm
   have eS := (hD7 _ eS).symm
   exact hN2 _ eS _ _ _ e9 ⟨A7_0, c7_0, k7_0, by kernel_rfl, by kernel_rfl, h7_0⟩

def o52 (b : RBoard) : Option (Int) :=
 (bindO (τ := (List Int)) (o50 b) fun y2 => (cond (((((y2).length : Nat) : Int) == 0)) (some ((0 : Int))) (grd (decide (0 ≤ (List.getD y2 0 0) ∧ (List.getD y2 0 0) < (((b.defs).length : Nat) : Int))) (some (((List.getD b.defs ((List.getD y2 0 0)).toNat default).level : Int))))))
set_option maxRecDepth 100000 in
theorem c52 (g : Gh) (b : RBoard) (Ab_defs : Option Addr) (cb_defs : Nat) (Ab_onset : Option Addr) (cb_onset : Nat) (Ab_acked : Option Addr) (cb_acked : Nat) (fb_defs : Arr g.r tyAlertDef Ab_defs cb_defs b.defs) (fb_onset : Arr g.r (tyI .i64) Ab_onset cb_onset b.onset) (fb_acked : Arr g.r tyB Ab_acked cb_acked b.acked) {r : Int} (hS : o52 b = some r) :
  Ctr Try.prog 52 [Value.agg #[vs Ab_defs b.defs cb_defs, vi b.steps, vy b.phase, vs Ab_onset b.onset cb_onset, vs Ab_acked b.acked cb_acked]] g [] (fun v ψ o => v = vy r ∧ o = []) := by
 unfold o52 at hS
 refine xFn Try.f52 (Try.f52.body.getD .skip) 17 ?_
 have nfb_defs := fb_defs.len
 have nfb_onset := fb_onset.len
 have nfb_acked := fb_acked.len
 refine xSq ?_
 refine xRg ?_
 refine xE eB ?_
 rintro _ _ _ - ⟨b1, rfl, rfl, rfl⟩
 refine xB 1 [] [(1, vp b1 0)] ?_
 refine xRe ?_
 refine wpq_then ?_
 refine xSq ?_
 refine xRg ?_
 refine xB 1 [(0, 0)] [(1, vp b1 0), (4, Value.agg #[vs Ab_defs b.defs cb_defs, vi b.steps, vy b.phase, vs Ab_onset b.onset cb_onset, vs Ab_acked b.acked cb_acked])] ?_
 obtain ⟨y2, hy2, hS⟩ := bindO_T hS
 refine xE (eC 0 (fun g' lr eb ln => c50 g' b Ab_defs cb_defs Ab_onset cb_onset Ab_acked cb_acked (fb_defs.mono lr) (fb_onset.mono lr) (fb_acked.mono lr) hy2)) ?_
 rintro _ g3 _ e4 ⟨_, rfl, A2_0, c2_0, k2_0, rfl, rfl, h2_0⟩
 have nh2_0 := h2_0.len
 refine xB 1 [] [(1, vp b1 0), (3, vs A2_0 y2 c2_0)] ?_
 refine xRe ?_
 refine wpq_then ?_
 refine xSq ?_
 refine xSq ?_
 refine xRg ?_
 refine xB 3 [] [(1, vp b1 0), (3, vs A2_0 y2 c2_0), (8, vb ((((y2).length : Nat) : Int) == 0))] ?_
 refine xRe ?_
 refine wpq_then ?_
 refine xCd (((((y2).length : Nat) : Int) == 0)) (fun h5 => ?_) (fun h5 => ?_)
 ·have hS := cond_T h5 hS
  have h5p : (((y2).length : Nat) : Int) = 0 := eq_of_beq h5
  refine xSq ?_
  refine xRg ?_
  refine xB 1 [] [(2, vy 0)] ?_
  refine xRe ?_
  refine wpq_then ?_
  have eS := (Option.some.inj hS).symm
  subst eS
  exact xRet [] [2] e4 ⟨by kernel_rfl, by kernel_rfl⟩ (fun _ _ h => h)
 ·have hS := cond_F h5 hS
  have h5p : ¬ ((((y2).length : Nat) : Int) = 0) := ne_of_beq_false_ h5
  refine xSk ?_
  refine wpq_then ?_
  refine xSub [(1, vp b1 0), (3, vs A2_0 y2 c2_0)] ?_
  refine xSq ?_
  refine xDr 0 [1, 4, 7] [8] [k2_0, some ⟨b1, 57, (cRBoard b Ab_defs cb_defs Ab_onset cb_onset Ab_acked cb_acked)⟩] 9 (fun RG => ?_) (fun _ _ _ _ _ h => h)
  have i7 : 0 < (y2).length := by omega
  obtain ⟨kc6, cs6, hA6, hk6, hr6, hw6⟩ := h2_0.open_ i7 0
  obtain ⟨kb6, rfl⟩ : ∃ z, z = kc6 := ⟨_, rfl⟩
  subst hk6
  have hr6 : cs6 = [vi (List.getD y2 0 0)] := hr6
  subst hr6
  refine xT 6 [0, 1, 2] [(1, 1)] [some 0, some 1] [(10, vs Ab_defs b.defs cb_defs), (11, vs A2_0 y2 c2_0)] RG (Psi.le.refl _) ?_
  refine xTp 3 RG (fun _ => (qIxB 0 1 kb6.g hA6 rfl i7)) ?_
  refine xTv 4 [some 0, some 1] RG (Psi.le.refl _) (qLdB 0 1 0 0 hw6) ?_
  have fb_defs := fb_defs.mono e4.r
  obtain ⟨q9, hS⟩ := grd_T hS
  have q9p := of_decide_eq_true q9
  have i10 : ((List.getD y2 0 0)).toNat < (b.defs).length := by omega
  obtain ⟨ad8, cs8, hA8, hr8, hc8⟩ := fb_defs.at_ (get_getD (d := default) i10)
  obtain ⟨rfl⟩ := hr8
  refine xTp 5 RG (fun _ => (qIx ((List.getD y2 0 0)).toNat 3 hA8 (show ((List.getD y2 0 0) : Int) = _ from by omega) i10)) ?_
  refine xT 2 [6] [] [some 0, some 1] [(15, Value.pointer (some (Addr.add (Addr.add ad8 (((List.getD y2 0 0)).toNat * 3)) 1)))] RG (Psi.le.refl _) ?_
  refine xTv 7 [some 0, some 1] RG (Psi.le.refl _) (qLdP (Addr.add ad8 (((List.getD y2 0 0)).toNat * 3)) 1 hc8) ?_
  refine xT 0 [8] [] [some 0, some 1] [(2, vy ((List.getD b.defs ((List.getD y2 0 0)).toNat default).level))] RG (Psi.le.refl _) ?_
  refine xAe (lds := [1, 4, 7]) ?_
  refine wpq_then ?_
  have eS := (Option.some.inj hS).symm
  subst eS
  exact xRet [] [2] e4 ⟨by kernel_rfl, by kernel_rfl⟩ (fun _ _ h => h)

def o20_L0 (b : Board) (y1 : (List Int)) (s9 : (List (List UInt8)) × Nat) : Option (Ctl ((List (List UInt8)) × Nat) ((List (List UInt8)))) :=
 (cond (decide (((s9.2 : Nat) : Int) < (((y1).length : Nat) : Int))) (grd (decide (0 ≤ (List.getD y1 s9.2 0) ∧ (List.getD y1 s9.2 0) < (((b.defs).length : Nat) : Int))) (grd (decide (((s9.1).length + (([((List.getD b.defs ((List.getD y1 s9.2 0)).toNat default).name : List UInt8)] : List (List UInt8))).length) * 16 ≤ 140737488355328)) (grd (decide (((s9.2 : Nat) : Int) + 1 ≤ 9223372036854775807)) (some (Ctl.go (((s9.1 ++ ([((List.getD b.defs ((List.getD y1 s9.2 0)).toNat default).name : List UInt8)] : List (List UInt8))) : List (List UInt8)), (s9.2 + 1))))))) (some (Ctl.done ((s9.1 : List (List UInt8))))))
def o20 (b : Board) : Option ((List (List UInt8))) :=
 (bindO (τ := (List Int)) (o19 b) fun y1 => (bindO (τ := (List (List UInt8))) (loopO (σ := (List (List UInt8)) × Nat) (ρ := (List (List UInt8))) fuelN (o20_L0 b y1) (([] : List (List UInt8)), 0)) fun t4 => (some ((t4 : List (List UInt8))))))
set_option maxRecDepth 100000 in
theorem c20 (g : Gh) (a_b : Addr) (b : Board) (Ab_defs : Option Addr) (cb_defs : Nat) (Ab_conds : Option Addr) (cb_conds : Nat) (hc_b : Cells g.r a_b (cBoard b Ab_defs cb_defs Ab_conds cb_conds)) (fb_defs : Arr g.r tyAlertDef Ab_defs cb_defs b.defs) (fb_conds : ArrM g.r g.b tyCnd Ab_conds cb_conds b.conds) {r : (List (List UInt8))} (hS : o20 b = some r) :
  Ctr Try.prog 20 [Value.pointer (some a_b)] g [] (fun v ψ o => ∃ (Ar_0 : Option Addr) (cr_0 : Nat) (kr_0 : Option Bk), v = vs Ar_0 r cr_0 ∧ o = [kr_0] ∧ Buf ψ tyS 9 (.slice Ar_0 (r).length cr_0) kr_0 r) := by
 unfold o20 at hS
 refine xFn Try.f20 (Try.f20.body.getD .skip) 26 ?_
 have nfb_defs := fb_defs.len
 have nfb_conds := fb_conds.len
 refine xSq ?_
 refine xRg ?_
 refine xB 1 [] [(0, Value.pointer (some a_b))] ?_
 refine xRe ?_
 refine wpq_then ?_
 refine xSq ?_
 refine xRg ?_
 refine xB 1 [] [(0, Value.pointer (some a_b)), (3, Value.slice none 0 0)] ?_
 refine xRe ?_
 refine wpq_then ?_
 refine xSq ?_
 refine xSq ?_
 refine xRg ?_
 refine xB 1 [] [(0, Value.pointer (some a_b)), (3, Value.slice none 0 0), (6, Value.pointer (some a_b))] ?_
 obtain ⟨y1, hy1, hS⟩ := bindO_T hS
 refine xE (eC 0 (fun g' lr eb ln => c19 g' a_b b Ab_defs cb_defs Ab_conds cb_conds (hc_b.mono lr) (fb_defs.mono lr) (ArrM.lent fb_conds lr eb) hy1)) ?_
 rintro _ g2 _ e3 ⟨_, rfl, A1_0, c1_0, k1_0, rfl, rfl, h1_0⟩
 have nh1_0 := h1_0.len
 refine xB 2 [] [(0, Value.pointer (some a_b)), (3, Value.slice none 0 0), (7, vs A1_0 y1 c1_0), (8, vi (((y1).length : Nat) : Int)), (9, vi 0)] ?_
 refine xRe ?_
 refine wpq_then ?_
 refine xBindO hS (fun g own sl t4 => ∃ (A4_0 : Option Addr) (c4_0 : Nat) (k4_0 : Option Bk), own = [k4_0] ∧ sl = [(3, vs A4_0 t4 c4_0)] ∧ Buf g.b tyS 9 (.slice A4_0 (t4).length c4_0) k4_0 t4) ?_ ?_
 ·rintro g5 _ _ t4 e6 ⟨A4_0, c4_0, k4_0, rfl, rfl, h4_0⟩ hS
  have nh4_0 := h4_0.len
  refine wpq_then ?_
  refine xSq ?_
  refine xRg ?_
  refine xB 2 [] [(2, vs A4_0 t4 c4_0)] ?_
  refine xRe ?_
  refine wpq_then ?_
  have eS := (Option.some.inj hS).symm
  subst eS
  exact xRet [some 0] [2] (e3.trans e6) ⟨A4_0, c4_0, k4_0, by kernel_rfl, by kernel_rfl, h4_0⟩ (fun _ _ h => h)
 ·intro uu4 hS hN4
  refine xBl 0 ?_
  refine xSel [none, some 0] ?_
  refine xSub [(0, Value.pointer (some a_b)), (3, Value.slice none 0 0), (7, vs A1_0 y1 c1_0), (8, vi (((y1).length : Nat) : Int)), (9, vi 0)] ?_
  refine xLo hS (fun g own sl s9 => ∃ (A9_0 : Option Addr) (c9_0 : Nat) (k9_0 : Option Bk), own = [k9_0, k1_0] ∧ sl = [(0, Value.pointer (some a_b)), (3, vs A9_0 s9.1 c9_0), (7, vs A1_0 y1 c1_0), (8, vi (((y1).length : Nat) : Int)), (9, vi ((s9.2 : Nat) : Int))] ∧ Buf g.b tyS 9 (.slice A9_0 (s9.1).length c9_0) k9_0 s9.1) ⟨none, 0, none, by kernel_rfl, by kernel_rfl, Buf.nil⟩ ?_
  rintro g10 _ _ s9 uu9 e11 ⟨A9_0, c9_0, k9_0, rfl, rfl, h9_0⟩ hS Qr9 hN9 hD9
  have nh9_0 := h9_0.len
  unfold o20_L0 at hS
  refine xSq ?_
  refine xRg ?_
  refine xB 1 [] [(0, Value.pointer (some a_b)), (3, vs A9_0 s9.1 c9_0), (7, vs A1_0 y1 c1_0), (8, vi (((y1).length : Nat) : Int)), (9, vi ((s9.2 : Nat) : Int)), (10, vb (decide (((s9.2 : Nat) : Int) < (((y1).length : Nat) : Int))))] ?_
  refine xRe ?_
  refine wpq_then ?_
  refine xSq ?_
  refine xCd (decide (((s9.2 : Nat) : Int) < (((y1).length : Nat) : Int))) (fun h12 => ?_) (fun h12 => ?_)
  ·have hS := cond_T h12 hS
   have h12p := of_decide_eq_true h12
   refine xSk ?_
   refine wpq_then ?_
   refine xSub [(0, Value.pointer (some a_b)), (3, vs A9_0 s9.1 c9_0), (7, vs A1_0 y1 c1_0), (8, vi (((y1).length : Nat) : Int)), (9, vi ((s9.2 : Nat) : Int))] ?_
   refine xSq ?_
   refine xBl 1 ?_
   refine xSq ?_
   refine xRg ?_
   have h1_0 := h1_0.mono e11.b
   have i14 : s9.2 < (y1).length := by omega
   obtain ⟨kc13, cs13, hA13, hk13, hr13, hw13⟩ := h1_0.open_ i14 0
   obtain ⟨kb13, rfl⟩ : ∃ z, z = kc13 := ⟨_, rfl⟩
   subst hk13
   have hr13 : cs13 = [vi (List.getD y1 s9.2 0)] := hr13
   subst hr13
   refine xV (qIxB s9.2 1 kb13.g hA13 rfl i14) ?_
   refine xV (qLdB s9.2 1 0 1 hw13) ?_
   refine xB 1 [] [(0, Value.pointer (some a_b)), (3, vs A9_0 s9.1 c9_0), (5, vi (List.getD y1 s9.2 0)), (7, vs A1_0 y1 c1_0), (8, vi (((y1).length : Nat) : Int)), (9, vi ((s9.2 : Nat) : Int))] ?_
   refine xRe ?_
   refine wpq_then ?_
   refine xRg ?_
   have hc_b := hc_b.mono (e3.trans e11).r
   refine xB 4 [] [(0, Value.pointer (some a_b)), (3, vs A9_0 s9.1 c9_0), (5, vi (List.getD y1 s9.2 0)), (7, vs A1_0 y1 c1_0), (8, vi (((y1).length : Nat) : Int)), (9, vi ((s9.2 : Nat) : Int)), (13, vs A9_0 s9.1 c9_0), (16, Value.pointer (some a_b))] ?_
   refine xV (qLdP a_b 0 hc_b) ?_
   have fb_defs := fb_defs.mono (e3.trans e11).r
   obtain ⟨q16, hS⟩ := grd_T hS
   have q16p := of_decide_eq_true q16
   have i17 : ((List.getD y1 s9.2 0)).toNat < (b.defs).length := by omega
   obtain ⟨ad15, cs15, hA15, hr15, hc15⟩ := fb_defs.at_ (get_getD (d := default) i17)
   obtain ⟨rfl⟩ := hr15
   refine xB 1 [] [(0, Value.pointer (some a_b)), (3, vs A9_0 s9.1 c9_0), (7, vs A1_0 y1 c1_0), (8, vi (((y1).length : Nat) : Int)), (9, vi ((s9.2 : Nat) : Int)), (13, vs A9_0 s9.1 c9_0), (17, vs Ab_defs b.defs cb_defs), (18, vi (List.getD y1 s9.2 0))] ?_
   refine xV (qIx ((List.getD y1 s9.2 0)).toNat 3 hA15 (show ((List.getD y1 s9.2 0) : Int) = _ from by omega) i17) ?_
   refine xB 1 [] [(0, Value.pointer (some a_b)), (3, vs A9_0 s9.1 c9_0), (7, vs A1_0 y1 c1_0), (8, vi (((y1).length : Nat) : Int)), (9, vi ((s9.2 : Nat) : Int)), (13, vs A9_0 s9.1 c9_0), (20, Value.pointer (some (Addr.add ad15 (((List.getD y1 s9.2 0)).toNat * 3))))] ?_
   refine xV (qLdP (Addr.add ad15 (((List.getD y1 s9.2 0)).toNat * 3)) 0 hc15) ?_
   refine xE (eBs (T := tyS) (p := g10.b) (et := 9) (xs := ([((List.getD b.defs ((List.getD y1 s9.2 0)).toNat default).name : List UInt8)] : List (List UInt8))) (reps_cons (c := [vt ((List.getD b.defs ((List.getD y1 s9.2 0)).toNat default).name)]) (show tyS.rep _ _ _ from rfl) reps_nil) (by simp)) ?_
   rintro _ _ _ - ⟨A18, c18, k18, rfl, rfl, rfl, h18⟩
   obtain ⟨nw19, hp19, hs19⟩ := h18.srcO (g := g10)
   obtain ⟨q20, hS⟩ := grd_T hS
   have q20p := of_decide_eq_true q20
   refine xE (eApp (T := tyS) (p := g10.b) (et := 9) (bytes := 16) (xs := (s9.1 : List (List UInt8))) (ys := (([((List.getD b.defs ((List.getD y1 s9.2 0)).toNat default).name : List UInt8)] : List (List UInt8)) : List (List UInt8))) 1 h9_0 rfl (fun w hs => hs19 0 w _ hs (by kernel_rfl)) hp19 (by first | omega | (simp only [List.length_cons, List.length_nil] at *; omega)) (by first | omega | (simp only [List.length_cons, List.length_nil] at *; omega))) ?_
   rintro _ _ _ - ⟨A19, c19, k19, rfl, rfl, rfl, h19⟩
   have nh19 := h19.len
   have hz19 : ((s9.1 ++ ([((List.getD b.defs ((List.getD y1 s9.2 0)).toNat default).name : List UInt8)] : List (List UInt8))) : List (List UInt8)).length = (s9.1).length + (([((List.getD b.defs ((List.getD y1 s9.2 0)).toNat default).name : List UInt8)] : List (List UInt8))).length := List.length_append
   refine xB 1 [] [(0, Value.pointer (some a_b)), (3, vs A19 (s9.1 ++ ([((List.getD b.defs ((List.getD y1 s9.2 0)).toNat default).name : List UInt8)] : List (List UInt8))) c19), (7, vs A1_0 y1 c1_0), (8, vi (((y1).length : Nat) : Int)), (9, vi ((s9.2 : Nat) : Int))] ?_
   refine xRe ?_
   refine wpq_blockN ?_
   refine wpq_then ?_
   refine xRg ?_
   obtain ⟨q21, hS⟩ := grd_T hS
   have q21p := of_decide_eq_true q21
   refine xV (qAdd .i64 (((s9.2 : Nat) : Int)) (1) (wr64 (by omega))) ?_
   refine xB 1 [] [(0, Value.pointer (some a_b)), (3, vs A19 (s9.1 ++ ([((List.getD b.defs ((List.getD y1 s9.2 0)).toNat default).name : List UInt8)] : List (List UInt8))) c19), (7, vs A1_0 y1 c1_0), (8, vi (((y1).length : Nat) : Int)), (9, vi (((s9.2 : Nat) : Int) + 1))] ?_
   refine xRe ?_
   refine wpq_thenN ?_
   refine xSel [some 1, some 2] ?_
   refine xSub [(0, Value.pointer (some a_b)), (3, vs A19 (s9.1 ++ ([((List.getD b.defs ((List.getD y1 s9.2 0)).toNat default).name : List UInt8)] : List (List UInt8))) c19), (7, vs A1_0 y1 c1_0), (8, vi (((y1).length : Nat) : Int)), (9, vi (((s9.2 : Nat) : Int) + 1))] ?_
   have eS := (Option.some.inj hS).symm
   exact hN9 _ eS _ _ _ (Gh.le.refl _) ⟨A19, c19, k19, by kernel_rfl, by kernel_rfl, h19⟩
  ·have hS := cond_F h12 hS
   have h12p := of_decide_eq_false h12
   refine xEx 0 ?_
   refine wpq_thenX ?_
   refine wpq_thenX ?_
   refine wpq_blockE ?_
   refine xSel [some 0] ?_
   refine xSub [(3, vs A9_0 s9.1 c9_0)] ?_
   have eS := (Option.some.inj hS).symm
   have eS := (hD9 _ eS).symm
   exact hN4 _ eS _ _ _ e11 ⟨A9_0, c9_0, k9_0, by kernel_rfl, by kernel_rfl, h9_0⟩

def o54_L0 (b : RBoard) (y2 : (List Int)) (s10 : (List (List UInt8)) × Nat) : Option (Ctl ((List (List UInt8)) × Nat) ((List (List UInt8)))) :=
 (cond (decide (((s10.2 : Nat) : Int) < (((y2).length : Nat) : Int))) (grd (decide (0 ≤ (List.getD y2 s10.2 0) ∧ (List.getD y2 s10.2 0) < (((b.defs).length : Nat) : Int))) (grd (decide (((s10.1).length + (([((List.getD b.defs ((List.getD y2 s10.2 0)).toNat default).name : List UInt8)] : List (List UInt8))).length) * 16 ≤ 140737488355328)) (grd (decide (((s10.2 : Nat) : Int) + 1 ≤ 9223372036854775807)) (some (Ctl.go (((s10.1 ++ ([((List.getD b.defs ((List.getD y2 s10.2 0)).toNat default).name : List UInt8)] : List (List UInt8))) : List (List UInt8)), (s10.2 + 1))))))) (some (Ctl.done ((s10.1 : List (List UInt8))))))
def o54 (b : RBoard) : Option ((List (List UInt8))) :=
 (bindO (τ := (List Int)) (o50 b) fun y2 => (bindO (τ := (List (List UInt8))) (loopO (σ := (List (List UInt8)) × Nat) (ρ := (List (List UInt8))) fuelN (o54_L0 b y2) (([] : List (List UInt8)), 0)) fun t5 => (some ((t5 : List (List UInt8))))))
set_option maxRecDepth 100000 in
theorem c54 (g : Gh) (b : RBoard) (Ab_defs : Option Addr) (cb_defs : Nat) (Ab_onset : Option Addr) (cb_onset : Nat) (Ab_acked : Option Addr) (cb_acked : Nat) (fb_defs : Arr g.r tyAlertDef Ab_defs cb_defs b.defs) (fb_onset : Arr g.r (tyI .i64) Ab_onset cb_onset b.onset) (fb_acked : Arr g.r tyB Ab_acked cb_acked b.acked) {r : (List (List UInt8))} (hS : o54 b = some r) :
  Ctr Try.prog 54 [Value.agg #[vs Ab_defs b.defs cb_defs, vi b.steps, vy b.phase, vs Ab_onset b.onset cb_onset, vs Ab_acked b.acked cb_acked]] g [] (fun v ψ o => ∃ (Ar_0 : Option Addr) (cr_0 : Nat) (kr_0 : Option Bk), v = vs Ar_0 r cr_0 ∧ o = [kr_0] ∧ Buf ψ tyS 9 (.slice Ar_0 (r).length cr_0) kr_0 r) := by
 unfold o54 at hS
 refine xFn Try.f54 (Try.f54.body.getD .skip) 24 ?_
 have nfb_defs := fb_defs.len
 have nfb_onset := fb_onset.len
 have nfb_acked := fb_acked.len
 refine xSq ?_
 refine xRg ?_
 refine xE eB ?_
 rintro _ _ _ - ⟨b1, rfl, rfl, rfl⟩
 refine xB 1 [] [(1, vp b1 0)] ?_
 refine xRe ?_
 refine wpq_then ?_
 refine xSq ?_
 refine xRg ?_
 refine xB 1 [] [(1, vp b1 0), (3, Value.slice none 0 0)] ?_
 refine xRe ?_
 refine wpq_then ?_
 refine xSq ?_
 refine xSq ?_
 refine xRg ?_
 refine xB 1 [(0, 0)] [(1, vp b1 0), (3, Value.slice none 0 0), (6, Value.agg #[vs Ab_defs b.defs cb_defs, vi b.steps, vy b.phase, vs Ab_onset b.onset cb_onset, vs Ab_acked b.acked cb_acked])] ?_
 obtain ⟨y2, hy2, hS⟩ := bindO_T hS
 refine xE (eC 0 (fun g' lr eb ln => c50 g' b Ab_defs cb_defs Ab_onset cb_onset Ab_acked cb_acked (fb_defs.mono lr) (fb_onset.mono lr) (fb_acked.mono lr) hy2)) ?_
 rintro _ g3 _ e4 ⟨_, rfl, A2_0, c2_0, k2_0, rfl, rfl, h2_0⟩
 have nh2_0 := h2_0.len
 refine xB 2 [] [(1, vp b1 0), (3, Value.slice none 0 0), (7, vs A2_0 y2 c2_0), (8, vi (((y2).length : Nat) : Int)), (9, vi 0)] ?_
 refine xRe ?_
 refine wpq_then ?_
 refine xBindO hS (fun g own sl t5 => ∃ (A5_0 : Option Addr) (c5_0 : Nat) (k5_0 : Option Bk), own = [k5_0] ∧ sl = [(3, vs A5_0 t5 c5_0)] ∧ Buf g.b tyS 9 (.slice A5_0 (t5).length c5_0) k5_0 t5) ?_ ?_
 ·rintro g6 _ _ t5 e7 ⟨A5_0, c5_0, k5_0, rfl, rfl, h5_0⟩ hS
  have nh5_0 := h5_0.len
  refine wpq_then ?_
  refine xSq ?_
  refine xRg ?_
  refine xB 2 [] [(2, vs A5_0 t5 c5_0)] ?_
  refine xRe ?_
  refine wpq_then ?_
  have eS := (Option.some.inj hS).symm
  subst eS
  exact xRet [some 0] [2] (e4.trans e7) ⟨A5_0, c5_0, k5_0, by kernel_rfl, by kernel_rfl, h5_0⟩ (fun _ _ h => h)
 ·intro uu5 hS hN5
  refine xBl 0 ?_
  refine xSel [some 1, none, some 0] ?_
  refine xSub [(1, vp b1 0), (3, Value.slice none 0 0), (7, vs A2_0 y2 c2_0), (8, vi (((y2).length : Nat) : Int)), (9, vi 0)] ?_
  refine xLo hS (fun g own sl s10 => ∃ (A10_0 : Option Addr) (c10_0 : Nat) (k10_0 : Option Bk), own = [some ⟨b1, 57, (cRBoard b Ab_defs cb_defs Ab_onset cb_onset Ab_acked cb_acked)⟩, k10_0, k2_0] ∧ sl = [(1, vp b1 0), (3, vs A10_0 s10.1 c10_0), (7, vs A2_0 y2 c2_0), (8, vi (((y2).length : Nat) : Int)), (9, vi ((s10.2 : Nat) : Int))] ∧ Buf g.b tyS 9 (.slice A10_0 (s10.1).length c10_0) k10_0 s10.1) ⟨none, 0, none, by kernel_rfl, by kernel_rfl, Buf.nil⟩ ?_
  rintro g11 _ _ s10 uu10 e12 ⟨A10_0, c10_0, k10_0, rfl, rfl, h10_0⟩ hS Qr10 hN10 hD10
  have nh10_0 := h10_0.len
  unfold o54_L0 at hS
  refine xSq ?_
  refine xRg ?_
  refine xB 1 [] [(1, vp b1 0), (3, vs A10_0 s10.1 c10_0), (7, vs A2_0 y2 c2_0), (8, vi (((y2).length : Nat) : Int)), (9, vi ((s10.2 : Nat) : Int)), (10, vb (decide (((s10.2 : Nat) : Int) < (((y2).length : Nat) : Int))))] ?_
  refine xRe ?_
  refine wpq_then ?_
  refine xSq ?_
  refine xCd (decide (((s10.2 : Nat) : Int) < (((y2).length : Nat) : Int))) (fun h13 => ?_) (fun h13 => ?_)
  ·have hS := cond_T h13 hS
   have h13p := of_decide_eq_true h13
   refine xSk ?_
   refine wpq_then ?_
   refine xSub [(1, vp b1 0), (3, vs A10_0 s10.1 c10_0), (7, vs A2_0 y2 c2_0), (8, vi (((y2).length : Nat) : Int)), (9, vi ((s10.2 : Nat) : Int))] ?_
   refine xSq ?_
   refine xBl 1 ?_
   refine xSq ?_
   refine xRg ?_
   have h2_0 := h2_0.mono e12.b
   have i15 : s10.2 < (y2).length := by omega
   obtain ⟨kc14, cs14, hA14, hk14, hr14, hw14⟩ := h2_0.open_ i15 0
   obtain ⟨kb14, rfl⟩ : ∃ z, z = kc14 := ⟨_, rfl⟩
   subst hk14
   have hr14 : cs14 = [vi (List.getD y2 s10.2 0)] := hr14
   subst hr14
   refine xV (qIxB s10.2 1 kb14.g hA14 rfl i15) ?_
   refine xV (qLdB s10.2 1 0 2 hw14) ?_
   refine xB 1 [] [(1, vp b1 0), (3, vs A10_0 s10.1 c10_0), (5, vi (List.getD y2 s10.2 0)), (7, vs A2_0 y2 c2_0), (8, vi (((y2).length : Nat) : Int)), (9, vi ((s10.2 : Nat) : Int))] ?_
   refine xRe ?_
   refine wpq_then ?_
   refine xRg ?_
   have fb_defs := fb_defs.mono (e4.trans e12).r
   obtain ⟨q17, hS⟩ := grd_T hS
   have q17p := of_decide_eq_true q17
   have i18 : ((List.getD y2 s10.2 0)).toNat < (b.defs).length := by omega
   obtain ⟨ad16, cs16, hA16, hr16, hc16⟩ := fb_defs.at_ (get_getD (d := default) i18)
   obtain ⟨rfl⟩ := hr16
   refine xB 4 [(2, 0)] [(1, vp b1 0), (3, vs A10_0 s10.1 c10_0), (7, vs A2_0 y2 c2_0), (8, vi (((y2).length : Nat) : Int)), (9, vi ((s10.2 : Nat) : Int)), (13, vs A10_0 s10.1 c10_0), (15, vs Ab_defs b.defs cb_defs), (16, vi (List.getD y2 s10.2 0))] ?_
   refine xV (qIx ((List.getD y2 s10.2 0)).toNat 3 hA16 (show ((List.getD y2 s10.2 0) : Int) = _ from by omega) i18) ?_
   refine xB 1 [] [(1, vp b1 0), (3, vs A10_0 s10.1 c10_0), (7, vs A2_0 y2 c2_0), (8, vi (((y2).length : Nat) : Int)), (9, vi ((s10.2 : Nat) : Int)), (13, vs A10_0 s10.1 c10_0), (18, Value.pointer (some (Addr.add ad16 (((List.getD y2 s10.2 0)).toNat * 3))))] ?_
   refine xV (qLdP (Addr.add ad16 (((List.getD y2 s10.2 0)).toNat * 3)) 0 hc16) ?_
   refine xE (eBs (T := tyS) (p := g11.b) (et := 9) (xs := ([((List.getD b.defs ((List.getD y2 s10.2 0)).toNat default).name : List UInt8)] : List (List UInt8))) (reps_cons (c := [vt ((List.getD b.defs ((List.getD y2 s10.2 0)).toNat default).name)]) (show tyS.rep _ _ _ from rfl) reps_nil) (by simp)) ?_
   rintro _ _ _ - ⟨A19, c19, k19, rfl, rfl, rfl, h19⟩
   obtain ⟨nw20, hp20, hs20⟩ := h19.srcO (g := g11)
   obtain ⟨q21, hS⟩ := grd_T hS
   have q21p := of_decide_eq_true q21
   refine xE (eApp (T := tyS) (p := g11.b) (et := 9) (bytes := 16) (xs := (s10.1 : List (List UInt8))) (ys := (([((List.getD b.defs ((List.getD y2 s10.2 0)).toNat default).name : List UInt8)] : List (List UInt8)) : List (List UInt8))) 2 h10_0 rfl (fun w hs => hs20 0 w _ hs (by kernel_rfl)) hp20 (by first | omega | (simp only [List.length_cons, List.length_nil] at *; omega)) (by first | omega | (simp only [List.length_cons, List.length_nil] at *; omega))) ?_
   rintro _ _ _ - ⟨A20, c20, k20, rfl, rfl, rfl, h20⟩
   have nh20 := h20.len
   have hz20 : ((s10.1 ++ ([((List.getD b.defs ((List.getD y2 s10.2 0)).toNat default).name : List UInt8)] : List (List UInt8))) : List (List UInt8)).length = (s10.1).length + (([((List.getD b.defs ((List.getD y2 s10.2 0)).toNat default).name : List UInt8)] : List (List UInt8))).length := List.length_append
   refine xB 1 [] [(1, vp b1 0), (3, vs A20 (s10.1 ++ ([((List.getD b.defs ((List.getD y2 s10.2 0)).toNat default).name : List UInt8)] : List (List UInt8))) c20), (7, vs A2_0 y2 c2_0), (8, vi (((y2).length : Nat) : Int)), (9, vi ((s10.2 : Nat) : Int))] ?_
   refine xRe ?_
   refine wpq_blockN ?_
   refine wpq_then ?_
   refine xRg ?_
   obtain ⟨q22, hS⟩ := grd_T hS
   have q22p := of_decide_eq_true q22
   refine xV (qAdd .i64 (((s10.2 : Nat) : Int)) (1) (wr64 (by omega))) ?_
   refine xB 1 [] [(1, vp b1 0), (3, vs A20 (s10.1 ++ ([((List.getD b.defs ((List.getD y2 s10.2 0)).toNat default).name : List UInt8)] : List (List UInt8))) c20), (7, vs A2_0 y2 c2_0), (8, vi (((y2).length : Nat) : Int)), (9, vi (((s10.2 : Nat) : Int) + 1))] ?_
   refine xRe ?_
   refine wpq_thenN ?_
   refine xSel [some 1, some 2, some 3] ?_
   refine xSub [(1, vp b1 0), (3, vs A20 (s10.1 ++ ([((List.getD b.defs ((List.getD y2 s10.2 0)).toNat default).name : List UInt8)] : List (List UInt8))) c20), (7, vs A2_0 y2 c2_0), (8, vi (((y2).length : Nat) : Int)), (9, vi (((s10.2 : Nat) : Int) + 1))] ?_
   have eS := (Option.some.inj hS).symm
   exact hN10 _ eS _ _ _ (Gh.le.refl _) ⟨A20, c20, k20, by kernel_rfl, by kernel_rfl, h20⟩
  ·have hS := cond_F h13 hS
   have h13p := of_decide_eq_false h13
   refine xEx 0 ?_
   refine wpq_thenX ?_
   refine wpq_thenX ?_
   refine wpq_blockE ?_
   refine xSel [some 1] ?_
   refine xSub [(3, vs A10_0 s10.1 c10_0)] ?_
   have eS := (Option.some.inj hS).symm
   have eS := (hD10 _ eS).symm
   exact hN5 _ eS _ _ _ e12 ⟨A10_0, c10_0, k10_0, by kernel_rfl, by kernel_rfl, h10_0⟩

def o53_L0 (a : List (List UInt8)) (b : List (List UInt8)) (s7 : Nat) : Option (Ctl (Nat) (Ctl (Unit) (Bool))) :=
 (cond (decide (((s7 : Nat) : Int) < (((a).length : Nat) : Int))) (grd (decide (s7 < (b).length)) (cond ((!((List.getD a s7 []) == (List.getD b s7 [])))) (some (Ctl.done (Ctl.done ((false))))) (grd (decide (((s7 : Nat) : Int) + 1 ≤ 9223372036854775807)) (some (Ctl.go (s7 + 1)))))) (some (Ctl.done (Ctl.go ()))))
def o53 (a : List (List UInt8)) (b : List (List UInt8)) : Option (Bool) :=
 (cond (((((a).length : Nat) : Int) != (((b).length : Nat) : Int))) (some ((false))) (joinO (τ := Unit) (ρ := Bool) (loopO (σ := Nat) (ρ := Ctl (Unit) (Bool)) fuelN (o53_L0 a b) (0)) fun t2 => (some ((true)))))
set_option maxRecDepth 100000 in
theorem c53 (g : Gh) (a : List (List UInt8)) (Aa : Option Addr) (ca : Nat) (b : List (List UInt8)) (Ab : Option Addr) (cb : Nat) (fa : Arr g.r tyS Aa ca a) (fb : Arr g.r tyS Ab cb b) {r : Bool} (hS : o53 a b = some r) :
  Ctr Try.prog 53 [vs Aa a ca, vs Ab b cb] g [] (fun v ψ o => v = vb r ∧ o = []) := by
 unfold o53 at hS
 refine xFn Try.f53 (Try.f53.body.getD .skip) 26 ?_
 have nfa := fa.len
 have nfb := fb.len
 refine xSq ?_
 refine xRg ?_
 refine xB 1 [] [(0, vs Aa a ca), (1, vs Ab b cb)] ?_
 refine xRe ?_
 refine wpq_then ?_
 refine xSq ?_
 refine xSq ?_
 refine xRg ?_
 refine xB 5 [] [(0, vs Aa a ca), (1, vs Ab b cb), (10, vb ((((a).length : Nat) : Int) != (((b).length : Nat) : Int)))] ?_
 refine xRe ?_
 refine wpq_then ?_
 refine xCd (((((a).length : Nat) : Int) != (((b).length : Nat) : Int))) (fun h1 => ?_) (fun h1 => ?_)
 ·have hS := cond_T h1 hS
  have h1p : ¬ ((((a).length : Nat) : Int) = (((b).length : Nat) : Int)) := ne_of_bne_ h1
  refine xSq ?_
  refine xRg ?_
  refine xB 1 [] [(4, vb false)] ?_
  refine xRe ?_
  refine wpq_then ?_
  have eS := (Option.some.inj hS).symm
  subst eS
  exact xRet [] [4] (Gh.le.refl _) ⟨by kernel_rfl, by kernel_rfl⟩ (fun _ _ h => h)
 ·have hS := cond_F h1 hS
  have h1p : (((a).length : Nat) : Int) = (((b).length : Nat) : Int) := eq_of_bne_false_ h1
  refine xSk ?_
  refine wpq_then ?_
  refine xSub [(0, vs Aa a ca), (1, vs Ab b cb)] ?_
  refine xSq ?_
  refine xSq ?_
  refine xRg ?_
  refine xB 3 [] [(0, vs Aa a ca), (1, vs Ab b cb), (12, vi (((a).length : Nat) : Int)), (13, vi 0)] ?_
  refine xRe ?_
  refine wpq_then ?_
  refine xJoinO hS (fun g own sl t2 => own = [] ∧ sl = []) ?_ ?_
  ·rintro g3 _ _ t2 e4 ⟨rfl, rfl⟩ hS
   refine wpq_then ?_
   refine xSq ?_
   refine xRg ?_
   refine xB 1 [] [(4, vb true)] ?_
   refine xRe ?_
   refine wpq_then ?_
   have eS := (Option.some.inj hS).symm
   subst eS
   exact xRet [] [4] e4 ⟨by kernel_rfl, by kernel_rfl⟩ (fun _ _ h => h)
  ·intro uu2 hS hN2 hD2
   refine xBl 0 ?_
   refine xSub [(0, vs Aa a ca), (1, vs Ab b cb), (12, vi (((a).length : Nat) : Int)), (13, vi 0)] ?_
   refine xLo hS (fun g own sl s7 => own = [] ∧ sl = [(0, vs Aa a ca), (1, vs Ab b cb), (12, vi (((a).length : Nat) : Int)), (13, vi ((s7 : Nat) : Int))]) ⟨by kernel_rfl, by kernel_rfl⟩ ?_
   rintro g8 _ _ s7 uu7 e9 ⟨rfl, rfl⟩ hS Qr7 hN7 hD7
   unfold o53_L0 at hS
   refine xSq ?_
   refine xRg ?_
   refine xB 1 [] [(0, vs Aa a ca), (1, vs Ab b cb), (12, vi (((a).length : Nat) : Int)), (13, vi ((s7 : Nat) : Int)), (14, vb (decide (((s7 : Nat) : Int) < (((a).length : Nat) : Int))))] ?_
   refine xRe ?_
   refine wpq_then ?_
   refine xSq ?_
   refine xCd (decide (((s7 : Nat) : Int) < (((a).length : Nat) : Int))) (fun h10 => ?_) (fun h10 => ?_)
   ·have hS := cond_T h10 hS
    have h10p := of_decide_eq_true h10
    refine xSk ?_
    refine wpq_then ?_
    refine xSub [(0, vs Aa a ca), (1, vs Ab b cb), (12, vi (((a).length : Nat) : Int)), (13, vi ((s7 : Nat) : Int))] ?_
    refine xSq ?_
    refine xBl 1 ?_
    refine xSq ?_
    refine xRg ?_
    refine xB 2 [] [(0, vs Aa a ca), (1, vs Ab b cb), (5, vi ((s7 : Nat) : Int)), (12, vi (((a).length : Nat) : Int)), (13, vi ((s7 : Nat) : Int))] ?_
    refine xRe ?_
    refine wpq_then ?_
    refine xSq ?_
    refine xDr 0 [3, 7] [8] [] 9 (fun RG => ?_) (fun _ _ _ _ _ h => h)
    have fa := fa.mono e9.r
    have i12 : s7 < (a).length := by omega
    obtain ⟨ad11, cs11, hA11, hr11, hc11⟩ := fa.at_ (get_getD (d := []) i12)
    have hr11 : cs11 = [vt (List.getD a s7 [])] := hr11
    subst hr11
    refine xT 7 [0, 1] [] [] [(0, vs Aa a ca), (1, vs Ab b cb), (5, vi ((s7 : Nat) : Int)), (12, vi (((a).length : Nat) : Int)), (13, vi ((s7 : Nat) : Int)), (16, vs Aa a ca), (17, vi ((s7 : Nat) : Int))] RG (Psi.le.refl _) ?_
    refine xTp 2 RG (fun _ => (qIx s7 1 hA11 rfl i12)) ?_
    refine xTv 3 [] RG (Psi.le.refl _) (qLdP (Addr.add ad11 (s7 * 1)) 0 hc11) ?_
    have fb := fb.mono e9.r
    obtain ⟨q14, hS⟩ := grd_T hS
    have q14p := of_decide_eq_true q14
    obtain ⟨ad13, cs13, hA13, hr13, hc13⟩ := fb.at_ (get_getD (d := []) q14p)
    have hr13 : cs13 = [vt (List.getD b s7 [])] := hr13
    subst hr13
    refine xT 3 [4, 5] [] [] [(0, vs Aa a ca), (1, vs Ab b cb), (12, vi (((a).length : Nat) : Int)), (13, vi ((s7 : Nat) : Int)), (19, vt (List.getD a s7 [])), (20, vs Ab b cb), (21, vi ((s7 : Nat) : Int))] RG (Psi.le.refl _) ?_
    refine xTp 6 RG (fun _ => (qIx s7 1 hA13 rfl q14p)) ?_
    refine xTv 7 [] RG (Psi.le.refl _) (qLdP (Addr.add ad13 (s7 * 1)) 0 hc13) ?_
    refine xTp 8 RG (fun _ => (qNeS ((List.getD a s7 [])) ((List.getD b s7 [])))) ?_
    refine xAe (lds := [3, 7]) ?_
    refine wpq_then ?_
    refine xSub [(0, vs Aa a ca), (1, vs Ab b cb), (12, vi (((a).length : Nat) : Int)), (13, vi ((s7 : Nat) : Int)), (24, vb (!((List.getD a s7 []) == (List.getD b s7 []))))] ?_
    refine xCd ((!((List.getD a s7 []) == (List.getD b s7 [])))) (fun h15 => ?_) (fun h15 => ?_)
    ·have hS := cond_T h15 hS
     have h15n := not_eq_true_ h15
     have h15np : ¬ ((List.getD a s7 []) = (List.getD b s7 [])) := ne_of_beq_false_ h15n
     refine xSq ?_
     refine xRg ?_
     refine xB 1 [] [(4, vb false)] ?_
     refine xRe ?_
     refine wpq_then ?_
     have eS := (Option.some.inj hS).symm
     have eS := (hD7 _ eS).symm
     have eS := (hD2 _ eS).symm
     subst eS
     exact xRet [] [4] e9 ⟨by kernel_rfl, by kernel_rfl⟩ (fun _ _ h => h)
    ·have hS := cond_F h15 hS
     have h15n := not_eq_false_ h15
     have h15np : (List.getD a s7 []) = (List.getD b s7 []) := eq_of_beq h15n
     refine xSk ?_
     refine wpq_blockN ?_
     refine wpq_then ?_
     refine xSub [(0, vs Aa a ca), (1, vs Ab b cb), (12, vi (((a).length : Nat) : Int)), (13, vi ((s7 : Nat) : Int))] ?_
     refine xRg ?_
     obtain ⟨q16, hS⟩ := grd_T hS
     have q16p := of_decide_eq_true q16
     refine xV (qAdd .i64 (((s7 : Nat) : Int)) (1) (wr64 (by omega))) ?_
     refine xB 1 [] [(0, vs Aa a ca), (1, vs Ab b cb), (12, vi (((a).length : Nat) : Int)), (13, vi (((s7 : Nat) : Int) + 1))] ?_
     refine xRe ?_
     refine wpq_thenN ?_
     refine xSub [(0, vs Aa a ca), (1, vs Ab b cb), (12, vi (((a).length : Nat) : Int)), (13, vi (((s7 : Nat) : Int) + 1))] ?_
     have eS := (Option.some.inj hS).symm
     exact hN7 _ eS _ _ _ (Gh.le.refl _) ⟨by kernel_rfl, by kernel_rfl⟩
   ·have hS := cond_F h10 hS
    have h10p := of_decide_eq_false h10
    refine xEx 0 ?_
    refine wpq_thenX ?_
    refine wpq_thenX ?_
    refine wpq_blockE ?_
    refine xSub [] ?_
    have eS := (Option.some.inj hS).symm
    have eS := (hD7 _ eS).symm
    exact hN2 _ eS _ _ _ e9 ⟨by kernel_rfl, by kernel_rfl⟩

def o47_L0 (n : Int) (s7 : (List UInt8) × Nat) : Option (Ctl ((List UInt8) × Nat) ((List UInt8))) :=
 (cond (decide (((s7.2 : Nat) : Int) < ((((List.replicate 8 (0 : UInt8))).length : Nat) : Int))) (grd (decide (0 ≤ (IntKind.i64.wrap (8 * ((s7.2 : Nat) : Int))))) (grd (decide (s7.2 < (s7.1).length)) (grd (decide (((s7.2 : Nat) : Int) + 1 ≤ 9223372036854775807)) (some (Ctl.go (((List.set s7.1 s7.2 (u8 (IntKind.u8.wrap (shrK .i64 n (IntKind.i64.wrap (8 * ((s7.2 : Nat) : Int))))))) : List UInt8), (s7.2 + 1))))))) (some (Ctl.done ((s7.1 : List UInt8)))))
def o47 (n : Int) : Option ((List UInt8)) :=
 (bindO (τ := (List UInt8)) (loopO (σ := (List UInt8) × Nat) (ρ := (List UInt8)) fuelN (o47_L0 n) (((List.replicate 8 (0 : UInt8)) : List UInt8), 0)) fun t2 => (some ((t2 : List UInt8))))
set_option maxRecDepth 100000 in
theorem c47 (g : Gh) (n : Int) {r : (List UInt8)} (hS : o47 n = some r) :
  Ctr Try.prog 47 [vi n] g [] (fun v ψ o => ∃ (Ar_0 : Option Addr) (cr_0 : Nat) (kr_0 : Option Bk), v = vs Ar_0 r cr_0 ∧ o = [kr_0] ∧ Buf ψ tyU8 5 (.slice Ar_0 (r).length cr_0) kr_0 r) := by
 unfold o47 at hS
 refine xFn Try.f47 (Try.f47.body.getD .skip) 21 ?_
 refine xSq ?_
 refine xRg ?_
 refine xB 1 [] [(0, vi n)] ?_
 refine xRe ?_
 refine wpq_then ?_
 refine xSq ?_
 refine xRg ?_
 refine xE (eMk (T := tyU8) (p := g.b) (et := 5) (bytes := 1) (z := (0 : UInt8)) 8 rfl (show tyU8.rep _ _ _ from rfl) (by omega) (by omega)) ?_
 rintro _ _ _ - ⟨A1, c1, k1, rfl, rfl, rfl, h1⟩
 have nh1 := h1.len
 have hlh1 : ((List.replicate 8 (0 : UInt8))).length = 8 := List.length_replicate
 refine xB 1 [] [(0, vi n), (3, vs A1 (List.replicate 8 (0 : UInt8)) c1)] ?_
 refine xRe ?_
 refine wpq_then ?_
 refine xSq ?_
 refine xSq ?_
 refine xRg ?_
 refine xB 3 [] [(0, vi n), (3, vs A1 (List.replicate 8 (0 : UInt8)) c1), (7, vi ((((List.replicate 8 (0 : UInt8))).length : Nat) : Int)), (8, vi 0)] ?_
 refine xRe ?_
 refine wpq_then ?_
 refine xBindO hS (fun g own sl t2 => ∃ (k2_0 : Option Bk), own = [k2_0] ∧ sl = [(3, vs A1 t2 c1)] ∧ Buf g.b tyU8 5 (.slice A1 (t2).length c1) k2_0 t2) ?_ ?_
 ·rintro g3 _ _ t2 e4 ⟨k2_0, rfl, rfl, h2_0⟩ hS
  have nh2_0 := h2_0.len
  refine wpq_then ?_
  refine xSq ?_
  refine xRg ?_
  refine xB 2 [] [(2, vs A1 t2 c1)] ?_
  refine xRe ?_
  refine wpq_then ?_
  have eS := (Option.some.inj hS).symm
  subst eS
  exact xRet [some 0] [2] e4 ⟨A1, c1, k2_0, by kernel_rfl, by kernel_rfl, h2_0⟩ (fun _ _ h => h)
 ·intro uu2 hS hN2
  refine xBl 0 ?_
  refine xSub [(0, vi n), (3, vs A1 (List.replicate 8 (0 : UInt8)) c1), (7, vi ((((List.replicate 8 (0 : UInt8))).length : Nat) : Int)), (8, vi 0)] ?_
  refine xLo hS (fun g own sl s7 => ∃ (k7_0 : Option Bk), own = [k7_0] ∧ sl = [(0, vi n), (3, vs A1 s7.1 c1), (7, vi ((((List.replicate 8 (0 : UInt8))).length : Nat) : Int)), (8, vi ((s7.2 : Nat) : Int))] ∧ Buf g.b tyU8 5 (.slice A1 (s7.1).length c1) k7_0 s7.1) ⟨k1, by kernel_rfl, by kernel_rfl, h1⟩ ?_
  rintro g8 _ _ s7 uu7 e9 ⟨k7_0, rfl, rfl, h7_0⟩ hS Qr7 hN7 hD7
  have nh7_0 := h7_0.len
  unfold o47_L0 at hS
  refine xSq ?_
  refine xRg ?_
  refine xB 1 [] [(0, vi n), (3, vs A1 s7.1 c1), (7, vi ((((List.replicate 8 (0 : UInt8))).length : Nat) : Int)), (8, vi ((s7.2 : Nat) : Int)), (9, vb (decide (((s7.2 : Nat) : Int) < ((((List.replicate 8 (0 : UInt8))).length : Nat) : Int))))] ?_
  refine xRe ?_
  refine wpq_then ?_
  refine xSq ?_
  refine xCd (decide (((s7.2 : Nat) : Int) < ((((List.replicate 8 (0 : UInt8))).length : Nat) : Int))) (fun h10 => ?_) (fun h10 => ?_)
  ·have hS := cond_T h10 hS
   have h10p := of_decide_eq_true h10
   refine xSk ?_
   refine wpq_then ?_
   refine xSub [(0, vi n), (3, vs A1 s7.1 c1), (7, vi ((((List.replicate 8 (0 : UInt8))).length : Nat) : Int)), (8, vi ((s7.2 : Nat) : Int))] ?_
   refine xSq ?_
   refine xBl 1 ?_
   refine xSq ?_
   refine xRg ?_
   refine xB 2 [] [(0, vi n), (3, vs A1 s7.1 c1), (4, vi ((s7.2 : Nat) : Int)), (7, vi ((((List.replicate 8 (0 : UInt8))).length : Nat) : Int)), (8, vi ((s7.2 : Nat) : Int))] ?_
   refine xRe ?_
   refine wpq_then ?_
   refine xRg ?_
   have z23 := i64_in_ (8 * ((s7.2 : Nat) : Int))
   obtain ⟨q11, hS⟩ := grd_T hS
   have q11p := of_decide_eq_true q11
   refine xB 5 [] [(0, vi n), (3, vs A1 s7.1 c1), (7, vi ((((List.replicate 8 (0 : UInt8))).length : Nat) : Int)), (8, vi ((s7.2 : Nat) : Int)), (11, vs A1 s7.1 c1), (12, vi ((s7.2 : Nat) : Int)), (13, vi n), (15, vi (IntKind.i64.wrap (8 * ((s7.2 : Nat) : Int))))] ?_
   refine xV (qShr .i64 .i64 (n) ((IntKind.i64.wrap (8 * ((s7.2 : Nat) : Int)))) (by omega)) ?_
   have z24 := u8_in_ (shrK .i64 n (IntKind.i64.wrap (8 * ((s7.2 : Nat) : Int))))
   obtain ⟨q13, hS⟩ := grd_T hS
   have q13p := of_decide_eq_true q13
   obtain ⟨kc12, cs12, hA12, hk12, hr12, hw12⟩ := h7_0.open_ q13p 0
   obtain ⟨kb12, rfl⟩ : ∃ z, z = kc12 := ⟨_, rfl⟩
   subst hk12
   have hr12 : cs12 = [vy ((List.getD s7.1 s7.2 0).toNat : Int)] := hr12
   subst hr12
   have nb12 := UInt8.toNat_lt (List.getD s7.1 s7.2 0)
   refine xB 1 [] [(0, vi n), (3, vs A1 s7.1 c1), (7, vi ((((List.replicate 8 (0 : UInt8))).length : Nat) : Int)), (8, vi ((s7.2 : Nat) : Int)), (11, vs A1 s7.1 c1), (12, vi ((s7.2 : Nat) : Int)), (17, vy (IntKind.u8.wrap (shrK .i64 n (IntKind.i64.wrap (8 * ((s7.2 : Nat) : Int))))))] ?_
   refine xV (qIxB s7.2 1 kb12.g hA12 rfl q13p) ?_
   refine xD (eStB s7.2 1 0 0 [vy (IntKind.u8.wrap (shrK .i64 n (IntKind.i64.wrap (8 * ((s7.2 : Nat) : Int)))))] h7_0 rfl hw12 (u8_rep (wrapU8_rng _)) q13p) ?_
   rintro _ _ _ - ⟨k14, rfl, rfl, h14⟩
   have hz14 : (s7.1).length = ((List.set s7.1 s7.2 (u8 (IntKind.u8.wrap (shrK .i64 n (IntKind.i64.wrap (8 * ((s7.2 : Nat) : Int)))))))).length := by simp
   refine xRe ?_
   refine wpq_blockN ?_
   refine wpq_then ?_
   refine xSub [(0, vi n), (3, Value.slice A1 ((s7.1).length) c1), (7, vi ((((List.replicate 8 (0 : UInt8))).length : Nat) : Int)), (8, vi ((s7.2 : Nat) : Int))] ?_
   refine xRg ?_
   obtain ⟨q15, hS⟩ := grd_T hS
   have q15p := of_decide_eq_true q15
   refine xV (qAdd .i64 (((s7.2 : Nat) : Int)) (1) (wr64 (by omega))) ?_
   refine xB 1 [] [(0, vi n), (3, Value.slice A1 ((s7.1).length) c1), (7, vi ((((List.replicate 8 (0 : UInt8))).length : Nat) : Int)), (8, vi (((s7.2 : Nat) : Int) + 1))] ?_
   refine xRe ?_
   refine wpq_thenN ?_
   refine wpq_re 3 (v := Value.slice A1 ((s7.1).length) c1) (vs A1 (List.set s7.1 s7.2 (u8 (IntKind.u8.wrap (shrK .i64 n (IntKind.i64.wrap (8 * ((s7.2 : Nat) : Int))))))) c1) (by kernel_rfl) (congrArg (fun z => Value.slice A1 z c1) hz14) ?_
   have h14 := Buf.re h14 hz14 (rfl : (List.set s7.1 s7.2 (u8 (IntKind.u8.wrap (shrK .i64 n (IntKind.i64.wrap (8 * ((s7.2 : Nat) : Int))))))) = _)
   refine xSub [(0, vi n), (3, vs A1 (List.set s7.1 s7.2 (u8 (IntKind.u8.wrap (shrK .i64 n (IntKind.i64.wrap (8 * ((s7.2 : Nat) : Int))))))) c1), (7, vi ((((List.replicate 8 (0 : UInt8))).length : Nat) : Int)), (8, vi (((s7.2 : Nat) : Int) + 1))] ?_
   have eS := (Option.some.inj hS).symm
   exact hN7 _ eS _ _ _ (Gh.le.refl _) ⟨k14, by kernel_rfl, by kernel_rfl, h14⟩
  ·have hS := cond_F h10 hS
   have h10p := of_decide_eq_false h10
   refine xEx 0 ?_
   refine wpq_thenX ?_
   refine wpq_thenX ?_
   refine wpq_blockE ?_
   refine xSub [(3, vs A1 s7.1 c1)] ?_
   have eS := (Option.some.inj hS).symm
   have eS := (hD7 _ eS).symm
   exact hN2 _ eS _ _ _ e9 ⟨k7_0, by kernel_rfl, by kernel_rfl, h7_0⟩

def o22_L0 (b : Board) (s211 : (List UInt8) × Nat) : Option (Ctl ((List UInt8) × Nat) ((List UInt8))) :=
 (cond (decide (((s211.2 : Nat) : Int) < (((b.conds).length : Nat) : Int))) (letJ (τ := Nat) (cond (((List.getD b.conds s211.2 default).onset != 0)) (1) (0)) fun t218 => (letJ (τ := Int) (cond ((List.getD b.conds s211.2 default).acked) ((lorK .u8 ((t218 : Nat) : Int) 2)) (((t218 : Nat) : Int))) fun t221 => (grd (decide (((s211.1).length + (([(u8 t221)] : List UInt8)).length) * 1 ≤ 140737488355328)) (bindO (τ := (List UInt8)) (o47 ((List.getD b.conds s211.2 default).onset : Int)) fun y227 => (grd (decide ((((s211.1 ++ ([(u8 t221)] : List UInt8))).length + (y227).length) * 1 ≤ 140737488355328)) (grd (decide (((s211.2 : Nat) : Int) + 1 ≤ 9223372036854775807)) (some (Ctl.go ((((s211.1 ++ ([(u8 t221)] : List UInt8)) ++ y227) : List UInt8), (s211.2 + 1)))))))))) (some (Ctl.done ((s211.1 : List UInt8)))))
def o22 (b : Board) : Option ((List UInt8)) :=
 (bindO (τ := (List UInt8)) (o47 (b.steps : Int)) fun y2 => (grd (decide (0 ≤ b.phase ∧ b.phase ≤ 255)) (grd (decide (((y2).length + (([(u8 b.phase)] : List UInt8)).length) * 1 ≤ 140737488355328)) (bindO (τ := (List UInt8)) (loopO (σ := (List UInt8) × Nat) (ρ := (List UInt8)) fuelN (o22_L0 b) (((y2 ++ ([(u8 b.phase)] : List UInt8)) : List UInt8), 0)) fun t206 => (some ((t206 : List UInt8)))))))
set_option maxRecDepth 100000 in
theorem c22 (g : Gh) (a_b : Addr) (b : Board) (Ab_defs : Option Addr) (cb_defs : Nat) (Ab_conds : Option Addr) (cb_conds : Nat) (hc_b : Cells g.r a_b (cBoard b Ab_defs cb_defs Ab_conds cb_conds)) (fb_defs : Arr g.r tyAlertDef Ab_defs cb_defs b.defs) (fb_conds : ArrM g.r g.b tyCnd Ab_conds cb_conds b.conds) {r : (List UInt8)} (hS : o22 b = some r) :
  Ctr Try.prog 22 [Value.pointer (some a_b)] g [] (fun v ψ o => ∃ (Ar_0 : Option Addr) (cr_0 : Nat) (kr_0 : Option Bk), v = vs Ar_0 r cr_0 ∧ o = [kr_0] ∧ Buf ψ tyU8 5 (.slice Ar_0 (r).length cr_0) kr_0 r) := by
 unfold o22 at hS
 refine xFn Try.f22 (Try.f22.body.getD .skip) 46 ?_
 have nfb_defs := fb_defs.len
 have nfb_conds := fb_conds.len
 refine xSq ?_
 refine xRg ?_
 refine xB 1 [] [(0, Value.pointer (some a_b))] ?_
 refine xRe ?_
 refine wpq_then ?_
 refine xSq ?_
 refine xSq ?_
 refine xRg ?_
 refine xB 2 [] [(0, Value.pointer (some a_b)), (8, vb false)] ?_
 refine xRe ?_
 refine wpq_then ?_
 refine xCf ?_
 refine xSk ?_
 refine wpq_then ?_
 refine xSub [(0, Value.pointer (some a_b))] ?_
 refine xSq ?_
 refine xDr 0 [3, 8] [11] [] 12 (fun RG => ?_) (fun _ _ _ _ _ h => h)
 refine xT 9 [0, 1, 2] [] [] [(0, Value.pointer (some a_b)), (11, Value.pointer (some (Addr.add a_b 1)))] RG (Psi.le.refl _) ?_
 refine xTv 3 [] RG (Psi.le.refl _) (qLdP a_b 1 hc_b) ?_
 refine xT 5 [5, 6, 7] [] [] [(0, Value.pointer (some a_b)), (12, vi b.steps), (16, Value.pointer (some (Addr.add a_b 2)))] RG (Psi.le.refl _) ?_
 refine xTv 8 [] RG (Psi.le.refl _) (qLdP a_b 2 hc_b) ?_
 obtain ⟨y2, hy2, hS⟩ := bindO_T hS
 obtain ⟨q5, hS⟩ := grd_T hS
 have q5p := of_decide_eq_true q5
 refine wpa_meet (fun g own sl => ∃ (A2_0 : Option Addr) (c2_0 : Nat) (k2_0 : Option Bk) (A6 : Option Addr) (c6 : Nat) (k6 : Option Bk), own = [k6, k2_0] ∧ sl = [(0, Value.pointer (some a_b)), (13, vs A2_0 y2 c2_0), (18, vs A6 ([(u8 b.phase)] : List UInt8) c6)] ∧ Buf g.b tyU8 5 (.slice A2_0 (y2).length c2_0) k2_0 y2 ∧ Buf g.b tyU8 5 (.slice A6 (([(u8 b.phase)] : List UInt8)).length c6) k6 ([(u8 b.phase)] : List UInt8)) 2 [true, true, true, true, true, true, true, true, true, true, false, false] ?_ (fun hD1 => ?_)
 ·rintro g202 _ _ e203 ⟨A2_0, c2_0, k2_0, A6, c6, k6, rfl, rfl, h2_0, h6⟩
  have nh2_0 := h2_0.len
  have nh6 := h6.len
  obtain ⟨nw204, hp204, hs204⟩ := h6.srcO (g := g202)
  obtain ⟨q205, hS⟩ := grd_T hS
  have q205p := of_decide_eq_true q205
  refine xO1 (lds := [3, 8]) 10 ?_
  refine xIe (lds := [3, 8]) e203.r (eApp (T := tyU8) (p := g202.b) (et := 5) (bytes := 1) (xs := (y2 : List UInt8)) (ys := (([(u8 b.phase)] : List UInt8) : List UInt8)) 1 h2_0 rfl (fun w hs => hs204 0 w _ hs (by kernel_rfl)) hp204 (by first | omega | (simp only [List.length_cons, List.length_nil] at *; omega)) (by first | omega | (simp only [List.length_cons, List.length_nil] at *; omega))) ?_
  rintro _ _ _ - ⟨A204, c204, k204, rfl, rfl, rfl, h204⟩
  refine kk [] ?_
  have nh204 := h204.len
  have hz204 : ((y2 ++ ([(u8 b.phase)] : List UInt8)) : List UInt8).length = (y2).length + (([(u8 b.phase)] : List UInt8)).length := List.length_append
  refine xT 0 [11] [] [] [(0, Value.pointer (some a_b)), (3, vs A204 (y2 ++ ([(u8 b.phase)] : List UInt8)) c204)] RG e203.r ?_
  refine xAe (lds := [3, 8]) ?_
  refine wpq_then ?_
  refine xSq ?_
  refine xSq ?_
  refine xRg ?_
  have hc_b := hc_b.mono e203.r
  refine xB 3 [] [(3, vs A204 (y2 ++ ([(u8 b.phase)] : List UInt8)) c204), (22, Value.pointer (some (Addr.add a_b 3)))] ?_
  refine xV (qLdP a_b 3 hc_b) ?_
  refine xB 2 [] [(3, vs A204 (y2 ++ ([(u8 b.phase)] : List UInt8)) c204), (23, vs Ab_conds b.conds cb_conds), (24, vi (((b.conds).length : Nat) : Int)), (25, vi 0)] ?_
  refine xRe ?_
  refine wpq_then ?_
  refine xBindO hS (fun g own sl t206 => ∃ (A206_0 : Option Addr) (c206_0 : Nat) (k206_0 : Option Bk), own = [k206_0] ∧ sl = [(3, vs A206_0 t206 c206_0)] ∧ Buf g.b tyU8 5 (.slice A206_0 (t206).length c206_0) k206_0 t206) ?_ ?_
  ·rintro g207 _ _ t206 e208 ⟨A206_0, c206_0, k206_0, rfl, rfl, h206_0⟩ hS
   have nh206_0 := h206_0.len
   refine wpq_then ?_
   refine xSq ?_
   refine xRg ?_
   refine xB 2 [] [(2, vs A206_0 t206 c206_0)] ?_
   refine xRe ?_
   refine wpq_then ?_
   have eS := (Option.some.inj hS).symm
   subst eS
   exact xRet [some 0] [2] (e203.trans e208) ⟨A206_0, c206_0, k206_0, by kernel_rfl, by kernel_rfl, h206_0⟩ (fun _ _ h => h)
  ·intro uu206 hS hN206
   refine xBl 0 ?_
   refine xSel [some 1] ?_
   refine xSub [(3, vs A204 (y2 ++ ([(u8 b.phase)] : List UInt8)) c204), (23, vs Ab_conds b.conds cb_conds), (24, vi (((b.conds).length : Nat) : Int)), (25, vi 0)] ?_
   refine xLo hS (fun g own sl s211 => ∃ (A211_0 : Option Addr) (c211_0 : Nat) (k211_0 : Option Bk), own = [k211_0] ∧ sl = [(3, vs A211_0 s211.1 c211_0), (23, vs Ab_conds b.conds cb_conds), (24, vi (((b.conds).length : Nat) : Int)), (25, vi ((s211.2 : Nat) : Int))] ∧ Buf g.b tyU8 5 (.slice A211_0 (s211.1).length c211_0) k211_0 s211.1) ⟨A204, c204, k204, by kernel_rfl, by kernel_rfl, h204⟩ ?_
   rintro g212 _ _ s211 uu211 e213 ⟨A211_0, c211_0, k211_0, rfl, rfl, h211_0⟩ hS Qr211 hN211 hD211
   have nh211_0 := h211_0.len
   unfold o22_L0 at hS
   refine xSq ?_
   refine xRg ?_
   refine xB 1 [] [(3, vs A211_0 s211.1 c211_0), (23, vs Ab_conds b.conds cb_conds), (24, vi (((b.conds).length : Nat) : Int)), (25, vi ((s211.2 : Nat) : Int)), (26, vb (decide (((s211.2 : Nat) : Int) < (((b.conds).length : Nat) : Int))))] ?_
   refine xRe ?_
   refine wpq_then ?_
   refine xSq ?_
   refine xCd (decide (((s211.2 : Nat) : Int) < (((b.conds).length : Nat) : Int))) (fun h214 => ?_) (fun h214 => ?_)
   ·have hS := cond_T h214 hS
    have h214p := of_decide_eq_true h214
    refine xSk ?_
    refine wpq_then ?_
    refine xSub [(3, vs A211_0 s211.1 c211_0), (23, vs Ab_conds b.conds cb_conds), (24, vi (((b.conds).length : Nat) : Int)), (25, vi ((s211.2 : Nat) : Int))] ?_
    refine xSq ?_
    refine xBl 1 ?_
    refine xSq ?_
    refine xRg ?_
    have fb_conds := fb_conds.mono (e203.trans e213).r (e203.trans e213).b
    have i216 : s211.2 < (b.conds).length := by omega
    obtain ⟨ad215, cs215, hA215, hr215, hc215⟩ := fb_conds.at_ (get_getD (d := default) i216)
    obtain ⟨rfl⟩ := hr215
    refine xV (qIx s211.2 2 hA215 rfl i216) ?_
    refine xV (qLdP (Addr.add ad215 (s211.2 * 2)) 0 hc215) ?_
    refine xE eB ?_
    rintro _ _ _ - ⟨b217, rfl, rfl, rfl⟩
    refine xBo 1 [(3, 0)] [some ⟨b217, 79, [vi ((List.getD b.conds s211.2 default).onset), vb ((List.getD b.conds s211.2 default).acked)]⟩, k211_0] [(3, vs A211_0 s211.1 c211_0), (5, vp b217 0), (23, vs Ab_conds b.conds cb_conds), (24, vi (((b.conds).length : Nat) : Int)), (25, vi ((s211.2 : Nat) : Int))] ?_
    refine xRe ?_
    refine wpq_then ?_
    refine xSq ?_
    refine xRg ?_
    refine xB 1 [] [(3, vs A211_0 s211.1 c211_0), (5, vp b217 0), (6, vy 0), (23, vs Ab_conds b.conds cb_conds), (24, vi (((b.conds).length : Nat) : Int)), (25, vi ((s211.2 : Nat) : Int))] ?_
    refine xRe ?_
    refine wpq_then ?_
    refine xSq ?_
    refine xSq ?_
    refine xRg ?_
    refine xB 3 [(1, 0)] [(3, vs A211_0 s211.1 c211_0), (5, vp b217 0), (6, vy 0), (23, vs Ab_conds b.conds cb_conds), (24, vi (((b.conds).length : Nat) : Int)), (25, vi ((s211.2 : Nat) : Int)), (31, vb ((List.getD b.conds s211.2 default).onset != 0))] ?_
    refine xRe ?_
    refine wpq_then ?_
    refine xLetJ hS (fun g own sl t218 => own = [some ⟨b217, 79, [vi ((List.getD b.conds s211.2 default).onset), vb ((List.getD b.conds s211.2 default).acked)]⟩, k211_0] ∧ sl = [(3, vs A211_0 s211.1 c211_0), (5, vp b217 0), (6, vy ((t218 : Nat) : Int)), (23, vs Ab_conds b.conds cb_conds), (24, vi (((b.conds).length : Nat) : Int)), (25, vi ((s211.2 : Nat) : Int))] ∧ (0 ≤ t218 ∧ t218 ≤ 1)) ?_ ?_
    ·rintro g219 _ _ t218 e220 ⟨rfl, rfl, ⟨r218_0l, r218_0r⟩⟩ hS
     refine wpq_then ?_
     refine xSq ?_
     refine xSq ?_
     refine xRg ?_
     refine xB 2 [(1, 0)] [(3, vs A211_0 s211.1 c211_0), (5, vp b217 0), (6, vy ((t218 : Nat) : Int)), (23, vs Ab_conds b.conds cb_conds), (24, vi (((b.conds).length : Nat) : Int)), (25, vi ((s211.2 : Nat) : Int)), (33, vb ((List.getD b.conds s211.2 default).acked))] ?_
     refine xRe ?_
     refine wpq_then ?_
     refine xLetJ hS (fun g own sl t221 => own = [some ⟨b217, 79, [vi ((List.getD b.conds s211.2 default).onset), vb ((List.getD b.conds s211.2 default).acked)]⟩, k211_0] ∧ sl = [(3, vs A211_0 s211.1 c211_0), (5, vp b217 0), (6, vy t221), (23, vs Ab_conds b.conds cb_conds), (24, vi (((b.conds).length : Nat) : Int)), (25, vi ((s211.2 : Nat) : Int))] ∧ (0 ≤ t221 ∧ t221 ≤ 255)) ?_ ?_
     ·rintro g222 _ _ t221 e223 ⟨rfl, rfl, ⟨r221_0l, r221_0r⟩⟩ hS
      refine wpq_then ?_
      refine xDr 0 [5] [8] [some ⟨b217, 79, [vi ((List.getD b.conds s211.2 default).onset), vb ((List.getD b.conds s211.2 default).acked)]⟩] 9 (fun RG => ?_) (fun _ _ _ _ _ h => h)
      refine xT 5 [0, 1, 4, 5] [(5, 0)] [some 0] [(3, vs A211_0 s211.1 c211_0), (23, vs Ab_conds b.conds cb_conds), (24, vi (((b.conds).length : Nat) : Int)), (25, vi ((s211.2 : Nat) : Int)), (36, vs A211_0 s211.1 c211_0), (37, vy t221), (41, vi ((List.getD b.conds s211.2 default).onset))] RG (Psi.le.refl _) ?_
      refine xO1 (lds := [5]) 2 ?_
      refine xIe (lds := [5]) (Psi.le.refl _) (eBs (T := tyU8) (p := g222.b) (et := 5) (xs := ([(u8 t221)] : List UInt8)) (reps_cons (c := [vy t221]) (u8_rep (by omega)) reps_nil) (by simp)) ?_
      rintro _ _ _ - ⟨A224, c224, k224, rfl, rfl, rfl, h224⟩
      refine kk [some 1] ?_
      have h211_0 := h211_0.mono (e220.trans e223).b
      obtain ⟨nw225, hp225, hs225⟩ := h224.srcO (g := g222)
      obtain ⟨q226, hS⟩ := grd_T hS
      have q226p := of_decide_eq_true q226
      refine xO1 (lds := [5]) 3 ?_
      refine xIe (lds := [5]) (Psi.le.refl _) (eApp (T := tyU8) (p := g222.b) (et := 5) (bytes := 1) (xs := (s211.1 : List UInt8)) (ys := (([(u8 t221)] : List UInt8) : List UInt8)) 2 h211_0 rfl (fun w hs => hs225 0 w _ hs (by kernel_rfl)) hp225 (by first | omega | (simp only [List.length_cons, List.length_nil] at *; omega)) (by first | omega | (simp only [List.length_cons, List.length_nil] at *; omega))) ?_
      rintro _ _ _ - ⟨A225, c225, k225, rfl, rfl, rfl, h225⟩
      refine kk [some 1] ?_
      have nh225 := h225.len
      have hz225 : ((s211.1 ++ ([(u8 t221)] : List UInt8)) : List UInt8).length = (s211.1).length + (([(u8 t221)] : List UInt8)).length := List.length_append
      obtain ⟨y227, hy227, hS⟩ := bindO_T hS
      refine xO1 (lds := [5]) 6 ?_
      refine xIe (lds := [5]) (Psi.le.refl _) (eC 0 (fun g' lr eb ln => c47 g' ((List.getD b.conds s211.2 default).onset : Int) hy227)) ?_
      rintro _ g228 _ e229 ⟨_, rfl, A227_0, c227_0, k227_0, rfl, rfl, h227_0⟩
      refine kk [some 2] ?_
      have nh227_0 := h227_0.len
      have h225 := h225.mono e229.b
      obtain ⟨nw230, hp230, hs230⟩ := h227_0.srcO (g := g228)
      obtain ⟨q231, hS⟩ := grd_T hS
      have q231p := of_decide_eq_true q231
      refine xO1 (lds := [5]) 7 ?_
      refine xIe (lds := [5]) e229.r (eApp (T := tyU8) (p := g228.b) (et := 5) (bytes := 1) (xs := ((s211.1 ++ ([(u8 t221)] : List UInt8)) : List UInt8)) (ys := (y227 : List UInt8)) 3 h225 rfl (fun w hs => hs230 0 w _ hs (by kernel_rfl)) hp230 (by first | omega | (simp only [List.length_cons, List.length_nil] at *; omega)) (by first | omega | (simp only [List.length_cons, List.length_nil] at *; omega))) ?_
      rintro _ _ _ - ⟨A230, c230, k230, rfl, rfl, rfl, h230⟩
      refine kk [some 2] ?_
      have nh230 := h230.len
      have hz230 : (((s211.1 ++ ([(u8 t221)] : List UInt8)) ++ y227) : List UInt8).length = ((s211.1 ++ ([(u8 t221)] : List UInt8))).length + (y227).length := List.length_append
      refine xT 0 [8] [] [some 2] [(3, vs A230 ((s211.1 ++ ([(u8 t221)] : List UInt8)) ++ y227) c230), (23, vs Ab_conds b.conds cb_conds), (24, vi (((b.conds).length : Nat) : Int)), (25, vi ((s211.2 : Nat) : Int))] RG e229.r ?_
      refine xAe (lds := [5]) ?_
      refine wpq_blockN ?_
      refine wpq_then ?_
      refine xRg ?_
      obtain ⟨q232, hS⟩ := grd_T hS
      have q232p := of_decide_eq_true q232
      refine xV (qAdd .i64 (((s211.2 : Nat) : Int)) (1) (wr64 (by omega))) ?_
      refine xB 1 [] [(3, vs A230 ((s211.1 ++ ([(u8 t221)] : List UInt8)) ++ y227) c230), (23, vs Ab_conds b.conds cb_conds), (24, vi (((b.conds).length : Nat) : Int)), (25, vi (((s211.2 : Nat) : Int) + 1))] ?_
      refine xRe ?_
      refine wpq_thenN ?_
      refine xSel [some 3] ?_
      refine xSub [(3, vs A230 ((s211.1 ++ ([(u8 t221)] : List UInt8)) ++ y227) c230), (23, vs Ab_conds b.conds cb_conds), (24, vi (((b.conds).length : Nat) : Int)), (25, vi (((s211.2 : Nat) : Int) + 1))] ?_
      have eS := (Option.some.inj hS).symm
      exact hN211 _ eS _ _ _ (e220.trans (e223.trans e229)) ⟨A230, c230, k230, by kernel_rfl, by kernel_rfl, h230⟩
     ·intro uu221 hS hN221
      refine xCd ((List.getD b.conds s211.2 default).acked) (fun h233 => ?_) (fun h233 => ?_)
      ·have hS := cond_T h233 hS
       refine xRg ?_
       refine xB 3 [] [(3, vs A211_0 s211.1 c211_0), (5, vp b217 0), (6, vy (lorK .u8 ((t218 : Nat) : Int) 2)), (23, vs Ab_conds b.conds cb_conds), (24, vi (((b.conds).length : Nat) : Int)), (25, vi ((s211.2 : Nat) : Int))] ?_
       refine xRe ?_
       refine xSub [(3, vs A211_0 s211.1 c211_0), (5, vp b217 0), (6, vy (lorK .u8 ((t218 : Nat) : Int) 2)), (23, vs Ab_conds b.conds cb_conds), (24, vi (((b.conds).length : Nat) : Int)), (25, vi ((s211.2 : Nat) : Int))] ?_
       have eS := hS.symm
       exact hN221 _ eS _ _ _ (Gh.le.refl _) ⟨by kernel_rfl, by kernel_rfl, okI⟩
      ·have hS := cond_F h233 hS
       refine xSk ?_
       refine xSub [(3, vs A211_0 s211.1 c211_0), (5, vp b217 0), (6, vy ((t218 : Nat) : Int)), (23, vs Ab_conds b.conds cb_conds), (24, vi (((b.conds).length : Nat) : Int)), (25, vi ((s211.2 : Nat) : Int))] ?_
       have eS := hS.symm
       exact hN221 _ eS _ _ _ (Gh.le.refl _) ⟨by kernel_rfl, by kernel_rfl, okI⟩
    ·intro uu218 hS hN218
     refine xCd (((List.getD b.conds s211.2 default).onset != 0)) (fun h234 => ?_) (fun h234 => ?_)
     ·have hS := cond_T h234 hS
      have h234p : ¬ ((List.getD b.conds s211.2 default).onset = 0) := ne_of_bne_ h234
      refine xRg ?_
      refine xB 1 [] [(3, vs A211_0 s211.1 c211_0), (5, vp b217 0), (6, vy 1), (23, vs Ab_conds b.conds cb_conds), (24, vi (((b.conds).length : Nat) : Int)), (25, vi ((s211.2 : Nat) : Int))] ?_
      refine xRe ?_
      refine xSub [(3, vs A211_0 s211.1 c211_0), (5, vp b217 0), (6, vy 1), (23, vs Ab_conds b.conds cb_conds), (24, vi (((b.conds).length : Nat) : Int)), (25, vi ((s211.2 : Nat) : Int))] ?_
      have eS := hS.symm
      exact hN218 _ eS _ _ _ (Gh.le.refl _) ⟨by kernel_rfl, by kernel_rfl, okI⟩
     ·have hS := cond_F h234 hS
      have h234p : (List.getD b.conds s211.2 default).onset = 0 := eq_of_bne_false_ h234
      refine xSk ?_
      refine xSub [(3, vs A211_0 s211.1 c211_0), (5, vp b217 0), (6, vy 0), (23, vs Ab_conds b.conds cb_conds), (24, vi (((b.conds).length : Nat) : Int)), (25, vi ((s211.2 : Nat) : Int))] ?_
      have eS := hS.symm
      exact hN218 _ eS _ _ _ (Gh.le.refl _) ⟨by kernel_rfl, by kernel_rfl, okI⟩
   ·have hS := cond_F h214 hS
    have h214p := of_decide_eq_false h214
    refine xEx 0 ?_
    refine wpq_thenX ?_
    refine wpq_thenX ?_
    refine wpq_blockE ?_
    refine xSub [(3, vs A211_0 s211.1 c211_0)] ?_
    have eS := (Option.some.inj hS).symm
    have eS := (hD211 _ eS).symm
    exact hN206 _ eS _ _ _ e213 ⟨A211_0, c211_0, k211_0, by kernel_rfl, by kernel_rfl, h211_0⟩
 ·refine xO2 (lds := [3, 8]) 4 9 ?_ ?_
  ·refine xIe (lds := [3, 8]) (Psi.le.refl _) (eC 0 (fun g' lr eb ln => c47 g' (b.steps : Int) hy2)) ?_
   rintro _ g236 _ e237 ⟨_, rfl, A2_0, c2_0, k2_0, rfl, rfl, h2_0⟩
   refine kk [] ?_
   have nh2_0 := h2_0.len
   refine xO1 (lds := [3, 8]) 9 ?_
   refine xIe (lds := [3, 8]) e237.r (eBs (T := tyU8) (p := g236.b) (et := 5) (xs := ([(u8 b.phase)] : List UInt8)) (reps_cons (c := [vy b.phase]) (u8_rep (by omega)) reps_nil) (by simp)) ?_
   rintro _ _ _ - ⟨A239, c239, k239, rfl, rfl, rfl, h239⟩
   refine kk [] ?_
   refine xSub [(0, Value.pointer (some a_b)), (13, vs A2_0 y2 c2_0), (18, vs A239 ([(u8 b.phase)] : List UInt8) c239)] ?_
   exact hD1 _ _ _ e237 ⟨A2_0, c2_0, k2_0, A239, c239, k239, by kernel_rfl, by kernel_rfl, h2_0, h239⟩
  ·refine xIe (lds := [3, 8]) (Psi.le.refl _) (eBs (T := tyU8) (p := g.b) (et := 5) (xs := ([(u8 b.phase)] : List UInt8)) (reps_cons (c := [vy b.phase]) (u8_rep (by omega)) reps_nil) (by simp)) ?_
   rintro _ _ _ - ⟨A241, c241, k241, rfl, rfl, rfl, h241⟩
   refine kk [] ?_
   refine xO1 (lds := [3, 8]) 4 ?_
   refine xIe (lds := [3, 8]) (Psi.le.refl _) (eC 0 (fun g' lr eb ln => c47 g' (b.steps : Int) hy2)) ?_
   rintro _ g243 _ e244 ⟨_, rfl, A2_0, c2_0, k2_0, rfl, rfl, h2_0⟩
   refine kk [] ?_
   have nh2_0 := h2_0.len
   refine xSel [some 1, some 0] ?_
   refine xSub [(0, Value.pointer (some a_b)), (13, vs A2_0 y2 c2_0), (18, vs A241 ([(u8 b.phase)] : List UInt8) c241)] ?_
   have h241 := h241.mono e244.b
   exact hD1 _ _ _ e244 ⟨A2_0, c2_0, k2_0, A241, c241, k241, by kernel_rfl, by kernel_rfl, h2_0, h241⟩

def o65_L0 (x : Int) (s6 : (List UInt8) × Nat) : Option (Ctl ((List UInt8) × Nat) ((List UInt8))) :=
 (cond (decide (((s6.2 : Nat) : Int) < 8)) (grd (decide (0 ≤ (IntKind.i64.wrap (8 * ((s6.2 : Nat) : Int))))) (grd (decide (((s6.1).length + (([(u8 (IntKind.u8.wrap (shrK .u64 (IntKind.u64.wrap x) (IntKind.i64.wrap (8 * ((s6.2 : Nat) : Int))))))] : List UInt8)).length) * 1 ≤ 140737488355328)) (grd (decide (((s6.2 : Nat) : Int) + 1 ≤ 9223372036854775807)) (some (Ctl.go (((s6.1 ++ ([(u8 (IntKind.u8.wrap (shrK .u64 (IntKind.u64.wrap x) (IntKind.i64.wrap (8 * ((s6.2 : Nat) : Int))))))] : List UInt8)) : List UInt8), (s6.2 + 1))))))) (some (Ctl.done ((s6.1 : List UInt8)))))
def o65 (x : Int) : Option ((List UInt8)) :=
 (bindO (τ := (List UInt8)) (loopO (σ := (List UInt8) × Nat) (ρ := (List UInt8)) fuelN (o65_L0 x) (([] : List UInt8), 0)) fun t1 => (some ((t1 : List UInt8))))
set_option maxRecDepth 100000 in
theorem c65 (g : Gh) (x : Int) {r : (List UInt8)} (hS : o65 x = some r) :
  Ctr Try.prog 65 [vi x] g [] (fun v ψ o => ∃ (Ar_0 : Option Addr) (cr_0 : Nat) (kr_0 : Option Bk), v = vs Ar_0 r cr_0 ∧ o = [kr_0] ∧ Buf ψ tyU8 5 (.slice Ar_0 (r).length cr_0) kr_0 r) := by
 unfold o65 at hS
 refine xFn Try.f65 (Try.f65.body.getD .skip) 19 ?_
 refine xSq ?_
 refine xRg ?_
 refine xB 1 [] [(0, vi x)] ?_
 refine xRe ?_
 refine wpq_then ?_
 refine xSq ?_
 refine xRg ?_
 refine xB 1 [] [(0, vi x), (3, Value.slice none 0 0)] ?_
 refine xRe ?_
 refine wpq_then ?_
 refine xSq ?_
 refine xSq ?_
 refine xRg ?_
 refine xB 1 [] [(0, vi x), (3, Value.slice none 0 0), (4, vi 0)] ?_
 refine xRe ?_
 refine wpq_then ?_
 refine xBindO hS (fun g own sl t1 => ∃ (A1_0 : Option Addr) (c1_0 : Nat) (k1_0 : Option Bk), own = [k1_0] ∧ sl = [(3, vs A1_0 t1 c1_0)] ∧ Buf g.b tyU8 5 (.slice A1_0 (t1).length c1_0) k1_0 t1) ?_ ?_
 ·rintro g2 _ _ t1 e3 ⟨A1_0, c1_0, k1_0, rfl, rfl, h1_0⟩ hS
  have nh1_0 := h1_0.len
  refine wpq_then ?_
  refine xSq ?_
  refine xRg ?_
  refine xB 2 [] [(2, vs A1_0 t1 c1_0)] ?_
  refine xRe ?_
  refine wpq_then ?_
  have eS := (Option.some.inj hS).symm
  subst eS
  exact xRet [some 0] [2] e3 ⟨A1_0, c1_0, k1_0, by kernel_rfl, by kernel_rfl, h1_0⟩ (fun _ _ h => h)
 ·intro uu1 hS hN1
  refine xBl 0 ?_
  refine xSel [none] ?_
  refine xSub [(0, vi x), (3, Value.slice none 0 0), (4, vi 0)] ?_
  refine xLo hS (fun g own sl s6 => ∃ (A6_0 : Option Addr) (c6_0 : Nat) (k6_0 : Option Bk), own = [k6_0] ∧ sl = [(0, vi x), (3, vs A6_0 s6.1 c6_0), (4, vi ((s6.2 : Nat) : Int))] ∧ Buf g.b tyU8 5 (.slice A6_0 (s6.1).length c6_0) k6_0 s6.1) ⟨none, 0, none, by kernel_rfl, by kernel_rfl, Buf.nil⟩ ?_
  rintro g7 _ _ s6 uu6 e8 ⟨A6_0, c6_0, k6_0, rfl, rfl, h6_0⟩ hS Qr6 hN6 hD6
  have nh6_0 := h6_0.len
  unfold o65_L0 at hS
  refine xSq ?_
  refine xSq ?_
  refine xRg ?_
  refine xB 2 [] [(0, vi x), (3, vs A6_0 s6.1 c6_0), (4, vi ((s6.2 : Nat) : Int)), (6, vb (decide (((s6.2 : Nat) : Int) < 8)))] ?_
  refine xRe ?_
  refine wpq_then ?_
  refine xCd (decide (((s6.2 : Nat) : Int) < 8)) (fun h9 => ?_) (fun h9 => ?_)
  ·have hS := cond_T h9 hS
   have h9p := of_decide_eq_true h9
   refine xSk ?_
   refine wpq_then ?_
   refine xSub [(0, vi x), (3, vs A6_0 s6.1 c6_0), (4, vi ((s6.2 : Nat) : Int))] ?_
   refine xSq ?_
   refine xBl 1 ?_
   refine xRg ?_
   have z34 := u64_in_ x
   have z35 := i64_in_ (8 * ((s6.2 : Nat) : Int))
   obtain ⟨q10, hS⟩ := grd_T hS
   have q10p := of_decide_eq_true q10
   refine xB 5 [] [(0, vi x), (3, vs A6_0 s6.1 c6_0), (4, vi ((s6.2 : Nat) : Int)), (9, vs A6_0 s6.1 c6_0), (11, Value.int .u64 (IntKind.u64.wrap x)), (13, vi (IntKind.i64.wrap (8 * ((s6.2 : Nat) : Int))))] ?_
   refine xV (qShr .u64 .i64 ((IntKind.u64.wrap x)) ((IntKind.i64.wrap (8 * ((s6.2 : Nat) : Int)))) (by omega)) ?_
   have z36 := u8_in_ (shrK .u64 (IntKind.u64.wrap x) (IntKind.i64.wrap (8 * ((s6.2 : Nat) : Int))))
   refine xB 1 [] [(0, vi x), (3, vs A6_0 s6.1 c6_0), (4, vi ((s6.2 : Nat) : Int)), (9, vs A6_0 s6.1 c6_0), (15, vy (IntKind.u8.wrap (shrK .u64 (IntKind.u64.wrap x) (IntKind.i64.wrap (8 * ((s6.2 : Nat) : Int))))))] ?_
   refine xE (eBs (T := tyU8) (p := g7.b) (et := 5) (xs := ([(u8 (IntKind.u8.wrap (shrK .u64 (IntKind.u64.wrap x) (IntKind.i64.wrap (8 * ((s6.2 : Nat) : Int))))))] : List UInt8)) (reps_cons (c := [vy (IntKind.u8.wrap (shrK .u64 (IntKind.u64.wrap x) (IntKind.i64.wrap (8 * ((s6.2 : Nat) : Int)))))]) (u8_rep (wrapU8_rng _)) reps_nil) (by simp)) ?_
   rintro _ _ _ - ⟨A11, c11, k11, rfl, rfl, rfl, h11⟩
   obtain ⟨nw12, hp12, hs12⟩ := h11.srcO (g := g7)
   obtain ⟨q13, hS⟩ := grd_T hS
   have q13p := of_decide_eq_true q13
   refine xE (eApp (T := tyU8) (p := g7.b) (et := 5) (bytes := 1) (xs := (s6.1 : List UInt8)) (ys := (([(u8 (IntKind.u8.wrap (shrK .u64 (IntKind.u64.wrap x) (IntKind.i64.wrap (8 * ((s6.2 : Nat) : Int))))))] : List UInt8) : List UInt8)) 1 h6_0 rfl (fun w hs => hs12 0 w _ hs (by kernel_rfl)) hp12 (by first | omega | (simp only [List.length_cons, List.length_nil] at *; omega)) (by first | omega | (simp only [List.length_cons, List.length_nil] at *; omega))) ?_
   rintro _ _ _ - ⟨A12, c12, k12, rfl, rfl, rfl, h12⟩
   have nh12 := h12.len
   have hz12 : ((s6.1 ++ ([(u8 (IntKind.u8.wrap (shrK .u64 (IntKind.u64.wrap x) (IntKind.i64.wrap (8 * ((s6.2 : Nat) : Int))))))] : List UInt8)) : List UInt8).length = (s6.1).length + (([(u8 (IntKind.u8.wrap (shrK .u64 (IntKind.u64.wrap x) (IntKind.i64.wrap (8 * ((s6.2 : Nat) : Int))))))] : List UInt8)).length := List.length_append
   refine xB 1 [] [(0, vi x), (3, vs A12 (s6.1 ++ ([(u8 (IntKind.u8.wrap (shrK .u64 (IntKind.u64.wrap x) (IntKind.i64.wrap (8 * ((s6.2 : Nat) : Int))))))] : List UInt8)) c12), (4, vi ((s6.2 : Nat) : Int))] ?_
   refine xRe ?_
   refine wpq_blockN ?_
   refine wpq_then ?_
   refine xRg ?_
   obtain ⟨q14, hS⟩ := grd_T hS
   have q14p := of_decide_eq_true q14
   refine xB 1 [] [(0, vi x), (3, vs A12 (s6.1 ++ ([(u8 (IntKind.u8.wrap (shrK .u64 (IntKind.u64.wrap x) (IntKind.i64.wrap (8 * ((s6.2 : Nat) : Int))))))] : List UInt8)) c12), (4, vi ((s6.2 : Nat) : Int)), (7, vi ((s6.2 : Nat) : Int))] ?_
   refine xV (qAdd .i64 (((s6.2 : Nat) : Int)) (1) (wr64 (by omega))) ?_
   refine xB 1 [] [(0, vi x), (3, vs A12 (s6.1 ++ ([(u8 (IntKind.u8.wrap (shrK .u64 (IntKind.u64.wrap x) (IntKind.i64.wrap (8 * ((s6.2 : Nat) : Int))))))] : List UInt8)) c12), (4, vi (((s6.2 : Nat) : Int) + 1))] ?_
   refine xRe ?_
   refine wpq_thenN ?_
   refine xSel [some 1] ?_
   refine xSub [(0, vi x), (3, vs A12 (s6.1 ++ ([(u8 (IntKind.u8.wrap (shrK .u64 (IntKind.u64.wrap x) (IntKind.i64.wrap (8 * ((s6.2 : Nat) : Int))))))] : List UInt8)) c12), (4, vi (((s6.2 : Nat) : Int) + 1))] ?_
   have eS := (Option.some.inj hS).symm
   exact hN6 _ eS _ _ _ (Gh.le.refl _) ⟨A12, c12, k12, by kernel_rfl, by kernel_rfl, h12⟩
  ·have hS := cond_F h9 hS
   have h9p := of_decide_eq_false h9
   refine xEx 0 ?_
   refine wpq_thenX ?_
   refine wpq_thenX ?_
   refine wpq_blockE ?_
   refine xSub [(3, vs A6_0 s6.1 c6_0)] ?_
   have eS := (Option.some.inj hS).symm
   have eS := (hD6 _ eS).symm
   exact hN1 _ eS _ _ _ e8 ⟨A6_0, c6_0, k6_0, by kernel_rfl, by kernel_rfl, h6_0⟩

end Go.Proofs.Ytfhchendnfpbkaa
