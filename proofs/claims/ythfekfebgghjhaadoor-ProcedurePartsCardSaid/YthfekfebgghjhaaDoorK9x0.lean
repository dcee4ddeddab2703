/-
Walks, printed by wip/gen. Conditions: each theorem's own.
-/
import Derived.Test.YthfekfebgghjhaaDoorT2
namespace Go.Proofs.YthfekfebgghjhaaDoor
set_option linter.unusedVariables false
set_option linter.unusedSimpArgs false
open Go.RowKit
def o9 (p : Proc) (runway : List UInt8) (n : Int) : Option (Bool) :=
  (bindO (τ := Bool) (o12) fun y2 => (cond ((!y2)) (some ((false))) (bindO (τ := Int) (o13 ({ p with kind := 3 })) fun y6 => (cond ((y6 != 0)) (some ((true))) (bindO (τ := Part × Bool) (o17 ({ p with kind := 3 }) (2 : Int) []) fun y10 => (bindO (τ := (List Leg) × Int) (o23 ({ p with kind := 3 }) runway []) fun y14 => (bindO (τ := Bool) (cond (((!y10.2) || (y14.2 != 0))) (some (true)) (bindO (τ := Bool) (o20 (y14.1 : List Leg) (y10.1.legs : List Leg)) fun y48 => (some (!y48)))) fun t18 => (cond (t18) (some ((false))) (bindO (τ := (List (List UInt8))) (o15 ({ p with kind := 3 }) (3 : Int)) fun y22 => (cond (((((y22).length : Nat) : Int) == 0)) (some ((true))) (grd (decide (0 ≤ (Int.tmod (IntKind.i64.wrap n) (((y22).length : Nat) : Int)) ∧ (Int.tmod (IntKind.i64.wrap n) (((y22).length : Nat) : Int)) < (((y22).length : Nat) : Int))) (bindO (τ := Part × Bool) (o17 ({ p with kind := 3 }) (3 : Int) (List.getD y22 ((Int.tmod (IntKind.i64.wrap n) (((y22).length : Nat) : Int))).toNat [])) fun y29 => (bindO (τ := (List Leg) × Int) (o23 ({ p with kind := 3 }) runway (List.getD y22 ((Int.tmod (IntKind.i64.wrap n) (((y22).length : Nat) : Int))).toNat [])) fun y33 => (bindO (τ := Bool) (cond ((y29.2 && (y33.2 == 0))) (bindO (τ := (List Leg)) (o21 (y29.1.legs : List Leg) (y10.1.legs : List Leg)) fun y41 => (bindO (τ := Bool) (o20 (y33.1 : List Leg) (y41 : List Leg)) fun y44 => (some (y44)))) (some (false))) fun t37 => (some ((t37)))))))))))))))))
set_option maxRecDepth 100000 in
theorem C9 (g : Gh) (p : Proc) (Ap_parts : Option Addr) (cp_parts : Nat) (runway : List UInt8) (n : Int) (fp_parts : ArrM g.r g.b tyPart Ap_parts cp_parts p.parts) (fG0 : Arr g.r (tyI .u16) (some ⟨0, 0, none⟩) 18 usesL) {r : Bool} (hS : o9 p runway n = some r) :
    Ctr Tryd.prog 9 [Value.agg #[vt p.airport, vt p.name, vy p.kind, vs Ap_parts p.parts cp_parts], vt runway, vy n] g [] (fun v ψ o => v = vb r ∧ o = []) := by
  unfold o9 at hS
  refine xFn Tryd.f9 (Tryd.f9.body.getD .skip) 84 ?_
  have hlG0 := hlUses
  have nfp_parts := fp_parts.len
  have nfG0 := fG0.len
  refine xSq ?_
  refine xRg ?_
  refine xE eB ?_
  rintro _ _ _ - ⟨b1, rfl, rfl, rfl⟩
  refine xB 1 [] [(1, vt runway), (2, vy n), (3, vp b1 0)] ?_
  refine xRe ?_
  refine wpq_then ?_
  refine xSq ?_
  refine xSq ?_
  refine xRg ?_
  obtain ⟨y2, hy2, hS⟩ := bindO_T hS
  refine xE (eC 0 (fun g' lr eb ln => C12 g' (fG0.mono lr) hy2)) ?_
  rintro _ g3 _ e4 ⟨_, rfl, rfl, rfl⟩
  refine xB 1 [] [(1, vt runway), (2, vy n), (3, vp b1 0), (15, vb (!y2))] ?_
  refine xRe ?_
  refine wpq_then ?_
  refine xCd ((!y2)) (fun h5 => ?_) (fun h5 => ?_)
  · have hS := cond_T h5 hS
    have h5n := not_eq_true_ h5
    refine xSq ?_
    refine xRg ?_
    refine xB 1 [] [(6, vb false)] ?_
    refine xRe ?_
    refine wpq_then ?_
    have eS := (Option.some.inj hS).symm
    subst eS
    exact xRet [] [6] e4 ⟨by kernel_rfl, by kernel_rfl⟩ (fun _ _ h => h)
  · have hS := cond_F h5 hS
    have h5n := not_eq_false_ h5
    refine xSk ?_
    refine wpq_then ?_
    refine xSub [(1, vt runway), (2, vy n), (3, vp b1 0)] ?_
    refine xSq ?_
    refine xRg ?_
    refine xBo 2 [(1, 0)] [some ⟨b1, 25, (cProc ({ p with kind := 3 }) Ap_parts cp_parts)⟩] [(1, vt runway), (2, vy n), (3, vp b1 0)] ?_
    refine xRe ?_
    refine wpq_then ?_
    refine xSq ?_
    refine xSq ?_
    refine xRg ?_
    refine xB 1 [(0, 0)] [(1, vt runway), (2, vy n), (3, vp b1 0), (17, Value.agg #[vt p.airport, vt p.name, vy 3, vs Ap_parts p.parts cp_parts])] ?_
    have fp_parts := fp_parts.mono e4.r e4.b
    have fG0 := fG0.mono e4.r
    obtain ⟨y6, hy6, hS⟩ := bindO_T hS
    refine xE (eC 0 (fun g' lr eb ln => C13 g' ({ p with kind := 3 }) Ap_parts cp_parts (ArrM.lent fp_parts lr eb) (fG0.mono lr) hy6)) ?_
    rintro _ g7 _ e8 ⟨_, rfl, rfl, rfl⟩
    refine xB 1 [] [(1, vt runway), (2, vy n), (3, vp b1 0), (19, vb (y6 != 0))] ?_
    refine xRe ?_
    refine wpq_then ?_
    refine xCd ((y6 != 0)) (fun h9 => ?_) (fun h9 => ?_)
    · have hS := cond_T h9 hS
      have h9p : ¬ (y6 = 0) := ne_of_bne_ h9
      refine xSq ?_
      refine xRg ?_
      refine xB 1 [] [(6, vb true)] ?_
      refine xRe ?_
      refine wpq_then ?_
      have eS := (Option.some.inj hS).symm
      subst eS
      exact xRet [] [6] (e4.trans e8) ⟨by kernel_rfl, by kernel_rfl⟩ (fun _ _ h => h)
    · have hS := cond_F h9 hS
      have h9p : y6 = 0 := eq_of_bne_false_ h9
      refine xSk ?_
      refine wpq_then ?_
      refine xSub [(1, vt runway), (2, vy n), (3, vp b1 0)] ?_
      refine xSq ?_
      refine xRg ?_
      refine xB 1 [(0, 0)] [(1, vt runway), (2, vy n), (3, vp b1 0), (21, Value.agg #[vt p.airport, vt p.name, vy 3, vs Ap_parts p.parts cp_parts])] ?_
      have fp_parts := fp_parts.mono e8.r e8.b
      obtain ⟨y10, hy10, hS⟩ := bindO_T hS
      refine xE (eC 0 (fun g' lr eb ln => C17 g' ({ p with kind := 3 }) Ap_parts cp_parts (2 : Int) [] (ArrM.lent fp_parts lr eb) hy10)) ?_
      rintro _ g11 _ e12 ⟨_, rfl, A10_0_legs, c10_0_legs, rfl, rfl, f10_0_legs⟩
      have nf10_0_legs := f10_0_legs.len
      refine xB 3 [] [(1, vt runway), (2, vy n), (3, vp b1 0), (23, Value.agg #[vy y10.1.kind, vt y10.1.name, vs A10_0_legs y10.1.legs c10_0_legs]), (24, vb y10.2)] ?_
      refine xE eB ?_
      rintro _ _ _ - ⟨b13, rfl, rfl, rfl⟩
      refine xBo 2 [(6, 0)] [some ⟨b13, 35, [vy y10.1.kind, vt y10.1.name, vs A10_0_legs y10.1.legs c10_0_legs]⟩, some ⟨b1, 25, (cProc ({ p with kind := 3 }) Ap_parts cp_parts)⟩] [(1, vt runway), (2, vy n), (3, vp b1 0), (7, vp b13 0), (8, vb y10.2)] ?_
      refine xRe ?_
      refine wpq_then ?_
      refine xSq ?_
      refine xRg ?_
      refine xB 2 [(0, 1)] [(1, vt runway), (2, vy n), (3, vp b1 0), (7, vp b13 0), (8, vb y10.2), (26, Value.agg #[vt p.airport, vt p.name, vy 3, vs Ap_parts p.parts cp_parts]), (27, vt runway)] ?_
      have fp_parts := fp_parts.mono e12.r e12.b
      have fG0 := fG0.mono (e8.trans e12).r
      obtain ⟨y14, hy14, hS⟩ := bindO_T hS
      refine xE (eC 0 (fun g' lr eb ln => C23 g' ({ p with kind := 3 }) Ap_parts cp_parts runway [] (ArrM.lent fp_parts lr eb) (fG0.mono lr) hy14)) ?_
      rintro _ g15 _ e16 ⟨_, rfl, A14_0, c14_0, k14_0, rfl, rfl, h14_0⟩
      have nh14_0 := h14_0.len
      refine xB 5 [] [(1, vt runway), (2, vy n), (3, vp b1 0), (7, vp b13 0), (8, vb y10.2), (9, vs A14_0 y14.1 c14_0), (10, vi y14.2)] ?_
      refine xRe ?_
      refine wpq_then ?_
      refine xSq ?_
      refine xSq ?_
      refine xRg ?_
      refine xB 3 [] [(1, vt runway), (2, vy n), (3, vp b1 0), (7, vp b13 0), (9, vs A14_0 y14.1 c14_0), (10, vi y14.2), (33, vb (!y10.2))] ?_
      refine wpr_grp 6 [(1, vt runway), (2, vy n), (3, vp b1 0), (7, vp b13 0), (9, vs A14_0 y14.1 c14_0), (36, vb ((!y10.2) || (y14.2 != 0)))] (fun hk2 => ?_) ?_
      · refine wpq_split 33 (b := (!y10.2)) (by kernel_rfl) (fun q17 => ?_) (fun q17 => ?_)
        · have q17n := not_eq_true_ q17
          refine xB 3 [] [(1, vt runway), (2, vy n), (3, vp b1 0), (7, vp b13 0), (9, vs A14_0 y14.1 c14_0), (36, vb true)] ?_
          refine wpq_re 36 (v := vb true) (Value.bool (((!y10.2) || (y14.2 != 0)))) (by kernel_rfl) (re_or1 q17) ?_
          exact wpq_sub _ (by kernel_rfl) hk2
        · have q17n := not_eq_false_ q17
          refine xB 3 [] [(1, vt runway), (2, vy n), (3, vp b1 0), (7, vp b13 0), (9, vs A14_0 y14.1 c14_0), (36, vb (y14.2 != 0))] ?_
          refine wpq_re 36 (v := vb (y14.2 != 0)) (Value.bool (((!y10.2) || (y14.2 != 0)))) (by kernel_rfl) (re_or0 q17) ?_
          exact wpq_sub _ (by kernel_rfl) hk2
      · refine xB 1 [] [(1, vt runway), (2, vy n), (3, vp b1 0), (7, vp b13 0), (9, vs A14_0 y14.1 c14_0), (37, vb ((!y10.2) || (y14.2 != 0)))] ?_
        refine xGJo hS 13 (fun g own sl t18 => own = [some ⟨b13, 35, [vy y10.1.kind, vt y10.1.name, vs A10_0_legs y10.1.legs c10_0_legs]⟩, some ⟨b1, 25, (cProc ({ p with kind := 3 }) Ap_parts cp_parts)⟩] ∧ sl = [(1, vt runway), (2, vy n), (3, vp b1 0), (7, vp b13 0), (43, vb t18)]) ?_ ?_
        · rintro g19 _ _ t18 e20 ⟨rfl, rfl⟩ hS
          refine xRe ?_
          refine wpq_then ?_
          refine xCd (t18) (fun h21 => ?_) (fun h21 => ?_)
          · have hS := cond_T h21 hS
            refine xSq ?_
            refine xRg ?_
            refine xB 1 [] [(6, vb false)] ?_
            refine xRe ?_
            refine wpq_then ?_
            have eS := (Option.some.inj hS).symm
            subst eS
            exact xRet [] [6] (e4.trans (e8.trans (e12.trans (e16.trans e20)))) ⟨by kernel_rfl, by kernel_rfl⟩ (fun _ _ h => h)
          · have hS := cond_F h21 hS
            refine xSk ?_
            refine wpq_then ?_
            refine xSub [(1, vt runway), (2, vy n), (3, vp b1 0), (7, vp b13 0)] ?_
            refine xSq ?_
            refine xRg ?_
            refine xB 1 [(0, 1)] [(1, vt runway), (2, vy n), (3, vp b1 0), (7, vp b13 0), (44, Value.agg #[vt p.airport, vt p.name, vy 3, vs Ap_parts p.parts cp_parts])] ?_
            have fp_parts := fp_parts.mono (e16.trans e20).r (e16.trans e20).b
            obtain ⟨y22, hy22, hS⟩ := bindO_T hS
            refine xE (eC 0 (fun g' lr eb ln => C15 g' ({ p with kind := 3 }) Ap_parts cp_parts (3 : Int) ((fp_parts.toArr g19.br).mono lr) hy22)) ?_
            rintro _ g23 _ e24 ⟨_, rfl, A22_0, c22_0, k22_0, rfl, rfl, h22_0⟩
            have nh22_0 := h22_0.len
            refine xB 1 [] [(1, vt runway), (2, vy n), (3, vp b1 0), (7, vp b13 0), (11, vs A22_0 y22 c22_0)] ?_
            refine xRe ?_
            refine wpq_then ?_
            refine xSq ?_
            refine xSq ?_
            refine xRg ?_
            refine xB 3 [] [(1, vt runway), (2, vy n), (3, vp b1 0), (7, vp b13 0), (11, vs A22_0 y22 c22_0), (48, vb ((((y22).length : Nat) : Int) == 0))] ?_
            refine xRe ?_
            refine wpq_then ?_
            refine xCd (((((y22).length : Nat) : Int) == 0)) (fun h25 => ?_) (fun h25 => ?_)
            · have hS := cond_T h25 hS
              have h25p : (((y22).length : Nat) : Int) = 0 := eq_of_beq h25
              refine xSq ?_
              refine xRg ?_
              refine xB 1 [] [(6, vb true)] ?_
              refine xRe ?_
              refine wpq_then ?_
              have eS := (Option.some.inj hS).symm
              subst eS
              exact xRet [] [6] (e4.trans (e8.trans (e12.trans (e16.trans (e20.trans e24))))) ⟨by kernel_rfl, by kernel_rfl⟩ (fun _ _ h => h)
            · have hS := cond_F h25 hS
              have h25p : ¬ ((((y22).length : Nat) : Int) = 0) := ne_of_beq_false_ h25
              refine xSk ?_
              refine wpq_then ?_
              refine xSub [(1, vt runway), (2, vy n), (3, vp b1 0), (7, vp b13 0), (11, vs A22_0 y22 c22_0)] ?_
              refine xSq ?_
              refine xRg ?_
              have z1 := i64_in_ n
              refine xB 5 [] [(1, vt runway), (3, vp b1 0), (7, vp b13 0), (49, vs A22_0 y22 c22_0), (51, vi (IntKind.i64.wrap n)), (53, vi (((y22).length : Nat) : Int))] ?_
              refine xV (qRem .i64 ((IntKind.i64.wrap n)) ((((y22).length : Nat) : Int)) _ (by omega) rfl) ?_
              obtain ⟨q27, hS⟩ := grd_T hS
              have q27p := of_decide_eq_true q27
              have i28 : ((Int.tmod (IntKind.i64.wrap n) (((y22).length : Nat) : Int))).toNat < (y22).length := by omega
              obtain ⟨kc26, cs26, hA26, hk26, hr26, hw26⟩ := h22_0.open_ i28 []
              obtain ⟨kb26, rfl⟩ : ∃ z, z = kc26 := ⟨_, rfl⟩
              subst hk26
              have hr26 : cs26 = [vt (List.getD y22 ((Int.tmod (IntKind.i64.wrap n) (((y22).length : Nat) : Int))).toNat [])] := hr26
              subst hr26
              refine xV (qIxB ((Int.tmod (IntKind.i64.wrap n) (((y22).length : Nat) : Int))).toNat 1 kb26.g hA26 (show ((Int.tmod (IntKind.i64.wrap n) (((y22).length : Nat) : Int)) : Int) = _ from by omega) i28) ?_
              refine xV (qLdB ((Int.tmod (IntKind.i64.wrap n) (((y22).length : Nat) : Int))).toNat 1 0 0 hw26) ?_
              refine xB 1 [] [(1, vt runway), (3, vp b1 0), (7, vp b13 0), (12, vt (List.getD y22 ((Int.tmod (IntKind.i64.wrap n) (((y22).length : Nat) : Int))).toNat []))] ?_
              refine xRe ?_
              refine wpq_then ?_
              refine xSq ?_
              refine xRg ?_
              refine xB 2 [(0, 2)] [(1, vt runway), (3, vp b1 0), (7, vp b13 0), (12, vt (List.getD y22 ((Int.tmod (IntKind.i64.wrap n) (((y22).length : Nat) : Int))).toNat [])), (58, Value.agg #[vt p.airport, vt p.name, vy 3, vs Ap_parts p.parts cp_parts]), (59, vt (List.getD y22 ((Int.tmod (IntKind.i64.wrap n) (((y22).length : Nat) : Int))).toNat []))] ?_
              have fp_parts := fp_parts.mono e24.r e24.b
              obtain ⟨y29, hy29, hS⟩ := bindO_T hS
              refine xE (eC 0 (fun g' lr eb ln => C17 g' ({ p with kind := 3 }) Ap_parts cp_parts (3 : Int) (List.getD y22 ((Int.tmod (IntKind.i64.wrap n) (((y22).length : Nat) : Int))).toNat []) (ArrM.lent fp_parts lr eb) hy29)) ?_
              rintro _ g30 _ e31 ⟨_, rfl, A29_0_legs, c29_0_legs, rfl, rfl, f29_0_legs⟩
              have nf29_0_legs := f29_0_legs.len
              refine xB 3 [] [(1, vt runway), (3, vp b1 0), (7, vp b13 0), (12, vt (List.getD y22 ((Int.tmod (IntKind.i64.wrap n) (((y22).length : Nat) : Int))).toNat [])), (61, Value.agg #[vy y29.1.kind, vt y29.1.name, vs A29_0_legs y29.1.legs c29_0_legs]), (62, vb y29.2)] ?_
              refine xE eB ?_
              rintro _ _ _ - ⟨b32, rfl, rfl, rfl⟩
              refine xBo 2 [(7, 0)] [some ⟨b32, 35, [vy y29.1.kind, vt y29.1.name, vs A29_0_legs y29.1.legs c29_0_legs]⟩, (some kb26), some ⟨b13, 35, [vy y10.1.kind, vt y10.1.name, vs A10_0_legs y10.1.legs c10_0_legs]⟩, some ⟨b1, 25, (cProc ({ p with kind := 3 }) Ap_parts cp_parts)⟩] [(1, vt runway), (3, vp b1 0), (7, vp b13 0), (8, vb y29.2), (12, vt (List.getD y22 ((Int.tmod (IntKind.i64.wrap n) (((y22).length : Nat) : Int))).toNat [])), (13, vp b32 0)] ?_
              refine xRe ?_
              refine wpq_then ?_
              refine xSq ?_
              refine xRg ?_
              refine xB 3 [(0, 3)] [(7, vp b13 0), (8, vb y29.2), (13, vp b32 0), (64, Value.agg #[vt p.airport, vt p.name, vy 3, vs Ap_parts p.parts cp_parts]), (65, vt runway), (66, vt (List.getD y22 ((Int.tmod (IntKind.i64.wrap n) (((y22).length : Nat) : Int))).toNat []))] ?_
              have fp_parts := fp_parts.mono e31.r e31.b
              have fG0 := fG0.mono (e16.trans (e20.trans (e24.trans e31))).r
              obtain ⟨y33, hy33, hS⟩ := bindO_T hS
              refine xE (eC 0 (fun g' lr eb ln => C23 g' ({ p with kind := 3 }) Ap_parts cp_parts runway (List.getD y22 ((Int.tmod (IntKind.i64.wrap n) (((y22).length : Nat) : Int))).toNat []) (ArrM.lent fp_parts lr eb) (fG0.mono lr) hy33)) ?_
              rintro _ g34 _ e35 ⟨_, rfl, A33_0, c33_0, k33_0, rfl, rfl, h33_0⟩
              have nh33_0 := h33_0.len
              refine xB 5 [] [(7, vp b13 0), (8, vb y29.2), (9, vs A33_0 y33.1 c33_0), (10, vi y33.2), (13, vp b32 0)] ?_
              refine xRe ?_
              refine wpq_then ?_
              refine xSq ?_
              refine xRg ?_
              refine xB 2 [] [(7, vp b13 0), (9, vs A33_0 y33.1 c33_0), (10, vi y33.2), (13, vp b32 0), (71, vb y29.2)] ?_
              refine wpr_grp 5 [(7, vp b13 0), (9, vs A33_0 y33.1 c33_0), (13, vp b32 0), (74, vb (y29.2 && (y33.2 == 0)))] (fun hk1 => ?_) ?_
              · refine wpq_split 71 (b := y29.2) (by kernel_rfl) (fun q36 => ?_) (fun q36 => ?_)
                · refine xB 3 [] [(7, vp b13 0), (9, vs A33_0 y33.1 c33_0), (13, vp b32 0), (74, vb (y33.2 == 0))] ?_
                  refine wpq_re 74 (v := vb (y33.2 == 0)) (Value.bool ((y29.2 && (y33.2 == 0)))) (by kernel_rfl) (re_and1 q36) ?_
                  exact wpq_sub _ (by kernel_rfl) hk1
                · refine xB 3 [] [(7, vp b13 0), (9, vs A33_0 y33.1 c33_0), (13, vp b32 0), (74, vb false)] ?_
                  refine wpq_re 74 (v := vb false) (Value.bool ((y29.2 && (y33.2 == 0)))) (by kernel_rfl) (re_and0 q36) ?_
                  exact wpq_sub _ (by kernel_rfl) hk1
              · refine xB 1 [] [(7, vp b13 0), (9, vs A33_0 y33.1 c33_0), (13, vp b32 0), (75, vb (y29.2 && (y33.2 == 0)))] ?_
                refine xGJo hS 14 (fun g own sl t37 => own = [] ∧ sl = [(83, vb t37)]) ?_ ?_
                · rintro g38 _ _ t37 e39 ⟨rfl, rfl⟩ hS
                  refine xB 1 [] [(6, vb t37)] ?_
                  refine xRe ?_
                  refine wpq_then ?_
                  have eS := (Option.some.inj hS).symm
                  subst eS
                  exact xRet [] [6] (e4.trans (e8.trans (e12.trans (e16.trans (e20.trans (e24.trans (e31.trans (e35.trans e39)))))))) ⟨by kernel_rfl, by kernel_rfl⟩ (fun _ _ h => h)
                · intro uu37 hS hN37
                  refine wpq_split 75 (b := (y29.2 && (y33.2 == 0))) (by kernel_rfl) (fun q40 => ?_) (fun q40 => ?_)
                  · have hS := cond_T q40 hS
                    have q40l := (and_true_ q40).1
                    have q40r := (and_true_ q40).2
                    have q40rp : y33.2 = 0 := eq_of_beq q40r
                    refine xB 5 [(8, 1), (10, 3)] [(75, vb true), (76, vs A33_0 y33.1 c33_0), (78, vs A29_0_legs y29.1.legs c29_0_legs), (80, vs A10_0_legs y10.1.legs c10_0_legs)] ?_
                    have f29_0_legs := f29_0_legs.mono e35.b
                    have f10_0_legs := f10_0_legs.mono (e16.trans (e20.trans (e24.trans (e31.trans e35)))).b
                    obtain ⟨y41, hy41, hS⟩ := bindO_T hS
                    refine xE (eC 0 (fun g' lr eb ln => C21 g' (y29.1.legs : List Leg) A29_0_legs c29_0_legs (y10.1.legs : List Leg) A10_0_legs c10_0_legs (ArrM.lent (f29_0_legs.toM g34.br) lr eb) (by rw [eb]; exact f10_0_legs) hy41)) ?_
                    rintro _ g42 _ e43 ⟨_, rfl, A41_0, c41_0, k41_0, rfl, rfl, h41_0⟩
                    have nh41_0 := h41_0.len
                    have h33_0 := h33_0.mono e43.b
                    obtain ⟨y44, hy44, hS⟩ := bindO_T hS
                    refine xE (eC 0 (fun g' lr eb ln => C20 g' (y33.1 : List Leg) A33_0 c33_0 (y41 : List Leg) A41_0 c41_0 (arr_of_buf h33_0 (Psi.le_b eb) (lentk 1 (by kernel_rfl) ln)) (arr_of_buf h41_0 (Psi.le_b eb) (lentk 0 (by kernel_rfl) ln)) hy44)) ?_
                    rintro _ g45 _ e46 ⟨_, rfl, rfl, rfl⟩
                    refine xB 1 [] [(83, vb y44)] ?_
                    refine xSel [] ?_
                    refine xSub [(83, vb y44)] ?_
                    exact hN37 _ (Option.some.inj hS).symm _ _ _ (e43.trans e46) ⟨by kernel_rfl, by kernel_rfl⟩
                  · have hS := cond_F q40 hS
                    refine xB 8 [] [(83, vb false)] ?_
                    refine xSel [] ?_
                    refine xSub [(83, vb false)] ?_
                    exact hN37 _ (Option.some.inj hS).symm _ _ _ (Gh.le.refl _) ⟨by kernel_rfl, by kernel_rfl⟩
        · intro uu18 hS hN18
          refine wpq_split 37 (b := ((!y10.2) || (y14.2 != 0))) (by kernel_rfl) (fun q47 => ?_) (fun q47 => ?_)
          · have hS := cond_T q47 hS
            refine xB 6 [] [(1, vt runway), (2, vy n), (3, vp b1 0), (7, vp b13 0), (43, vb true)] ?_
            refine xSel [some 1, some 2] ?_
            refine xSub [(1, vt runway), (2, vy n), (3, vp b1 0), (7, vp b13 0), (43, vb true)] ?_
            exact hN18 _ (Option.some.inj hS).symm _ _ _ (Gh.le.refl _) ⟨by kernel_rfl, by kernel_rfl⟩
          · have hS := cond_F q47 hS
            have q47l := (or_false_ q47).1
            have q47r := (or_false_ q47).2
            have q47ln := not_eq_false_ q47l
            have q47rp : y14.2 = 0 := eq_of_bne_false_ q47r
            refine xB 3 [(9, 1)] [(1, vt runway), (2, vy n), (3, vp b1 0), (7, vp b13 0), (37, vb false), (38, vs A14_0 y14.1 c14_0), (40, vs A10_0_legs y10.1.legs c10_0_legs)] ?_
            have f10_0_legs := f10_0_legs.mono e16.b
            obtain ⟨y48, hy48, hS⟩ := bindO_T hS
            refine xE (eC 0 (fun g' lr eb ln => C20 g' (y14.1 : List Leg) A14_0 c14_0 (y10.1.legs : List Leg) A10_0_legs c10_0_legs (arr_of_buf h14_0 (Psi.le_b eb) (lentk 0 (by kernel_rfl) ln)) ((f10_0_legs.mono g15.br).mono lr) hy48)) ?_
            rintro _ g49 _ e50 ⟨_, rfl, rfl, rfl⟩
            refine xB 2 [] [(1, vt runway), (2, vy n), (3, vp b1 0), (7, vp b13 0), (43, vb (!y48))] ?_
            refine xSel [some 1, some 2] ?_
            refine xSub [(1, vt runway), (2, vy n), (3, vp b1 0), (7, vp b13 0), (43, vb (!y48))] ?_
            exact hN18 _ (Option.some.inj hS).symm _ _ _ e50 ⟨by kernel_rfl, by kernel_rfl⟩

end Go.Proofs.YthfekfebgghjhaaDoor
