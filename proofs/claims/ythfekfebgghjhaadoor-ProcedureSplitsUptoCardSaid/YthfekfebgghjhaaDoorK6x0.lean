/-
Walks, printed by wip/gen. Conditions: each theorem's own.
-/
import Derived.Test.YthfekfebgghjhaaDoorT2
namespace Go.Proofs.YthfekfebgghjhaaDoor
set_option linter.unusedVariables false
set_option linter.unusedSimpArgs false
open Go.RowKit
def o6 (a : List Leg) (b : List Leg) : Option (Bool) :=
  (bindO (τ := Bool) (o12) fun y1 => (cond ((!y1)) (some ((false))) (bindO (τ := (List Leg)) (o21 (a : List Leg) (b : List Leg)) fun y5 => (bindO (τ := (List Leg) × Bool) (cond (decide ((((y5).length : Nat) : Int) < (((a).length : Nat) : Int))) (some ((y5 : List Leg), true)) (bindO (τ := Bool) (o20 ((List.take (a).length y5) : List Leg) (a : List Leg)) fun y44 => (some ((y5 : List Leg), (!y44))))) fun t8 => (cond (t8.2) (some ((false))) (grd (decide ((((a).length : Nat) : Int) ≤ (((t8.1).length : Nat) : Int))) (cond ((((((a).length : Nat) : Int) == 0) || ((((b).length : Nat) : Int) == 0))) (bindO (τ := Bool) (o20 ((List.drop (a).length t8.1) : List Leg) (b : List Leg)) fun y16 => (some ((y16)))) (bindO (τ := Bool) (o20 ((List.drop (a).length t8.1) : List Leg) (b : List Leg)) fun y19 => (bindO (τ := Bool) (cond (y19) (some (true)) (bindO (τ := Bool) (cond (((List.getD b 0 default).type_ == 1)) (bindO (τ := Bool) (o20 ((List.drop (a).length t8.1) : List Leg) ((List.drop 1 b) : List Leg)) fun y33 => (some (y33))) (some (false))) fun t28 => (some (t28)))) fun t22 => (some ((t22))))))))))))
set_option maxRecDepth 100000 in
theorem C6 (g : Gh) (a : List Leg) (Aa : Option Addr) (ca : Nat) (b : List Leg) (Ab : Option Addr) (cb : Nat) (fa : ArrM g.r g.b tyLeg Aa ca a) (fb : Arr g.b tyLeg Ab cb b) (fG0 : Arr g.r (tyI .u16) (some ⟨0, 0, none⟩) 18 usesL) {r : Bool} (hS : o6 a b = some r) :
    Ctr Tryd.prog 6 [vs Aa a ca, vs Ab b cb] g [] (fun v ψ o => v = vb r ∧ o = []) := by
  unfold o6 at hS
  refine xFn Tryd.f6 (Tryd.f6.body.getD .skip) 57 ?_
  have hlG0 := hlUses
  have nfa := fa.len
  have nfb := fb.len
  have nfG0 := fG0.len
  refine xSq ?_
  refine xRg ?_
  refine xB 1 [] [(0, vs Aa a ca), (1, vs Ab b cb)] ?_
  refine xRe ?_
  refine wpq_then ?_
  refine xSq ?_
  refine xSq ?_
  refine xRg ?_
  obtain ⟨y1, hy1, hS⟩ := bindO_T hS
  refine xE (eC 0 (fun g' lr eb ln => C12 g' (fG0.mono lr) hy1)) ?_
  rintro _ g2 _ e3 ⟨_, rfl, rfl, rfl⟩
  refine xB 1 [] [(0, vs Aa a ca), (1, vs Ab b cb), (8, vb (!y1))] ?_
  refine xRe ?_
  refine wpq_then ?_
  refine xCd ((!y1)) (fun h4 => ?_) (fun h4 => ?_)
  · have hS := cond_T h4 hS
    have h4n := not_eq_true_ h4
    refine xSq ?_
    refine xRg ?_
    refine xB 1 [] [(4, vb false)] ?_
    refine xRe ?_
    refine wpq_then ?_
    have eS := (Option.some.inj hS).symm
    subst eS
    exact xRet [] [4] e3 ⟨by kernel_rfl, by kernel_rfl⟩ (fun _ _ h => h)
  · have hS := cond_F h4 hS
    have h4n := not_eq_false_ h4
    refine xSk ?_
    refine wpq_then ?_
    refine xSub [(0, vs Aa a ca), (1, vs Ab b cb)] ?_
    refine xSq ?_
    refine xRg ?_
    refine xB 2 [] [(0, vs Aa a ca), (1, vs Ab b cb), (9, vs Aa a ca), (10, vs Ab b cb)] ?_
    have fa := fa.mono e3.r e3.b
    have fb := fb.mono e3.b
    obtain ⟨y5, hy5, hS⟩ := bindO_T hS
    refine xE (eC 0 (fun g' lr eb ln => C21 g' (a : List Leg) Aa ca (b : List Leg) Ab cb (ArrM.lent fa lr eb) (by rw [eb]; exact fb) hy5)) ?_
    rintro _ g6 _ e7 ⟨_, rfl, A5_0, c5_0, k5_0, rfl, rfl, h5_0⟩
    have nh5_0 := h5_0.len
    refine xB 1 [] [(0, vs Aa a ca), (1, vs Ab b cb), (5, vs A5_0 y5 c5_0)] ?_
    refine xRe ?_
    refine wpq_then ?_
    refine xSq ?_
    refine xSq ?_
    refine xRg ?_
    refine xB 6 [] [(0, vs Aa a ca), (1, vs Ab b cb), (5, vs A5_0 y5 c5_0), (17, vb (decide ((((y5).length : Nat) : Int) < (((a).length : Nat) : Int))))] ?_
    refine xGJo hS 14 (fun g own sl t8 => own = [] ∧ sl = [(0, vs Aa a ca), (1, vs Ab b cb), (5, vs A5_0 t8.1 c5_0), (25, vb t8.2)] ∧ Arr g.b tyLeg A5_0 c5_0 t8.1) ?_ ?_
    · rintro g9 _ _ t8 e10 ⟨rfl, rfl, f8_0⟩ hS
      have nf8_0 := f8_0.len
      refine xRe ?_
      refine wpq_then ?_
      refine xCd (t8.2) (fun h11 => ?_) (fun h11 => ?_)
      · have hS := cond_T h11 hS
        refine xSq ?_
        refine xRg ?_
        refine xB 1 [] [(4, vb false)] ?_
        refine xRe ?_
        refine wpq_then ?_
        have eS := (Option.some.inj hS).symm
        subst eS
        exact xRet [] [4] (e3.trans (e7.trans e10)) ⟨by kernel_rfl, by kernel_rfl⟩ (fun _ _ h => h)
      · have hS := cond_F h11 hS
        refine xSk ?_
        refine wpq_then ?_
        refine xSub [(0, vs Aa a ca), (1, vs Ab b cb), (5, vs A5_0 t8.1 c5_0)] ?_
        refine xSq ?_
        refine xRg ?_
        obtain ⟨q12, hS⟩ := grd_T hS
        have q12p := of_decide_eq_true q12
        have ncapf13 := f8_0.cap
        have f13 : Arr g9.b tyLeg (offA A5_0 c5_0 (a).length 13) (c5_0 - (a).length) (List.drop (a).length t8.1) := f8_0.cut_from (a).length (by omega)
        have nf13 := f13.len
        have hlf13 : (t8.1).length - (a).length = ((List.drop (a).length t8.1)).length := by simp only [List.length_take, List.length_drop] <;> omega
        have hvf13 : ((((List.drop (a).length t8.1)).length : Nat) : Int) = (((t8.1).length : Nat) : Int) - (((a).length : Nat) : Int) := by omega
        refine xB 3 [] [(0, vs Aa a ca), (1, vs Ab b cb), (26, vs A5_0 t8.1 c5_0), (28, vi (((a).length : Nat) : Int))] ?_
        refine xV (qSl (m := 13) (A := A5_0) (len := (t8.1).length) (c := c5_0) (a).length (t8.1).length (some (((a).length : Nat) : Int)) none ((List.drop (a).length t8.1)).length rfl rfl (by omega) (by omega) hlf13) ?_
        refine xB 1 [] [(0, vs Aa a ca), (1, vs Ab b cb), (6, vs (offA A5_0 c5_0 (a).length 13) (List.drop (a).length t8.1) (c5_0 - (a).length))] ?_
        refine xRe ?_
        refine wpq_then ?_
        refine xSq ?_
        refine xSq ?_
        refine xRg ?_
        refine xB 4 [] [(1, vs Ab b cb), (6, vs (offA A5_0 c5_0 (a).length 13) (List.drop (a).length t8.1) (c5_0 - (a).length)), (33, vb ((((a).length : Nat) : Int) == 0))] ?_
        refine wpr_grp 8 [(1, vs Ab b cb), (6, vs (offA A5_0 c5_0 (a).length 13) (List.drop (a).length t8.1) (c5_0 - (a).length)), (37, vb (((((a).length : Nat) : Int) == 0) || ((((b).length : Nat) : Int) == 0)))] (fun hk3 => ?_) ?_
        · refine wpq_split 33 (b := ((((a).length : Nat) : Int) == 0)) (by kernel_rfl) (fun q14 => ?_) (fun q14 => ?_)
          · have q14p : (((a).length : Nat) : Int) = 0 := eq_of_beq q14
            refine xB 4 [] [(1, vs Ab b cb), (6, vs (offA A5_0 c5_0 (a).length 13) (List.drop (a).length t8.1) (c5_0 - (a).length)), (37, vb true)] ?_
            refine wpq_re 37 (v := vb true) (Value.bool ((((((a).length : Nat) : Int) == 0) || ((((b).length : Nat) : Int) == 0)))) (by kernel_rfl) (re_or1 q14) ?_
            exact wpq_sub _ (by kernel_rfl) hk3
          · have q14p : ¬ ((((a).length : Nat) : Int) = 0) := ne_of_beq_false_ q14
            refine xB 4 [] [(1, vs Ab b cb), (6, vs (offA A5_0 c5_0 (a).length 13) (List.drop (a).length t8.1) (c5_0 - (a).length)), (37, vb ((((b).length : Nat) : Int) == 0))] ?_
            refine wpq_re 37 (v := vb ((((b).length : Nat) : Int) == 0)) (Value.bool ((((((a).length : Nat) : Int) == 0) || ((((b).length : Nat) : Int) == 0)))) (by kernel_rfl) (re_or0 q14) ?_
            exact wpq_sub _ (by kernel_rfl) hk3
        · refine xRe ?_
          refine wpq_then ?_
          refine xCd ((((((a).length : Nat) : Int) == 0) || ((((b).length : Nat) : Int) == 0))) (fun h15 => ?_) (fun h15 => ?_)
          · have hS := cond_T h15 hS
            refine xSq ?_
            refine xRg ?_
            refine xB 2 [] [(38, vs (offA A5_0 c5_0 (a).length 13) (List.drop (a).length t8.1) (c5_0 - (a).length)), (39, vs Ab b cb)] ?_
            have fb := fb.mono (e7.trans e10).b
            obtain ⟨y16, hy16, hS⟩ := bindO_T hS
            refine xE (eC 0 (fun g' lr eb ln => C20 g' ((List.drop (a).length t8.1) : List Leg) (offA A5_0 c5_0 (a).length 13) (c5_0 - (a).length) (b : List Leg) Ab cb ((f13.mono g9.br).mono lr) ((fb.mono g9.br).mono lr) hy16)) ?_
            rintro _ g17 _ e18 ⟨_, rfl, rfl, rfl⟩
            refine xB 1 [] [(4, vb y16)] ?_
            refine xRe ?_
            refine wpq_then ?_
            have eS := (Option.some.inj hS).symm
            subst eS
            exact xRet [] [4] (e3.trans (e7.trans (e10.trans e18))) ⟨by kernel_rfl, by kernel_rfl⟩ (fun _ _ h => h)
          · have hS := cond_F h15 hS
            have h15l := (or_false_ h15).1
            have h15r := (or_false_ h15).2
            have h15lp : ¬ ((((a).length : Nat) : Int) = 0) := ne_of_beq_false_ h15l
            have h15rp : ¬ ((((b).length : Nat) : Int) = 0) := ne_of_beq_false_ h15r
            refine xSk ?_
            refine wpq_then ?_
            refine xSub [(1, vs Ab b cb), (6, vs (offA A5_0 c5_0 (a).length 13) (List.drop (a).length t8.1) (c5_0 - (a).length))] ?_
            refine xSq ?_
            refine xRg ?_
            refine xB 2 [] [(1, vs Ab b cb), (6, vs (offA A5_0 c5_0 (a).length 13) (List.drop (a).length t8.1) (c5_0 - (a).length)), (41, vs (offA A5_0 c5_0 (a).length 13) (List.drop (a).length t8.1) (c5_0 - (a).length)), (42, vs Ab b cb)] ?_
            have fb := fb.mono (e7.trans e10).b
            obtain ⟨y19, hy19, hS⟩ := bindO_T hS
            refine xE (eC 0 (fun g' lr eb ln => C20 g' ((List.drop (a).length t8.1) : List Leg) (offA A5_0 c5_0 (a).length 13) (c5_0 - (a).length) (b : List Leg) Ab cb ((f13.mono g9.br).mono lr) ((fb.mono g9.br).mono lr) hy19)) ?_
            rintro _ g20 _ e21 ⟨_, rfl, rfl, rfl⟩
            refine xB 1 [] [(1, vs Ab b cb), (6, vs (offA A5_0 c5_0 (a).length 13) (List.drop (a).length t8.1) (c5_0 - (a).length)), (44, vb y19)] ?_
            refine xGJo hS 16 (fun g own sl t22 => own = [] ∧ sl = [(56, vb t22)]) ?_ ?_
            · rintro g23 _ _ t22 e24 ⟨rfl, rfl⟩ hS
              refine xB 1 [] [(4, vb t22)] ?_
              refine xRe ?_
              refine wpq_then ?_
              have eS := (Option.some.inj hS).symm
              subst eS
              exact xRet [] [4] (e3.trans (e7.trans (e10.trans (e21.trans e24)))) ⟨by kernel_rfl, by kernel_rfl⟩ (fun _ _ h => h)
            · intro uu22 hS hN22
              refine wpq_split 44 (b := y19) (by kernel_rfl) (fun q25 => ?_) (fun q25 => ?_)
              · have hS := cond_T q25 hS
                refine xB 12 [] [(56, vb true)] ?_
                refine xSub [(56, vb true)] ?_
                exact hN22 _ (Option.some.inj hS).symm _ _ _ (Gh.le.refl _) ⟨by kernel_rfl, by kernel_rfl⟩
              · have hS := cond_F q25 hS
                have fb := fb.mono e21.b
                have i27 : 0 < (b).length := by omega
                obtain ⟨ad26, cs26, hA26, hr26, hc26⟩ := fb.at_ (get_getD (d := default) i27)
                obtain ⟨rfl⟩ := hr26
                refine xB 1 [] [(1, vs Ab b cb), (6, vs (offA A5_0 c5_0 (a).length 13) (List.drop (a).length t8.1) (c5_0 - (a).length)), (44, vb false), (45, vs Ab b cb)] ?_
                refine xV (qIx 0 13 hA26 rfl i27) ?_
                refine xB 1 [] [(1, vs Ab b cb), (6, vs (offA A5_0 c5_0 (a).length 13) (List.drop (a).length t8.1) (c5_0 - (a).length)), (44, vb false), (47, Value.pointer (some (Addr.add ad26 (0 * 13))))] ?_
                refine xV (qLdP (Addr.add ad26 (0 * 13)) 0 (hc26.mono g20.br)) ?_
                refine xB 2 [] [(1, vs Ab b cb), (6, vs (offA A5_0 c5_0 (a).length 13) (List.drop (a).length t8.1) (c5_0 - (a).length)), (44, vb false), (50, vb ((List.getD b 0 default).type_ == 1))] ?_
                refine xGJo hS 15 (fun g own sl t28 => own = [] ∧ sl = [(44, vb false), (55, vb t28)]) ?_ ?_
                · rintro g29 _ _ t28 e30 ⟨rfl, rfl⟩ hS
                  refine xB 1 [] [(56, vb t28)] ?_
                  refine xSub [(56, vb t28)] ?_
                  exact hN22 _ (Option.some.inj hS).symm _ _ _ e30 ⟨by kernel_rfl, by kernel_rfl⟩
                · intro uu28 hS hN28
                  refine wpq_split 50 (b := ((List.getD b 0 default).type_ == 1)) (by kernel_rfl) (fun q31 => ?_) (fun q31 => ?_)
                  · have hS := cond_T q31 hS
                    have q31p : (List.getD b 0 default).type_ = 1 := eq_of_beq q31
                    have ncapf32 := fb.cap
                    have f32 : Arr g20.b tyLeg (offA Ab cb 1 13) (cb - 1) (List.drop 1 b) := fb.cut_from 1 (by omega)
                    have nf32 := f32.len
                    have hlf32 : (b).length - 1 = ((List.drop 1 b)).length := by simp only [List.length_take, List.length_drop] <;> omega
                    have hvf32 : ((((List.drop 1 b)).length : Nat) : Int) = (((b).length : Nat) : Int) - 1 := by omega
                    refine xB 2 [] [(44, vb false), (50, vb true), (51, vs (offA A5_0 c5_0 (a).length 13) (List.drop (a).length t8.1) (c5_0 - (a).length)), (52, vs Ab b cb)] ?_
                    refine xV (qSl (m := 13) (A := Ab) (len := (b).length) (c := cb) 1 (b).length (some 1) none ((List.drop 1 b)).length rfl rfl (by omega) (by omega) hlf32) ?_
                    have f13 := f13.mono e21.b
                    obtain ⟨y33, hy33, hS⟩ := bindO_T hS
                    refine xE (eC 0 (fun g' lr eb ln => C20 g' ((List.drop (a).length t8.1) : List Leg) (offA A5_0 c5_0 (a).length 13) (c5_0 - (a).length) ((List.drop 1 b) : List Leg) (offA Ab cb 1 13) (cb - 1) ((f13.mono g20.br).mono lr) ((f32.mono g20.br).mono lr) hy33)) ?_
                    rintro _ g34 _ e35 ⟨_, rfl, rfl, rfl⟩
                    refine xB 1 [] [(44, vb false), (55, vb y33)] ?_
                    refine xSub [(44, vb false), (55, vb y33)] ?_
                    exact hN28 _ (Option.some.inj hS).symm _ _ _ e35 ⟨by kernel_rfl, by kernel_rfl⟩
                  · have hS := cond_F q31 hS
                    have q31p : ¬ ((List.getD b 0 default).type_ = 1) := ne_of_beq_false_ q31
                    refine xB 5 [] [(44, vb false), (55, vb false)] ?_
                    refine xSub [(44, vb false), (55, vb false)] ?_
                    exact hN28 _ (Option.some.inj hS).symm _ _ _ (Gh.le.refl _) ⟨by kernel_rfl, by kernel_rfl⟩
    · intro uu8 hS hN8
      refine wpq_split 17 (b := decide ((((y5).length : Nat) : Int) < (((a).length : Nat) : Int))) (by kernel_rfl) (fun q36 => ?_) (fun q36 => ?_)
      · have hS := cond_T q36 hS
        have q36p := of_decide_eq_true q36
        refine xB 8 [] [(0, vs Aa a ca), (1, vs Ab b cb), (5, vs A5_0 y5 c5_0), (25, vb true)] ?_
        refine wpq_freeze 0 (by kernel_rfl) h5_0 (fun g37 e38 f39 => ?_)
        refine xSel [] ?_
        refine xSub [(0, vs Aa a ca), (1, vs Ab b cb), (5, vs A5_0 y5 c5_0), (25, vb true)] ?_
        exact hN8 _ (Option.some.inj hS).symm _ _ _ e38 ⟨by kernel_rfl, by kernel_rfl, f39⟩
      · have hS := cond_F q36 hS
        have q36p := of_decide_eq_false q36
        refine xB 3 [] [(0, vs Aa a ca), (1, vs Ab b cb), (5, vs A5_0 y5 c5_0), (17, vb false), (18, vs A5_0 y5 c5_0), (20, vi (((a).length : Nat) : Int))] ?_
        refine wpq_freeze 0 (by kernel_rfl) h5_0 (fun g40 e41 f42 => ?_)
        have ncapf43 := f42.cap
        have f43 : Arr g40.b tyLeg (offA A5_0 c5_0 0 13) (c5_0 - 0) (List.take (a).length y5) := f42.cut_to (a).length (by omega)
        have nf43 := f43.len
        have hlf43 : (a).length - 0 = ((List.take (a).length y5)).length := by simp only [List.length_take, List.length_drop] <;> omega
        have hvf43 : ((((List.take (a).length y5)).length : Nat) : Int) = (((a).length : Nat) : Int) - 0 := by omega
        refine xV (qSl (m := 13) (A := A5_0) (len := (y5).length) (c := c5_0) 0 (a).length none (some (((a).length : Nat) : Int)) ((List.take (a).length y5)).length rfl rfl (by omega) (by omega) hlf43) ?_
        refine xB 1 [] [(0, vs Aa a ca), (1, vs Ab b cb), (5, vs A5_0 y5 c5_0), (17, vb false), (21, vs (offA A5_0 c5_0 0 13) (List.take (a).length y5) (c5_0 - 0)), (22, vs Aa a ca)] ?_
        have fa := fa.mono (e7.trans e41).r (e7.trans e41).b
        obtain ⟨y44, hy44, hS⟩ := bindO_T hS
        refine xE (eC 0 (fun g' lr eb ln => C20 g' ((List.take (a).length y5) : List Leg) (offA A5_0 c5_0 0 13) (c5_0 - 0) (a : List Leg) Aa ca ((f43.mono g40.br).mono lr) ((fa.toArr g40.br).mono lr) hy44)) ?_
        rintro _ g45 _ e46 ⟨_, rfl, rfl, rfl⟩
        refine xB 2 [] [(0, vs Aa a ca), (1, vs Ab b cb), (5, vs A5_0 y5 c5_0), (25, vb (!y44))] ?_
        have f42 := f42.mono e46.b
        refine xSel [] ?_
        refine xSub [(0, vs Aa a ca), (1, vs Ab b cb), (5, vs A5_0 y5 c5_0), (25, vb (!y44))] ?_
        exact hN8 _ (Option.some.inj hS).symm _ _ _ (e41.trans e46) ⟨by kernel_rfl, by kernel_rfl, f42⟩

end Go.Proofs.YthfekfebgghjhaaDoor
