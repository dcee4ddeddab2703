/-
Walks, printed by wip/gen. Conditions: each theorem's own.
-/
import Derived.Test.YthfekfebgghjhaaDoorT2
namespace Go.Proofs.YthfekfebgghjhaaDoor
set_option linter.unusedVariables false
set_option linter.unusedSimpArgs false
open Go.RowKit
def o8_L0 (y6 : (List Leg) × Int) (s15 : Nat) : Option (Ctl (Nat) (Ctl (Unit) (Bool))) :=
  (cond (decide (((s15 : Nat) : Int) < (((y6.1).length : Nat) : Int))) (bindO (τ := Int) (o25 (List.getD y6.1 s15 default)) fun y21 => (bindO (τ := Bool) (cond ((y21 != 0)) (some (true)) (bindO (τ := Bool) (cond ((decide (((s15 : Nat) : Int) > 0) && ((List.getD y6.1 s15 default).type_ != 1))) (grd (decide (0 ≤ (((s15 : Nat) : Int) - 1) ∧ (((s15 : Nat) : Int) - 1) < (((y6.1).length : Nat) : Int))) (letJ (τ := Bool) (o26 (List.getD y6.1 ((((s15 : Nat) : Int) - 1)).toNat default) (List.getD y6.1 s15 default)) fun y42 => (some (!y42)))) (some (false))) fun t33 => (some (t33)))) fun t24 => (cond (t24) (some (Ctl.done (Ctl.done ((false))))) (grd (decide (((s15 : Nat) : Int) + 1 ≤ 9223372036854775807)) (some (Ctl.go (s15 + 1))))))) (some (Ctl.done (Ctl.go ()))))
def o8 (p : Proc) (runway : List UInt8) (transition : List UInt8) : Option (Bool) :=
  (bindO (τ := Bool) (o12) fun y2 => (cond ((!y2)) (some ((false))) (bindO (τ := (List Leg) × Int) (o23 p runway transition) fun y6 => (cond ((y6.2 != 0)) (some ((((((y6.1).length : Nat) : Int) == 0)))) (joinO (τ := Unit) (ρ := Bool) (loopO (σ := Nat) (ρ := Ctl (Unit) (Bool)) fuelN (o8_L0 y6) (0)) fun t10 => (some ((decide ((((y6.1).length : Nat) : Int) > 0)))))))))
set_option maxRecDepth 100000 in
theorem C8 (g : Gh) (p : Proc) (Ap_parts : Option Addr) (cp_parts : Nat) (runway : List UInt8) (transition : List UInt8) (fp_parts : ArrM g.r g.b tyPart Ap_parts cp_parts p.parts) (fG0 : Arr g.r (tyI .u16) (some ⟨0, 0, none⟩) 18 usesL) {r : Bool} (hS : o8 p runway transition = some r) :
    Ctr Tryd.prog 8 [Value.agg #[vt p.airport, vt p.name, vy p.kind, vs Ap_parts p.parts cp_parts], vt runway, vt transition] g [] (fun v ψ o => v = vb r ∧ o = []) := by
  unfold o8 at hS
  refine xFn Tryd.f8 (Tryd.f8.body.getD .skip) 64 ?_
  have hlG0 := hlUses
  have nfp_parts := fp_parts.len
  have nfG0 := fG0.len
  refine xSq ?_
  refine xRg ?_
  refine xE eB ?_
  rintro _ _ _ - ⟨b1, rfl, rfl, rfl⟩
  refine xB 1 [] [(1, vt runway), (2, vt transition), (3, vp b1 0)] ?_
  refine xRe ?_
  refine wpq_then ?_
  refine xSq ?_
  refine xSq ?_
  refine xRg ?_
  obtain ⟨y2, hy2, hS⟩ := bindO_T hS
  refine xE (eC 0 (fun g' lr eb ln => C12 g' (fG0.mono lr) hy2)) ?_
  rintro _ g3 _ e4 ⟨_, rfl, rfl, rfl⟩
  refine xB 1 [] [(1, vt runway), (2, vt transition), (3, vp b1 0), (11, vb (!y2))] ?_
  refine xRe ?_
  refine wpq_then ?_
  refine xCd ((!y2)) (fun h5 => ?_) (fun h5 => ?_)
  · have hS := cond_T h5 hS
    have h5n := not_eq_true_ h5
    refine xSq ?_
    refine xRg ?_
    refine xB 1 [] [(6, vb false)] ?_
    refine xRe ?_
    refine wpq_then ?_
    have eS := (Option.some.inj hS).symm
    subst eS
    exact xRet [] [6] e4 ⟨by kernel_rfl, by kernel_rfl⟩ (fun _ _ h => h)
  · have hS := cond_F h5 hS
    have h5n := not_eq_false_ h5
    refine xSk ?_
    refine wpq_then ?_
    refine xSub [(1, vt runway), (2, vt transition), (3, vp b1 0)] ?_
    refine xSq ?_
    refine xRg ?_
    refine xB 3 [(0, 0)] [(13, Value.agg #[vt p.airport, vt p.name, vy p.kind, vs Ap_parts p.parts cp_parts]), (14, vt runway), (15, vt transition)] ?_
    have fp_parts := fp_parts.mono e4.r e4.b
    have fG0 := fG0.mono e4.r
    obtain ⟨y6, hy6, hS⟩ := bindO_T hS
    refine xE (eC 0 (fun g' lr eb ln => C23 g' p Ap_parts cp_parts runway transition (ArrM.lent fp_parts lr eb) (fG0.mono lr) hy6)) ?_
    rintro _ g7 _ e8 ⟨_, rfl, A6_0, c6_0, k6_0, rfl, rfl, h6_0⟩
    have nh6_0 := h6_0.len
    refine xB 5 [] [(7, vs A6_0 y6.1 c6_0), (8, vi y6.2)] ?_
    refine xRe ?_
    refine wpq_then ?_
    refine xSq ?_
    refine xSq ?_
    refine xRg ?_
    refine xB 2 [] [(7, vs A6_0 y6.1 c6_0), (20, vb (y6.2 != 0))] ?_
    refine xRe ?_
    refine wpq_then ?_
    refine xCd ((y6.2 != 0)) (fun h9 => ?_) (fun h9 => ?_)
    · have hS := cond_T h9 hS
      have h9p : ¬ (y6.2 = 0) := ne_of_bne_ h9
      refine xSq ?_
      refine xRg ?_
      refine xB 4 [] [(6, vb ((((y6.1).length : Nat) : Int) == 0))] ?_
      refine xRe ?_
      refine wpq_then ?_
      have eS := (Option.some.inj hS).symm
      subst eS
      exact xRet [] [6] (e4.trans e8) ⟨by kernel_rfl, by kernel_rfl⟩ (fun _ _ h => h)
    · have hS := cond_F h9 hS
      have h9p : y6.2 = 0 := eq_of_bne_false_ h9
      refine xSk ?_
      refine wpq_then ?_
      refine xSub [(7, vs A6_0 y6.1 c6_0)] ?_
      refine xSq ?_
      refine xSq ?_
      refine xRg ?_
      refine xB 3 [] [(7, vs A6_0 y6.1 c6_0), (25, vi (((y6.1).length : Nat) : Int)), (26, vi 0)] ?_
      refine xRe ?_
      refine wpq_then ?_
      refine xJoinO hS (fun g own sl t10 => own = [k6_0] ∧ sl = [(7, vs A6_0 y6.1 c6_0)]) ?_ ?_
      · rintro g11 _ _ t10 e12 ⟨rfl, rfl⟩ hS
        refine wpq_then ?_
        refine xSq ?_
        refine xRg ?_
        refine xB 4 [] [(6, vb (decide ((((y6.1).length : Nat) : Int) > 0)))] ?_
        refine xRe ?_
        refine wpq_then ?_
        have eS := (Option.some.inj hS).symm
        subst eS
        exact xRet [] [6] (e4.trans (e8.trans e12)) ⟨by kernel_rfl, by kernel_rfl⟩ (fun _ _ h => h)
      · intro uu10 hS hN10 hD10
        refine xBl 0 ?_
        refine xSel [some 0] ?_
        refine xSub [(7, vs A6_0 y6.1 c6_0), (25, vi (((y6.1).length : Nat) : Int)), (26, vi 0)] ?_
        refine xLo hS (fun g own sl s15 => own = [k6_0] ∧ sl = [(7, vs A6_0 y6.1 c6_0), (25, vi (((y6.1).length : Nat) : Int)), (26, vi ((s15 : Nat) : Int))]) ⟨by kernel_rfl, by kernel_rfl⟩ ?_
        rintro g16 _ _ s15 uu15 e17 ⟨rfl, rfl⟩ hS Qr15 hN15 hD15
        unfold o8_L0 at hS
        refine xSq ?_
        refine xRg ?_
        refine xB 1 [] [(7, vs A6_0 y6.1 c6_0), (25, vi (((y6.1).length : Nat) : Int)), (26, vi ((s15 : Nat) : Int)), (27, vb (decide (((s15 : Nat) : Int) < (((y6.1).length : Nat) : Int))))] ?_
        refine xRe ?_
        refine wpq_then ?_
        refine xSq ?_
        refine xCd (decide (((s15 : Nat) : Int) < (((y6.1).length : Nat) : Int))) (fun h18 => ?_) (fun h18 => ?_)
        · have hS := cond_T h18 hS
          have h18p := of_decide_eq_true h18
          refine xSk ?_
          refine wpq_then ?_
          refine xSub [(7, vs A6_0 y6.1 c6_0), (25, vi (((y6.1).length : Nat) : Int)), (26, vi ((s15 : Nat) : Int))] ?_
          refine xSq ?_
          refine xBl 1 ?_
          refine xSq ?_
          refine xRg ?_
          refine xB 2 [] [(7, vs A6_0 y6.1 c6_0), (9, vi ((s15 : Nat) : Int)), (25, vi (((y6.1).length : Nat) : Int)), (26, vi ((s15 : Nat) : Int))] ?_
          refine xRe ?_
          refine wpq_then ?_
          refine xSq ?_
          refine xDr 0 [3, 14, 22, 26] [] [k6_0] 31 (fun RG => ?_) (fun _ _ _ _ _ h => h)
          have h6_0 := h6_0.mono e17.b
          have i20 : s15 < (y6.1).length := by omega
          obtain ⟨kc19, cs19, hA19, hk19, hr19, hw19⟩ := h6_0.open_ i20 default
          obtain ⟨kb19, rfl⟩ : ∃ z, z = kc19 := ⟨_, rfl⟩
          subst hk19
          obtain ⟨rfl⟩ := hr19
          refine xT 29 [0, 1] [] [some 0] [(7, vs A6_0 y6.1 c6_0), (9, vi ((s15 : Nat) : Int)), (25, vi (((y6.1).length : Nat) : Int)), (26, vi ((s15 : Nat) : Int)), (29, vs A6_0 y6.1 c6_0), (30, vi ((s15 : Nat) : Int))] RG (Psi.le.refl _) ?_
          refine xTp 2 RG (fun _ => (qIxB s15 13 kb19.g hA19 rfl i20)) ?_
          refine xTv 3 [some 0] RG (Psi.le.refl _) (qLdB s15 13 0 0 hw19) ?_
          have fG0 := fG0.mono (e8.trans e17).r
          obtain ⟨y21, hy21, hS⟩ := bindO_T hS
          refine xO1 (lds := [3, 14, 22, 26]) 4 ?_
          refine xIe (lds := [3, 14, 22, 26]) (Psi.le.refl _) (eC 0 (fun g' lr eb ln => C25 g' (List.getD y6.1 s15 default) (fG0.mono lr) hy21)) ?_
          rintro _ g22 _ e23 ⟨_, rfl, rfl, rfl⟩
          refine kk [some 0] ?_
          refine xT 24 [5, 6] [] [some 0] [(7, vs A6_0 y6.1 c6_0), (9, vi ((s15 : Nat) : Int)), (25, vi (((y6.1).length : Nat) : Int)), (26, vi ((s15 : Nat) : Int)), (35, vb (y21 != 0))] RG e23.r ?_
          refine xGJoA hS 0 [true, true, true, true, true, true, true, true, true, true, true, true, true, true, true, true, true, true, true, true, true, true, true, true, true, true, true, true, true, true, true] (fun g own sl t24 => own = [(some kb19)] ∧ sl = [(7, vs A6_0 y6.1 c6_0), (25, vi (((y6.1).length : Nat) : Int)), (26, vi ((s15 : Nat) : Int)), (59, vb t24)]) ?_ ?_
          · rintro g25 _ _ t24 e26 ⟨rfl, rfl⟩ hS
            refine xAe (lds := [3, 14, 22, 26]) ?_
            refine wpq_then ?_
            refine xCd (t24) (fun h27 => ?_) (fun h27 => ?_)
            · have hS := cond_T h27 hS
              refine xSq ?_
              refine xRg ?_
              refine xB 1 [] [(6, vb false)] ?_
              refine xRe ?_
              refine wpq_then ?_
              have eS := (Option.some.inj hS).symm
              have eS := (hD15 _ eS).symm
              have eS := (hD10 _ eS).symm
              subst eS
              exact xRet [] [6] (e4.trans (e8.trans (e17.trans (e23.trans e26)))) ⟨by kernel_rfl, by kernel_rfl⟩ (fun _ _ h => h)
            · have hS := cond_F h27 hS
              refine xSk ?_
              refine wpq_blockN ?_
              refine wpq_then ?_
              refine xSub [(7, vs A6_0 y6.1 c6_0), (25, vi (((y6.1).length : Nat) : Int)), (26, vi ((s15 : Nat) : Int))] ?_
              refine xRg ?_
              obtain ⟨q28, hS⟩ := grd_T hS
              have q28p := of_decide_eq_true q28
              refine xV (qAdd .i64 (((s15 : Nat) : Int)) (1) (wr64 (by omega))) ?_
              refine xB 1 [] [(7, vs A6_0 y6.1 c6_0), (25, vi (((y6.1).length : Nat) : Int)), (26, vi (((s15 : Nat) : Int) + 1))] ?_
              refine xRe ?_
              refine wpq_thenN ?_
              refine xSub [(7, vs A6_0 y6.1 c6_0), (25, vi (((y6.1).length : Nat) : Int)), (26, vi (((s15 : Nat) : Int) + 1))] ?_
              have eS := (Option.some.inj hS).symm
              exact hN15 _ eS _ _ _ (e23.trans e26) ⟨by kernel_rfl, by kernel_rfl⟩
          · intro uu24 hS hN24
            refine wpq_split 35 (b := (y21 != 0)) (by kernel_rfl) (fun q29 => ?_) (fun q29 => ?_)
            · have hS := cond_T q29 hS
              have q29p : ¬ (y21 = 0) := ne_of_bne_ q29
              refine xT 4 [7, 8, 9, 10, 11, 12, 13, 14, 15, 16, 17, 18, 19, 20, 21, 22, 23, 24, 25, 26] [] [some 0] [(7, vs A6_0 y6.1 c6_0), (25, vi (((y6.1).length : Nat) : Int)), (26, vi ((s15 : Nat) : Int)), (35, vb true), (46, undef), (51, undef), (55, undef)] RG e23.r ?_
              refine xO1 (lds := [3, 14, 22, 26]) 27 ?_
              refine xIb (lds := [3, 14, 22, 26]) [] ?_
              refine xT 0 [28, 29, 30] [] [some 0] [(7, vs A6_0 y6.1 c6_0), (25, vi (((y6.1).length : Nat) : Int)), (26, vi ((s15 : Nat) : Int)), (59, vb true)] RG e23.r ?_
              refine xSub [(7, vs A6_0 y6.1 c6_0), (25, vi (((y6.1).length : Nat) : Int)), (26, vi ((s15 : Nat) : Int)), (59, vb true)] ?_
              exact hN24 _ (Option.some.inj hS).symm _ _ _ (Gh.le.refl _) ⟨by kernel_rfl, by kernel_rfl⟩
            · have hS := cond_F q29 hS
              have q29p : y21 = 0 := eq_of_bne_false_ q29
              refine xT 21 [7, 8, 9] [] [some 0] [(7, vs A6_0 y6.1 c6_0), (9, vi ((s15 : Nat) : Int)), (25, vi (((y6.1).length : Nat) : Int)), (26, vi ((s15 : Nat) : Int)), (35, vb false), (38, vb (decide (((s15 : Nat) : Int) > 0)))] RG e23.r ?_
              refine wpa_grp 14 [true, true, true, true, true, true, true, true, true, true, true, true, true, true, true, true, true, false, false, false, false, false, false, false, false, false, false, false, false, false, false] [(7, vs A6_0 y6.1 c6_0), (9, vi ((s15 : Nat) : Int)), (25, vi (((y6.1).length : Nat) : Int)), (26, vi ((s15 : Nat) : Int)), (35, vb false), (45, vb (decide (((s15 : Nat) : Int) > 0) && ((List.getD y6.1 s15 default).type_ != 1)))] (fun hk9 => ?_) ?_
              · refine wpq_split 38 (b := decide (((s15 : Nat) : Int) > 0)) (by kernel_rfl) (fun q30 => ?_) (fun q30 => ?_)
                · have q30p := of_decide_eq_true q30
                  have i32 : s15 < (y6.1).length := by omega
                  obtain ⟨kc31, cs31, hA31, hk31, hr31, hw31⟩ := h6_0.open_ i32 default
                  cases hk31
                  obtain ⟨rfl⟩ := hr31
                  refine xT 19 [10, 11] [] [some 0] [(7, vs A6_0 y6.1 c6_0), (9, vi ((s15 : Nat) : Int)), (25, vi (((y6.1).length : Nat) : Int)), (26, vi ((s15 : Nat) : Int)), (35, vb false), (38, vb true), (39, vs A6_0 y6.1 c6_0), (40, vi ((s15 : Nat) : Int))] RG e23.r ?_
                  refine xTp 12 RG (fun _ => (qIxB s15 13 kb19.g hA31 rfl i32)) ?_
                  refine xT 17 [13] [] [some 0] [(7, vs A6_0 y6.1 c6_0), (9, vi ((s15 : Nat) : Int)), (25, vi (((y6.1).length : Nat) : Int)), (26, vi ((s15 : Nat) : Int)), (35, vb false), (38, vb true), (42, Value.pointer (some ⟨kb19.g, s15 * 13 + 0, none⟩))] RG e23.r ?_
                  refine xTv 14 [some 0] RG e23.r (qLdB s15 13 0 0 hw31) ?_
                  refine xT 14 [15, 16] [] [some 0] [(7, vs A6_0 y6.1 c6_0), (9, vi ((s15 : Nat) : Int)), (25, vi (((y6.1).length : Nat) : Int)), (26, vi ((s15 : Nat) : Int)), (35, vb false), (45, vb ((List.getD y6.1 s15 default).type_ != 1))] RG e23.r ?_
                  refine wpq_re 45 (v := vb ((List.getD y6.1 s15 default).type_ != 1)) (Value.bool ((decide (((s15 : Nat) : Int) > 0) && ((List.getD y6.1 s15 default).type_ != 1)))) (by kernel_rfl) (re_and1 q30) ?_
                  exact wpq_sub _ (by kernel_rfl) hk9
                · have q30p := of_decide_eq_false q30
                  refine xT 14 [10, 11, 12, 13, 14, 15, 16] [] [some 0] [(7, vs A6_0 y6.1 c6_0), (9, vi ((s15 : Nat) : Int)), (25, vi (((y6.1).length : Nat) : Int)), (26, vi ((s15 : Nat) : Int)), (35, vb false), (45, vb false)] RG e23.r ?_
                  refine wpq_re 45 (v := vb false) (Value.bool ((decide (((s15 : Nat) : Int) > 0) && ((List.getD y6.1 s15 default).type_ != 1)))) (by kernel_rfl) (re_and0 q30) ?_
                  exact wpq_sub _ (by kernel_rfl) hk9
              · refine xT 13 [17] [] [some 0] [(7, vs A6_0 y6.1 c6_0), (9, vi ((s15 : Nat) : Int)), (25, vi (((y6.1).length : Nat) : Int)), (26, vi ((s15 : Nat) : Int)), (35, vb false), (46, vb (decide (((s15 : Nat) : Int) > 0) && ((List.getD y6.1 s15 default).type_ != 1)))] RG e23.r ?_
                refine xGJoA hS 1 [true, true, true, true, true, true, true, true, true, true, true, true, true, true, true, true, true, true, true, true, true, true, true, true, true, true, true, true, true, true, false] (fun g own sl t33 => own = [(some kb19)] ∧ sl = [(7, vs A6_0 y6.1 c6_0), (25, vi (((y6.1).length : Nat) : Int)), (26, vi ((s15 : Nat) : Int)), (35, vb false), (58, vb t33)]) ?_ ?_
                · rintro g34 _ _ t33 e35 ⟨rfl, rfl⟩ hS
                  refine xT 0 [30] [] [some 0] [(7, vs A6_0 y6.1 c6_0), (25, vi (((y6.1).length : Nat) : Int)), (26, vi ((s15 : Nat) : Int)), (59, vb t33)] RG (e23.trans e35).r ?_
                  refine xSub [(7, vs A6_0 y6.1 c6_0), (25, vi (((y6.1).length : Nat) : Int)), (26, vi ((s15 : Nat) : Int)), (59, vb t33)] ?_
                  exact hN24 _ (Option.some.inj hS).symm _ _ _ e35 ⟨by kernel_rfl, by kernel_rfl⟩
                · intro uu33 hS hN33
                  refine wpq_split 46 (b := (decide (((s15 : Nat) : Int) > 0) && ((List.getD y6.1 s15 default).type_ != 1))) (by kernel_rfl) (fun q36 => ?_) (fun q36 => ?_)
                  · have hS := cond_T q36 hS
                    have q36l := (and_true_ q36).1
                    have q36r := (and_true_ q36).2
                    have q36lp := of_decide_eq_true q36l
                    have q36rp : ¬ ((List.getD y6.1 s15 default).type_ = 1) := ne_of_bne_ q36r
                    refine xT 11 [18, 19] [] [some 0] [(7, vs A6_0 y6.1 c6_0), (9, vi ((s15 : Nat) : Int)), (25, vi (((y6.1).length : Nat) : Int)), (26, vi ((s15 : Nat) : Int)), (35, vb false), (46, vb true), (47, vs A6_0 y6.1 c6_0), (48, vi ((s15 : Nat) : Int))] RG e23.r ?_
                    refine xTp 20 RG (fun _ => (qSub .i64 (((s15 : Nat) : Int)) (1) (wr64 (by omega)))) ?_
                    obtain ⟨q38, hS⟩ := grd_T hS
                    have q38p := of_decide_eq_true q38
                    have i39 : ((((s15 : Nat) : Int) - 1)).toNat < (y6.1).length := by omega
                    obtain ⟨kc37, cs37, hA37, hk37, hr37, hw37⟩ := h6_0.open_ i39 default
                    cases hk37
                    obtain ⟨rfl⟩ := hr37
                    refine xTp 21 RG (fun _ => (qIxB ((((s15 : Nat) : Int) - 1)).toNat 13 kb19.g hA37 (show ((((s15 : Nat) : Int) - 1) : Int) = _ from by omega) i39)) ?_
                    refine xTv 22 [some 0] RG e23.r (qLdB ((((s15 : Nat) : Int) - 1)).toNat 13 0 0 hw37) ?_
                    have i41 : s15 < (y6.1).length := by omega
                    obtain ⟨kc40, cs40, hA40, hk40, hr40, hw40⟩ := h6_0.open_ i41 default
                    cases hk40
                    obtain ⟨rfl⟩ := hr40
                    refine xT 6 [23, 24] [] [some 0] [(7, vs A6_0 y6.1 c6_0), (25, vi (((y6.1).length : Nat) : Int)), (26, vi ((s15 : Nat) : Int)), (35, vb false), (46, vb true), (51, Value.agg #[vy ((List.getD y6.1 ((((s15 : Nat) : Int) - 1)).toNat default).type_), vt ((List.getD y6.1 ((((s15 : Nat) : Int) - 1)).toNat default).fix), vt ((List.getD y6.1 ((((s15 : Nat) : Int) - 1)).toNat default).center), vy ((List.getD y6.1 ((((s15 : Nat) : Int) - 1)).toNat default).turn), vb ((List.getD y6.1 ((((s15 : Nat) : Int) - 1)).toNat default).over), vi ((List.getD y6.1 ((((s15 : Nat) : Int) - 1)).toNat default).course), vi ((List.getD y6.1 ((((s15 : Nat) : Int) - 1)).toNat default).dist), vi ((List.getD y6.1 ((((s15 : Nat) : Int) - 1)).toNat default).radius), vi ((List.getD y6.1 ((((s15 : Nat) : Int) - 1)).toNat default).theta), vi ((List.getD y6.1 ((((s15 : Nat) : Int) - 1)).toNat default).alt.lo), vi ((List.getD y6.1 ((((s15 : Nat) : Int) - 1)).toNat default).alt.hi), vi ((List.getD y6.1 ((((s15 : Nat) : Int) - 1)).toNat default).speed), vi ((List.getD y6.1 ((((s15 : Nat) : Int) - 1)).toNat default).rnp)]), (52, vs A6_0 y6.1 c6_0), (53, vi ((s15 : Nat) : Int))] RG e23.r ?_
                    refine xTp 25 RG (fun _ => (qIxB s15 13 kb19.g hA40 rfl i41)) ?_
                    refine xTv 26 [some 0] RG e23.r (qLdB s15 13 0 0 hw40) ?_
                    obtain ⟨y42, hy42, hS⟩ := letJ_T hS
                    refine xO1 (lds := [3, 14, 22, 26]) 27 ?_
                    refine xIe (lds := [3, 14, 22, 26]) e23.r (eC 0 (fun g' lr eb ln => C26 g' (List.getD y6.1 ((((s15 : Nat) : Int) - 1)).toNat default) (List.getD y6.1 s15 default) hy42)) ?_
                    rintro _ g43 _ e44 ⟨_, rfl, rfl, rfl⟩
                    refine kk [some 0] ?_
                    refine xT 1 [28, 29] [] [some 0] [(7, vs A6_0 y6.1 c6_0), (25, vi (((y6.1).length : Nat) : Int)), (26, vi ((s15 : Nat) : Int)), (35, vb false), (58, vb (!y42))] RG (e23.trans e44).r ?_
                    refine xSub [(7, vs A6_0 y6.1 c6_0), (25, vi (((y6.1).length : Nat) : Int)), (26, vi ((s15 : Nat) : Int)), (35, vb false), (58, vb (!y42))] ?_
                    exact hN33 _ (Option.some.inj hS).symm _ _ _ e44 ⟨by kernel_rfl, by kernel_rfl⟩
                  · have hS := cond_F q36 hS
                    refine xT 4 [18, 19, 20, 21, 22, 23, 24, 25, 26] [] [some 0] [(7, vs A6_0 y6.1 c6_0), (25, vi (((y6.1).length : Nat) : Int)), (26, vi ((s15 : Nat) : Int)), (35, vb false), (46, vb false), (51, undef), (55, undef)] RG e23.r ?_
                    refine xO1 (lds := [3, 14, 22, 26]) 27 ?_
                    refine xIb (lds := [3, 14, 22, 26]) [] ?_
                    refine xT 1 [28, 29] [] [some 0] [(7, vs A6_0 y6.1 c6_0), (25, vi (((y6.1).length : Nat) : Int)), (26, vi ((s15 : Nat) : Int)), (35, vb false), (58, vb false)] RG e23.r ?_
                    refine xSub [(7, vs A6_0 y6.1 c6_0), (25, vi (((y6.1).length : Nat) : Int)), (26, vi ((s15 : Nat) : Int)), (35, vb false), (58, vb false)] ?_
                    exact hN33 _ (Option.some.inj hS).symm _ _ _ (Gh.le.refl _) ⟨by kernel_rfl, by kernel_rfl⟩
        · have hS := cond_F h18 hS
          have h18p := of_decide_eq_false h18
          refine xEx 0 ?_
          refine wpq_thenX ?_
          refine wpq_thenX ?_
          refine wpq_blockE ?_
          refine xSub [(7, vs A6_0 y6.1 c6_0)] ?_
          have eS := (Option.some.inj hS).symm
          have eS := (hD15 _ eS).symm
          exact hN10 _ eS _ _ _ e17 ⟨by kernel_rfl, by kernel_rfl⟩

end Go.Proofs.YthfekfebgghjhaaDoor
