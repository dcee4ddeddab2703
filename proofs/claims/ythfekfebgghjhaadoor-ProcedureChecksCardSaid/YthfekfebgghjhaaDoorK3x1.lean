/-
Walks, printed by wip/gen. Conditions: each theorem's own.
-/
import Derived.Test.YthfekfebgghjhaaDoorK3x0
namespace Go.Proofs.YthfekfebgghjhaaDoor
set_option linter.unusedVariables false
set_option linter.unusedSimpArgs false
open Go.RowKit
def o14_L0 (p : Proc) (s20 : Bool × Nat) : Option (Ctl (Bool × Nat) (Ctl (Bool) (Int))) :=
  (cond (decide (((s20.2 : Nat) : Int) < (((p.parts).length : Nat) : Int))) (letJ (τ := Int) (o39 (p.kind : Int) ((List.getD p.parts s20.2 default).kind : Int)) fun y27 => (cond ((y27 == 0)) (some (Ctl.done (Ctl.done ((17 : Int))))) (joinO (τ := Unit) (ρ := Ctl (Bool × Nat) (Ctl (Bool) (Int))) (cond (decide (((s20.2 : Nat) : Int) > 0)) (grd (decide (0 ≤ (((s20.2 : Nat) : Int) - 1) ∧ (((s20.2 : Nat) : Int) - 1) < (((p.parts).length : Nat) : Int))) (letJ (τ := Int) (o39 (p.kind : Int) ((List.getD p.parts ((((s20.2 : Nat) : Int) - 1)).toNat default).kind : Int)) fun y56 => (cond ((decide (y27 < y56) || ((y27 == y56) && (strLt (List.getD p.parts s20.2 default).name (List.getD p.parts ((((s20.2 : Nat) : Int) - 1)).toNat default).name)))) (some (Ctl.done (Ctl.done (Ctl.done ((9 : Int)))))) (cond (((y27 == y56) && ((List.getD p.parts s20.2 default).name == (List.getD p.parts ((((s20.2 : Nat) : Int) - 1)).toNat default).name))) (some (Ctl.done (Ctl.done (Ctl.done ((7 : Int)))))) (some (Ctl.go ())))))) (some (Ctl.go ()))) fun t31 => (bindO (τ := Bool) (cond ((((List.getD p.parts s20.2 default).kind == 1) || ((List.getD p.parts s20.2 default).kind == 3))) (bindO (τ := Bool) (o38 (List.getD p.parts s20.2 default).name (8 : Int)) fun y48 => (some (!y48))) (some (false))) fun t35 => (cond ((t35 || ((!(((List.getD p.parts s20.2 default).kind == 1) || ((List.getD p.parts s20.2 default).kind == 3))) && (!((List.getD p.parts s20.2 default).name == []))))) (some (Ctl.done (Ctl.done ((5 : Int))))) (bindO (τ := Int) (o40 (p.kind : Int) (List.getD p.parts s20.2 default)) fun y41 => (cond ((y41 != 0)) (some (Ctl.done (Ctl.done ((y41 : Int))))) (grd (decide (((s20.2 : Nat) : Int) + 1 ≤ 9223372036854775807)) (some (Ctl.go ((s20.1 || ((List.getD p.parts s20.2 default).kind == 2)), (s20.2 + 1)))))))))))) (some (Ctl.done (Ctl.go (s20.1)))))
def o14 (p : Proc) : Option (Int) :=
  (bindO (τ := Bool) (o38 p.airport (6 : Int)) fun y2 => (bindO (τ := Bool) (cond ((!y2)) (some (true)) (bindO (τ := Bool) (o38 p.name (8 : Int)) fun y65 => (some (!y65)))) fun t5 => (cond (t5) (some ((5 : Int))) (cond ((decide (p.kind < 1) || decide (p.kind > 3))) (some ((17 : Int))) (cond (decide ((((p.parts).length : Nat) : Int) > 12)) (some ((3 : Int))) (joinO (τ := Bool) (ρ := Int) (loopO (σ := Bool × Nat) (ρ := Ctl (Bool) (Int)) fuelN (o14_L0 p) (false, 0)) fun t12 => (cond ((((((p.parts).length : Nat) : Int) == 0) || ((p.kind == 3) && (!t12)))) (some ((6 : Int))) (some ((0 : Int))))))))))
set_option maxRecDepth 100000 in
theorem C14 (g : Gh) (p : Proc) (Ap_parts : Option Addr) (cp_parts : Nat) (fp_parts : Arr g.r tyPart Ap_parts cp_parts p.parts) {r : Int} (hS : o14 p = some r) :
    Ctr Tryd.prog 14 [Value.agg #[vt p.airport, vt p.name, vy p.kind, vs Ap_parts p.parts cp_parts]] g [] (fun v ψ o => v = vi r ∧ o = []) := by
  unfold o14 at hS
  refine xFn Tryd.f14 (Tryd.f14.body.getD .skip) 137 ?_
  have nfp_parts := fp_parts.len
  refine xSq ?_
  refine xRg ?_
  refine xE eB ?_
  rintro _ _ _ - ⟨b1, rfl, rfl, rfl⟩
  refine xB 1 [] [(1, vp b1 0)] ?_
  refine xRe ?_
  refine wpq_then ?_
  refine xSq ?_
  refine xSq ?_
  refine xRg ?_
  refine xB 2 [(1, 0)] [(1, vp b1 0), (12, vt p.airport)] ?_
  obtain ⟨y2, hy2, hS⟩ := bindO_T hS
  refine xE (eC 0 (fun g' lr eb ln => C38 g' p.airport (6 : Int) hy2)) ?_
  rintro _ g3 _ e4 ⟨_, rfl, rfl, rfl⟩
  refine xB 2 [] [(1, vp b1 0), (15, vb (!y2))] ?_
  refine xGJo hS 10 (fun g own sl t5 => own = [some ⟨b1, 25, (cProc p Ap_parts cp_parts)⟩] ∧ sl = [(1, vp b1 0), (20, vb t5)]) ?_ ?_
  · rintro g6 _ _ t5 e7 ⟨rfl, rfl⟩ hS
    refine xRe ?_
    refine wpq_then ?_
    refine xCd (t5) (fun h8 => ?_) (fun h8 => ?_)
    · have hS := cond_T h8 hS
      refine xSq ?_
      refine xRg ?_
      refine xB 1 [] [(2, vi 5)] ?_
      refine xRe ?_
      refine wpq_then ?_
      have eS := (Option.some.inj hS).symm
      subst eS
      exact xRet [] [2] (e4.trans e7) ⟨by kernel_rfl, by kernel_rfl⟩ (fun _ _ h => h)
    · have hS := cond_F h8 hS
      refine xSk ?_
      refine wpq_then ?_
      refine xSub [(1, vp b1 0)] ?_
      refine xSq ?_
      refine xSq ?_
      refine xRg ?_
      refine xB 4 [(1, 0)] [(1, vp b1 0), (24, vb (decide (p.kind < 1)))] ?_
      refine wpr_grp 8 [(1, vp b1 0), (28, vb (decide (p.kind < 1) || decide (p.kind > 3)))] (fun hk3 => ?_) ?_
      · refine wpq_split 24 (b := decide (p.kind < 1)) (by kernel_rfl) (fun q9 => ?_) (fun q9 => ?_)
        · have q9p := of_decide_eq_true q9
          refine xB 4 [] [(1, vp b1 0), (28, vb true)] ?_
          refine wpq_re 28 (v := vb true) (Value.bool ((decide (p.kind < 1) || decide (p.kind > 3)))) (by kernel_rfl) (re_or1 q9) ?_
          exact wpq_sub _ (by kernel_rfl) hk3
        · have q9p := of_decide_eq_false q9
          refine xB 4 [(5, 0)] [(1, vp b1 0), (28, vb (decide (p.kind > 3)))] ?_
          refine wpq_re 28 (v := vb (decide (p.kind > 3))) (Value.bool ((decide (p.kind < 1) || decide (p.kind > 3)))) (by kernel_rfl) (re_or0 q9) ?_
          exact wpq_sub _ (by kernel_rfl) hk3
      · refine xRe ?_
        refine wpq_then ?_
        refine xCd ((decide (p.kind < 1) || decide (p.kind > 3))) (fun h10 => ?_) (fun h10 => ?_)
        · have hS := cond_T h10 hS
          refine xSq ?_
          refine xRg ?_
          refine xB 1 [] [(2, vi 17)] ?_
          refine xRe ?_
          refine wpq_then ?_
          have eS := (Option.some.inj hS).symm
          subst eS
          exact xRet [] [2] (e4.trans e7) ⟨by kernel_rfl, by kernel_rfl⟩ (fun _ _ h => h)
        · have hS := cond_F h10 hS
          have h10l := (or_false_ h10).1
          have h10r := (or_false_ h10).2
          have h10lp := of_decide_eq_false h10l
          have h10rp := of_decide_eq_false h10r
          refine xSk ?_
          refine wpq_then ?_
          refine xSub [(1, vp b1 0)] ?_
          refine xSq ?_
          refine xSq ?_
          refine xRg ?_
          refine xB 4 [(1, 0)] [(1, vp b1 0), (32, vb (decide ((((p.parts).length : Nat) : Int) > 12)))] ?_
          refine xRe ?_
          refine wpq_then ?_
          refine xCd (decide ((((p.parts).length : Nat) : Int) > 12)) (fun h11 => ?_) (fun h11 => ?_)
          · have hS := cond_T h11 hS
            have h11p := of_decide_eq_true h11
            refine xSq ?_
            refine xRg ?_
            refine xB 1 [] [(2, vi 3)] ?_
            refine xRe ?_
            refine wpq_then ?_
            have eS := (Option.some.inj hS).symm
            subst eS
            exact xRet [] [2] (e4.trans e7) ⟨by kernel_rfl, by kernel_rfl⟩ (fun _ _ h => h)
          · have hS := cond_F h11 hS
            have h11p := of_decide_eq_false h11
            refine xSk ?_
            refine wpq_then ?_
            refine xSub [(1, vp b1 0)] ?_
            refine xSq ?_
            refine xRg ?_
            refine xB 1 [] [(1, vp b1 0), (3, vb false)] ?_
            refine xRe ?_
            refine wpq_then ?_
            refine xSq ?_
            refine xSq ?_
            refine xRg ?_
            refine xB 4 [(1, 0)] [(1, vp b1 0), (3, vb false), (34, vs Ap_parts p.parts cp_parts), (35, vi (((p.parts).length : Nat) : Int)), (36, vi 0)] ?_
            refine xRe ?_
            refine wpq_then ?_
            refine xJoinO hS (fun g own sl t12 => own = [some ⟨b1, 25, (cProc p Ap_parts cp_parts)⟩] ∧ sl = [(1, vp b1 0), (3, vb t12)]) ?_ ?_
            · rintro g13 _ _ t12 e14 ⟨rfl, rfl⟩ hS
              refine wpq_then ?_
              refine xSq ?_
              refine xSq ?_
              refine xRg ?_
              refine xB 5 [(1, 0)] [(1, vp b1 0), (3, vb t12), (128, vb ((((p.parts).length : Nat) : Int) == 0))] ?_
              refine wpr_grp 13 [(136, vb (((((p.parts).length : Nat) : Int) == 0) || ((p.kind == 3) && (!t12))))] (fun hk4 => ?_) ?_
              · refine wpq_split 128 (b := ((((p.parts).length : Nat) : Int) == 0)) (by kernel_rfl) (fun q15 => ?_) (fun q15 => ?_)
                · have q15p : (((p.parts).length : Nat) : Int) = 0 := eq_of_beq q15
                  refine xB 8 [] [(136, vb true)] ?_
                  refine wpq_re 136 (v := vb true) (Value.bool ((((((p.parts).length : Nat) : Int) == 0) || ((p.kind == 3) && (!t12))))) (by kernel_rfl) (re_or1 q15) ?_
                  exact wpq_sub _ (by kernel_rfl) hk4
                · have q15p : ¬ ((((p.parts).length : Nat) : Int) = 0) := ne_of_beq_false_ q15
                  refine xB 4 [(6, 0)] [(3, vb t12), (128, vb false), (132, vb (p.kind == 3))] ?_
                  refine wpr_grp 12 [(128, vb false), (135, vb ((p.kind == 3) && (!t12)))] (fun hk8 => ?_) ?_
                  · refine wpq_split 132 (b := (p.kind == 3)) (by kernel_rfl) (fun q16 => ?_) (fun q16 => ?_)
                    · have q16p : p.kind = 3 := eq_of_beq q16
                      refine xB 3 [] [(128, vb false), (135, vb (!t12))] ?_
                      refine wpq_re 135 (v := vb (!t12)) (Value.bool (((p.kind == 3) && (!t12)))) (by kernel_rfl) (re_and1 q16) ?_
                      exact wpq_sub _ (by kernel_rfl) hk8
                    · have q16p : ¬ (p.kind = 3) := ne_of_beq_false_ q16
                      refine xB 3 [] [(128, vb false), (135, vb false)] ?_
                      refine wpq_re 135 (v := vb false) (Value.bool (((p.kind == 3) && (!t12)))) (by kernel_rfl) (re_and0 q16) ?_
                      exact wpq_sub _ (by kernel_rfl) hk8
                  · refine xB 1 [] [(136, vb ((p.kind == 3) && (!t12)))] ?_
                    refine wpq_re 136 (v := vb ((p.kind == 3) && (!t12))) (Value.bool ((((((p.parts).length : Nat) : Int) == 0) || ((p.kind == 3) && (!t12))))) (by kernel_rfl) (re_or0 q15) ?_
                    exact wpq_sub _ (by kernel_rfl) hk4
              · refine xRe ?_
                refine wpq_then ?_
                refine xCd ((((((p.parts).length : Nat) : Int) == 0) || ((p.kind == 3) && (!t12)))) (fun h17 => ?_) (fun h17 => ?_)
                · have hS := cond_T h17 hS
                  refine xSq ?_
                  refine xRg ?_
                  refine xB 1 [] [(2, vi 6)] ?_
                  refine xRe ?_
                  refine wpq_then ?_
                  have eS := (Option.some.inj hS).symm
                  subst eS
                  exact xRet [] [2] (e4.trans (e7.trans e14)) ⟨by kernel_rfl, by kernel_rfl⟩ (fun _ _ h => h)
                · have hS := cond_F h17 hS
                  have h17l := (or_false_ h17).1
                  have h17r := (or_false_ h17).2
                  have h17lp : ¬ ((((p.parts).length : Nat) : Int) = 0) := ne_of_beq_false_ h17l
                  refine xSk ?_
                  refine wpq_then ?_
                  refine xSub [] ?_
                  refine xSq ?_
                  refine xRg ?_
                  refine xB 1 [] [(2, vi 0)] ?_
                  refine xRe ?_
                  refine wpq_then ?_
                  have eS := (Option.some.inj hS).symm
                  subst eS
                  exact xRet [] [2] (e4.trans (e7.trans e14)) ⟨by kernel_rfl, by kernel_rfl⟩ (fun _ _ h => h)
            · intro uu12 hS hN12 hD12
              refine xBl 0 ?_
              refine xSub [(1, vp b1 0), (3, vb false), (34, vs Ap_parts p.parts cp_parts), (35, vi (((p.parts).length : Nat) : Int)), (36, vi 0)] ?_
              refine xLo hS (fun g own sl s20 => own = [some ⟨b1, 25, (cProc p Ap_parts cp_parts)⟩] ∧ sl = [(1, vp b1 0), (3, vb s20.1), (34, vs Ap_parts p.parts cp_parts), (35, vi (((p.parts).length : Nat) : Int)), (36, vi ((s20.2 : Nat) : Int))]) ⟨by kernel_rfl, by kernel_rfl⟩ ?_
              rintro g21 _ _ s20 uu20 e22 ⟨rfl, rfl⟩ hS Qr20 hN20 hD20
              unfold o14_L0 at hS
              refine xSq ?_
              refine xRg ?_
              refine xB 1 [] [(1, vp b1 0), (3, vb s20.1), (34, vs Ap_parts p.parts cp_parts), (35, vi (((p.parts).length : Nat) : Int)), (36, vi ((s20.2 : Nat) : Int)), (37, vb (decide (((s20.2 : Nat) : Int) < (((p.parts).length : Nat) : Int))))] ?_
              refine xRe ?_
              refine wpq_then ?_
              refine xSq ?_
              refine xCd (decide (((s20.2 : Nat) : Int) < (((p.parts).length : Nat) : Int))) (fun h23 => ?_) (fun h23 => ?_)
              · have hS := cond_T h23 hS
                have h23p := of_decide_eq_true h23
                refine xSk ?_
                refine wpq_then ?_
                refine xSub [(1, vp b1 0), (3, vb s20.1), (34, vs Ap_parts p.parts cp_parts), (35, vi (((p.parts).length : Nat) : Int)), (36, vi ((s20.2 : Nat) : Int))] ?_
                refine xSq ?_
                refine xBl 1 ?_
                refine xSq ?_
                refine xRg ?_
                have fp_parts := fp_parts.mono (e4.trans (e7.trans e22)).r
                have i25 : s20.2 < (p.parts).length := by omega
                obtain ⟨ad24, cs24, hA24, hr24, hc24⟩ := fp_parts.at_ (get_getD (d := default) i25)
                obtain ⟨A24_legs, c24_legs, rfl, f24_legs⟩ := hr24
                have nf24_legs := f24_legs.len
                refine xB 1 [] [(1, vp b1 0), (3, vb s20.1), (34, vs Ap_parts p.parts cp_parts), (35, vi (((p.parts).length : Nat) : Int)), (36, vi ((s20.2 : Nat) : Int)), (38, vi ((s20.2 : Nat) : Int))] ?_
                refine xV (qIx s20.2 3 hA24 rfl i25) ?_
                refine xV (qLdP (Addr.add ad24 (s20.2 * 3)) 0 hc24) ?_
                refine xE eB ?_
                rintro _ _ _ - ⟨b26, rfl, rfl, rfl⟩
                refine xBo 2 [(5, 0)] [some ⟨b26, 35, [vy ((List.getD p.parts s20.2 default).kind), vt ((List.getD p.parts s20.2 default).name), vs A24_legs ((List.getD p.parts s20.2 default).legs) c24_legs]⟩, some ⟨b1, 25, (cProc p Ap_parts cp_parts)⟩] [(1, vp b1 0), (3, vb s20.1), (4, vi ((s20.2 : Nat) : Int)), (5, vp b26 0), (34, vs Ap_parts p.parts cp_parts), (35, vi (((p.parts).length : Nat) : Int)), (36, vi ((s20.2 : Nat) : Int))] ?_
                refine xRe ?_
                refine wpq_then ?_
                refine xSq ?_
                refine xRg ?_
                refine xB 4 [(1, 1), (3, 0)] [(1, vp b1 0), (3, vb s20.1), (4, vi ((s20.2 : Nat) : Int)), (5, vp b26 0), (34, vs Ap_parts p.parts cp_parts), (35, vi (((p.parts).length : Nat) : Int)), (36, vi ((s20.2 : Nat) : Int)), (42, vy p.kind), (44, vy ((List.getD p.parts s20.2 default).kind))] ?_
                obtain ⟨y27, hy27, hS⟩ := letJ_T hS
                refine xE (eC 0 (fun g' lr eb ln => C39 g' (p.kind : Int) ((List.getD p.parts s20.2 default).kind : Int) hy27)) ?_
                rintro _ g28 _ e29 ⟨_, rfl, rfl, rfl⟩
                refine xB 1 [] [(1, vp b1 0), (3, vb s20.1), (4, vi ((s20.2 : Nat) : Int)), (5, vp b26 0), (6, vi y27), (34, vs Ap_parts p.parts cp_parts), (35, vi (((p.parts).length : Nat) : Int)), (36, vi ((s20.2 : Nat) : Int))] ?_
                refine xRe ?_
                refine wpq_then ?_
                refine xSq ?_
                refine xSq ?_
                refine xRg ?_
                refine xB 2 [] [(1, vp b1 0), (3, vb s20.1), (4, vi ((s20.2 : Nat) : Int)), (5, vp b26 0), (6, vi y27), (34, vs Ap_parts p.parts cp_parts), (35, vi (((p.parts).length : Nat) : Int)), (36, vi ((s20.2 : Nat) : Int)), (47, vb (y27 == 0))] ?_
                refine xRe ?_
                refine wpq_then ?_
                refine xCd ((y27 == 0)) (fun h30 => ?_) (fun h30 => ?_)
                · have hS := cond_T h30 hS
                  have h30p : y27 = 0 := eq_of_beq h30
                  refine xSq ?_
                  refine xRg ?_
                  refine xB 1 [] [(2, vi 17)] ?_
                  refine xRe ?_
                  refine wpq_then ?_
                  have eS := (Option.some.inj hS).symm
                  have eS := (hD20 _ eS).symm
                  have eS := (hD12 _ eS).symm
                  subst eS
                  exact xRet [] [2] (e4.trans (e7.trans (e22.trans e29))) ⟨by kernel_rfl, by kernel_rfl⟩ (fun _ _ h => h)
                · have hS := cond_F h30 hS
                  have h30p : ¬ (y27 = 0) := ne_of_beq_false_ h30
                  refine xSk ?_
                  refine wpq_then ?_
                  refine xSub [(1, vp b1 0), (3, vb s20.1), (4, vi ((s20.2 : Nat) : Int)), (5, vp b26 0), (6, vi y27), (34, vs Ap_parts p.parts cp_parts), (35, vi (((p.parts).length : Nat) : Int)), (36, vi ((s20.2 : Nat) : Int))] ?_
                  refine xSq ?_
                  refine xSq ?_
                  refine xRg ?_
                  refine xB 2 [] [(1, vp b1 0), (3, vb s20.1), (4, vi ((s20.2 : Nat) : Int)), (5, vp b26 0), (6, vi y27), (34, vs Ap_parts p.parts cp_parts), (35, vi (((p.parts).length : Nat) : Int)), (36, vi ((s20.2 : Nat) : Int)), (49, vb (decide (((s20.2 : Nat) : Int) > 0)))] ?_
                  refine xRe ?_
                  refine wpq_then ?_
                  refine xJoinO hS (fun g own sl t31 => own = [some ⟨b26, 35, [vy ((List.getD p.parts s20.2 default).kind), vt ((List.getD p.parts s20.2 default).name), vs A24_legs ((List.getD p.parts s20.2 default).legs) c24_legs]⟩, some ⟨b1, 25, (cProc p Ap_parts cp_parts)⟩] ∧ sl = [(1, vp b1 0), (3, vb s20.1), (5, vp b26 0), (34, vs Ap_parts p.parts cp_parts), (35, vi (((p.parts).length : Nat) : Int)), (36, vi ((s20.2 : Nat) : Int))]) ?_ ?_
                  · rintro g32 _ _ t31 e33 ⟨rfl, rfl⟩ hS
                    refine wpq_then ?_
                    refine xSq ?_
                    refine xRg ?_
                    refine xB 4 [(1, 0)] [(1, vp b1 0), (3, vb s20.1), (5, vp b26 0), (34, vs Ap_parts p.parts cp_parts), (35, vi (((p.parts).length : Nat) : Int)), (36, vi ((s20.2 : Nat) : Int)), (89, vb ((List.getD p.parts s20.2 default).kind == 1))] ?_
                    refine wpr_grp 8 [(1, vp b1 0), (3, vb s20.1), (5, vp b26 0), (34, vs Ap_parts p.parts cp_parts), (35, vi (((p.parts).length : Nat) : Int)), (36, vi ((s20.2 : Nat) : Int)), (93, vb (((List.getD p.parts s20.2 default).kind == 1) || ((List.getD p.parts s20.2 default).kind == 3)))] (fun hk3 => ?_) ?_
                    · refine wpq_split 89 (b := ((List.getD p.parts s20.2 default).kind == 1)) (by kernel_rfl) (fun q34 => ?_) (fun q34 => ?_)
                      · have q34p : (List.getD p.parts s20.2 default).kind = 1 := eq_of_beq q34
                        refine xB 4 [] [(1, vp b1 0), (3, vb s20.1), (5, vp b26 0), (34, vs Ap_parts p.parts cp_parts), (35, vi (((p.parts).length : Nat) : Int)), (36, vi ((s20.2 : Nat) : Int)), (93, vb true)] ?_
                        refine wpq_re 93 (v := vb true) (Value.bool ((((List.getD p.parts s20.2 default).kind == 1) || ((List.getD p.parts s20.2 default).kind == 3)))) (by kernel_rfl) (re_or1 q34) ?_
                        exact wpq_sub _ (by kernel_rfl) hk3
                      · have q34p : ¬ ((List.getD p.parts s20.2 default).kind = 1) := ne_of_beq_false_ q34
                        refine xB 4 [(5, 0)] [(1, vp b1 0), (3, vb s20.1), (5, vp b26 0), (34, vs Ap_parts p.parts cp_parts), (35, vi (((p.parts).length : Nat) : Int)), (36, vi ((s20.2 : Nat) : Int)), (93, vb ((List.getD p.parts s20.2 default).kind == 3))] ?_
                        refine wpq_re 93 (v := vb ((List.getD p.parts s20.2 default).kind == 3)) (Value.bool ((((List.getD p.parts s20.2 default).kind == 1) || ((List.getD p.parts s20.2 default).kind == 3)))) (by kernel_rfl) (re_or0 q34) ?_
                        exact wpq_sub _ (by kernel_rfl) hk3
                    · refine xB 1 [] [(1, vp b1 0), (3, vb s20.1), (5, vp b26 0), (9, vb (((List.getD p.parts s20.2 default).kind == 1) || ((List.getD p.parts s20.2 default).kind == 3))), (34, vs Ap_parts p.parts cp_parts), (35, vi (((p.parts).length : Nat) : Int)), (36, vi ((s20.2 : Nat) : Int))] ?_
                      refine xRe ?_
                      refine wpq_then ?_
                      refine xSq ?_
                      refine xSq ?_
                      refine xRg ?_
                      refine xB 2 [] [(1, vp b1 0), (3, vb s20.1), (5, vp b26 0), (9, vb (((List.getD p.parts s20.2 default).kind == 1) || ((List.getD p.parts s20.2 default).kind == 3))), (34, vs Ap_parts p.parts cp_parts), (35, vi (((p.parts).length : Nat) : Int)), (36, vi ((s20.2 : Nat) : Int)), (95, vb (((List.getD p.parts s20.2 default).kind == 1) || ((List.getD p.parts s20.2 default).kind == 3)))] ?_
                      refine xGJo hS 7 (fun g own sl t35 => own = [some ⟨b26, 35, [vy ((List.getD p.parts s20.2 default).kind), vt ((List.getD p.parts s20.2 default).name), vs A24_legs ((List.getD p.parts s20.2 default).legs) c24_legs]⟩, some ⟨b1, 25, (cProc p Ap_parts cp_parts)⟩] ∧ sl = [(1, vp b1 0), (3, vb s20.1), (5, vp b26 0), (9, vb (((List.getD p.parts s20.2 default).kind == 1) || ((List.getD p.parts s20.2 default).kind == 3))), (34, vs Ap_parts p.parts cp_parts), (35, vi (((p.parts).length : Nat) : Int)), (36, vi ((s20.2 : Nat) : Int)), (100, vb t35)]) ?_ ?_
                      · rintro g36 _ _ t35 e37 ⟨rfl, rfl⟩ hS
                        refine xB 1 [] [(1, vp b1 0), (3, vb s20.1), (5, vp b26 0), (9, vb (((List.getD p.parts s20.2 default).kind == 1) || ((List.getD p.parts s20.2 default).kind == 3))), (34, vs Ap_parts p.parts cp_parts), (35, vi (((p.parts).length : Nat) : Int)), (36, vi ((s20.2 : Nat) : Int)), (101, vb t35)] ?_
                        refine wpr_grp 16 [(1, vp b1 0), (3, vb s20.1), (5, vp b26 0), (34, vs Ap_parts p.parts cp_parts), (35, vi (((p.parts).length : Nat) : Int)), (36, vi ((s20.2 : Nat) : Int)), (109, vb (t35 || ((!(((List.getD p.parts s20.2 default).kind == 1) || ((List.getD p.parts s20.2 default).kind == 3))) && (!((List.getD p.parts s20.2 default).name == [])))))] (fun hk7 => ?_) ?_
                        · refine wpq_split 101 (b := t35) (by kernel_rfl) (fun q38 => ?_) (fun q38 => ?_)
                          · refine xB 8 [] [(1, vp b1 0), (3, vb s20.1), (5, vp b26 0), (34, vs Ap_parts p.parts cp_parts), (35, vi (((p.parts).length : Nat) : Int)), (36, vi ((s20.2 : Nat) : Int)), (109, vb true)] ?_
                            refine wpq_re 109 (v := vb true) (Value.bool ((t35 || ((!(((List.getD p.parts s20.2 default).kind == 1) || ((List.getD p.parts s20.2 default).kind == 3))) && (!((List.getD p.parts s20.2 default).name == [])))))) (by kernel_rfl) (re_or1 q38) ?_
                            exact wpq_sub _ (by kernel_rfl) hk7
                          · refine xB 3 [] [(1, vp b1 0), (3, vb s20.1), (5, vp b26 0), (34, vs Ap_parts p.parts cp_parts), (35, vi (((p.parts).length : Nat) : Int)), (36, vi ((s20.2 : Nat) : Int)), (101, vb false), (104, vb (!(((List.getD p.parts s20.2 default).kind == 1) || ((List.getD p.parts s20.2 default).kind == 3))))] ?_
                            refine wpr_grp 15 [(1, vp b1 0), (3, vb s20.1), (5, vp b26 0), (34, vs Ap_parts p.parts cp_parts), (35, vi (((p.parts).length : Nat) : Int)), (36, vi ((s20.2 : Nat) : Int)), (101, vb false), (108, vb ((!(((List.getD p.parts s20.2 default).kind == 1) || ((List.getD p.parts s20.2 default).kind == 3))) && (!((List.getD p.parts s20.2 default).name == []))))] (fun hk10 => ?_) ?_
                            · refine wpq_split 104 (b := (!(((List.getD p.parts s20.2 default).kind == 1) || ((List.getD p.parts s20.2 default).kind == 3)))) (by kernel_rfl) (fun q39 => ?_) (fun q39 => ?_)
                              · have q39n := not_eq_true_ q39
                                have q39nl := (or_false_ q39n).1
                                have q39nr := (or_false_ q39n).2
                                have q39nlp : ¬ ((List.getD p.parts s20.2 default).kind = 1) := ne_of_beq_false_ q39nl
                                have q39nrp : ¬ ((List.getD p.parts s20.2 default).kind = 3) := ne_of_beq_false_ q39nr
                                refine xB 2 [(12, 0)] [(1, vp b1 0), (3, vb s20.1), (5, vp b26 0), (34, vs Ap_parts p.parts cp_parts), (35, vi (((p.parts).length : Nat) : Int)), (36, vi ((s20.2 : Nat) : Int)), (101, vb false), (104, vb true), (106, vt ((List.getD p.parts s20.2 default).name))] ?_
                                refine xV (qNeS ((List.getD p.parts s20.2 default).name) ([])) ?_
                                refine xB 1 [] [(1, vp b1 0), (3, vb s20.1), (5, vp b26 0), (34, vs Ap_parts p.parts cp_parts), (35, vi (((p.parts).length : Nat) : Int)), (36, vi ((s20.2 : Nat) : Int)), (101, vb false), (108, vb (!((List.getD p.parts s20.2 default).name == [])))] ?_
                                refine wpq_re 108 (v := vb (!((List.getD p.parts s20.2 default).name == []))) (Value.bool (((!(((List.getD p.parts s20.2 default).kind == 1) || ((List.getD p.parts s20.2 default).kind == 3))) && (!((List.getD p.parts s20.2 default).name == []))))) (by kernel_rfl) (re_and1 q39) ?_
                                exact wpq_sub _ (by kernel_rfl) hk10
                              · have q39n := not_eq_false_ q39
                                refine xB 4 [] [(1, vp b1 0), (3, vb s20.1), (5, vp b26 0), (34, vs Ap_parts p.parts cp_parts), (35, vi (((p.parts).length : Nat) : Int)), (36, vi ((s20.2 : Nat) : Int)), (101, vb false), (108, vb false)] ?_
                                refine wpq_re 108 (v := vb false) (Value.bool (((!(((List.getD p.parts s20.2 default).kind == 1) || ((List.getD p.parts s20.2 default).kind == 3))) && (!((List.getD p.parts s20.2 default).name == []))))) (by kernel_rfl) (re_and0 q39) ?_
                                exact wpq_sub _ (by kernel_rfl) hk10
                            · refine xB 1 [] [(1, vp b1 0), (3, vb s20.1), (5, vp b26 0), (34, vs Ap_parts p.parts cp_parts), (35, vi (((p.parts).length : Nat) : Int)), (36, vi ((s20.2 : Nat) : Int)), (109, vb ((!(((List.getD p.parts s20.2 default).kind == 1) || ((List.getD p.parts s20.2 default).kind == 3))) && (!((List.getD p.parts s20.2 default).name == []))))] ?_
                              refine wpq_re 109 (v := vb ((!(((List.getD p.parts s20.2 default).kind == 1) || ((List.getD p.parts s20.2 default).kind == 3))) && (!((List.getD p.parts s20.2 default).name == [])))) (Value.bool ((t35 || ((!(((List.getD p.parts s20.2 default).kind == 1) || ((List.getD p.parts s20.2 default).kind == 3))) && (!((List.getD p.parts s20.2 default).name == [])))))) (by kernel_rfl) (re_or0 q38) ?_
                              exact wpq_sub _ (by kernel_rfl) hk7
                        · refine xRe ?_
                          refine wpq_then ?_
                          refine xCd ((t35 || ((!(((List.getD p.parts s20.2 default).kind == 1) || ((List.getD p.parts s20.2 default).kind == 3))) && (!((List.getD p.parts s20.2 default).name == []))))) (fun h40 => ?_) (fun h40 => ?_)
                          · have hS := cond_T h40 hS
                            refine xSq ?_
                            refine xRg ?_
                            refine xB 1 [] [(2, vi 5)] ?_
                            refine xRe ?_
                            refine wpq_then ?_
                            have eS := (Option.some.inj hS).symm
                            have eS := (hD20 _ eS).symm
                            have eS := (hD12 _ eS).symm
                            subst eS
                            exact xRet [] [2] (e4.trans (e7.trans (e22.trans (e29.trans (e33.trans e37))))) ⟨by kernel_rfl, by kernel_rfl⟩ (fun _ _ h => h)
                          · have hS := cond_F h40 hS
                            have h40l := (or_false_ h40).1
                            have h40r := (or_false_ h40).2
                            refine xSk ?_
                            refine wpq_then ?_
                            refine xSub [(1, vp b1 0), (3, vb s20.1), (5, vp b26 0), (34, vs Ap_parts p.parts cp_parts), (35, vi (((p.parts).length : Nat) : Int)), (36, vi ((s20.2 : Nat) : Int))] ?_
                            refine xSq ?_
                            refine xSq ?_
                            refine xRg ?_
                            refine xB 3 [(1, 1), (2, 0)] [(1, vp b1 0), (3, vb s20.1), (5, vp b26 0), (34, vs Ap_parts p.parts cp_parts), (35, vi (((p.parts).length : Nat) : Int)), (36, vi ((s20.2 : Nat) : Int)), (111, vy p.kind), (112, Value.agg #[vy ((List.getD p.parts s20.2 default).kind), vt ((List.getD p.parts s20.2 default).name), vs A24_legs ((List.getD p.parts s20.2 default).legs) c24_legs])] ?_
                            have f24_legs := f24_legs.mono (e29.trans (e33.trans e37)).r
                            obtain ⟨y41, hy41, hS⟩ := bindO_T hS
                            refine xE (eC 0 (fun g' lr eb ln => C40 g' (p.kind : Int) (List.getD p.parts s20.2 default) A24_legs c24_legs (f24_legs.mono lr) hy41)) ?_
                            rintro _ g42 _ e43 ⟨_, rfl, rfl, rfl⟩
                            refine xB 1 [] [(1, vp b1 0), (3, vb s20.1), (5, vp b26 0), (10, vi y41), (34, vs Ap_parts p.parts cp_parts), (35, vi (((p.parts).length : Nat) : Int)), (36, vi ((s20.2 : Nat) : Int))] ?_
                            refine xRe ?_
                            refine wpq_then ?_
                            refine xSq ?_
                            refine xRg ?_
                            refine xB 2 [] [(1, vp b1 0), (3, vb s20.1), (5, vp b26 0), (10, vi y41), (34, vs Ap_parts p.parts cp_parts), (35, vi (((p.parts).length : Nat) : Int)), (36, vi ((s20.2 : Nat) : Int)), (115, vb (y41 != 0))] ?_
                            refine xRe ?_
                            refine wpq_then ?_
                            refine xCd ((y41 != 0)) (fun h44 => ?_) (fun h44 => ?_)
                            · have hS := cond_T h44 hS
                              have h44p : ¬ (y41 = 0) := ne_of_bne_ h44
                              refine xSq ?_
                              refine xRg ?_
                              refine xB 2 [] [(2, vi y41)] ?_
                              refine xRe ?_
                              refine wpq_then ?_
                              have eS := (Option.some.inj hS).symm
                              have eS := (hD20 _ eS).symm
                              have eS := (hD12 _ eS).symm
                              subst eS
                              exact xRet [] [2] (e4.trans (e7.trans (e22.trans (e29.trans (e33.trans (e37.trans e43)))))) ⟨by kernel_rfl, by kernel_rfl⟩ (fun _ _ h => h)
                            · have hS := cond_F h44 hS
                              have h44p : y41 = 0 := eq_of_bne_false_ h44
                              refine xSk ?_
                              refine wpq_then ?_
                              refine xSub [(1, vp b1 0), (3, vb s20.1), (5, vp b26 0), (34, vs Ap_parts p.parts cp_parts), (35, vi (((p.parts).length : Nat) : Int)), (36, vi ((s20.2 : Nat) : Int))] ?_
                              refine xRg ?_
                              refine xB 2 [] [(1, vp b1 0), (3, vb s20.1), (5, vp b26 0), (34, vs Ap_parts p.parts cp_parts), (35, vi (((p.parts).length : Nat) : Int)), (36, vi ((s20.2 : Nat) : Int)), (118, vb s20.1)] ?_
                              refine wpr_grp 6 [(1, vp b1 0), (3, vb s20.1), (34, vs Ap_parts p.parts cp_parts), (35, vi (((p.parts).length : Nat) : Int)), (36, vi ((s20.2 : Nat) : Int)), (122, vb (s20.1 || ((List.getD p.parts s20.2 default).kind == 2)))] (fun hk1 => ?_) ?_
                              · refine wpq_split 118 (b := s20.1) (by kernel_rfl) (fun q45 => ?_) (fun q45 => ?_)
                                · refine xB 4 [] [(1, vp b1 0), (3, vb s20.1), (34, vs Ap_parts p.parts cp_parts), (35, vi (((p.parts).length : Nat) : Int)), (36, vi ((s20.2 : Nat) : Int)), (122, vb true)] ?_
                                  refine wpq_re 122 (v := vb true) (Value.bool ((s20.1 || ((List.getD p.parts s20.2 default).kind == 2)))) (by kernel_rfl) (re_or1 q45) ?_
                                  exact wpq_sub _ (by kernel_rfl) hk1
                                · refine xB 4 [(3, 0)] [(1, vp b1 0), (3, vb s20.1), (34, vs Ap_parts p.parts cp_parts), (35, vi (((p.parts).length : Nat) : Int)), (36, vi ((s20.2 : Nat) : Int)), (122, vb ((List.getD p.parts s20.2 default).kind == 2))] ?_
                                  refine wpq_re 122 (v := vb ((List.getD p.parts s20.2 default).kind == 2)) (Value.bool ((s20.1 || ((List.getD p.parts s20.2 default).kind == 2)))) (by kernel_rfl) (re_or0 q45) ?_
                                  exact wpq_sub _ (by kernel_rfl) hk1
                              · refine xB 1 [] [(1, vp b1 0), (3, vb (s20.1 || ((List.getD p.parts s20.2 default).kind == 2))), (34, vs Ap_parts p.parts cp_parts), (35, vi (((p.parts).length : Nat) : Int)), (36, vi ((s20.2 : Nat) : Int))] ?_
                                refine xRe ?_
                                refine wpq_blockN ?_
                                refine wpq_then ?_
                                refine xRg ?_
                                obtain ⟨q46, hS⟩ := grd_T hS
                                have q46p := of_decide_eq_true q46
                                refine xV (qAdd .i64 (((s20.2 : Nat) : Int)) (1) (wr64 (by omega))) ?_
                                refine xB 1 [] [(1, vp b1 0), (3, vb (s20.1 || ((List.getD p.parts s20.2 default).kind == 2))), (34, vs Ap_parts p.parts cp_parts), (35, vi (((p.parts).length : Nat) : Int)), (36, vi (((s20.2 : Nat) : Int) + 1))] ?_
                                refine xRe ?_
                                refine wpq_thenN ?_
                                refine xSel [some 1] ?_
                                refine xSub [(1, vp b1 0), (3, vb (s20.1 || ((List.getD p.parts s20.2 default).kind == 2))), (34, vs Ap_parts p.parts cp_parts), (35, vi (((p.parts).length : Nat) : Int)), (36, vi (((s20.2 : Nat) : Int) + 1))] ?_
                                have eS := (Option.some.inj hS).symm
                                exact hN20 _ eS _ _ _ (e29.trans (e33.trans (e37.trans e43))) ⟨by kernel_rfl, by kernel_rfl⟩
                      · intro uu35 hS hN35
                        refine wpq_split 95 (b := (((List.getD p.parts s20.2 default).kind == 1) || ((List.getD p.parts s20.2 default).kind == 3))) (by kernel_rfl) (fun q47 => ?_) (fun q47 => ?_)
                        · have hS := cond_T q47 hS
                          refine xB 2 [(3, 0)] [(1, vp b1 0), (3, vb s20.1), (5, vp b26 0), (9, vb (((List.getD p.parts s20.2 default).kind == 1) || ((List.getD p.parts s20.2 default).kind == 3))), (34, vs Ap_parts p.parts cp_parts), (35, vi (((p.parts).length : Nat) : Int)), (36, vi ((s20.2 : Nat) : Int)), (95, vb true), (97, vt ((List.getD p.parts s20.2 default).name))] ?_
                          obtain ⟨y48, hy48, hS⟩ := bindO_T hS
                          refine xE (eC 0 (fun g' lr eb ln => C38 g' (List.getD p.parts s20.2 default).name (8 : Int) hy48)) ?_
                          rintro _ g49 _ e50 ⟨_, rfl, rfl, rfl⟩
                          refine xB 2 [] [(1, vp b1 0), (3, vb s20.1), (5, vp b26 0), (9, vb (((List.getD p.parts s20.2 default).kind == 1) || ((List.getD p.parts s20.2 default).kind == 3))), (34, vs Ap_parts p.parts cp_parts), (35, vi (((p.parts).length : Nat) : Int)), (36, vi ((s20.2 : Nat) : Int)), (100, vb (!y48))] ?_
                          refine xSub [(1, vp b1 0), (3, vb s20.1), (5, vp b26 0), (9, vb (((List.getD p.parts s20.2 default).kind == 1) || ((List.getD p.parts s20.2 default).kind == 3))), (34, vs Ap_parts p.parts cp_parts), (35, vi (((p.parts).length : Nat) : Int)), (36, vi ((s20.2 : Nat) : Int)), (100, vb (!y48))] ?_
                          exact hN35 _ (Option.some.inj hS).symm _ _ _ e50 ⟨by kernel_rfl, by kernel_rfl⟩
                        · have hS := cond_F q47 hS
                          have q47l := (or_false_ q47).1
                          have q47r := (or_false_ q47).2
                          have q47lp : ¬ ((List.getD p.parts s20.2 default).kind = 1) := ne_of_beq_false_ q47l
                          have q47rp : ¬ ((List.getD p.parts s20.2 default).kind = 3) := ne_of_beq_false_ q47r
                          refine xB 5 [] [(1, vp b1 0), (3, vb s20.1), (5, vp b26 0), (9, vb (((List.getD p.parts s20.2 default).kind == 1) || ((List.getD p.parts s20.2 default).kind == 3))), (34, vs Ap_parts p.parts cp_parts), (35, vi (((p.parts).length : Nat) : Int)), (36, vi ((s20.2 : Nat) : Int)), (100, vb false)] ?_
                          refine xSub [(1, vp b1 0), (3, vb s20.1), (5, vp b26 0), (9, vb (((List.getD p.parts s20.2 default).kind == 1) || ((List.getD p.parts s20.2 default).kind == 3))), (34, vs Ap_parts p.parts cp_parts), (35, vi (((p.parts).length : Nat) : Int)), (36, vi ((s20.2 : Nat) : Int)), (100, vb false)] ?_
                          exact hN35 _ (Option.some.inj hS).symm _ _ _ (Gh.le.refl _) ⟨by kernel_rfl, by kernel_rfl⟩
                  · intro uu31 hS hN31 hD31
                    refine xCd (decide (((s20.2 : Nat) : Int) > 0)) (fun h51 => ?_) (fun h51 => ?_)
                    · have hS := cond_T h51 hS
                      have h51p := of_decide_eq_true h51
                      refine xSq ?_
                      refine xRg ?_
                      refine xB 3 [(1, 1)] [(1, vp b1 0), (3, vb s20.1), (5, vp b26 0), (6, vi y27), (34, vs Ap_parts p.parts cp_parts), (35, vi (((p.parts).length : Nat) : Int)), (36, vi ((s20.2 : Nat) : Int)), (51, vs Ap_parts p.parts cp_parts), (52, vi ((s20.2 : Nat) : Int))] ?_
                      refine xV (qSub .i64 (((s20.2 : Nat) : Int)) (1) (wr64 (by omega))) ?_
                      have fp_parts := fp_parts.mono e29.r
                      obtain ⟨q53, hS⟩ := grd_T hS
                      have q53p := of_decide_eq_true q53
                      have i54 : ((((s20.2 : Nat) : Int) - 1)).toNat < (p.parts).length := by omega
                      obtain ⟨ad52, cs52, hA52, hr52, hc52⟩ := fp_parts.at_ (get_getD (d := default) i54)
                      obtain ⟨A52_legs, c52_legs, rfl, f52_legs⟩ := hr52
                      have nf52_legs := f52_legs.len
                      refine xV (qIx ((((s20.2 : Nat) : Int) - 1)).toNat 3 hA52 (show ((((s20.2 : Nat) : Int) - 1) : Int) = _ from by omega) i54) ?_
                      refine xV (qLdP (Addr.add ad52 (((((s20.2 : Nat) : Int) - 1)).toNat * 3)) 0 hc52) ?_
                      refine xE eB ?_
                      rintro _ _ _ - ⟨b55, rfl, rfl, rfl⟩
                      refine xBo 1 [(7, 0)] [some ⟨b55, 35, [vy ((List.getD p.parts ((((s20.2 : Nat) : Int) - 1)).toNat default).kind), vt ((List.getD p.parts ((((s20.2 : Nat) : Int) - 1)).toNat default).name), vs A52_legs ((List.getD p.parts ((((s20.2 : Nat) : Int) - 1)).toNat default).legs) c52_legs]⟩, some ⟨b26, 35, [vy ((List.getD p.parts s20.2 default).kind), vt ((List.getD p.parts s20.2 default).name), vs A24_legs ((List.getD p.parts s20.2 default).legs) c24_legs]⟩, some ⟨b1, 25, (cProc p Ap_parts cp_parts)⟩] [(1, vp b1 0), (3, vb s20.1), (5, vp b26 0), (6, vi y27), (7, vp b55 0), (34, vs Ap_parts p.parts cp_parts), (35, vi (((p.parts).length : Nat) : Int)), (36, vi ((s20.2 : Nat) : Int))] ?_
                      refine xRe ?_
                      refine wpq_then ?_
                      refine xSq ?_
                      refine xRg ?_
                      refine xB 4 [(1, 2), (3, 0)] [(1, vp b1 0), (3, vb s20.1), (5, vp b26 0), (6, vi y27), (7, vp b55 0), (34, vs Ap_parts p.parts cp_parts), (35, vi (((p.parts).length : Nat) : Int)), (36, vi ((s20.2 : Nat) : Int)), (57, vy p.kind), (59, vy ((List.getD p.parts ((((s20.2 : Nat) : Int) - 1)).toNat default).kind))] ?_
                      obtain ⟨y56, hy56, hS⟩ := letJ_T hS
                      refine xE (eC 0 (fun g' lr eb ln => C39 g' (p.kind : Int) ((List.getD p.parts ((((s20.2 : Nat) : Int) - 1)).toNat default).kind : Int) hy56)) ?_
                      rintro _ g57 _ e58 ⟨_, rfl, rfl, rfl⟩
                      refine xB 1 [] [(1, vp b1 0), (3, vb s20.1), (5, vp b26 0), (6, vi y27), (7, vp b55 0), (8, vi y56), (34, vs Ap_parts p.parts cp_parts), (35, vi (((p.parts).length : Nat) : Int)), (36, vi ((s20.2 : Nat) : Int))] ?_
                      refine xRe ?_
                      refine wpq_then ?_
                      refine xSq ?_
                      refine xSq ?_
                      refine xRg ?_
                      refine xB 4 [] [(1, vp b1 0), (3, vb s20.1), (5, vp b26 0), (6, vi y27), (7, vp b55 0), (8, vi y56), (34, vs Ap_parts p.parts cp_parts), (35, vi (((p.parts).length : Nat) : Int)), (36, vi ((s20.2 : Nat) : Int)), (64, vb (decide (y27 < y56)))] ?_
                      refine wpr_grp 15 [(1, vp b1 0), (3, vb s20.1), (5, vp b26 0), (6, vi y27), (7, vp b55 0), (8, vi y56), (34, vs Ap_parts p.parts cp_parts), (35, vi (((p.parts).length : Nat) : Int)), (36, vi ((s20.2 : Nat) : Int)), (75, vb (decide (y27 < y56) || ((y27 == y56) && (strLt (List.getD p.parts s20.2 default).name (List.getD p.parts ((((s20.2 : Nat) : Int) - 1)).toNat default).name))))] (fun hk3 => ?_) ?_
                      · refine wpq_split 64 (b := decide (y27 < y56)) (by kernel_rfl) (fun q59 => ?_) (fun q59 => ?_)
                        · have q59p := of_decide_eq_true q59
                          refine xB 11 [] [(1, vp b1 0), (3, vb s20.1), (5, vp b26 0), (6, vi y27), (7, vp b55 0), (8, vi y56), (34, vs Ap_parts p.parts cp_parts), (35, vi (((p.parts).length : Nat) : Int)), (36, vi ((s20.2 : Nat) : Int)), (75, vb true)] ?_
                          refine wpq_re 75 (v := vb true) (Value.bool ((decide (y27 < y56) || ((y27 == y56) && (strLt (List.getD p.parts s20.2 default).name (List.getD p.parts ((((s20.2 : Nat) : Int) - 1)).toNat default).name))))) (by kernel_rfl) (re_or1 q59) ?_
                          exact wpq_sub _ (by kernel_rfl) hk3
                        · have q59p := of_decide_eq_false q59
                          refine xB 4 [] [(1, vp b1 0), (3, vb s20.1), (5, vp b26 0), (6, vi y27), (7, vp b55 0), (8, vi y56), (34, vs Ap_parts p.parts cp_parts), (35, vi (((p.parts).length : Nat) : Int)), (36, vi ((s20.2 : Nat) : Int)), (64, vb false), (68, vb (y27 == y56))] ?_
                          refine wpr_grp 14 [(1, vp b1 0), (3, vb s20.1), (5, vp b26 0), (6, vi y27), (7, vp b55 0), (8, vi y56), (34, vs Ap_parts p.parts cp_parts), (35, vi (((p.parts).length : Nat) : Int)), (36, vi ((s20.2 : Nat) : Int)), (64, vb false), (74, vb ((y27 == y56) && (strLt (List.getD p.parts s20.2 default).name (List.getD p.parts ((((s20.2 : Nat) : Int) - 1)).toNat default).name)))] (fun hk7 => ?_) ?_
                          · refine wpq_split 68 (b := (y27 == y56)) (by kernel_rfl) (fun q60 => ?_) (fun q60 => ?_)
                            · have q60p : y27 = y56 := eq_of_beq q60
                              refine xB 6 [(9, 1), (11, 0)] [(1, vp b1 0), (3, vb s20.1), (5, vp b26 0), (6, vi y27), (7, vp b55 0), (8, vi y56), (34, vs Ap_parts p.parts cp_parts), (35, vi (((p.parts).length : Nat) : Int)), (36, vi ((s20.2 : Nat) : Int)), (64, vb false), (74, vb (strLt (List.getD p.parts s20.2 default).name (List.getD p.parts ((((s20.2 : Nat) : Int) - 1)).toNat default).name))] ?_
                              refine wpq_re 74 (v := vb (strLt (List.getD p.parts s20.2 default).name (List.getD p.parts ((((s20.2 : Nat) : Int) - 1)).toNat default).name)) (Value.bool (((y27 == y56) && (strLt (List.getD p.parts s20.2 default).name (List.getD p.parts ((((s20.2 : Nat) : Int) - 1)).toNat default).name)))) (by kernel_rfl) (re_and1 q60) ?_
                              exact wpq_sub _ (by kernel_rfl) hk7
                            · have q60p : ¬ (y27 = y56) := ne_of_beq_false_ q60
                              refine xB 6 [] [(1, vp b1 0), (3, vb s20.1), (5, vp b26 0), (6, vi y27), (7, vp b55 0), (8, vi y56), (34, vs Ap_parts p.parts cp_parts), (35, vi (((p.parts).length : Nat) : Int)), (36, vi ((s20.2 : Nat) : Int)), (64, vb false), (74, vb false)] ?_
                              refine wpq_re 74 (v := vb false) (Value.bool (((y27 == y56) && (strLt (List.getD p.parts s20.2 default).name (List.getD p.parts ((((s20.2 : Nat) : Int) - 1)).toNat default).name)))) (by kernel_rfl) (re_and0 q60) ?_
                              exact wpq_sub _ (by kernel_rfl) hk7
                          · refine xB 1 [] [(1, vp b1 0), (3, vb s20.1), (5, vp b26 0), (6, vi y27), (7, vp b55 0), (8, vi y56), (34, vs Ap_parts p.parts cp_parts), (35, vi (((p.parts).length : Nat) : Int)), (36, vi ((s20.2 : Nat) : Int)), (75, vb ((y27 == y56) && (strLt (List.getD p.parts s20.2 default).name (List.getD p.parts ((((s20.2 : Nat) : Int) - 1)).toNat default).name)))] ?_
                            refine wpq_re 75 (v := vb ((y27 == y56) && (strLt (List.getD p.parts s20.2 default).name (List.getD p.parts ((((s20.2 : Nat) : Int) - 1)).toNat default).name))) (Value.bool ((decide (y27 < y56) || ((y27 == y56) && (strLt (List.getD p.parts s20.2 default).name (List.getD p.parts ((((s20.2 : Nat) : Int) - 1)).toNat default).name))))) (by kernel_rfl) (re_or0 q59) ?_
                            exact wpq_sub _ (by kernel_rfl) hk3
                      · refine xRe ?_
                        refine wpq_then ?_
                        refine xCd ((decide (y27 < y56) || ((y27 == y56) && (strLt (List.getD p.parts s20.2 default).name (List.getD p.parts ((((s20.2 : Nat) : Int) - 1)).toNat default).name)))) (fun h61 => ?_) (fun h61 => ?_)
                        · have hS := cond_T h61 hS
                          refine xSq ?_
                          refine xRg ?_
                          refine xB 1 [] [(2, vi 9)] ?_
                          refine xRe ?_
                          refine wpq_then ?_
                          have eS := (Option.some.inj hS).symm
                          have eS := (hD31 _ eS).symm
                          have eS := (hD20 _ eS).symm
                          have eS := (hD12 _ eS).symm
                          subst eS
                          exact xRet [] [2] (e4.trans (e7.trans (e22.trans (e29.trans e58)))) ⟨by kernel_rfl, by kernel_rfl⟩ (fun _ _ h => h)
                        · have hS := cond_F h61 hS
                          have h61l := (or_false_ h61).1
                          have h61r := (or_false_ h61).2
                          have h61lp := of_decide_eq_false h61l
                          refine xSk ?_
                          refine wpq_then ?_
                          refine xSub [(1, vp b1 0), (3, vb s20.1), (5, vp b26 0), (6, vi y27), (7, vp b55 0), (8, vi y56), (34, vs Ap_parts p.parts cp_parts), (35, vi (((p.parts).length : Nat) : Int)), (36, vi ((s20.2 : Nat) : Int))] ?_
                          refine xSq ?_
                          refine xRg ?_
                          refine xB 4 [] [(1, vp b1 0), (3, vb s20.1), (5, vp b26 0), (7, vp b55 0), (34, vs Ap_parts p.parts cp_parts), (35, vi (((p.parts).length : Nat) : Int)), (36, vi ((s20.2 : Nat) : Int)), (79, vb (y27 == y56))] ?_
                          refine wpr_grp 10 [(1, vp b1 0), (3, vb s20.1), (5, vp b26 0), (34, vs Ap_parts p.parts cp_parts), (35, vi (((p.parts).length : Nat) : Int)), (36, vi ((s20.2 : Nat) : Int)), (85, vb ((y27 == y56) && ((List.getD p.parts s20.2 default).name == (List.getD p.parts ((((s20.2 : Nat) : Int) - 1)).toNat default).name)))] (fun hk3 => ?_) ?_
                          · refine wpq_split 79 (b := (y27 == y56)) (by kernel_rfl) (fun q62 => ?_) (fun q62 => ?_)
                            · have q62p : y27 = y56 := eq_of_beq q62
                              refine xB 4 [(5, 1), (7, 0)] [(1, vp b1 0), (3, vb s20.1), (5, vp b26 0), (34, vs Ap_parts p.parts cp_parts), (35, vi (((p.parts).length : Nat) : Int)), (36, vi ((s20.2 : Nat) : Int)), (79, vb true), (81, vt ((List.getD p.parts s20.2 default).name)), (83, vt ((List.getD p.parts ((((s20.2 : Nat) : Int) - 1)).toNat default).name))] ?_
                              refine xV (qEqS ((List.getD p.parts s20.2 default).name) ((List.getD p.parts ((((s20.2 : Nat) : Int) - 1)).toNat default).name)) ?_
                              refine xB 1 [] [(1, vp b1 0), (3, vb s20.1), (5, vp b26 0), (34, vs Ap_parts p.parts cp_parts), (35, vi (((p.parts).length : Nat) : Int)), (36, vi ((s20.2 : Nat) : Int)), (85, vb ((List.getD p.parts s20.2 default).name == (List.getD p.parts ((((s20.2 : Nat) : Int) - 1)).toNat default).name))] ?_
                              refine wpq_re 85 (v := vb ((List.getD p.parts s20.2 default).name == (List.getD p.parts ((((s20.2 : Nat) : Int) - 1)).toNat default).name)) (Value.bool (((y27 == y56) && ((List.getD p.parts s20.2 default).name == (List.getD p.parts ((((s20.2 : Nat) : Int) - 1)).toNat default).name)))) (by kernel_rfl) (re_and1 q62) ?_
                              exact wpq_sub _ (by kernel_rfl) hk3
                            · have q62p : ¬ (y27 = y56) := ne_of_beq_false_ q62
                              refine xB 6 [] [(1, vp b1 0), (3, vb s20.1), (5, vp b26 0), (34, vs Ap_parts p.parts cp_parts), (35, vi (((p.parts).length : Nat) : Int)), (36, vi ((s20.2 : Nat) : Int)), (85, vb false)] ?_
                              refine wpq_re 85 (v := vb false) (Value.bool (((y27 == y56) && ((List.getD p.parts s20.2 default).name == (List.getD p.parts ((((s20.2 : Nat) : Int) - 1)).toNat default).name)))) (by kernel_rfl) (re_and0 q62) ?_
                              exact wpq_sub _ (by kernel_rfl) hk3
                          · refine xRe ?_
                            refine wpq_then ?_
                            refine xCd (((y27 == y56) && ((List.getD p.parts s20.2 default).name == (List.getD p.parts ((((s20.2 : Nat) : Int) - 1)).toNat default).name))) (fun h63 => ?_) (fun h63 => ?_)
                            · have hS := cond_T h63 hS
                              have h63l := (and_true_ h63).1
                              have h63r := (and_true_ h63).2
                              have h63lp : y27 = y56 := eq_of_beq h63l
                              have h63rp : (List.getD p.parts s20.2 default).name = (List.getD p.parts ((((s20.2 : Nat) : Int) - 1)).toNat default).name := eq_of_beq h63r
                              refine xSq ?_
                              refine xRg ?_
                              refine xB 1 [] [(2, vi 7)] ?_
                              refine xRe ?_
                              refine wpq_then ?_
                              have eS := (Option.some.inj hS).symm
                              have eS := (hD31 _ eS).symm
                              have eS := (hD20 _ eS).symm
                              have eS := (hD12 _ eS).symm
                              subst eS
                              exact xRet [] [2] (e4.trans (e7.trans (e22.trans (e29.trans e58)))) ⟨by kernel_rfl, by kernel_rfl⟩ (fun _ _ h => h)
                            · have hS := cond_F h63 hS
                              refine xSk ?_
                              refine xSel [some 1, some 2] ?_
                              refine xSub [(1, vp b1 0), (3, vb s20.1), (5, vp b26 0), (34, vs Ap_parts p.parts cp_parts), (35, vi (((p.parts).length : Nat) : Int)), (36, vi ((s20.2 : Nat) : Int))] ?_
                              have eS := (Option.some.inj hS).symm
                              exact hN31 _ eS _ _ _ e58 ⟨by kernel_rfl, by kernel_rfl⟩
                    · have hS := cond_F h51 hS
                      have h51p := of_decide_eq_false h51
                      refine xSk ?_
                      refine xSub [(1, vp b1 0), (3, vb s20.1), (5, vp b26 0), (34, vs Ap_parts p.parts cp_parts), (35, vi (((p.parts).length : Nat) : Int)), (36, vi ((s20.2 : Nat) : Int))] ?_
                      have eS := (Option.some.inj hS).symm
                      exact hN31 _ eS _ _ _ (Gh.le.refl _) ⟨by kernel_rfl, by kernel_rfl⟩
              · have hS := cond_F h23 hS
                have h23p := of_decide_eq_false h23
                refine xEx 0 ?_
                refine wpq_thenX ?_
                refine wpq_thenX ?_
                refine wpq_blockE ?_
                refine xSub [(1, vp b1 0), (3, vb s20.1)] ?_
                have eS := (Option.some.inj hS).symm
                have eS := (hD20 _ eS).symm
                exact hN12 _ eS _ _ _ e22 ⟨by kernel_rfl, by kernel_rfl⟩
  · intro uu5 hS hN5
    refine wpq_split 15 (b := (!y2)) (by kernel_rfl) (fun q64 => ?_) (fun q64 => ?_)
    · have hS := cond_T q64 hS
      have q64n := not_eq_true_ q64
      refine xB 5 [] [(1, vp b1 0), (20, vb true)] ?_
      refine xSub [(1, vp b1 0), (20, vb true)] ?_
      exact hN5 _ (Option.some.inj hS).symm _ _ _ (Gh.le.refl _) ⟨by kernel_rfl, by kernel_rfl⟩
    · have hS := cond_F q64 hS
      have q64n := not_eq_false_ q64
      refine xB 2 [(6, 0)] [(1, vp b1 0), (15, vb false), (17, vt p.name)] ?_
      obtain ⟨y65, hy65, hS⟩ := bindO_T hS
      refine xE (eC 0 (fun g' lr eb ln => C38 g' p.name (8 : Int) hy65)) ?_
      rintro _ g66 _ e67 ⟨_, rfl, rfl, rfl⟩
      refine xB 2 [] [(1, vp b1 0), (20, vb (!y65))] ?_
      refine xSub [(1, vp b1 0), (20, vb (!y65))] ?_
      exact hN5 _ (Option.some.inj hS).symm _ _ _ e67 ⟨by kernel_rfl, by kernel_rfl⟩

def o3 (p : Proc) : Option (Bool) :=
  (bindO (τ := Bool) (o12) fun y2 => (bindO (τ := Bool) (cond (y2) (bindO (τ := Int) (o13 p) fun y9 => (bindO (τ := Int) (o14 p) fun y12 => (some (y9 == y12)))) (some (false))) fun t5 => (some ((t5)))))
set_option maxRecDepth 100000 in
theorem C3 (g : Gh) (p : Proc) (Ap_parts : Option Addr) (cp_parts : Nat) (fp_parts : ArrM g.r g.b tyPart Ap_parts cp_parts p.parts) (fG0 : Arr g.r (tyI .u16) (some ⟨0, 0, none⟩) 18 usesL) {r : Bool} (hS : o3 p = some r) :
    Ctr Tryd.prog 3 [Value.agg #[vt p.airport, vt p.name, vy p.kind, vs Ap_parts p.parts cp_parts]] g [] (fun v ψ o => v = vb r ∧ o = []) := by
  unfold o3 at hS
  refine xFn Tryd.f3 (Tryd.f3.body.getD .skip) 11 ?_
  have hlG0 := hlUses
  have nfp_parts := fp_parts.len
  have nfG0 := fG0.len
  refine xSq ?_
  refine xRg ?_
  refine xE eB ?_
  rintro _ _ _ - ⟨b1, rfl, rfl, rfl⟩
  refine xB 1 [] [(1, vp b1 0)] ?_
  refine xRe ?_
  refine wpq_then ?_
  refine xSq ?_
  refine xDr 0 [2, 4] [8] [some ⟨b1, 25, (cProc p Ap_parts cp_parts)⟩] 9 (fun RG => ?_) (fun _ _ _ _ _ h => h)
  obtain ⟨y2, hy2, hS⟩ := bindO_T hS
  refine xO1 (lds := [2, 4]) 0 ?_
  refine xIe (lds := [2, 4]) (Psi.le.refl _) (eC 0 (fun g' lr eb ln => C12 g' (fG0.mono lr) hy2)) ?_
  rintro _ g3 _ e4 ⟨_, rfl, rfl, rfl⟩
  refine kk [some 0] ?_
  refine xT 7 [1] [] [some 0] [(1, vp b1 0), (4, vb y2)] RG e4.r ?_
  refine xGJoA hS 1 [true, true, true, true, true, true, true, true, false] (fun g own sl t5 => own = [some ⟨b1, 25, (cProc p Ap_parts cp_parts)⟩] ∧ sl = [(10, vb t5)]) ?_ ?_
  · rintro g6 _ _ t5 e7 ⟨rfl, rfl⟩ hS
    refine xT 0 [8] [] [some 0] [(2, vb t5)] RG (e4.trans e7).r ?_
    refine xAe (lds := [2, 4]) ?_
    refine wpq_then ?_
    have eS := (Option.some.inj hS).symm
    subst eS
    exact xRet [] [2] (e4.trans e7) ⟨by kernel_rfl, by kernel_rfl⟩ (fun _ _ h => h)
  · intro uu5 hS hN5
    refine wpq_split 4 (b := y2) (by kernel_rfl) (fun q8 => ?_) (fun q8 => ?_)
    · have hS := cond_T q8 hS
      refine xT 5 [2, 4] [(2, 0), (4, 0)] [some 0] [(4, vb true), (5, Value.agg #[vt p.airport, vt p.name, vy p.kind, vs Ap_parts p.parts cp_parts]), (7, Value.agg #[vt p.airport, vt p.name, vy p.kind, vs Ap_parts p.parts cp_parts])] RG e4.r ?_
      have fp_parts := fp_parts.mono e4.r e4.b
      have fG0 := fG0.mono e4.r
      obtain ⟨y9, hy9, hS⟩ := bindO_T hS
      refine xO1 (lds := [2, 4]) 3 ?_
      refine xIe (lds := [2, 4]) e4.r (eC 0 (fun g' lr eb ln => C13 g' p Ap_parts cp_parts (ArrM.lent fp_parts lr eb) (fG0.mono lr) hy9)) ?_
      rintro _ g10 _ e11 ⟨_, rfl, rfl, rfl⟩
      refine kk [some 0] ?_
      have fp_parts := fp_parts.mono e11.r e11.b
      obtain ⟨y12, hy12, hS⟩ := bindO_T hS
      refine xO1 (lds := [2, 4]) 5 ?_
      refine xIe (lds := [2, 4]) (e4.trans e11).r (eC 0 (fun g' lr eb ln => C14 g' p Ap_parts cp_parts ((fp_parts.toArr g10.br).mono lr) hy12)) ?_
      rintro _ g13 _ e14 ⟨_, rfl, rfl, rfl⟩
      refine kk [some 0] ?_
      refine xT 1 [6, 7] [] [some 0] [(10, vb (y9 == y12))] RG (e4.trans (e11.trans e14)).r ?_
      refine xSub [(10, vb (y9 == y12))] ?_
      exact hN5 _ (Option.some.inj hS).symm _ _ _ (e11.trans e14) ⟨by kernel_rfl, by kernel_rfl⟩
    · have hS := cond_F q8 hS
      refine xT 5 [2, 4] [] [some 0] [(4, vb false), (5, undef), (7, undef)] RG e4.r ?_
      refine xO1 (lds := [2, 4]) 3 ?_
      refine xIb (lds := [2, 4]) [] ?_
      refine xO1 (lds := [2, 4]) 5 ?_
      refine xIb (lds := [2, 4]) [] ?_
      refine xT 1 [6, 7] [] [some 0] [(10, vb false)] RG e4.r ?_
      refine xSub [(10, vb false)] ?_
      exact hN5 _ (Option.some.inj hS).symm _ _ _ (Gh.le.refl _) ⟨by kernel_rfl, by kernel_rfl⟩

end Go.Proofs.YthfekfebgghjhaaDoor
