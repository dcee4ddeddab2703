/-
Walks, printed by wip/gen. Conditions: each theorem's own.
-/
import Derived.Test.YthfekfebgghjhaaDoorK10x0
namespace Go.Proofs.YthfekfebgghjhaaDoor
set_option linter.unusedVariables false
set_option linter.unusedSimpArgs false
open Go.RowKit
def o14_L0 (p : Proc) (s20 : Bool × Nat) : Option (Ctl (Bool × Nat) (Ctl (Bool) (Int))) :=
  (cond (decide (((s20.2 : Nat) : Int) < (((p.parts).length : Nat) : Int))) (letJ (τ := Int) (o39 (p.kind : Int) ((List.getD p.parts s20.2 default).kind : Int)) fun y27 => (cond ((y27 == 0)) (some (Ctl.done (Ctl.done ((17 : Int))))) (joinO (τ := Unit) (ρ := Ctl (Bool × Nat) (Ctl (Bool) (Int))) (cond (decide (((s20.2 : Nat) : Int) > 0)) (grd (decide (0 ≤ (((s20.2 : Nat) : Int) - 1) ∧ (((s20.2 : Nat) : Int) - 1) < (((p.parts).length : Nat) : Int))) (letJ (τ := Int) (o39 (p.kind : Int) ((List.getD p.parts ((((s20.2 : Nat) : Int) - 1)).toNat default).kind : Int)) fun y56 => (cond ((decide (y27 < y56) || ((y27 == y56) && (strLt (List.getD p.parts s20.2 default).name (List.getD p.parts ((((s20.2 : Nat) : Int) - 1)).toNat default).name)))) (some (Ctl.done (Ctl.done (Ctl.done ((9 : Int)))))) (cond (((y27 == y56) && ((List.getD p.parts s20.2 default).name == (List.getD p.parts ((((s20.2 : Nat) : Int) - 1)).toNat default).name))) (some (Ctl.done (Ctl.done (Ctl.done ((7 : Int)))))) (some (Ctl.go ())))))) (some (Ctl.go ()))) fun t31 => (bindO (τ := Bool) (cond ((((List.getD p.parts s20.2 default).kind == 1) || ((List.getD p.parts s20.2 default).kind == 3))) (bindO (τ := Bool) (o38 (List.getD p.parts s20.2 default).name (8 : Int)) fun y48 => (some (!y48))) (some (false))) fun t35 => (cond ((t35 || ((!(((List.getD p.parts s20.2 default).kind == 1) || ((List.getD p.parts s20.2 default).kind == 3))) && (!((List.getD p.parts s20.2 default).name == []))))) (some (Ctl.done (Ctl.done ((5 : Int))))) (bindO (τ := Int) (o40 (p.kind : Int) (List.getD p.parts s20.2 default)) fun y41 => (cond ((y41 != 0)) (some (Ctl.done (Ctl.done ((y41 : Int))))) (grd (decide (((s20.2 : Nat) : Int) + 1 ≤ 9223372036854775807)) (some (Ctl.go ((s20.1 || ((List.getD p.parts s20.2 default).kind == 2)), (s20.2 + 1)))))))))))) (some (Ctl.done (Ctl.go (s20.1)))))
def o14 (p : Proc) : Option (Int) :=
  (bindO (τ := Bool) (o38 p.airport (6 : Int)) fun y2 => (bindO (τ := Bool) (cond ((!y2)) (some (true)) (bindO (τ := Bool) (o38 p.name (8 : Int)) fun y65 => (some (!y65)))) fun t5 => (cond (t5) (some ((5 : Int))) (cond ((decide (p.kind < 1) || decide (p.kind > 3))) (some ((17 : Int))) (cond (decide ((((p.parts).length : Nat) : Int) > 12)) (some ((3 : Int))) (joinO (τ := Bool) (ρ := Int) (loopO (σ := Bool × Nat) (ρ := Ctl (Bool) (Int)) fuelN (o14_L0 p) (false, 0)) fun t12 => (cond ((((((p.parts).length : Nat) : Int) == 0) || ((p.kind == 3) && (!t12)))) (some ((6 : Int))) (some ((0 : Int))))))))))
set_option maxRecDepth 100000 in
theorem C14 (g : Gh) (p : Proc) (Ap_parts : Option Addr) (cp_parts : Nat) (fp_parts : Arr g.r tyPart Ap_parts cp_parts p.parts) {r : Int} (hS : o14 p = some r) :
    Ctr Tryd.prog 14 [Value.agg #[vt p.airport, vt p.name, vy p.kind, vs Ap_parts p.parts cp_parts]] g [] (fun v ψ o => v = vi r ∧ o = []) := by
  unfold o14 at hS
  refine xFn Tryd.f14 (Tryd.f14.body.getD .skip) 137 ?_
  have nfp_parts := fp_parts.len
  refine xSq ?_
  refine xRg ?_
  refine xE eB ?_
  rintro _ _ _ - ⟨b1, rfl, rfl, rfl⟩
  refine xB 1 [] [(1, vp b1 0)] ?_
  refine xRe ?_
  refine wpq_then ?_
  refine xSq ?_
  refine xSq ?_
  refine xRg ?_
  refine xB 2 [(1, 0)] [(1, vp b1 0), (12, vt p.airport)] ?_
  obtain ⟨y2, hy2, hS⟩ := bindO_T hS
  refine xE (eC 0 (fun g' lr eb ln => C38 g' p.airport (6 : Int) hy2)) ?_
  rintro _ g3 _ e4 ⟨_, rfl, rfl, rfl⟩
  refine xB 2 [] [(1, vp b1 0), (15, vb (!y2))] ?_
  refine xGJo hS 10 (fun g own sl t5 => own = [some ⟨b1, 25, (cProc p Ap_parts cp_parts)⟩] ∧ sl = [(1, vp b1 0), (20, vb t5)]) ?_ ?_
  · rintro g6 _ _ t5 e7 ⟨rfl, rfl⟩ hS
    refine xRe ?_
    refine wpq_then ?_
    refine xCd (t5) (fun h8 => ?_) (fun h8 => ?_)
    · have hS := cond_T h8 hS
      refine xSq ?_
      refine xRg ?_
      refine xB 1 [] [(2, vi 5)] ?_
      refine xRe ?_
      refine wpq_then ?_
      have eS := (Option.some.inj hS).symm
      subst eS
      exact xRet [] [2] (e4.trans e7) ⟨by kernel_rfl, by kernel_rfl⟩ (fun _ _ h => h)
    · have hS := cond_F h8 hS
      refine xSk ?_
      refine wpq_then ?_
      refine xSub [(1, vp b1 0)] ?_
      refine xSq ?_
      refine xSq ?_
      refine xRg ?_
      refine xB 4 [(1, 0)] [(1, vp b1 0), (24, vb (decide (p.kind < 1)))] ?_
      refine wpr_grp 8 [(1, vp b1 0), (28, vb (decide (p.kind < 1) || decide (p.kind > 3)))] (fun hk3 => ?_) ?_
      · refine wpq_split 24 (b := decide (p.kind < 1)) (by kernel_rfl) (fun q9 => ?_) (fun q9 => ?_)
        · have q9p := of_decide_eq_true q9
          refine xB 4 [] [(1, vp b1 0), (28, vb true)] ?_
          refine wpq_re 28 (v := vb true) (Value.bool ((decide (p.kind < 1) || decide (p.kind > 3)))) (by kernel_rfl) (re_or1 q9) ?_
          exact wpq_sub _ (by kernel_rfl) hk3
        · have q9p := of_decide_eq_false q9
          refine xB 4 [(5, 0)] [(1, vp b1 0), (28, vb (decide (p.kind > 3)))] ?_
          refine wpq_re 28 (v := vb (decide (p.kind > 3))) (Value.bool ((decide (p.kind < 1) || decide (p.kind > 3)))) (by kernel_rfl) (re_or0 q9) ?_
          exact wpq_sub _ (by kernel_rfl) hk3
      · refine xRe ?_
        refine wpq_then ?_
        refine xCd ((decide (p.kind < 1) || decide (p.kind > 3))) (fun h10 => ?_) (fun h10 => ?_)
        · have hS := cond_T h10 hS
          refine xSq ?_
          refine xRg ?_
          refine xB 1 [] [(2, vi 17)] ?_
          refine xRe ?_
          refine wpq_then ?_
          have eS := (Option.some.inj hS).symm
          subst eS
          exact xRet [] [2] (e4.trans e7) ⟨by kernel_rfl, by kernel_rfl⟩ (fun _ _ h => h)
        · have hS := cond_F h10 hS
          have h10l := (or_false_ h10).1
          have h10r := (or_false_ h10).2
          have h10lp := of_decide_eq_false h10l
          have h10rp := of_decide_eq_false h10r
          refine xSk ?_
          refine wpq_then ?_
          refine xSub [(1, vp b1 0)] ?_
          refine xSq ?_
          refine xSq ?_
          refine xRg ?_
          refine xB 4 [(1, 0)] [(1, vp b1 0), (32, vb (decide ((((p.parts).length : Nat) : Int) > 12)))] ?_
          refine xRe ?_
          refine wpq_then ?_
          refine xCd (decide ((((p.parts).length : Nat) : Int) > 12)) (fun h11 => ?_) (fun h11 => ?_)
          · have hS := cond_T h11 hS
            have h11p := of_decide_eq_true h11
            refine xSq ?_
            refine xRg ?_
            refine xB 1 [] [(2, vi 3)] ?_
            refine xRe ?_
            refine wpq_then ?_
            have eS := (Option.some.inj hS).symm
            subst eS
            exact xRet [] [2] (e4.trans e7) ⟨by kernel_rfl, by kernel_rfl⟩ (fun _ _ h => h)
          · have hS := cond_F h11 hS
            have h11p := of_decide_eq_false h11
            refine xSk ?_
            refine wpq_then ?_
            refine xSub [(1, vp b1 0)] ?_
            refine xSq ?_
            refine xRg ?_
            refine xB 1 [] [(1, vp b1 0), (3, vb false)] ?_
            refine xRe ?_
            refine wpq_then ?_
            refine xSq ?_
            refine xSq ?_
            refine xRg ?_
            refine xB 4 [(1, 0)] [(1, vp b1 0), (3, vb false), (34, vs Ap_parts p.parts cp_parts), (35, vi (((p.parts).length : Nat) : Int)), (36, vi 0)] ?_
            refine xRe ?_
            refine wpq_then ?_
            refine xJoinO hS (fun g own sl t12 => own = [some ⟨b1, 25, (cProc p Ap_parts cp_parts)⟩] ∧ sl = [(1, vp b1 0), (3, vb t12)]) ?_ ?_
            · rintro g13 _ _ t12 e14 ⟨rfl, rfl⟩ hS
              refine wpq_then ?_
              refine xSq ?_
              refine xSq ?_
              refine xRg ?_
              refine xB 5 [(1, 0)] [(1, vp b1 0), (3, vb t12), (128, vb ((((p.parts).length : Nat) : Int) == 0))] ?_
              refine wpr_grp 13 [(136, vb (((((p.parts).length : Nat) : Int) == 0) || ((p.kind == 3) && (!t12))))] (fun hk4 => ?_) ?_
              · refine wpq_split 128 (b := ((((p.parts).length : Nat) : Int) == 0)) (by kernel_rfl) (fun q15 => ?_) (fun q15 => ?_)
                · have q15p : (((p.parts).length : Nat) : Int) = 0 := eq_of_beq q15
                  refine xB 8 [] [(136, vb true)] ?_
                  refine wpq_re 136 (v := vb true) (Value.bool ((((((p.parts).length : Nat) : Int) == 0) || ((p.kind == 3) && (!t12))))) (by kernel_rfl) (re_or1 q15) ?_
                  exact wpq_sub _ (by kernel_rfl) hk4
                · have q15p : ¬ ((((p.parts).length : Nat) : Int) = 0) := ne_of_beq_false_ q15
                  refine xB 4 [(6, 0)] [(3, vb t12), (128, vb false), (132, vb (p.kind == 3))] ?_
                  refine wpr_grp 12 [(128, vb false), (135, vb ((p.kind == 3) && (!t12)))] (fun hk8 => ?_) ?_
                  · refine wpq_split 132 (b := (p.kind == 3)) (by kernel_rfl) (fun q16 => ?_) (fun q16 => ?_)
                    · have q16p : p.kind = 3 := eq_of_beq q16
                      refine xB 3 [] [(128, vb false), (135, vb (!t12))] ?_
                      refine wpq_re 135 (v := vb (!t12)) (Value.bool (((p.kind == 3) && (!t12)))) (by kernel_rfl) (re_and1 q16) ?_
                      exact wpq_sub _ (by kernel_rfl) hk8
                    · have q16p : ¬ (p.kind = 3) := ne_of_beq_false_ q16
                      refine xB 3 [] [(128, vb false), (135, vb false)] ?_
                      refine wpq_re 135 (v := vb false) (Value.bool (((p.kind == 3) && (!t12)))) (by kernel_rfl) (re_and0 q16) ?_
                      exact wpq_sub _ (by kernel_rfl) hk8
                  · refine xB 1 [] [(136, vb ((p.kind == 3) && (!t12)))] ?_
                    refine wpq_re 136 (v := vb ((p.kind == 3) && (!t12))) (Value.bool ((((((p.parts).length : Nat) : Int) == 0) || ((p.kind == 3) && (!t12))))) (by kernel_rfl) (re_or0 q15) ?_
                    exact wpq_sub _ (by kernel_rfl) hk4
              · refine xRe ?_
                refine wpq_then ?_
                refine xCd ((((((p.parts).length : Nat) : Int) == 0) || ((p.kind == 3) && (!t12)))) (fun h17 => ?_) (fun h17 => ?_)
                · have hS := cond_T h17 hS
                  refine xSq ?_
                  refine xRg ?_
                  refine xB 1 [] [(2, vi 6)] ?_
                  refine xRe ?_
                  refine wpq_then ?_
                  have eS := (Option.some.inj hS).symm
                  subst eS
                  exact xRet [] [2] (e4.trans (e7.trans e14)) ⟨by kernel_rfl, by kernel_rfl⟩ (fun _ _ h => h)
                · have hS := cond_F h17 hS
                  have h17l := (or_false_ h17).1
                  have h17r := (or_false_ h17).2
                  have h17lp : ¬ ((((p.parts).length : Nat) : Int) = 0) := ne_of_beq_false_ h17l
                  refine xSk ?_
                  refine wpq_then ?_
                  refine xSub [] ?_
                  refine xSq ?_
                  refine xRg ?_
                  refine xB 1 [] [(2, vi 0)] ?_
                  refine xRe ?_
                  refine wpq_then ?_
                  have eS := (Option.some.inj hS).symm
                  subst eS
                  exact xRet [] [2] (e4.trans (e7.trans e14)) ⟨by kernel_rfl, by kernel_rfl⟩ (fun _ _ h => h)
            · intro uu12 hS hN12 hD12
              refine xBl 0 ?_
              refine xSub [(1, vp b1 0), (3, vb false), (34, vs Ap_parts p.parts cp_parts), (35, vi (((p.parts).length : Nat) : Int)), (36, vi 0)] ?_
              refine xLo hS (fun g own sl s20 => own = [some ⟨b1, 25, (cProc p Ap_parts cp_parts)⟩] ∧ sl = [(1, vp b1 0), (3, vb s20.1), (34, vs Ap_parts p.parts cp_parts), (35, vi (((p.parts).length : Nat) : Int)), (36, vi ((s20.2 : Nat) : Int))]) ⟨by kernel_rfl, by kernel_rfl⟩ ?_
              rintro g21 _ _ s20 uu20 e22 ⟨rfl, rfl⟩ hS Qr20 hN20 hD20
              unfold o14_L0 at hS
              refine xSq ?_
              refine xRg ?_
              refine xB 1 [] [(1, vp b1 0), (3, vb s20.1), (34, vs Ap_parts p.parts cp_parts), (35, vi (((p.parts).length : Nat) : Int)), (36, vi ((s20.2 : Nat) : Int)), (37, vb (decide (((s20.2 : Nat) : Int) < (((p.parts).length : Nat) : Int))))] ?_
              refine xRe ?_
              refine wpq_then ?_
              refine xSq ?_
              refine xCd (decide (((s20.2 : Nat) : Int) < (((p.parts).length : Nat) : Int))) (fun h23 => ?_) (fun h23 => ?_)
              · have hS := cond_T h23 hS
                have h23p := of_decide_eq_true h23
                refine xSk ?_
                refine wpq_then ?_
                refine xSub [(1, vp b1 0), (3, vb s20.1), (34, vs Ap_parts p.parts cp_parts), (35, vi (((p.parts).length : Nat) : Int)), (36, vi ((s20.2 : Nat) : Int))] ?_
                refine xSq ?_
                refine xBl 1 ?_
                refine xSq ?_
                refine xRg ?_
                have fp_parts := fp_parts.mono (e4.trans (e7.trans e22)).r
                have i25 : s20.2 < (p.parts).length := by omega
                obtain ⟨ad24, cs24, hA24, hr24, hc24⟩ := fp_parts.at_ (get_getD (d := default) i25)
                obtain ⟨A24_legs, c24_legs, rfl, f24_legs⟩ := hr24
                have nf24_legs := f24_legs.len
                refine xB 1 [] [(1, vp b1 0), (3, vb s20.1), (34, vs Ap_parts p.parts cp_parts), (35, vi (((p.parts).length : Nat) : Int)), (36, vi ((s20.2 : Nat) : Int)), (38, vi ((s20.2 : Nat) : Int))] ?_
                refine xV (qIx s20.2 3 hA24 rfl i25) ?_
                refine xV (qLdP (Addr.add ad24 (s20.2 * 3)) 0 hc24) ?_
                refine xE eB ?_
                rintro _ _ _ - ⟨b26, rfl, rfl, rfl⟩
                refine xBo 2 [(5, 0)] [some ⟨b26, 35, [vy ((List.getD p.parts s20.2 default).kind), vt ((List.getD p.parts s20.2 default).name), vs A24_legs ((List.getD p.parts s20.2 default).legs) c24_legs]⟩, some ⟨b1, 25, (cProc p Ap_parts cp_parts)⟩] [(1, vp b1 0), (3, vb s20.1), (4, vi ((s20.2 : Nat) : Int)), (5, vp b26 0), (34, vs Ap_parts p.parts cp_parts), (35, vi (((p.parts).length : Nat) : Int)), (36, vi ((s20.2 : Nat) : Int))] ?_
                refine xRe ?_
                refine wpq_then ?_
                refine xSq ?_
                refine xRg ?_
                refine xB 4 [(1, 1), (3, 0)] [(1, vp b1 0), (3, vb s20.1), (4, vi ((s20.2 : Nat) : Int)), (5, vp b26 0), (34, vs Ap_parts p.parts cp_parts), (35, vi (((p.parts).length : Nat) : Int)), (36, vi ((s20.2 : Nat) : Int)), (42, vy p.kind), (44, vy ((List.getD p.parts s20.2 default).kind))] ?_
                obtain ⟨y27, hy27, hS⟩ := letJ_T hS
                refine xE (eC 0 (fun g' lr eb ln => C39 g' (p.kind : Int) ((List.getD p.parts s20.2 default).kind : Int) hy27)) ?_
                rintro _ g28 _ e29 ⟨_, rfl, rfl, rfl⟩
                refine xB 1 [] [(1, vp b1 0), (3, vb s20.1), (4, vi ((s20.2 : Nat) : Int)), (5, vp b26 0), (6, vi y27), (34, vs Ap_parts p.parts cp_parts), (35, vi (((p.parts).length : Nat) : Int)), (36, vi ((s20.2 : Nat) : Int))] ?_
                refine xRe ?_
                refine wpq_then ?_
                refine xSq ?_
                refine xSq ?_
                refine xRg ?_
                refine xB 2 [] [(1, vp b1 0), (3, vb s20.1), (4, vi ((s20.2 : Nat) : Int)), (5, vp b26 0), (6, vi y27), (34, vs Ap_parts p.parts cp_parts), (35, vi (((p.parts).length : Nat) : Int)), (36, vi ((s20.2 : Nat) : Int)), (47, vb (y27 == 0))] ?_
                refine xRe ?_
                refine wpq_then ?_
                refine xCd ((y27 == 0)) (fun h30 => ?_) (fun h30 => ?_)
                · have hS := cond_T h30 hS
                  have h30p : y27 = 0 := eq_of_beq h30
                  refine xSq ?_
                  refine xRg ?_
                  refine xB 1 [] [(2, vi 17)] ?_
                  refine xRe ?_
                  refine wpq_then ?_
                  have eS := (Option.some.inj hS).symm
                  have eS := (hD20 _ eS).symm
                  have eS := (hD12 _ eS).symm
                  subst eS
                  exact xRet [] [2] (e4.trans (e7.trans (e22.trans e29))) ⟨by kernel_rfl, by kernel_rfl⟩ (fun _ _ h => h)
                · have hS := cond_F h30 hS
                  have h30p : ¬ (y27 = 0) := ne_of_beq_false_ h30
                  refine xSk ?_
                  refine wpq_then ?_
                  refine xSub [(1, vp b1 0), (3, vb s20.1), (4, vi ((s20.2 : Nat) : Int)), (5, vp b26 0), (6, vi y27), (34, vs Ap_parts p.parts cp_parts), (35, vi (((p.parts).length : Nat) : Int)), (36, vi ((s20.2 : Nat) : Int))] ?_
                  refine xSq ?_
                  refine xSq ?_
                  refine xRg ?_
                  refine xB 2 [] [(1, vp b1 0), (3, vb s20.1), (4, vi ((s20.2 : Nat) : Int)), (5, vp b26 0), (6, vi y27), (34, vs Ap_parts p.parts cp_parts), (35, vi (((p.parts).length : Nat) : Int)), (36, vi ((s20.2 : Nat) : Int)), (49, vb (decide (((s20.2 : Nat) : Int) > 0)))] ?_
                  refine xRe ?_
                  refine wpq_then ?_
                  refine xJoinO hS (fun g own sl t31 => own = [some ⟨b26, 35, [vy ((List.getD p.parts s20.2 default).kind), vt ((List.getD p.parts s20.2 default).name), vs A24_legs ((List.getD p.parts s20.2 default).legs) c24_legs]⟩, some ⟨b1, 25, (cProc p Ap_parts cp_parts)⟩] ∧ sl = [(1, vp b1 0), (3, vb s20.1), (5, vp b26 0), (34, vs Ap_parts p.parts cp_parts), (35, vi (((p.parts).length : Nat) : Int)), (36, vi ((s20.2 : Nat) : Int))]) ?_ ?_
                  · rintro g32 _ _ t31 e33 ⟨rfl, rfl⟩ hS
                    refine wpq_then ?_
                    refine xSq ?_
                    refine xRg ?_
                    refine xB 4 [(1, 0)] [(1, vp b1 0), (3, vb s20.1), (5, vp b26 0), (34, vs Ap_parts p.parts cp_parts), (35, vi (((p.parts).length : Nat) : Int)), (36, vi ((s20.2 : Nat) : Int)), (89, vb ((List.getD p.parts s20.2 default).kind == 1))] ?_
                    refine wpr_grp 8 [(1, vp b1 0), (3, vb s20.1), (5, vp b26 0), (34, vs Ap_parts p.parts cp_parts), (35, vi (((p.parts).length : Nat) : Int)), (36, vi ((s20.2 : Nat) : Int)), (93, vb (((List.getD p.parts s20.2 default).kind == 1) || ((List.getD p.parts s20.2 default).kind == 3)))] (fun hk3 => ?_) ?_
                    · refine wpq_split 89 (b := ((List.getD p.parts s20.2 default).kind == 1)) (by kernel_rfl) (fun q34 => ?_) (fun q34 => ?_)
                      · have q34p : (List.getD p.parts s20.2 default).kind = 1 := eq_of_beq q34
                        refine xB 4 [] [(1, vp b1 0), (3, vb s20.1), (5, vp b26 0), (34, vs Ap_parts p.parts cp_parts), (35, vi (((p.parts).length : Nat) : Int)), (36, vi ((s20.2 : Nat) : Int)), (93, vb true)] ?_
                        refine wpq_re 93 (v := vb true) (Value.bool ((((List.getD p.parts s20.2 default).kind == 1) || ((List.getD p.parts s20.2 default).kind == 3)))) (by kernel_rfl) (re_or1 q34) ?_
                        exact wpq_sub _ (by kernel_rfl) hk3
                      · have q34p : ¬ ((List.getD p.parts s20.2 default).kind = 1) := ne_of_beq_false_ q34
                        refine xB 4 [(5, 0)] [(1, vp b1 0), (3, vb s20.1), (5, vp b26 0), (34, vs Ap_parts p.parts cp_parts), (35, vi (((p.parts).length : Nat) : Int)), (36, vi ((s20.2 : Nat) : Int)), (93, vb ((List.getD p.parts s20.2 default).kind == 3))] ?_
                        refine wpq_re 93 (v := vb ((List.getD p.parts s20.2 default).kind == 3)) (Value.bool ((((List.getD p.parts s20.2 default).kind == 1) || ((List.getD p.parts s20.2 default).kind == 3)))) (by kernel_rfl) (re_or0 q34) ?_
                        exact wpq_sub _ (by kernel_rfl) hk3
                    · refine xB 1 [] [(1, vp b1 0), (3, vb s20.1), (5, vp b26 0), (9, vb (((List.getD p.parts s20.2 default).kind == 1) || ((List.getD p.parts s20.2 default).kind == 3))), (34, vs Ap_parts p.parts cp_parts), (35, vi (((p.parts).length : Nat) : Int)), (36, vi ((s20.2 : Nat) : Int))] ?_
                      refine xRe ?_
                      refine wpq_then ?_
                      refine xSq ?_
                      refine xSq ?_
                      refine xRg ?_
                      refine xB 2 [] [(1, vp b1 0), (3, vb s20.1), (5, vp b26 0), (9, vb (((List.getD p.parts s20.2 default).kind == 1) || ((List.getD p.parts s20.2 default).kind == 3))), (34, vs Ap_parts p.parts cp_parts), (35, vi (((p.parts).length : Nat) : Int)), (36, vi ((s20.2 : Nat) : Int)), (95, vb (((List.getD p.parts s20.2 default).kind == 1) || ((List.getD p.parts s20.2 default).kind == 3)))] ?_
                      refine xGJo hS 7 (fun g own sl t35 => own = [some ⟨b26, 35, [vy ((List.getD p.parts s20.2 default).kind), vt ((List.getD p.parts s20.2 default).name), vs A24_legs ((List.getD p.parts s20.2 default).legs) c24_legs]⟩, some ⟨b1, 25, (cProc p Ap_parts cp_parts)⟩] ∧ sl = [(1, vp b1 0), (3, vb s20.1), (5, vp b26 0), (9, vb (((List.getD p.parts s20.2 default).kind == 1) || ((List.getD p.parts s20.2 default).kind == 3))), (34, vs Ap_parts p.parts cp_parts), (35, vi (((p.parts).length : Nat) : Int)), (36, vi ((s20.2 : Nat) : Int)), (100, vb t35)]) ?_ ?_
                      · rintro g36 _ _ t35 e37 ⟨rfl, rfl⟩ hS
                        refine xB 1 [] [(1, vp b1 0), (3, vb s20.1), (5, vp b26 0), (9, vb (((List.getD p.parts s20.2 default).kind == 1) || ((List.getD p.parts s20.2 default).kind == 3))), (34, vs Ap_parts p.parts cp_parts), (35, vi (((p.parts).length : Nat) : Int)), (36, vi ((s20.2 : Nat) : Int)), (101, vb t35)] ?_
                        refine wpr_grp 16 [(1, vp b1 0), (3, vb s20.1), (5, vp b26 0), (34, vs Ap_parts p.parts cp_parts), (35, vi (((p.parts).length : Nat) : Int)), (36, vi ((s20.2 : Nat) : Int)), (109, vb (t35 || ((!(((List.getD p.parts s20.2 default).kind == 1) || ((List.getD p.parts s20.2 default).kind == 3))) && (!((List.getD p.parts s20.2 default).name == [])))))] (fun hk7 => ?_) ?_
                        · refine wpq_split 101 (b := t35) (by kernel_rfl) (fun q38 => ?_) (fun q38 => ?_)
                          · refine xB 8 [] [(1, vp b1 0), (3, vb s20.1), (5, vp b26 0), (34, vs Ap_parts p.parts cp_parts), (35, vi (((p.parts).length : Nat) : Int)), (36, vi ((s20.2 : Nat) : Int)), (109, vb true)] ?_
                            refine wpq_re 109 (v := vb true) (Value.bool ((t35 || ((!(((List.getD p.parts s20.2 default).kind == 1) || ((List.getD p.parts s20.2 default).kind == 3))) && (!((List.getD p.parts s20.2 default).name == [])))))) (by kernel_rfl) (re_or1 q38) ?_
                            exact wpq_sub _ (by kernel_rfl) hk7
                          · refine xB 3 [] [(1, vp b1 0), (3, vb s20.1), (5, vp b26 0), (34, vs Ap_parts p.parts cp_parts), (35, vi (((p.parts).length : Nat) : Int)), (36, vi ((s20.2 : Nat) : Int)), (101, vb false), (104, vb (!(((List.getD p.parts s20.2 default).kind == 1) || ((List.getD p.parts s20.2 default).kind == 3))))] ?_
                            refine wpr_grp 15 [(1, vp b1 0), (3, vb s20.1), (5, vp b26 0), (34, vs Ap_parts p.parts cp_parts), (35, vi (((p.parts).length : Nat) : Int)), (36, vi ((s20.2 : Nat) : Int)), (101, vb false), (108, vb ((!(((List.getD p.parts s20.2 default).kind == 1) || ((List.getD p.parts s20.2 default).kind == 3))) && (!((List.getD p.parts s20.2 default).name == []))))] (fun hk10 => ?_) ?_
                            · refine wpq_split 104 (b := (!(((List.getD p.parts s20.2 default).kind == 1) || ((List.getD p.parts s20.2 default).kind == 3)))) (by kernel_rfl) (fun q39 => ?_) (fun q39 => ?_)
                              · have q39n := not_eq_true_ q39
                                have q39nl := (or_false_ q39n).1
                                have q39nr := (or_false_ q39n).2
                                have q39nlp : ¬ ((List.getD p.parts s20.2 default).kind = 1) := ne_of_beq_false_ q39nl
                                have q39nrp : ¬ ((List.getD p.parts s20.2 default).kind = 3) := ne_of_beq_false_ q39nr
                                refine xB 2 [(12, 0)] [(1, vp b1 0), (3, vb s20.1), (5, vp b26 0), (34, vs Ap_parts p.parts cp_parts), (35, vi (((p.parts).length : Nat) : Int)), (36, vi ((s20.2 : Nat) : Int)), (101, vb false), (104, vb true), (106, vt ((List.getD p.parts s20.2 default).name))] ?_
                                refine xV (qNeS ((List.getD p.parts s20.2 default).name) ([])) ?_
                                refine xB 1 [] [(1, vp b1 0), (3, vb s20.1), (5, vp b26 0), (34, vs Ap_parts p.parts cp_parts), (35, vi (((p.parts).length : Nat) : Int)), (36, vi ((s20.2 : Nat) : Int)), (101, vb false), (108, vb (!((List.getD p.parts s20.2 default).name == [])))] ?_
                                refine wpq_re 108 (v := vb (!((List.getD p.parts s20.2 default).name == []))) (Value.bool (((!(((List.getD p.parts s20.2 default).kind == 1) || ((List.getD p.parts s20.2 default).kind == 3))) && (!((List.getD p.parts s20.2 default).name == []))))) (by kernel_rfl) (re_and1 q39) ?_
                                exact wpq_sub _ (by kernel_rfl) hk10
                              · have q39n := not_eq_false_ q39
                                refine xB 4 [] [(1, vp b1 0), (3, vb s20.1), (5, vp b26 0), (34, vs Ap_parts p.parts cp_parts), (35, vi (((p.parts).length : Nat) : Int)), (36, vi ((s20.2 : Nat) : Int)), (101, vb false), (108, vb false)] ?_
                                refine wpq_re 108 (v := vb false) (Value.bool (((!(((List.getD p.parts s20.2 default).kind == 1) || ((List.getD p.parts s20.2 default).kind == 3))) && (!((List.getD p.parts s20.2 default).name == []))))) (by kernel_rfl) (re_and0 q39) ?_
                                exact wpq_sub _ (by kernel_rfl) hk10
                            · refine xB 1 [] [(1, vp b1 0), (3, vb s20.1), (5, vp b26 0), (34, vs Ap_parts p.parts cp_parts), (35, vi (((p.parts).length : Nat) : Int)), (36, vi ((s20.2 : Nat) : Int)), (109, vb ((!(((List.getD p.parts s20.2 default).kind == 1) || ((List.getD p.parts s20.2 default).kind == 3))) && (!((List.getD p.parts s20.2 default).name == []))))] ?_
                              refine wpq_re 109 (v := vb ((!(((List.getD p.parts s20.2 default).kind == 1) || ((List.getD p.parts s20.2 default).kind == 3))) && (!((List.getD p.parts s20.2 default).name == [])))) (Value.bool ((t35 || ((!(((List.getD p.parts s20.2 default).kind == 1) || ((List.getD p.parts s20.2 default).kind == 3))) && (!((List.getD p.parts s20.2 default).name == [])))))) (by kernel_rfl) (re_or0 q38) ?_
                              exact wpq_sub _ (by kernel_rfl) hk7
                        · refine xRe ?_
                          refine wpq_then ?_
                          refine xCd ((t35 || ((!(((List.getD p.parts s20.2 default).kind == 1) || ((List.getD p.parts s20.2 default).kind == 3))) && (!((List.getD p.parts s20.2 default).name == []))))) (fun h40 => ?_) (fun h40 => ?_)
                          · have hS := cond_T h40 hS
                            refine xSq ?_
                            refine xRg ?_
                            refine xB 1 [] [(2, vi 5)] ?_
                            refine xRe ?_
                            refine wpq_then ?_
                            have eS := (Option.some.inj hS).symm
                            have eS := (hD20 _ eS).symm
                            have eS := (hD12 _ eS).symm
                            subst eS
                            exact xRet [] [2] (e4.trans (e7.trans (e22.trans (e29.trans (e33.trans e37))))) ⟨by kernel_rfl, by kernel_rfl⟩ (fun _ _ h => h)
                          · have hS := cond_F h40 hS
                            have h40l := (or_false_ h40).1
                            have h40r := (or_false_ h40).2
                            refine xSk ?_
                            refine wpq_then ?_
                            refine xSub [(1, vp b1 0), (3, vb s20.1), (5, vp b26 0), (34, vs Ap_parts p.parts cp_parts), (35, vi (((p.parts).length : Nat) : Int)), (36, vi ((s20.2 : Nat) : Int))] ?_
                            refine xSq ?_
                            refine xSq ?_
                            refine xRg ?_
                            refine xB 3 [(1, 1), (2, 0)] [(1, vp b1 0), (3, vb s20.1), (5, vp b26 0), (34, vs Ap_parts p.parts cp_parts), (35, vi (((p.parts).length : Nat) : Int)), (36, vi ((s20.2 : Nat) : Int)), (111, vy p.kind), (112, Value.agg #[vy ((List.getD p.parts s20.2 default).kind), vt ((List.getD p.parts s20.2 default).name), vs A24_legs ((List.getD p.parts s20.2 default).legs) c24_legs])] ?_
                            have f24_legs := f24_legs.mono (e29.trans (e33.trans e37)).r
                            obtain ⟨y41, hy41, hS⟩ := bindO_T hS
                            refine xE (eC 0 (fun g' lr eb ln => C40 g' (p.kind : Int) (List.getD p.parts s20.2 default) A24_legs c24_legs (f24_legs.mono lr) hy41)) ?_
                            rintro _ g42 _ e43 ⟨_, rfl, rfl, rfl⟩
                            refine xB 1 [] [(1, vp b1 0), (3, vb s20.1), (5, vp b26 0), (10, vi y41), (34, vs Ap_parts p.parts cp_parts), (35, vi (((p.parts).length : Nat) : Int)), (36, vi ((s20.2 : Nat) : Int))] ?_
                            refine xRe ?_
                            refine wpq_then ?_
                            refine xSq ?_
                            refine xRg ?_
                            refine xB 2 [] [(1, vp b1 0), (3, vb s20.1), (5, vp b26 0), (10, vi y41), (34, vs Ap_parts p.parts cp_parts), (35, vi (((p.parts).length : Nat) : Int)), (36, vi ((s20.2 : Nat) : Int)), (115, vb (y41 != 0))] ?_
                            refine xRe ?_
                            refine wpq_then ?_
                            refine xCd ((y41 != 0)) (fun h44 => ?_) (fun h44 => ?_)
                            · have hS := cond_T h44 hS
                              have h44p : ¬ (y41 = 0) := ne_of_bne_ h44
                              refine xSq ?_
                              refine xRg ?_
                              refine xB 2 [] [(2, vi y41)] ?_
                              refine xRe ?_
                              refine wpq_then ?_
                              have eS := (Option.some.inj hS).symm
                              have eS := (hD20 _ eS).symm
                              have eS := (hD12 _ eS).symm
                              subst eS
                              exact xRet [] [2] (e4.trans (e7.trans (e22.trans (e29.trans (e33.trans (e37.trans e43)))))) ⟨by kernel_rfl, by kernel_rfl⟩ (fun _ _ h => h)
                            · have hS := cond_F h44 hS
                              have h44p : y41 = 0 := eq_of_bne_false_ h44
                              refine xSk ?_
                              refine wpq_then ?_
                              refine xSub [(1, vp b1 0), (3, vb s20.1), (5, vp b26 0), (34, vs Ap_parts p.parts cp_parts), (35, vi (((p.parts).length : Nat) : Int)), (36, vi ((s20.2 : Nat) : Int))] ?_
                              refine xRg ?_
                              refine xB 2 [] [(1, vp b1 0), (3, vb s20.1), (5, vp b26 0), (34, vs Ap_parts p.parts cp_parts), (35, vi (((p.parts).length : Nat) : Int)), (36, vi ((s20.2 : Nat) : Int)), (118, vb s20.1)] ?_
                              refine wpr_grp 6 [(1, vp b1 0), (3, vb s20.1), (34, vs Ap_parts p.parts cp_parts), (35, vi (((p.parts).length : Nat) : Int)), (36, vi ((s20.2 : Nat) : Int)), (122, vb (s20.1 || ((List.getD p.parts s20.2 default).kind == 2)))] (fun hk1 => ?_) ?_
                              · refine wpq_split 118 (b := s20.1) (by kernel_rfl) (fun q45 => ?_) (fun q45 => ?_)
                                · refine xB 4 [] [(1, vp b1 0), (3, vb s20.1), (34, vs Ap_parts p.parts cp_parts), (35, vi (((p.parts).length : Nat) : Int)), (36, vi ((s20.2 : Nat) : Int)), (122, vb true)] ?_
                                  refine wpq_re 122 (v := vb true) (Value.bool ((s20.1 || ((List.getD p.parts s20.2 default).kind == 2)))) (by kernel_rfl) (re_or1 q45) ?_
                                  exact wpq_sub _ (by kernel_rfl) hk1
                                · refine xB 4 [(3, 0)] [(1, vp b1 0), (3, vb s20.1), (34, vs Ap_parts p.parts cp_parts), (35, vi (((p.parts).length : Nat) : Int)), (36, vi ((s20.2 : Nat) : Int)), (122, vb ((List.getD p.parts s20.2 default).kind == 2))] ?_
                                  refine wpq_re 122 (v := vb ((List.getD p.parts s20.2 default).kind == 2)) (Value.bool ((s20.1 || ((List.getD p.parts s20.2 default).kind == 2)))) (by kernel_rfl) (re_or0 q45) ?_
                                  exact wpq_sub _ (by kernel_rfl) hk1
                              · refine xB 1 [] [(1, vp b1 0), (3, vb (s20.1 || ((List.getD p.parts s20.2 default).kind == 2))), (34, vs Ap_parts p.parts cp_parts), (35, vi (((p.parts).length : Nat) : Int)), (36, vi ((s20.2 : Nat) : Int))] ?_
                                refine xRe ?_
                                refine wpq_blockN ?_
                                refine wpq_then ?_
                                refine xRg ?_
                                obtain ⟨q46, hS⟩ := grd_T hS
                                have q46p := of_decide_eq_true q46
                                refine xV (qAdd .i64 (((s20.2 : Nat) : Int)) (1) (wr64 (by omega))) ?_
                                refine xB 1 [] [(1, vp b1 0), (3, vb (s20.1 || ((List.getD p.parts s20.2 default).kind == 2))), (34, vs Ap_parts p.parts cp_parts), (35, vi (((p.parts).length : Nat) : Int)), (36, vi (((s20.2 : Nat) : Int) + 1))] ?_
                                refine xRe ?_
                                refine wpq_thenN ?_
                                refine xSel [some 1] ?_
                                refine xSub [(1, vp b1 0), (3, vb (s20.1 || ((List.getD p.parts s20.2 default).kind == 2))), (34, vs Ap_parts p.parts cp_parts), (35, vi (((p.parts).length : Nat) : Int)), (36, vi (((s20.2 : Nat) : Int) + 1))] ?_
                                have eS := (Option.some.inj hS).symm
                                exact hN20 _ eS _ _ _ (e29.trans (e33.trans (e37.trans e43))) ⟨by kernel_rfl, by kernel_rfl⟩
                      · intro uu35 hS hN35
                        refine wpq_split 95 (b := (((List.getD p.parts s20.2 default).kind == 1) || ((List.getD p.parts s20.2 default).kind == 3))) (by kernel_rfl) (fun q47 => ?_) (fun q47 => ?_)
                        · have hS := cond_T q47 hS
                          refine xB 2 [(3, 0)] [(1, vp b1 0), (3, vb s20.1), (5, vp b26 0), (9, vb (((List.getD p.parts s20.2 default).kind == 1) || ((List.getD p.parts s20.2 default).kind == 3))), (34, vs Ap_parts p.parts cp_parts), (35, vi (((p.parts).length : Nat) : Int)), (36, vi ((s20.2 : Nat) : Int)), (95, vb true), (97, vt ((List.getD p.parts s20.2 default).name))] ?_
                          obtain ⟨y48, hy48, hS⟩ := bindO_T hS
                          refine xE (eC 0 (fun g' lr eb ln => C38 g' (List.getD p.parts s20.2 default).name (8 : Int) hy48)) ?_
                          rintro _ g49 _ e50 ⟨_, rfl, rfl, rfl⟩
                          refine xB 2 [] [(1, vp b1 0), (3, vb s20.1), (5, vp b26 0), (9, vb (((List.getD p.parts s20.2 default).kind == 1) || ((List.getD p.parts s20.2 default).kind == 3))), (34, vs Ap_parts p.parts cp_parts), (35, vi (((p.parts).length : Nat) : Int)), (36, vi ((s20.2 : Nat) : Int)), (100, vb (!y48))] ?_
                          refine xSub [(1, vp b1 0), (3, vb s20.1), (5, vp b26 0), (9, vb (((List.getD p.parts s20.2 default).kind == 1) || ((List.getD p.parts s20.2 default).kind == 3))), (34, vs Ap_parts p.parts cp_parts), (35, vi (((p.parts).length : Nat) : Int)), (36, vi ((s20.2 : Nat) : Int)), (100, vb (!y48))] ?_
                          exact hN35 _ (Option.some.inj hS).symm _ _ _ e50 ⟨by kernel_rfl, by kernel_rfl⟩
                        · have hS := cond_F q47 hS
                          have q47l := (or_false_ q47).1
                          have q47r := (or_false_ q47).2
                          have q47lp : ¬ ((List.getD p.parts s20.2 default).kind = 1) := ne_of_beq_false_ q47l
                          have q47rp : ¬ ((List.getD p.parts s20.2 default).kind = 3) := ne_of_beq_false_ q47r
                          refine xB 5 [] [(1, vp b1 0), (3, vb s20.1), (5, vp b26 0), (9, vb (((List.getD p.parts s20.2 default).kind == 1) || ((List.getD p.parts s20.2 default).kind == 3))), (34, vs Ap_parts p.parts cp_parts), (35, vi (((p.parts).length : Nat) : Int)), (36, vi ((s20.2 : Nat) : Int)), (100, vb false)] ?_
                          refine xSub [(1, vp b1 0), (3, vb s20.1), (5, vp b26 0), (9, vb (((List.getD p.parts s20.2 default).kind == 1) || ((List.getD p.parts s20.2 default).kind == 3))), (34, vs Ap_parts p.parts cp_parts), (35, vi (((p.parts).length : Nat) : Int)), (36, vi ((s20.2 : Nat) : Int)), (100, vb false)] ?_
                          exact hN35 _ (Option.some.inj hS).symm _ _ _ (Gh.le.refl _) ⟨by kernel_rfl, by kernel_rfl⟩
                  · intro uu31 hS hN31 hD31
                    refine xCd (decide (((s20.2 : Nat) : Int) > 0)) (fun h51 => ?_) (fun h51 => ?_)
                    · have hS := cond_T h51 hS
                      have h51p := of_decide_eq_true h51
                      refine xSq ?_
                      refine xRg ?_
                      refine xB 3 [(1, 1)] [(1, vp b1 0), (3, vb s20.1), (5, vp b26 0), (6, vi y27), (34, vs Ap_parts p.parts cp_parts), (35, vi (((p.parts).length : Nat) : Int)), (36, vi ((s20.2 : Nat) : Int)), (51, vs Ap_parts p.parts cp_parts), (52, vi ((s20.2 : Nat) : Int))] ?_
                      refine xV (qSub .i64 (((s20.2 : Nat) : Int)) (1) (wr64 (by omega))) ?_
                      have fp_parts := fp_parts.mono e29.r
                      obtain ⟨q53, hS⟩ := grd_T hS
                      have q53p := of_decide_eq_true q53
                      have i54 : ((((s20.2 : Nat) : Int) - 1)).toNat < (p.parts).length := by omega
                      obtain ⟨ad52, cs52, hA52, hr52, hc52⟩ := fp_parts.at_ (get_getD (d := default) i54)
                      obtain ⟨A52_legs, c52_legs, rfl, f52_legs⟩ := hr52
                      have nf52_legs := f52_legs.len
                      refine xV (qIx ((((s20.2 : Nat) : Int) - 1)).toNat 3 hA52 (show ((((s20.2 : Nat) : Int) - 1) : Int) = _ from by omega) i54) ?_
                      refine xV (qLdP (Addr.add ad52 (((((s20.2 : Nat) : Int) - 1)).toNat * 3)) 0 hc52) ?_
                      refine xE eB ?_
                      rintro _ _ _ - ⟨b55, rfl, rfl, rfl⟩
                      refine xBo 1 [(7, 0)] [some ⟨b55, 35, [vy ((List.getD p.parts ((((s20.2 : Nat) : Int) - 1)).toNat default).kind), vt ((List.getD p.parts ((((s20.2 : Nat) : Int) - 1)).toNat default).name), vs A52_legs ((List.getD p.parts ((((s20.2 : Nat) : Int) - 1)).toNat default).legs) c52_legs]⟩, some ⟨b26, 35, [vy ((List.getD p.parts s20.2 default).kind), vt ((List.getD p.parts s20.2 default).name), vs A24_legs ((List.getD p.parts s20.2 default).legs) c24_legs]⟩, some ⟨b1, 25, (cProc p Ap_parts cp_parts)⟩] [(1, vp b1 0), (3, vb s20.1), (5, vp b26 0), (6, vi y27), (7, vp b55 0), (34, vs Ap_parts p.parts cp_parts), (35, vi (((p.parts).length : Nat) : Int)), (36, vi ((s20.2 : Nat) : Int))] ?_
                      refine xRe ?_
                      refine wpq_then ?_
                      refine xSq ?_
                      refine xRg ?_
                      refine xB 4 [(1, 2), (3, 0)] [(1, vp b1 0), (3, vb s20.1), (5, vp b26 0), (6, vi y27), (7, vp b55 0), (34, vs Ap_parts p.parts cp_parts), (35, vi (((p.parts).length : Nat) : Int)), (36, vi ((s20.2 : Nat) : Int)), (57, vy p.kind), (59, vy ((List.getD p.parts ((((s20.2 : Nat) : Int) - 1)).toNat default).kind))] ?_
                      obtain ⟨y56, hy56, hS⟩ := letJ_T hS
                      refine xE (eC 0 (fun g' lr eb ln => C39 g' (p.kind : Int) ((List.getD p.parts ((((s20.2 : Nat) : Int) - 1)).toNat default).kind : Int) hy56)) ?_
                      rintro _ g57 _ e58 ⟨_, rfl, rfl, rfl⟩
                      refine xB 1 [] [(1, vp b1 0), (3, vb s20.1), (5, vp b26 0), (6, vi y27), (7, vp b55 0), (8, vi y56), (34, vs Ap_parts p.parts cp_parts), (35, vi (((p.parts).length : Nat) : Int)), (36, vi ((s20.2 : Nat) : Int))] ?_
                      refine xRe ?_
                      refine wpq_then ?_
                      refine xSq ?_
                      refine xSq ?_
                      refine xRg ?_
                      refine xB 4 [] [(1, vp b1 0), (3, vb s20.1), (5, vp b26 0), (6, vi y27), (7, vp b55 0), (8, vi y56), (34, vs Ap_parts p.parts cp_parts), (35, vi (((p.parts).length : Nat) : Int)), (36, vi ((s20.2 : Nat) : Int)), (64, vb (decide (y27 < y56)))] ?_
                      refine wpr_grp 15 [(1, vp b1 0), (3, vb s20.1), (5, vp b26 0), (6, vi y27), (7, vp b55 0), (8, vi y56), (34, vs Ap_parts p.parts cp_parts), (35, vi (((p.parts).length : Nat) : Int)), (36, vi ((s20.2 : Nat) : Int)), (75, vb (decide (y27 < y56) || ((y27 == y56) && (strLt (List.getD p.parts s20.2 default).name (List.getD p.parts ((((s20.2 : Nat) : Int) - 1)).toNat default).name))))] (fun hk3 => ?_) ?_
                      · refine wpq_split 64 (b := decide (y27 < y56)) (by kernel_rfl) (fun q59 => ?_) (fun q59 => ?_)
                        · have q59p := of_decide_eq_true q59
                          refine xB 11 [] [(1, vp b1 0), (3, vb s20.1), (5, vp b26 0), (6, vi y27), (7, vp b55 0), (8, vi y56), (34, vs Ap_parts p.parts cp_parts), (35, vi (((p.parts).length : Nat) : Int)), (36, vi ((s20.2 : Nat) : Int)), (75, vb true)] ?_
                          refine wpq_re 75 (v := vb true) (Value.bool ((decide (y27 < y56) || ((y27 == y56) && (strLt (List.getD p.parts s20.2 default).name (List.getD p.parts ((((s20.2 : Nat) : Int) - 1)).toNat default).name))))) (by kernel_rfl) (re_or1 q59) ?_
                          exact wpq_sub _ (by kernel_rfl) hk3
                        · have q59p := of_decide_eq_false q59
                          refine xB 4 [] [(1, vp b1 0), (3, vb s20.1), (5, vp b26 0), (6, vi y27), (7, vp b55 0), (8, vi y56), (34, vs Ap_parts p.parts cp_parts), (35, vi (((p.parts).length : Nat) : Int)), (36, vi ((s20.2 : Nat) : Int)), (64, vb false), (68, vb (y27 == y56))] ?_
                          refine wpr_grp 14 [(1, vp b1 0), (3, vb s20.1), (5, vp b26 0), (6, vi y27), (7, vp b55 0), (8, vi y56), (34, vs Ap_parts p.parts cp_parts), (35, vi (((p.parts).length : Nat) : Int)), (36, vi ((s20.2 : Nat) : Int)), (64, vb false), (74, vb ((y27 == y56) && (strLt (List.getD p.parts s20.2 default).name (List.getD p.parts ((((s20.2 : Nat) : Int) - 1)).toNat default).name)))] (fun hk7 => ?_) ?_
                          · refine wpq_split 68 (b := (y27 == y56)) (by kernel_rfl) (fun q60 => ?_) (fun q60 => ?_)
                            · have q60p : y27 = y56 := eq_of_beq q60
                              refine xB 6 [(9, 1), (11, 0)] [(1, vp b1 0), (3, vb s20.1), (5, vp b26 0), (6, vi y27), (7, vp b55 0), (8, vi y56), (34, vs Ap_parts p.parts cp_parts), (35, vi (((p.parts).length : Nat) : Int)), (36, vi ((s20.2 : Nat) : Int)), (64, vb false), (74, vb (strLt (List.getD p.parts s20.2 default).name (List.getD p.parts ((((s20.2 : Nat) : Int) - 1)).toNat default).name))] ?_
                              refine wpq_re 74 (v := vb (strLt (List.getD p.parts s20.2 default).name (List.getD p.parts ((((s20.2 : Nat) : Int) - 1)).toNat default).name)) (Value.bool (((y27 == y56) && (strLt (List.getD p.parts s20.2 default).name (List.getD p.parts ((((s20.2 : Nat) : Int) - 1)).toNat default).name)))) (by kernel_rfl) (re_and1 q60) ?_
                              exact wpq_sub _ (by kernel_rfl) hk7
                            · have q60p : ¬ (y27 = y56) := ne_of_beq_false_ q60
                              refine xB 6 [] [(1, vp b1 0), (3, vb s20.1), (5, vp b26 0), (6, vi y27), (7, vp b55 0), (8, vi y56), (34, vs Ap_parts p.parts cp_parts), (35, vi (((p.parts).length : Nat) : Int)), (36, vi ((s20.2 : Nat) : Int)), (64, vb false), (74, vb false)] ?_
                              refine wpq_re 74 (v := vb false) (Value.bool (((y27 == y56) && (strLt (List.getD p.parts s20.2 default).name (List.getD p.parts ((((s20.2 : Nat) : Int) - 1)).toNat default).name)))) (by kernel_rfl) (re_and0 q60) ?_
                              exact wpq_sub _ (by kernel_rfl) hk7
                          · refine xB 1 [] [(1, vp b1 0), (3, vb s20.1), (5, vp b26 0), (6, vi y27), (7, vp b55 0), (8, vi y56), (34, vs Ap_parts p.parts cp_parts), (35, vi (((p.parts).length : Nat) : Int)), (36, vi ((s20.2 : Nat) : Int)), (75, vb ((y27 == y56) && (strLt (List.getD p.parts s20.2 default).name (List.getD p.parts ((((s20.2 : Nat) : Int) - 1)).toNat default).name)))] ?_
                            refine wpq_re 75 (v := vb ((y27 == y56) && (strLt (List.getD p.parts s20.2 default).name (List.getD p.parts ((((s20.2 : Nat) : Int) - 1)).toNat default).name))) (Value.bool ((decide (y27 < y56) || ((y27 == y56) && (strLt (List.getD p.parts s20.2 default).name (List.getD p.parts ((((s20.2 : Nat) : Int) - 1)).toNat default).name))))) (by kernel_rfl) (re_or0 q59) ?_
                            exact wpq_sub _ (by kernel_rfl) hk3
                      · refine xRe ?_
                        refine wpq_then ?_
                        refine xCd ((decide (y27 < y56) || ((y27 == y56) && (strLt (List.getD p.parts s20.2 default).name (List.getD p.parts ((((s20.2 : Nat) : Int) - 1)).toNat default).name)))) (fun h61 => ?_) (fun h61 => ?_)
                        · have hS := cond_T h61 hS
                          refine xSq ?_
                          refine xRg ?_
                          refine xB 1 [] [(2, vi 9)] ?_
                          refine xRe ?_
                          refine wpq_then ?_
                          have eS := (Option.some.inj hS).symm
                          have eS := (hD31 _ eS).symm
                          have eS := (hD20 _ eS).symm
                          have eS := (hD12 _ eS).symm
                          subst eS
                          exact xRet [] [2] (e4.trans (e7.trans (e22.trans (e29.trans e58)))) ⟨by kernel_rfl, by kernel_rfl⟩ (fun _ _ h => h)
                        · have hS := cond_F h61 hS
                          have h61l := (or_false_ h61).1
                          have h61r := (or_false_ h61).2
                          have h61lp := of_decide_eq_false h61l
                          refine xSk ?_
                          refine wpq_then ?_
                          refine xSub [(1, vp b1 0), (3, vb s20.1), (5, vp b26 0), (6, vi y27), (7, vp b55 0), (8, vi y56), (34, vs Ap_parts p.parts cp_parts), (35, vi (((p.parts).length : Nat) : Int)), (36, vi ((s20.2 : Nat) : Int))] ?_
                          refine xSq ?_
                          refine xRg ?_
                          refine xB 4 [] [(1, vp b1 0), (3, vb s20.1), (5, vp b26 0), (7, vp b55 0), (34, vs Ap_parts p.parts cp_parts), (35, vi (((p.parts).length : Nat) : Int)), (36, vi ((s20.2 : Nat) : Int)), (79, vb (y27 == y56))] ?_
                          refine wpr_grp 10 [(1, vp b1 0), (3, vb s20.1), (5, vp b26 0), (34, vs Ap_parts p.parts cp_parts), (35, vi (((p.parts).length : Nat) : Int)), (36, vi ((s20.2 : Nat) : Int)), (85, vb ((y27 == y56) && ((List.getD p.parts s20.2 default).name == (List.getD p.parts ((((s20.2 : Nat) : Int) - 1)).toNat default).name)))] (fun hk3 => ?_) ?_
                          · refine wpq_split 79 (b := (y27 == y56)) (by kernel_rfl) (fun q62 => ?_) (fun q62 => ?_)
                            · have q62p : y27 = y56 := eq_of_beq q62
                              refine xB 4 [(5, 1), (7, 0)] [(1, vp b1 0), (3, vb s20.1), (5, vp b26 0), (34, vs Ap_parts p.parts cp_parts), (35, vi (((p.parts).length : Nat) : Int)), (36, vi ((s20.2 : Nat) : Int)), (79, vb true), (81, vt ((List.getD p.parts s20.2 default).name)), (83, vt ((List.getD p.parts ((((s20.2 : Nat) : Int) - 1)).toNat default).name))] ?_
                              refine xV (qEqS ((List.getD p.parts s20.2 default).name) ((List.getD p.parts ((((s20.2 : Nat) : Int) - 1)).toNat default).name)) ?_
                              refine xB 1 [] [(1, vp b1 0), (3, vb s20.1), (5, vp b26 0), (34, vs Ap_parts p.parts cp_parts), (35, vi (((p.parts).length : Nat) : Int)), (36, vi ((s20.2 : Nat) : Int)), (85, vb ((List.getD p.parts s20.2 default).name == (List.getD p.parts ((((s20.2 : Nat) : Int) - 1)).toNat default).name))] ?_
                              refine wpq_re 85 (v := vb ((List.getD p.parts s20.2 default).name == (List.getD p.parts ((((s20.2 : Nat) : Int) - 1)).toNat default).name)) (Value.bool (((y27 == y56) && ((List.getD p.parts s20.2 default).name == (List.getD p.parts ((((s20.2 : Nat) : Int) - 1)).toNat default).name)))) (by kernel_rfl) (re_and1 q62) ?_
                              exact wpq_sub _ (by kernel_rfl) hk3
                            · have q62p : ¬ (y27 = y56) := ne_of_beq_false_ q62
                              refine xB 6 [] [(1, vp b1 0), (3, vb s20.1), (5, vp b26 0), (34, vs Ap_parts p.parts cp_parts), (35, vi (((p.parts).length : Nat) : Int)), (36, vi ((s20.2 : Nat) : Int)), (85, vb false)] ?_
                              refine wpq_re 85 (v := vb false) (Value.bool (((y27 == y56) && ((List.getD p.parts s20.2 default).name == (List.getD p.parts ((((s20.2 : Nat) : Int) - 1)).toNat default).name)))) (by kernel_rfl) (re_and0 q62) ?_
                              exact wpq_sub _ (by kernel_rfl) hk3
                          · refine xRe ?_
                            refine wpq_then ?_
                            refine xCd (((y27 == y56) && ((List.getD p.parts s20.2 default).name == (List.getD p.parts ((((s20.2 : Nat) : Int) - 1)).toNat default).name))) (fun h63 => ?_) (fun h63 => ?_)
                            · have hS := cond_T h63 hS
                              have h63l := (and_true_ h63).1
                              have h63r := (and_true_ h63).2
                              have h63lp : y27 = y56 := eq_of_beq h63l
                              have h63rp : (List.getD p.parts s20.2 default).name = (List.getD p.parts ((((s20.2 : Nat) : Int) - 1)).toNat default).name := eq_of_beq h63r
                              refine xSq ?_
                              refine xRg ?_
                              refine xB 1 [] [(2, vi 7)] ?_
                              refine xRe ?_
                              refine wpq_then ?_
                              have eS := (Option.some.inj hS).symm
                              have eS := (hD31 _ eS).symm
                              have eS := (hD20 _ eS).symm
                              have eS := (hD12 _ eS).symm
                              subst eS
                              exact xRet [] [2] (e4.trans (e7.trans (e22.trans (e29.trans e58)))) ⟨by kernel_rfl, by kernel_rfl⟩ (fun _ _ h => h)
                            · have hS := cond_F h63 hS
                              refine xSk ?_
                              refine xSel [some 1, some 2] ?_
                              refine xSub [(1, vp b1 0), (3, vb s20.1), (5, vp b26 0), (34, vs Ap_parts p.parts cp_parts), (35, vi (((p.parts).length : Nat) : Int)), (36, vi ((s20.2 : Nat) : Int))] ?_
                              have eS := (Option.some.inj hS).symm
                              exact hN31 _ eS _ _ _ e58 ⟨by kernel_rfl, by kernel_rfl⟩
                    · have hS := cond_F h51 hS
                      have h51p := of_decide_eq_false h51
                      refine xSk ?_
                      refine xSub [(1, vp b1 0), (3, vb s20.1), (5, vp b26 0), (34, vs Ap_parts p.parts cp_parts), (35, vi (((p.parts).length : Nat) : Int)), (36, vi ((s20.2 : Nat) : Int))] ?_
                      have eS := (Option.some.inj hS).symm
                      exact hN31 _ eS _ _ _ (Gh.le.refl _) ⟨by kernel_rfl, by kernel_rfl⟩
              · have hS := cond_F h23 hS
                have h23p := of_decide_eq_false h23
                refine xEx 0 ?_
                refine wpq_thenX ?_
                refine wpq_thenX ?_
                refine wpq_blockE ?_
                refine xSub [(1, vp b1 0), (3, vb s20.1)] ?_
                have eS := (Option.some.inj hS).symm
                have eS := (hD20 _ eS).symm
                exact hN12 _ eS _ _ _ e22 ⟨by kernel_rfl, by kernel_rfl⟩
  · intro uu5 hS hN5
    refine wpq_split 15 (b := (!y2)) (by kernel_rfl) (fun q64 => ?_) (fun q64 => ?_)
    · have hS := cond_T q64 hS
      have q64n := not_eq_true_ q64
      refine xB 5 [] [(1, vp b1 0), (20, vb true)] ?_
      refine xSub [(1, vp b1 0), (20, vb true)] ?_
      exact hN5 _ (Option.some.inj hS).symm _ _ _ (Gh.le.refl _) ⟨by kernel_rfl, by kernel_rfl⟩
    · have hS := cond_F q64 hS
      have q64n := not_eq_false_ q64
      refine xB 2 [(6, 0)] [(1, vp b1 0), (15, vb false), (17, vt p.name)] ?_
      obtain ⟨y65, hy65, hS⟩ := bindO_T hS
      refine xE (eC 0 (fun g' lr eb ln => C38 g' p.name (8 : Int) hy65)) ?_
      rintro _ g66 _ e67 ⟨_, rfl, rfl, rfl⟩
      refine xB 2 [] [(1, vp b1 0), (20, vb (!y65))] ?_
      refine xSub [(1, vp b1 0), (20, vb (!y65))] ?_
      exact hN5 _ (Option.some.inj hS).symm _ _ _ e67 ⟨by kernel_rfl, by kernel_rfl⟩

def o18_L0 (p : Proc) (k : Int) (name : List UInt8) (s8 : Nat) : Option (Ctl (Nat) (Ctl (Unit) (Part × Bool))) :=
  (cond (decide (((s8 : Nat) : Int) < (((p.parts).length : Nat) : Int))) (cond ((((List.getD p.parts s8 default).kind == k) && ((List.getD p.parts s8 default).name == name))) (some (Ctl.done (Ctl.done (((List.getD p.parts s8 default), (true)))))) (grd (decide (((s8 : Nat) : Int) + 1 ≤ 9223372036854775807)) (some (Ctl.go (s8 + 1))))) (some (Ctl.done (Ctl.go ()))))
def o18 (p : Proc) (k : Int) (name : List UInt8) : Option (Part × Bool) :=
  (joinO (τ := Unit) (ρ := Part × Bool) (loopO (σ := Nat) (ρ := Ctl (Unit) (Part × Bool)) fuelN (o18_L0 p k name) (0)) fun t3 => (some (((⟨0, ([] : List UInt8), ([] : List Leg)⟩ : Part), (false)))))
set_option maxRecDepth 100000 in
theorem C18 (g : Gh) (p : Proc) (Ap_parts : Option Addr) (cp_parts : Nat) (k : Int) (name : List UInt8) (fp_parts : Arr g.b tyPart Ap_parts cp_parts p.parts) {r : Part × Bool} (hS : o18 p k name = some r) :
    Ctr Tryd.prog 18 [Value.agg #[vt p.airport, vt p.name, vy p.kind, vs Ap_parts p.parts cp_parts], vy k, vt name] g [] (fun v ψ o => ∃ (Ar_0_legs : Option Addr) (cr_0_legs : Nat), v = Value.tuple #[Value.agg #[vy r.1.kind, vt r.1.name, vs Ar_0_legs r.1.legs cr_0_legs], vb r.2] ∧ o = [] ∧ Arr ψ tyLeg Ar_0_legs cr_0_legs r.1.legs) := by
  unfold o18 at hS
  refine xFn Tryd.f18 (Tryd.f18.body.getD .skip) 30 ?_
  have nfp_parts := fp_parts.len
  refine xSq ?_
  refine xRg ?_
  refine xE eB ?_
  rintro _ _ _ - ⟨b1, rfl, rfl, rfl⟩
  refine xE eB ?_
  rintro _ _ _ - ⟨b2, rfl, rfl, rfl⟩
  refine xB 1 [] [(1, vy k), (2, vt name), (3, vp b1 0), (6, vp b2 0)] ?_
  refine xRe ?_
  refine wpq_then ?_
  refine xSq ?_
  refine xSq ?_
  refine xRg ?_
  refine xB 4 [(1, 1)] [(1, vy k), (2, vt name), (6, vp b2 0), (11, vs Ap_parts p.parts cp_parts), (12, vi (((p.parts).length : Nat) : Int)), (13, vi 0)] ?_
  refine xRe ?_
  refine wpq_then ?_
  refine xJoinO hS (fun g own sl t3 => own = [some ⟨b2, 35, [vy 0, vt ([]), Value.slice none 0 0]⟩] ∧ sl = [(6, vp b2 0)]) ?_ ?_
  · rintro g4 _ _ t3 e5 ⟨rfl, rfl⟩ hS
    refine wpq_then ?_
    refine xSq ?_
    refine xRg ?_
    refine xBo 3 [(1, 0)] [some ⟨b2, 35, [vy 0, vt ([]), Value.slice none 0 0]⟩] [(6, vp b2 0), (7, vb false)] ?_
    refine xRe ?_
    refine wpq_then ?_
    have eS := (Option.some.inj hS).symm
    subst eS
    exact xRetC [] [(6, 0)] e5 ⟨none, 0, by kernel_rfl, by kernel_rfl, Arr.nil⟩ (fun _ _ h => h)
  · intro uu3 hS hN3 hD3
    refine xBl 0 ?_
    refine xSel [some 0] ?_
    refine xSub [(1, vy k), (2, vt name), (6, vp b2 0), (11, vs Ap_parts p.parts cp_parts), (12, vi (((p.parts).length : Nat) : Int)), (13, vi 0)] ?_
    refine xLo hS (fun g own sl s8 => own = [some ⟨b2, 35, [vy 0, vt ([]), Value.slice none 0 0]⟩] ∧ sl = [(1, vy k), (2, vt name), (6, vp b2 0), (11, vs Ap_parts p.parts cp_parts), (12, vi (((p.parts).length : Nat) : Int)), (13, vi ((s8 : Nat) : Int))]) ⟨by kernel_rfl, by kernel_rfl⟩ ?_
    rintro g9 _ _ s8 uu8 e10 ⟨rfl, rfl⟩ hS Qr8 hN8 hD8
    unfold o18_L0 at hS
    refine xSq ?_
    refine xRg ?_
    refine xB 1 [] [(1, vy k), (2, vt name), (6, vp b2 0), (11, vs Ap_parts p.parts cp_parts), (12, vi (((p.parts).length : Nat) : Int)), (13, vi ((s8 : Nat) : Int)), (14, vb (decide (((s8 : Nat) : Int) < (((p.parts).length : Nat) : Int))))] ?_
    refine xRe ?_
    refine wpq_then ?_
    refine xSq ?_
    refine xCd (decide (((s8 : Nat) : Int) < (((p.parts).length : Nat) : Int))) (fun h11 => ?_) (fun h11 => ?_)
    · have hS := cond_T h11 hS
      have h11p := of_decide_eq_true h11
      refine xSk ?_
      refine wpq_then ?_
      refine xSub [(1, vy k), (2, vt name), (6, vp b2 0), (11, vs Ap_parts p.parts cp_parts), (12, vi (((p.parts).length : Nat) : Int)), (13, vi ((s8 : Nat) : Int))] ?_
      refine xSq ?_
      refine xBl 1 ?_
      refine xSq ?_
      refine xRg ?_
      have fp_parts := fp_parts.mono e10.b
      have i13 : s8 < (p.parts).length := by omega
      obtain ⟨ad12, cs12, hA12, hr12, hc12⟩ := fp_parts.at_ (get_getD (d := default) i13)
      obtain ⟨A12_legs, c12_legs, rfl, f12_legs⟩ := hr12
      have nf12_legs := f12_legs.len
      refine xV (qIx s8 3 hA12 rfl i13) ?_
      refine xV (qLdP (Addr.add ad12 (s8 * 3)) 0 (hc12.mono g9.br)) ?_
      refine xE eB ?_
      rintro _ _ _ - ⟨b14, rfl, rfl, rfl⟩
      refine xBo 1 [(3, 0)] [some ⟨b14, 35, [vy ((List.getD p.parts s8 default).kind), vt ((List.getD p.parts s8 default).name), vs A12_legs ((List.getD p.parts s8 default).legs) c12_legs]⟩, some ⟨b2, 35, [vy 0, vt ([]), Value.slice none 0 0]⟩] [(1, vy k), (2, vt name), (6, vp b2 0), (9, vp b14 0), (11, vs Ap_parts p.parts cp_parts), (12, vi (((p.parts).length : Nat) : Int)), (13, vi ((s8 : Nat) : Int))] ?_
      refine xRe ?_
      refine wpq_then ?_
      refine xSq ?_
      refine xRg ?_
      refine xB 5 [(1, 0)] [(1, vy k), (2, vt name), (6, vp b2 0), (9, vp b14 0), (11, vs Ap_parts p.parts cp_parts), (12, vi (((p.parts).length : Nat) : Int)), (13, vi ((s8 : Nat) : Int)), (21, vb ((List.getD p.parts s8 default).kind == k))] ?_
      refine wpr_grp 10 [(1, vy k), (2, vt name), (6, vp b2 0), (9, vp b14 0), (11, vs Ap_parts p.parts cp_parts), (12, vi (((p.parts).length : Nat) : Int)), (13, vi ((s8 : Nat) : Int)), (26, vb (((List.getD p.parts s8 default).kind == k) && ((List.getD p.parts s8 default).name == name)))] (fun hk4 => ?_) ?_
      · refine wpq_split 21 (b := ((List.getD p.parts s8 default).kind == k)) (by kernel_rfl) (fun q15 => ?_) (fun q15 => ?_)
        · have q15p : (List.getD p.parts s8 default).kind = k := eq_of_beq q15
          refine xB 3 [(6, 0)] [(1, vy k), (2, vt name), (6, vp b2 0), (9, vp b14 0), (11, vs Ap_parts p.parts cp_parts), (12, vi (((p.parts).length : Nat) : Int)), (13, vi ((s8 : Nat) : Int)), (21, vb true), (23, vt ((List.getD p.parts s8 default).name)), (24, vt name)] ?_
          refine xV (qEqS ((List.getD p.parts s8 default).name) (name)) ?_
          refine xB 1 [] [(1, vy k), (2, vt name), (6, vp b2 0), (9, vp b14 0), (11, vs Ap_parts p.parts cp_parts), (12, vi (((p.parts).length : Nat) : Int)), (13, vi ((s8 : Nat) : Int)), (26, vb ((List.getD p.parts s8 default).name == name))] ?_
          refine wpq_re 26 (v := vb ((List.getD p.parts s8 default).name == name)) (Value.bool ((((List.getD p.parts s8 default).kind == k) && ((List.getD p.parts s8 default).name == name)))) (by kernel_rfl) (re_and1 q15) ?_
          exact wpq_sub _ (by kernel_rfl) hk4
        · have q15p : ¬ ((List.getD p.parts s8 default).kind = k) := ne_of_beq_false_ q15
          refine xB 5 [] [(1, vy k), (2, vt name), (6, vp b2 0), (9, vp b14 0), (11, vs Ap_parts p.parts cp_parts), (12, vi (((p.parts).length : Nat) : Int)), (13, vi ((s8 : Nat) : Int)), (26, vb false)] ?_
          refine wpq_re 26 (v := vb false) (Value.bool ((((List.getD p.parts s8 default).kind == k) && ((List.getD p.parts s8 default).name == name)))) (by kernel_rfl) (re_and0 q15) ?_
          exact wpq_sub _ (by kernel_rfl) hk4
      · refine xRe ?_
        refine wpq_then ?_
        refine xCd ((((List.getD p.parts s8 default).kind == k) && ((List.getD p.parts s8 default).name == name))) (fun h16 => ?_) (fun h16 => ?_)
        · have hS := cond_T h16 hS
          have h16l := (and_true_ h16).1
          have h16r := (and_true_ h16).2
          have h16lp : (List.getD p.parts s8 default).kind = k := eq_of_beq h16l
          have h16rp : (List.getD p.parts s8 default).name = name := eq_of_beq h16r
          refine xSq ?_
          refine xRg ?_
          refine xBo 3 [(0, 0), (1, 1)] [some ⟨b14, 35, [vy ((List.getD p.parts s8 default).kind), vt ((List.getD p.parts s8 default).name), vs A12_legs ((List.getD p.parts s8 default).legs) c12_legs]⟩, some ⟨b2, 35, [vy ((List.getD p.parts s8 default).kind), vt ((List.getD p.parts s8 default).name), vs A12_legs ((List.getD p.parts s8 default).legs) c12_legs]⟩] [(6, vp b2 0), (7, vb true)] ?_
          refine xRe ?_
          refine wpq_then ?_
          have eS := (Option.some.inj hS).symm
          have eS := (hD8 _ eS).symm
          have eS := (hD3 _ eS).symm
          subst eS
          exact xRetC [] [(6, 1)] e10 ⟨A12_legs, c12_legs, by kernel_rfl, by kernel_rfl, f12_legs⟩ (fun _ _ h => h)
        · have hS := cond_F h16 hS
          refine xSk ?_
          refine wpq_blockN ?_
          refine wpq_then ?_
          refine xSub [(1, vy k), (2, vt name), (6, vp b2 0), (11, vs Ap_parts p.parts cp_parts), (12, vi (((p.parts).length : Nat) : Int)), (13, vi ((s8 : Nat) : Int))] ?_
          refine xRg ?_
          obtain ⟨q17, hS⟩ := grd_T hS
          have q17p := of_decide_eq_true q17
          refine xV (qAdd .i64 (((s8 : Nat) : Int)) (1) (wr64 (by omega))) ?_
          refine xB 1 [] [(1, vy k), (2, vt name), (6, vp b2 0), (11, vs Ap_parts p.parts cp_parts), (12, vi (((p.parts).length : Nat) : Int)), (13, vi (((s8 : Nat) : Int) + 1))] ?_
          refine xRe ?_
          refine wpq_thenN ?_
          refine xSel [some 1] ?_
          refine xSub [(1, vy k), (2, vt name), (6, vp b2 0), (11, vs Ap_parts p.parts cp_parts), (12, vi (((p.parts).length : Nat) : Int)), (13, vi (((s8 : Nat) : Int) + 1))] ?_
          have eS := (Option.some.inj hS).symm
          exact hN8 _ eS _ _ _ (Gh.le.refl _) ⟨by kernel_rfl, by kernel_rfl⟩
    · have hS := cond_F h11 hS
      have h11p := of_decide_eq_false h11
      refine xEx 0 ?_
      refine wpq_thenX ?_
      refine wpq_thenX ?_
      refine wpq_blockE ?_
      refine xSub [(6, vp b2 0)] ?_
      have eS := (Option.some.inj hS).symm
      have eS := (hD8 _ eS).symm
      exact hN3 _ eS _ _ _ e10 ⟨by kernel_rfl, by kernel_rfl⟩

def o28 (p : Proc) : Option ((List Leg)) :=
  (bindO (τ := Int) (o14 p) fun y2 => (cond ((y2 != 0)) (some (([] : List Leg))) (bindO (τ := Part × Bool) (o18 p (4 : Int) []) fun y6 => (some ((y6.1.legs : List Leg))))))
set_option maxRecDepth 100000 in
theorem C28 (g : Gh) (p : Proc) (Ap_parts : Option Addr) (cp_parts : Nat) (fp_parts : Arr g.b tyPart Ap_parts cp_parts p.parts) {r : (List Leg)} (hS : o28 p = some r) :
    Ctr Tryd.prog 28 [Value.agg #[vt p.airport, vt p.name, vy p.kind, vs Ap_parts p.parts cp_parts]] g [] (fun v ψ o => ∃ (Ar_0 : Option Addr) (cr_0 : Nat), v = vs Ar_0 r cr_0 ∧ o = [] ∧ Arr ψ tyLeg Ar_0 cr_0 r) := by
  unfold o28 at hS
  refine xFn Tryd.f28 (Tryd.f28.body.getD .skip) 15 ?_
  have nfp_parts := fp_parts.len
  refine xSq ?_
  refine xRg ?_
  refine xE eB ?_
  rintro _ _ _ - ⟨b1, rfl, rfl, rfl⟩
  refine xB 1 [] [(1, vp b1 0)] ?_
  refine xRe ?_
  refine wpq_then ?_
  refine xSq ?_
  refine xSq ?_
  refine xRg ?_
  refine xB 1 [(0, 0)] [(1, vp b1 0), (5, Value.agg #[vt p.airport, vt p.name, vy p.kind, vs Ap_parts p.parts cp_parts])] ?_
  obtain ⟨y2, hy2, hS⟩ := bindO_T hS
  refine xE (eC 0 (fun g' lr eb ln => C14 g' p Ap_parts cp_parts ((fp_parts.mono g.br).mono lr) hy2)) ?_
  rintro _ g3 _ e4 ⟨_, rfl, rfl, rfl⟩
  refine xB 1 [] [(1, vp b1 0), (7, vb (y2 != 0))] ?_
  refine xRe ?_
  refine wpq_then ?_
  refine xCd ((y2 != 0)) (fun h5 => ?_) (fun h5 => ?_)
  · have hS := cond_T h5 hS
    have h5p : ¬ (y2 = 0) := ne_of_bne_ h5
    refine xSq ?_
    refine xRg ?_
    refine xB 1 [] [(2, Value.slice none 0 0)] ?_
    refine xRe ?_
    refine wpq_then ?_
    have eS := (Option.some.inj hS).symm
    subst eS
    exact xRet [] [2] e4 ⟨none, 0, by kernel_rfl, by kernel_rfl, Arr.nil⟩ (fun _ _ h => h)
  · have hS := cond_F h5 hS
    have h5p : y2 = 0 := eq_of_bne_false_ h5
    refine xSk ?_
    refine wpq_then ?_
    refine xSub [(1, vp b1 0)] ?_
    refine xSq ?_
    refine xRg ?_
    refine xB 1 [(0, 0)] [(9, Value.agg #[vt p.airport, vt p.name, vy p.kind, vs Ap_parts p.parts cp_parts])] ?_
    have fp_parts := fp_parts.mono e4.b
    obtain ⟨y6, hy6, hS⟩ := bindO_T hS
    refine xE (eC 0 (fun g' lr eb ln => C18 g' p Ap_parts cp_parts (4 : Int) [] (by rw [eb]; exact fp_parts) hy6)) ?_
    rintro _ g7 _ e8 ⟨_, rfl, A6_0_legs, c6_0_legs, rfl, rfl, f6_0_legs⟩
    have nf6_0_legs := f6_0_legs.len
    refine xB 3 [] [(11, Value.agg #[vy y6.1.kind, vt y6.1.name, vs A6_0_legs y6.1.legs c6_0_legs]), (12, vb y6.2)] ?_
    refine xE eB ?_
    rintro _ _ _ - ⟨b9, rfl, rfl, rfl⟩
    refine xBo 2 [(6, 0)] [some ⟨b9, 35, [vy y6.1.kind, vt y6.1.name, vs A6_0_legs y6.1.legs c6_0_legs]⟩, some ⟨b1, 25, (cProc p Ap_parts cp_parts)⟩] [(3, vp b9 0)] ?_
    refine xRe ?_
    refine wpq_then ?_
    refine xSq ?_
    refine xRg ?_
    refine xB 3 [(1, 0)] [(2, vs A6_0_legs y6.1.legs c6_0_legs)] ?_
    refine xRe ?_
    refine wpq_then ?_
    have eS := (Option.some.inj hS).symm
    subst eS
    exact xRet [] [2] (e4.trans e8) ⟨A6_0_legs, c6_0_legs, by kernel_rfl, by kernel_rfl, f6_0_legs⟩ (fun _ _ h => h)

def o10 (p : Proc) : Option (Bool) :=
  (bindO (τ := Bool) (o12) fun y2 => (cond ((!y2)) (some ((false))) (bindO (τ := (List Leg)) (o27 p) fun y6 => (bindO (τ := Int) (o13 p) fun y9 => (cond ((y9 != 0)) (some ((((((y6).length : Nat) : Int) == 0)))) (bindO (τ := Part × Bool) (o17 p (4 : Int) []) fun y13 => (bindO (τ := (List Leg)) (o28 p) fun y17 => (bindO (τ := Bool) (o20 (y6 : List Leg) (y17 : List Leg)) fun y20 => (bindO (τ := Bool) (cond (y20) (bindO (τ := Bool) (o20 (y6 : List Leg) (y13.1.legs : List Leg)) fun y28 => (some (y28))) (some (false))) fun t23 => (some (((t23 && (y13.2 == decide ((((y6).length : Nat) : Int) > 0)))))))))))))))
set_option maxRecDepth 100000 in
theorem C10 (g : Gh) (p : Proc) (Ap_parts : Option Addr) (cp_parts : Nat) (fp_parts : Arr g.b tyPart Ap_parts cp_parts p.parts) (fG0 : Arr g.r (tyI .u16) (some ⟨0, 0, none⟩) 18 usesL) {r : Bool} (hS : o10 p = some r) :
    Ctr Tryd.prog 10 [Value.agg #[vt p.airport, vt p.name, vy p.kind, vs Ap_parts p.parts cp_parts]] g [] (fun v ψ o => v = vb r ∧ o = []) := by
  unfold o10 at hS
  refine xFn Tryd.f10 (Tryd.f10.body.getD .skip) 38 ?_
  have hlG0 := hlUses
  have nfp_parts := fp_parts.len
  have nfG0 := fG0.len
  refine xSq ?_
  refine xRg ?_
  refine xE eB ?_
  rintro _ _ _ - ⟨b1, rfl, rfl, rfl⟩
  refine xB 1 [] [(1, vp b1 0)] ?_
  refine xRe ?_
  refine wpq_then ?_
  refine xSq ?_
  refine xSq ?_
  refine xRg ?_
  obtain ⟨y2, hy2, hS⟩ := bindO_T hS
  refine xE (eC 0 (fun g' lr eb ln => C12 g' (fG0.mono lr) hy2)) ?_
  rintro _ g3 _ e4 ⟨_, rfl, rfl, rfl⟩
  refine xB 1 [] [(1, vp b1 0), (7, vb (!y2))] ?_
  refine xRe ?_
  refine wpq_then ?_
  refine xCd ((!y2)) (fun h5 => ?_) (fun h5 => ?_)
  · have hS := cond_T h5 hS
    have h5n := not_eq_true_ h5
    refine xSq ?_
    refine xRg ?_
    refine xB 1 [] [(2, vb false)] ?_
    refine xRe ?_
    refine wpq_then ?_
    have eS := (Option.some.inj hS).symm
    subst eS
    exact xRet [] [2] e4 ⟨by kernel_rfl, by kernel_rfl⟩ (fun _ _ h => h)
  · have hS := cond_F h5 hS
    have h5n := not_eq_false_ h5
    refine xSk ?_
    refine wpq_then ?_
    refine xSub [(1, vp b1 0)] ?_
    refine xSq ?_
    refine xRg ?_
    refine xB 1 [(0, 0)] [(1, vp b1 0), (8, Value.agg #[vt p.airport, vt p.name, vy p.kind, vs Ap_parts p.parts cp_parts])] ?_
    have fp_parts := fp_parts.mono e4.b
    have fG0 := fG0.mono e4.r
    obtain ⟨y6, hy6, hS⟩ := bindO_T hS
    refine xE (eC 0 (fun g' lr eb ln => C27 g' p Ap_parts cp_parts (ArrM.lent (fp_parts.toM g3.br) lr eb) (fG0.mono lr) hy6)) ?_
    rintro _ g7 _ e8 ⟨_, rfl, A6_0, c6_0, rfl, rfl, f6_0⟩
    have nf6_0 := f6_0.len
    refine xB 1 [] [(1, vp b1 0), (3, vs A6_0 y6 c6_0)] ?_
    refine xRe ?_
    refine wpq_then ?_
    refine xSq ?_
    refine xSq ?_
    refine xRg ?_
    refine xB 1 [(0, 0)] [(1, vp b1 0), (3, vs A6_0 y6 c6_0), (10, Value.agg #[vt p.airport, vt p.name, vy p.kind, vs Ap_parts p.parts cp_parts])] ?_
    have fp_parts := fp_parts.mono e8.b
    have fG0 := fG0.mono e8.r
    obtain ⟨y9, hy9, hS⟩ := bindO_T hS
    refine xE (eC 0 (fun g' lr eb ln => C13 g' p Ap_parts cp_parts (ArrM.lent (fp_parts.toM g7.br) lr eb) (fG0.mono lr) hy9)) ?_
    rintro _ g10 _ e11 ⟨_, rfl, rfl, rfl⟩
    refine xB 1 [] [(1, vp b1 0), (3, vs A6_0 y6 c6_0), (12, vb (y9 != 0))] ?_
    refine xRe ?_
    refine wpq_then ?_
    refine xCd ((y9 != 0)) (fun h12 => ?_) (fun h12 => ?_)
    · have hS := cond_T h12 hS
      have h12p : ¬ (y9 = 0) := ne_of_bne_ h12
      refine xSq ?_
      refine xRg ?_
      refine xB 4 [] [(2, vb ((((y6).length : Nat) : Int) == 0))] ?_
      refine xRe ?_
      refine wpq_then ?_
      have eS := (Option.some.inj hS).symm
      subst eS
      exact xRet [] [2] (e4.trans (e8.trans e11)) ⟨by kernel_rfl, by kernel_rfl⟩ (fun _ _ h => h)
    · have hS := cond_F h12 hS
      have h12p : y9 = 0 := eq_of_bne_false_ h12
      refine xSk ?_
      refine wpq_then ?_
      refine xSub [(1, vp b1 0), (3, vs A6_0 y6 c6_0)] ?_
      refine xSq ?_
      refine xRg ?_
      refine xB 1 [(0, 0)] [(1, vp b1 0), (3, vs A6_0 y6 c6_0), (17, Value.agg #[vt p.airport, vt p.name, vy p.kind, vs Ap_parts p.parts cp_parts])] ?_
      have fp_parts := fp_parts.mono e11.b
      obtain ⟨y13, hy13, hS⟩ := bindO_T hS
      refine xE (eC 0 (fun g' lr eb ln => C17 g' p Ap_parts cp_parts (4 : Int) [] (ArrM.lent (fp_parts.toM g10.br) lr eb) hy13)) ?_
      rintro _ g14 _ e15 ⟨_, rfl, A13_0_legs, c13_0_legs, rfl, rfl, f13_0_legs⟩
      have nf13_0_legs := f13_0_legs.len
      refine xB 3 [] [(1, vp b1 0), (3, vs A6_0 y6 c6_0), (19, Value.agg #[vy y13.1.kind, vt y13.1.name, vs A13_0_legs y13.1.legs c13_0_legs]), (20, vb y13.2)] ?_
      refine xE eB ?_
      rintro _ _ _ - ⟨b16, rfl, rfl, rfl⟩
      refine xBo 2 [(6, 0)] [some ⟨b16, 35, [vy y13.1.kind, vt y13.1.name, vs A13_0_legs y13.1.legs c13_0_legs]⟩, some ⟨b1, 25, (cProc p Ap_parts cp_parts)⟩] [(1, vp b1 0), (3, vs A6_0 y6 c6_0), (4, vp b16 0), (5, vb y13.2)] ?_
      refine xRe ?_
      refine wpq_then ?_
      refine xSq ?_
      refine xRg ?_
      refine xB 2 [(1, 1)] [(3, vs A6_0 y6 c6_0), (4, vp b16 0), (5, vb y13.2), (21, vs A6_0 y6 c6_0), (22, Value.agg #[vt p.airport, vt p.name, vy p.kind, vs Ap_parts p.parts cp_parts])] ?_
      have fp_parts := fp_parts.mono e15.b
      obtain ⟨y17, hy17, hS⟩ := bindO_T hS
      refine xE (eC 0 (fun g' lr eb ln => C28 g' p Ap_parts cp_parts (by rw [eb]; exact fp_parts) hy17)) ?_
      rintro _ g18 _ e19 ⟨_, rfl, A17_0, c17_0, rfl, rfl, f17_0⟩
      have nf17_0 := f17_0.len
      have f6_0 := f6_0.mono (e11.trans (e15.trans e19)).b
      obtain ⟨y20, hy20, hS⟩ := bindO_T hS
      refine xE (eC 0 (fun g' lr eb ln => C20 g' (y6 : List Leg) A6_0 c6_0 (y17 : List Leg) A17_0 c17_0 ((f6_0.mono g18.br).mono lr) ((f17_0.mono g18.br).mono lr) hy20)) ?_
      rintro _ g21 _ e22 ⟨_, rfl, rfl, rfl⟩
      refine xB 1 [] [(3, vs A6_0 y6 c6_0), (4, vp b16 0), (5, vb y13.2), (25, vb y20)] ?_
      refine xGJo hS 10 (fun g own sl t23 => own = [] ∧ sl = [(3, vs A6_0 y6 c6_0), (5, vb y13.2), (30, vb t23)]) ?_ ?_
      · rintro g24 _ _ t23 e25 ⟨rfl, rfl⟩ hS
        refine xB 1 [] [(3, vs A6_0 y6 c6_0), (5, vb y13.2), (31, vb t23)] ?_
        refine wpr_grp 17 [(37, vb (t23 && (y13.2 == decide ((((y6).length : Nat) : Int) > 0))))] (fun hk10 => ?_) ?_
        · refine wpq_split 31 (b := t23) (by kernel_rfl) (fun q26 => ?_) (fun q26 => ?_)
          · refine xB 6 [] [(37, vb (y13.2 == decide ((((y6).length : Nat) : Int) > 0)))] ?_
            refine wpq_re 37 (v := vb (y13.2 == decide ((((y6).length : Nat) : Int) > 0))) (Value.bool ((t23 && (y13.2 == decide ((((y6).length : Nat) : Int) > 0))))) (by kernel_rfl) (re_and1 q26) ?_
            exact wpq_sub _ (by kernel_rfl) hk10
          · refine xB 6 [] [(37, vb false)] ?_
            refine wpq_re 37 (v := vb false) (Value.bool ((t23 && (y13.2 == decide ((((y6).length : Nat) : Int) > 0))))) (by kernel_rfl) (re_and0 q26) ?_
            exact wpq_sub _ (by kernel_rfl) hk10
        · refine xB 1 [] [(2, vb (t23 && (y13.2 == decide ((((y6).length : Nat) : Int) > 0))))] ?_
          refine xRe ?_
          refine wpq_then ?_
          have eS := (Option.some.inj hS).symm
          subst eS
          exact xRet [] [2] (e4.trans (e8.trans (e11.trans (e15.trans (e19.trans (e22.trans e25)))))) ⟨by kernel_rfl, by kernel_rfl⟩ (fun _ _ h => h)
      · intro uu23 hS hN23
        refine wpq_split 25 (b := y20) (by kernel_rfl) (fun q27 => ?_) (fun q27 => ?_)
        · have hS := cond_T q27 hS
          refine xB 3 [(7, 0)] [(3, vs A6_0 y6 c6_0), (5, vb y13.2), (25, vb true), (26, vs A6_0 y6 c6_0), (28, vs A13_0_legs y13.1.legs c13_0_legs)] ?_
          have f6_0 := f6_0.mono e22.b
          have f13_0_legs := f13_0_legs.mono (e19.trans e22).b
          obtain ⟨y28, hy28, hS⟩ := bindO_T hS
          refine xE (eC 0 (fun g' lr eb ln => C20 g' (y6 : List Leg) A6_0 c6_0 (y13.1.legs : List Leg) A13_0_legs c13_0_legs ((f6_0.mono g21.br).mono lr) ((f13_0_legs.mono g21.br).mono lr) hy28)) ?_
          rintro _ g29 _ e30 ⟨_, rfl, rfl, rfl⟩
          refine xB 1 [] [(3, vs A6_0 y6 c6_0), (5, vb y13.2), (30, vb y28)] ?_
          refine xSel [] ?_
          refine xSub [(3, vs A6_0 y6 c6_0), (5, vb y13.2), (30, vb y28)] ?_
          exact hN23 _ (Option.some.inj hS).symm _ _ _ e30 ⟨by kernel_rfl, by kernel_rfl⟩
        · have hS := cond_F q27 hS
          refine xB 5 [] [(3, vs A6_0 y6 c6_0), (5, vb y13.2), (30, vb false)] ?_
          refine xSel [] ?_
          refine xSub [(3, vs A6_0 y6 c6_0), (5, vb y13.2), (30, vb false)] ?_
          exact hN23 _ (Option.some.inj hS).symm _ _ _ (Gh.le.refl _) ⟨by kernel_rfl, by kernel_rfl⟩

end Go.Proofs.YthfekfebgghjhaaDoor
