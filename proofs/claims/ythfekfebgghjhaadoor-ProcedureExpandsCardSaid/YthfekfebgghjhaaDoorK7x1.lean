/-
Walks, printed by wip/gen. Conditions: each theorem's own.
-/
import Derived.Test.YthfekfebgghjhaaDoorK7x0
namespace Go.Proofs.YthfekfebgghjhaaDoor
set_option linter.unusedVariables false
set_option linter.unusedSimpArgs false
open Go.RowKit
def o14_L0 (p : Proc) (s20 : Bool × Nat) : Option (Ctl (Bool × Nat) (Ctl (Bool) (Int))) :=
  (cond (decide (((s20.2 : Nat) : Int) < (((p.parts).length : Nat) : Int))) (letJ (τ := Int) (o39 (p.kind : Int) ((List.getD p.parts s20.2 default).kind : Int)) fun y27 => (cond ((y27 == 0)) (some (Ctl.done (Ctl.done ((17 : Int))))) (joinO (τ := Unit) (ρ := Ctl (Bool × Nat) (Ctl (Bool) (Int))) (cond (decide (((s20.2 : Nat) : Int) > 0)) (grd (decide (0 ≤ (((s20.2 : Nat) : Int) - 1) ∧ (((s20.2 : Nat) : Int) - 1) < (((p.parts).length : Nat) : Int))) (letJ (τ := Int) (o39 (p.kind : Int) ((List.getD p.parts ((((s20.2 : Nat) : Int) - 1)).toNat default).kind : Int)) fun y56 => (cond ((decide (y27 < y56) || ((y27 == y56) && (strLt (List.getD p.parts s20.2 default).name (List.getD p.parts ((((s20.2 : Nat) : Int) - 1)).toNat default).name)))) (some (Ctl.done (Ctl.done (Ctl.done ((9 : Int)))))) (cond (((y27 == y56) && ((List.getD p.parts s20.2 default).name == (List.getD p.parts ((((s20.2 : Nat) : Int) - 1)).toNat default).name))) (some (Ctl.done (Ctl.done (Ctl.done ((7 : Int)))))) (some (Ctl.go ())))))) (some (Ctl.go ()))) fun t31 => (bindO (τ := Bool) (cond ((((List.getD p.parts s20.2 default).kind == 1) || ((List.getD p.parts s20.2 default).kind == 3))) (bindO (τ := Bool) (o38 (List.getD p.parts s20.2 default).name (8 : Int)) fun y48 => (some (!y48))) (some (false))) fun t35 => (cond ((t35 || ((!(((List.getD p.parts s20.2 default).kind == 1) || ((List.getD p.parts s20.2 default).kind == 3))) && (!((List.getD p.parts s20.2 default).name == []))))) (some (Ctl.done (Ctl.done ((5 : Int))))) (bindO (τ := Int) (o40 (p.kind : Int) (List.getD p.parts s20.2 default)) fun y41 => (cond ((y41 != 0)) (some (Ctl.done (Ctl.done ((y41 : Int))))) (grd (decide (((s20.2 : Nat) : Int) + 1 ≤ 9223372036854775807)) (some (Ctl.go ((s20.1 || ((List.getD p.parts s20.2 default).kind == 2)), (s20.2 + 1)))))))))))) (some (Ctl.done (Ctl.go (s20.1)))))
def o14 (p : Proc) : Option (Int) :=
  (bindO (τ := Bool) (o38 p.airport (6 : Int)) fun y2 => (bindO (τ := Bool) (cond ((!y2)) (some (true)) (bindO (τ := Bool) (o38 p.name (8 : Int)) fun y65 => (some (!y65)))) fun t5 => (cond (t5) (some ((5 : Int))) (cond ((decide (p.kind < 1) || decide (p.kind > 3))) (some ((17 : Int))) (cond (decide ((((p.parts).length : Nat) : Int) > 12)) (some ((3 : Int))) (joinO (τ := Bool) (ρ := Int) (loopO (σ := Bool × Nat) (ρ := Ctl (Bool) (Int)) fuelN (o14_L0 p) (false, 0)) fun t12 => (cond ((((((p.parts).length : Nat) : Int) == 0) || ((p.kind == 3) && (!t12)))) (some ((6 : Int))) (some ((0 : Int))))))))))
set_option maxRecDepth 100000 in
theorem C14 (g : Gh) (p : Proc) (Ap_parts : Option Addr) (cp_parts : Nat) (fp_parts : Arr g.r tyPart Ap_parts cp_parts p.parts) {r : Int} (hS : o14 p = some r) :
    Ctr Tryd.prog 14 [Value.agg #[vt p.airport, vt p.name, vy p.kind, vs Ap_parts p.parts cp_parts]] g [] (fun v ψ o => v = vi r ∧ o = []) := by
  unfold o14 at hS
  refine xFn Tryd.f14 (Tryd.f14.body.getD .skip) 137 ?_
  have nfp_parts := fp_parts.len
  refine xSq ?_
  refine xRg ?_
  refine xE eB ?_
  rintro _ _ _ - ⟨b1, rfl, rfl, rfl⟩
  refine xB 1 [] [(1, vp b1 0)] ?_
  refine xRe ?_
  refine wpq_then ?_
  refine xSq ?_
  refine xSq ?_
  refine xRg ?_
  refine xB 2 [(1, 0)] [(1, vp b1 0), (12, vt p.airport)] ?_
  obtain ⟨y2, hy2, hS⟩ := bindO_T hS
  refine xE (eC 0 (fun g' lr eb ln => C38 g' p.airport (6 : Int) hy2)) ?_
  rintro _ g3 _ e4 ⟨_, rfl, rfl, rfl⟩
  refine xB 2 [] [(1, vp b1 0), (15, vb (!y2))] ?_
  refine xGJo hS 10 (fun g own sl t5 => own = [some ⟨b1, 25, (cProc p Ap_parts cp_parts)⟩] ∧ sl = [(1, vp b1 0), (20, vb t5)]) ?_ ?_
  · rintro g6 _ _ t5 e7 ⟨rfl, rfl⟩ hS
    refine xRe ?_
    refine wpq_then ?_
    refine xCd (t5) (fun h8 => ?_) (fun h8 => ?_)
    · have hS := cond_T h8 hS
      refine xSq ?_
      refine xRg ?_
      refine xB 1 [] [(2, vi 5)] ?_
      refine xRe ?_
      refine wpq_then ?_
      have eS := (Option.some.inj hS).symm
      subst eS
      exact xRet [] [2] (e4.trans e7) ⟨by kernel_rfl, by kernel_rfl⟩ (fun _ _ h => h)
    · have hS := cond_F h8 hS
      refine xSk ?_
      refine wpq_then ?_
      refine xSub [(1, vp b1 0)] ?_
      refine xSq ?_
      refine xSq ?_
      refine xRg ?_
      refine xB 4 [(1, 0)] [(1, vp b1 0), (24, vb (decide (p.kind < 1)))] ?_
      refine wpr_grp 8 [(1, vp b1 0), (28, vb (decide (p.kind < 1) || decide (p.kind > 3)))] (fun hk3 => ?_) ?_
      · refine wpq_split 24 (b := decide (p.kind < 1)) (by kernel_rfl) (fun q9 => ?_) (fun q9 => ?_)
        · have q9p := of_decide_eq_true q9
          refine xB 4 [] [(1, vp b1 0), (28, vb true)] ?_
          refine wpq_re 28 (v := vb true) (Value.bool ((decide (p.kind < 1) || decide (p.kind > 3)))) (by kernel_rfl) (re_or1 q9) ?_
          exact wpq_sub _ (by kernel_rfl) hk3
        · have q9p := of_decide_eq_false q9
          refine xB 4 [(5, 0)] [(1, vp b1 0), (28, vb (decide (p.kind > 3)))] ?_
          refine wpq_re 28 (v := vb (decide (p.kind > 3))) (Value.bool ((decide (p.kind < 1) || decide (p.kind > 3)))) (by kernel_rfl) (re_or0 q9) ?_
          exact wpq_sub _ (by kernel_rfl) hk3
      · refine xRe ?_
        refine wpq_then ?_
        refine xCd ((decide (p.kind < 1) || decide (p.kind > 3))) (fun h10 => ?_) (fun h10 => ?_)
        · have hS := cond_T h10 hS
          refine xSq ?_
          refine xRg ?_
          refine xB 1 [] [(2, vi 17)] ?_
          refine xRe ?_
          refine wpq_then ?_
          have eS := (Option.some.inj hS).symm
          subst eS
          exact xRet [] [2] (e4.trans e7) ⟨by kernel_rfl, by kernel_rfl⟩ (fun _ _ h => h)
        · have hS := cond_F h10 hS
          have h10l := (or_false_ h10).1
          have h10r := (or_false_ h10).2
          have h10lp := of_decide_eq_false h10l
          have h10rp := of_decide_eq_false h10r
          refine xSk ?_
          refine wpq_then ?_
          refine xSub [(1, vp b1 0)] ?_
          refine xSq ?_
          refine xSq ?_
          refine xRg ?_
          refine xB 4 [(1, 0)] [(1, vp b1 0), (32, vb (decide ((((p.parts).length : Nat) : Int) > 12)))] ?_
          refine xRe ?_
          refine wpq_then ?_
          refine xCd (decide ((((p.parts).length : Nat) : Int) > 12)) (fun h11 => ?_) (fun h11 => ?_)
          · have hS := cond_T h11 hS
            have h11p := of_decide_eq_true h11
            refine xSq ?_
            refine xRg ?_
            refine xB 1 [] [(2, vi 3)] ?_
            refine xRe ?_
            refine wpq_then ?_
            have eS := (Option.some.inj hS).symm
            subst eS
            exact xRet [] [2] (e4.trans e7) ⟨by kernel_rfl, by kernel_rfl⟩ (fun _ _ h => h)
          · have hS := cond_F h11 hS
            have h11p := of_decide_eq_false h11
            refine xSk ?_
            refine wpq_then ?_
            refine xSub [(1, vp b1 0)] ?_
            refine xSq ?_
            refine xRg ?_
            refine xB 1 [] [(1, vp b1 0), (3, vb false)] ?_
            refine xRe ?_
            refine wpq_then ?_
            refine xSq ?_
            refine xSq ?_
            refine xRg ?_
            refine xB 4 [(1, 0)] [(1, vp b1 0), (3, vb false), (34, vs Ap_parts p.parts cp_parts), (35, vi (((p.parts).length : Nat) : Int)), (36, vi 0)] ?_
            refine xRe ?_
            refine wpq_then ?_
            refine xJoinO hS (fun g own sl t12 => own = [some ⟨b1, 25, (cProc p Ap_parts cp_parts)⟩] ∧ sl = [(1, vp b1 0), (3, vb t12)]) ?_ ?_
            · rintro g13 _ _ t12 e14 ⟨rfl, rfl⟩ hS
              refine wpq_then ?_
              refine xSq ?_
              refine xSq ?_
              refine xRg ?_
              refine xB 5 [(1, 0)] [(1, vp b1 0), (3, vb t12), (128, vb ((((p.parts).length : Nat) : Int) == 0))] ?_
              refine wpr_grp 13 [(136, vb (((((p.parts).length : Nat) : Int) == 0) || ((p.kind == 3) && (!t12))))] (fun hk4 => ?_) ?_
              · refine wpq_split 128 (b := ((((p.parts).length : Nat) : Int) == 0)) (by kernel_rfl) (fun q15 => ?_) (fun q15 => ?_)
                · have q15p : (((p.parts).length : Nat) : Int) = 0 := eq_of_beq q15
                  refine xB 8 [] [(136, vb true)] ?_
                  refine wpq_re 136 (v := vb true) (Value.bool ((((((p.parts).length : Nat) : Int) == 0) || ((p.kind == 3) && (!t12))))) (by kernel_rfl) (re_or1 q15) ?_
                  exact wpq_sub _ (by kernel_rfl) hk4
                · have q15p : ¬ ((((p.parts).length : Nat) : Int) = 0) := ne_of_beq_false_ q15
                  refine xB 4 [(6, 0)] [(3, vb t12), (128, vb false), (132, vb (p.kind == 3))] ?_
                  refine wpr_grp 12 [(128, vb false), (135, vb ((p.kind == 3) && (!t12)))] (fun hk8 => ?_) ?_
                  · refine wpq_split 132 (b := (p.kind == 3)) (by kernel_rfl) (fun q16 => ?_) (fun q16 => ?_)
                    · have q16p : p.kind = 3 := eq_of_beq q16
                      refine xB 3 [] [(128, vb false), (135, vb (!t12))] ?_
                      refine wpq_re 135 (v := vb (!t12)) (Value.bool (((p.kind == 3) && (!t12)))) (by kernel_rfl) (re_and1 q16) ?_
                      exact wpq_sub _ (by kernel_rfl) hk8
                    · have q16p : ¬ (p.kind = 3) := ne_of_beq_false_ q16
                      refine xB 3 [] [(128, vb false), (135, vb false)] ?_
                      refine wpq_re 135 (v := vb false) (Value.bool (((p.kind == 3) && (!t12)))) (by kernel_rfl) (re_and0 q16) ?_
                      exact wpq_sub _ (by kernel_rfl) hk8
                  · refine xB 1 [] [(136, vb ((p.kind == 3) && (!t12)))] ?_
                    refine wpq_re 136 (v := vb ((p.kind == 3) && (!t12))) (Value.bool ((((((p.parts).length : Nat) : Int) == 0) || ((p.kind == 3) && (!t12))))) (by kernel_rfl) (re_or0 q15) ?_
                    exact wpq_sub _ (by kernel_rfl) hk4
              · refine xRe ?_
                refine wpq_then ?_
                refine xCd ((((((p.parts).length : Nat) : Int) == 0) || ((p.kind == 3) && (!t12)))) (fun h17 => ?_) (fun h17 => ?_)
                · have hS := cond_T h17 hS
                  refine xSq ?_
                  refine xRg ?_
                  refine xB 1 [] [(2, vi 6)] ?_
                  refine xRe ?_
                  refine wpq_then ?_
                  have eS := (Option.some.inj hS).symm
                  subst eS
                  exact xRet [] [2] (e4.trans (e7.trans e14)) ⟨by kernel_rfl, by kernel_rfl⟩ (fun _ _ h => h)
                · have hS := cond_F h17 hS
                  have h17l := (or_false_ h17).1
                  have h17r := (or_false_ h17).2
                  have h17lp : ¬ ((((p.parts).length : Nat) : Int) = 0) := ne_of_beq_false_ h17l
                  refine xSk ?_
                  refine wpq_then ?_
                  refine xSub [] ?_
                  refine xSq ?_
                  refine xRg ?_
                  refine xB 1 [] [(2, vi 0)] ?_
                  refine xRe ?_
                  refine wpq_then ?_
                  have eS := (Option.some.inj hS).symm
                  subst eS
                  exact xRet [] [2] (e4.trans (e7.trans e14)) ⟨by kernel_rfl, by kernel_rfl⟩ (fun _ _ h => h)
            · intro uu12 hS hN12 hD12
              refine xBl 0 ?_
              refine xSub [(1, vp b1 0), (3, vb false), (34, vs Ap_parts p.parts cp_parts), (35, vi (((p.parts).length : Nat) : Int)), (36, vi 0)] ?_
              refine xLo hS (fun g own sl s20 => own = [some ⟨b1, 25, (cProc p Ap_parts cp_parts)⟩] ∧ sl = [(1, vp b1 0), (3, vb s20.1), (34, vs Ap_parts p.parts cp_parts), (35, vi (((p.parts).length : Nat) : Int)), (36, vi ((s20.2 : Nat) : Int))]) ⟨by kernel_rfl, by kernel_rfl⟩ ?_
              rintro g21 _ _ s20 uu20 e22 ⟨rfl, rfl⟩ hS Qr20 hN20 hD20
              unfold o14_L0 at hS
              refine xSq ?_
              refine xRg ?_
              refine xB 1 [] [(1, vp b1 0), (3, vb s20.1), (34, vs Ap_parts p.parts cp_parts), (35, vi (((p.parts).length : Nat) : Int)), (36, vi ((s20.2 : Nat) : Int)), (37, vb (decide (((s20.2 : Nat) : Int) < (((p.parts).length : Nat) : Int))))] ?_
              refine xRe ?_
              refine wpq_then ?_
              refine xSq ?_
              refine xCd (decide (((s20.2 : Nat) : Int) < (((p.parts).length : Nat) : Int))) (fun h23 => ?_) (fun h23 => ?_)
              · have hS := cond_T h23 hS
                have h23p := of_decide_eq_true h23
                refine xSk ?_
                refine wpq_then ?_
                refine xSub [(1, vp b1 0), (3, vb s20.1), (34, vs Ap_parts p.parts cp_parts), (35, vi (((p.parts).length : Nat) : Int)), (36, vi ((s20.2 : Nat) : Int))] ?_
                refine xSq ?_
                refine xBl 1 ?_
                refine xSq ?_
                refine xRg ?_
                have fp_parts := fp_parts.mono (e4.trans (e7.trans e22)).r
                have i25 : s20.2 < (p.parts).length := by omega
                obtain ⟨ad24, cs24, hA24, hr24, hc24⟩ := fp_parts.at_ (get_getD (d := default) i25)
                obtain ⟨A24_legs, c24_legs, rfl, f24_legs⟩ := hr24
                have nf24_legs := f24_legs.len
                refine xB 1 [] [(1, vp b1 0), (3, vb s20.1), (34, vs Ap_parts p.parts cp_parts), (35, vi (((p.parts).length : Nat) : Int)), (36, vi ((s20.2 : Nat) : Int)), (38, vi ((s20.2 : Nat) : Int))] ?_
                refine xV (qIx s20.2 3 hA24 rfl i25) ?_
                refine xV (qLdP (Addr.add ad24 (s20.2 * 3)) 0 hc24) ?_
                refine xE eB ?_
                rintro _ _ _ - ⟨b26, rfl, rfl, rfl⟩
                refine xBo 2 [(5, 0)] [some ⟨b26, 35, [vy ((List.getD p.parts s20.2 default).kind), vt ((List.getD p.parts s20.2 default).name), vs A24_legs ((List.getD p.parts s20.2 default).legs) c24_legs]⟩, some ⟨b1, 25, (cProc p Ap_parts cp_parts)⟩] [(1, vp b1 0), (3, vb s20.1), (4, vi ((s20.2 : Nat) : Int)), (5, vp b26 0), (34, vs Ap_parts p.parts cp_parts), (35, vi (((p.parts).length : Nat) : Int)), (36, vi ((s20.2 : Nat) : Int))] ?_
                refine xRe ?_
                refine wpq_then ?_
                refine xSq ?_
                refine xRg ?_
                refine xB 4 [(1, 1), (3, 0)] [(1, vp b1 0), (3, vb s20.1), (4, vi ((s20.2 : Nat) : Int)), (5, vp b26 0), (34, vs Ap_parts p.parts cp_parts), (35, vi (((p.parts).length : Nat) : Int)), (36, vi ((s20.2 : Nat) : Int)), (42, vy p.kind), (44, vy ((List.getD p.parts s20.2 default).kind))] ?_
                obtain ⟨y27, hy27, hS⟩ := letJ_T hS
                refine xE (eC 0 (fun g' lr eb ln => C39 g' (p.kind : Int) ((List.getD p.parts s20.2 default).kind : Int) hy27)) ?_
                rintro _ g28 _ e29 ⟨_, rfl, rfl, rfl⟩
                refine xB 1 [] [(1, vp b1 0), (3, vb s20.1), (4, vi ((s20.2 : Nat) : Int)), (5, vp b26 0), (6, vi y27), (34, vs Ap_parts p.parts cp_parts), (35, vi (((p.parts).length : Nat) : Int)), (36, vi ((s20.2 : Nat) : Int))] ?_
                refine xRe ?_
                refine wpq_then ?_
                refine xSq ?_
                refine xSq ?_
                refine xRg ?_
                refine xB 2 [] [(1, vp b1 0), (3, vb s20.1), (4, vi ((s20.2 : Nat) : Int)), (5, vp b26 0), (6, vi y27), (34, vs Ap_parts p.parts cp_parts), (35, vi (((p.parts).length : Nat) : Int)), (36, vi ((s20.2 : Nat) : Int)), (47, vb (y27 == 0))] ?_
                refine xRe ?_
                refine wpq_then ?_
                refine xCd ((y27 == 0)) (fun h30 => ?_) (fun h30 => ?_)
                · have hS := cond_T h30 hS
                  have h30p : y27 = 0 := eq_of_beq h30
                  refine xSq ?_
                  refine xRg ?_
                  refine xB 1 [] [(2, vi 17)] ?_
                  refine xRe ?_
                  refine wpq_then ?_
                  have eS := (Option.some.inj hS).symm
                  have eS := (hD20 _ eS).symm
                  have eS := (hD12 _ eS).symm
                  subst eS
                  exact xRet [] [2] (e4.trans (e7.trans (e22.trans e29))) ⟨by kernel_rfl, by kernel_rfl⟩ (fun _ _ h => h)
                · have hS := cond_F h30 hS
                  have h30p : ¬ (y27 = 0) := ne_of_beq_false_ h30
                  refine xSk ?_
                  refine wpq_then ?_
                  refine xSub [(1, vp b1 0), (3, vb s20.1), (4, vi ((s20.2 : Nat) : Int)), (5, vp b26 0), (6, vi y27), (34, vs Ap_parts p.parts cp_parts), (35, vi (((p.parts).length : Nat) : Int)), (36, vi ((s20.2 : Nat) : Int))] ?_
                  refine xSq ?_
                  refine xSq ?_
                  refine xRg ?_
                  refine xB 2 [] [(1, vp b1 0), (3, vb s20.1), (4, vi ((s20.2 : Nat) : Int)), (5, vp b26 0), (6, vi y27), (34, vs Ap_parts p.parts cp_parts), (35, vi (((p.parts).length : Nat) : Int)), (36, vi ((s20.2 : Nat) : Int)), (49, vb (decide (((s20.2 : Nat) : Int) > 0)))] ?_
                  refine xRe ?_
                  refine wpq_then ?_
                  refine xJoinO hS (fun g own sl t31 => own = [some ⟨b26, 35, [vy ((List.getD p.parts s20.2 default).kind), vt ((List.getD p.parts s20.2 default).name), vs A24_legs ((List.getD p.parts s20.2 default).legs) c24_legs]⟩, some ⟨b1, 25, (cProc p Ap_parts cp_parts)⟩] ∧ sl = [(1, vp b1 0), (3, vb s20.1), (5, vp b26 0), (34, vs Ap_parts p.parts cp_parts), (35, vi (((p.parts).length : Nat) : Int)), (36, vi ((s20.2 : Nat) : Int))]) ?_ ?_
                  · rintro g32 _ _ t31 e33 ⟨rfl, rfl⟩ hS
                    refine wpq_then ?_
                    refine xSq ?_
                    refine xRg ?_
                    refine xB 4 [(1, 0)] [(1, vp b1 0), (3, vb s20.1), (5, vp b26 0), (34, vs Ap_parts p.parts cp_parts), (35, vi (((p.parts).length : Nat) : Int)), (36, vi ((s20.2 : Nat) : Int)), (89, vb ((List.getD p.parts s20.2 default).kind == 1))] ?_
                    refine wpr_grp 8 [(1, vp b1 0), (3, vb s20.1), (5, vp b26 0), (34, vs Ap_parts p.parts cp_parts), (35, vi (((p.parts).length : Nat) : Int)), (36, vi ((s20.2 : Nat) : Int)), (93, vb (((List.getD p.parts s20.2 default).kind == 1) || ((List.getD p.parts s20.2 default).kind == 3)))] (fun hk3 => ?_) ?_
                    · refine wpq_split 89 (b := ((List.getD p.parts s20.2 default).kind == 1)) (by kernel_rfl) (fun q34 => ?_) (fun q34 => ?_)
                      · have q34p : (List.getD p.parts s20.2 default).kind = 1 := eq_of_beq q34
                        refine xB 4 [] [(1, vp b1 0), (3, vb s20.1), (5, vp b26 0), (34, vs Ap_parts p.parts cp_parts), (35, vi (((p.parts).length : Nat) : Int)), (36, vi ((s20.2 : Nat) : Int)), (93, vb true)] ?_
                        refine wpq_re 93 (v := vb true) (Value.bool ((((List.getD p.parts s20.2 default).kind == 1) || ((List.getD p.parts s20.2 default).kind == 3)))) (by kernel_rfl) (re_or1 q34) ?_
                        exact wpq_sub _ (by kernel_rfl) hk3
                      · have q34p : ¬ ((List.getD p.parts s20.2 default).kind = 1) := ne_of_beq_false_ q34
                        refine xB 4 [(5, 0)] [(1, vp b1 0), (3, vb s20.1), (5, vp b26 0), (34, vs Ap_parts p.parts cp_parts), (35, vi (((p.parts).length : Nat) : Int)), (36, vi ((s20.2 : Nat) : Int)), (93, vb ((List.getD p.parts s20.2 default).kind == 3))] ?_
                        refine wpq_re 93 (v := vb ((List.getD p.parts s20.2 default).kind == 3)) (Value.bool ((((List.getD p.parts s20.2 default).kind == 1) || ((List.getD p.parts s20.2 default).kind == 3)))) (by kernel_rfl) (re_or0 q34) ?_
                        exact wpq_sub _ (by kernel_rfl) hk3
                    · refine xB 1 [] [(1, vp b1 0), (3, vb s20.1), (5, vp b26 0), (9, vb (((List.getD p.parts s20.2 default).kind == 1) || ((List.getD p.parts s20.2 default).kind == 3))), (34, vs Ap_parts p.parts cp_parts), (35, vi (((p.parts).length : Nat) : Int)), (36, vi ((s20.2 : Nat) : Int))] ?_
                      refine xRe ?_
                      refine wpq_then ?_
                      refine xSq ?_
                      refine xSq ?_
                      refine xRg ?_
                      refine xB 2 [] [(1, vp b1 0), (3, vb s20.1), (5, vp b26 0), (9, vb (((List.getD p.parts s20.2 default).kind == 1) || ((List.getD p.parts s20.2 default).kind == 3))), (34, vs Ap_parts p.parts cp_parts), (35, vi (((p.parts).length : Nat) : Int)), (36, vi ((s20.2 : Nat) : Int)), (95, vb (((List.getD p.parts s20.2 default).kind == 1) || ((List.getD p.parts s20.2 default).kind == 3)))] ?_
                      refine xGJo hS 7 (fun g own sl t35 => own = [some ⟨b26, 35, [vy ((List.getD p.parts s20.2 default).kind), vt ((List.getD p.parts s20.2 default).name), vs A24_legs ((List.getD p.parts s20.2 default).legs) c24_legs]⟩, some ⟨b1, 25, (cProc p Ap_parts cp_parts)⟩] ∧ sl = [(1, vp b1 0), (3, vb s20.1), (5, vp b26 0), (9, vb (((List.getD p.parts s20.2 default).kind == 1) || ((List.getD p.parts s20.2 default).kind == 3))), (34, vs Ap_parts p.parts cp_parts), (35, vi (((p.parts).length : Nat) : Int)), (36, vi ((s20.2 : Nat) : Int)), (100, vb t35)]) ?_ ?_
                      · rintro g36 _ _ t35 e37 ⟨rfl, rfl⟩ hS
                        refine xB 1 [] [(1, vp b1 0), (3, vb s20.1), (5, vp b26 0), (9, vb (((List.getD p.parts s20.2 default).kind == 1) || ((List.getD p.parts s20.2 default).kind == 3))), (34, vs Ap_parts p.parts cp_parts), (35, vi (((p.parts).length : Nat) : Int)), (36, vi ((s20.2 : Nat) : Int)), (101, vb t35)] ?_
                        refine wpr_grp 16 [(1, vp b1 0), (3, vb s20.1), (5, vp b26 0), (34, vs Ap_parts p.parts cp_parts), (35, vi (((p.parts).length : Nat) : Int)), (36, vi ((s20.2 : Nat) : Int)), (109, vb (t35 || ((!(((List.getD p.parts s20.2 default).kind == 1) || ((List.getD p.parts s20.2 default).kind == 3))) && (!((List.getD p.parts s20.2 default).name == [])))))] (fun hk7 => ?_) ?_
                        · refine wpq_split 101 (b := t35) (by kernel_rfl) (fun q38 => ?_) (fun q38 => ?_)
                          · refine xB 8 [] [(1, vp b1 0), (3, vb s20.1), (5, vp b26 0), (34, vs Ap_parts p.parts cp_parts), (35, vi (((p.parts).length : Nat) : Int)), (36, vi ((s20.2 : Nat) : Int)), (109, vb true)] ?_
                            refine wpq_re 109 (v := vb true) (Value.bool ((t35 || ((!(((List.getD p.parts s20.2 default).kind == 1) || ((List.getD p.parts s20.2 default).kind == 3))) && (!((List.getD p.parts s20.2 default).name == [])))))) (by kernel_rfl) (re_or1 q38) ?_
                            exact wpq_sub _ (by kernel_rfl) hk7
                          · refine xB 3 [] [(1, vp b1 0), (3, vb s20.1), (5, vp b26 0), (34, vs Ap_parts p.parts cp_parts), (35, vi (((p.parts).length : Nat) : Int)), (36, vi ((s20.2 : Nat) : Int)), (101, vb false), (104, vb (!(((List.getD p.parts s20.2 default).kind == 1) || ((List.getD p.parts s20.2 default).kind == 3))))] ?_
                            refine wpr_grp 15 [(1, vp b1 0), (3, vb s20.1), (5, vp b26 0), (34, vs Ap_parts p.parts cp_parts), (35, vi (((p.parts).length : Nat) : Int)), (36, vi ((s20.2 : Nat) : Int)), (101, vb false), (108, vb ((!(((List.getD p.parts s20.2 default).kind == 1) || ((List.getD p.parts s20.2 default).kind == 3))) && (!((List.getD p.parts s20.2 default).name == []))))] (fun hk10 => ?_) ?_
                            · refine wpq_split 104 (b := (!(((List.getD p.parts s20.2 default).kind == 1) || ((List.getD p.parts s20.2 default).kind == 3)))) (by kernel_rfl) (fun q39 => ?_) (fun q39 => ?_)
                              · have q39n := not_eq_true_ q39
                                have q39nl := (or_false_ q39n).1
                                have q39nr := (or_false_ q39n).2
                                have q39nlp : ¬ ((List.getD p.parts s20.2 default).kind = 1) := ne_of_beq_false_ q39nl
                                have q39nrp : ¬ ((List.getD p.parts s20.2 default).kind = 3) := ne_of_beq_false_ q39nr
                                refine xB 2 [(12, 0)] [(1, vp b1 0), (3, vb s20.1), (5, vp b26 0), (34, vs Ap_parts p.parts cp_parts), (35, vi (((p.parts).length : Nat) : Int)), (36, vi ((s20.2 : Nat) : Int)), (101, vb false), (104, vb true), (106, vt ((List.getD p.parts s20.2 default).name))] ?_
                                refine xV (qNeS ((List.getD p.parts s20.2 default).name) ([])) ?_
                                refine xB 1 [] [(1, vp b1 0), (3, vb s20.1), (5, vp b26 0), (34, vs Ap_parts p.parts cp_parts), (35, vi (((p.parts).length : Nat) : Int)), (36, vi ((s20.2 : Nat) : Int)), (101, vb false), (108, vb (!((List.getD p.parts s20.2 default).name == [])))] ?_
                                refine wpq_re 108 (v := vb (!((List.getD p.parts s20.2 default).name == []))) (Value.bool (((!(((List.getD p.parts s20.2 default).kind == 1) || ((List.getD p.parts s20.2 default).kind == 3))) && (!((List.getD p.parts s20.2 default).name == []))))) (by kernel_rfl) (re_and1 q39) ?_
                                exact wpq_sub _ (by kernel_rfl) hk10
                              · have q39n := not_eq_false_ q39
                                refine xB 4 [] [(1, vp b1 0), (3, vb s20.1), (5, vp b26 0), (34, vs Ap_parts p.parts cp_parts), (35, vi (((p.parts).length : Nat) : Int)), (36, vi ((s20.2 : Nat) : Int)), (101, vb false), (108, vb false)] ?_
                                refine wpq_re 108 (v := vb false) (Value.bool (((!(((List.getD p.parts s20.2 default).kind == 1) || ((List.getD p.parts s20.2 default).kind == 3))) && (!((List.getD p.parts s20.2 default).name == []))))) (by kernel_rfl) (re_and0 q39) ?_
                                exact wpq_sub _ (by kernel_rfl) hk10
                            · refine xB 1 [] [(1, vp b1 0), (3, vb s20.1), (5, vp b26 0), (34, vs Ap_parts p.parts cp_parts), (35, vi (((p.parts).length : Nat) : Int)), (36, vi ((s20.2 : Nat) : Int)), (109, vb ((!(((List.getD p.parts s20.2 default).kind == 1) || ((List.getD p.parts s20.2 default).kind == 3))) && (!((List.getD p.parts s20.2 default).name == []))))] ?_
                              refine wpq_re 109 (v := vb ((!(((List.getD p.parts s20.2 default).kind == 1) || ((List.getD p.parts s20.2 default).kind == 3))) && (!((List.getD p.parts s20.2 default).name == [])))) (Value.bool ((t35 || ((!(((List.getD p.parts s20.2 default).kind == 1) || ((List.getD p.parts s20.2 default).kind == 3))) && (!((List.getD p.parts s20.2 default).name == [])))))) (by kernel_rfl) (re_or0 q38) ?_
                              exact wpq_sub _ (by kernel_rfl) hk7
                        · refine xRe ?_
                          refine wpq_then ?_
                          refine xCd ((t35 || ((!(((List.getD p.parts s20.2 default).kind == 1) || ((List.getD p.parts s20.2 default).kind == 3))) && (!((List.getD p.parts s20.2 default).name == []))))) (fun h40 => ?_) (fun h40 => ?_)
                          · have hS := cond_T h40 hS
                            refine xSq ?_
                            refine xRg ?_
                            refine xB 1 [] [(2, vi 5)] ?_
                            refine xRe ?_
                            refine wpq_then ?_
                            have eS := (Option.some.inj hS).symm
                            have eS := (hD20 _ eS).symm
                            have eS := (hD12 _ eS).symm
                            subst eS
                            exact xRet [] [2] (e4.trans (e7.trans (e22.trans (e29.trans (e33.trans e37))))) ⟨by kernel_rfl, by kernel_rfl⟩ (fun _ _ h => h)
                          · have hS := cond_F h40 hS
                            have h40l := (or_false_ h40).1
                            have h40r := (or_false_ h40).2
                            refine xSk ?_
                            refine wpq_then ?_
                            refine xSub [(1, vp b1 0), (3, vb s20.1), (5, vp b26 0), (34, vs Ap_parts p.parts cp_parts), (35, vi (((p.parts).length : Nat) : Int)), (36, vi ((s20.2 : Nat) : Int))] ?_
                            refine xSq ?_
                            refine xSq ?_
                            refine xRg ?_
                            refine xB 3 [(1, 1), (2, 0)] [(1, vp b1 0), (3, vb s20.1), (5, vp b26 0), (34, vs Ap_parts p.parts cp_parts), (35, vi (((p.parts).length : Nat) : Int)), (36, vi ((s20.2 : Nat) : Int)), (111, vy p.kind), (112, Value.agg #[vy ((List.getD p.parts s20.2 default).kind), vt ((List.getD p.parts s20.2 default).name), vs A24_legs ((List.getD p.parts s20.2 default).legs) c24_legs])] ?_
                            have f24_legs := f24_legs.mono (e29.trans (e33.trans e37)).r
                            obtain ⟨y41, hy41, hS⟩ := bindO_T hS
                            refine xE (eC 0 (fun g' lr eb ln => C40 g' (p.kind : Int) (List.getD p.parts s20.2 default) A24_legs c24_legs (f24_legs.mono lr) hy41)) ?_
                            rintro _ g42 _ e43 ⟨_, rfl, rfl, rfl⟩
                            refine xB 1 [] [(1, vp b1 0), (3, vb s20.1), (5, vp b26 0), (10, vi y41), (34, vs Ap_parts p.parts cp_parts), (35, vi (((p.parts).length : Nat) : Int)), (36, vi ((s20.2 : Nat) : Int))] ?_
                            refine xRe ?_
                            refine wpq_then ?_
                            refine xSq ?_
                            refine xRg ?_
                            refine xB 2 [] [(1, vp b1 0), (3, vb s20.1), (5, vp b26 0), (10, vi y41), (34, vs Ap_parts p.parts cp_parts), (35, vi (((p.parts).length : Nat) : Int)), (36, vi ((s20.2 : Nat) : Int)), (115, vb (y41 != 0))] ?_
                            refine xRe ?_
                            refine wpq_then ?_
                            refine xCd ((y41 != 0)) (fun h44 => ?_) (fun h44 => ?_)
                            · have hS := cond_T h44 hS
                              have h44p : ¬ (y41 = 0) := ne_of_bne_ h44
                              refine xSq ?_
                              refine xRg ?_
                              refine xB 2 [] [(2, vi y41)] ?_
                              refine xRe ?_
                              refine wpq_then ?_
                              have eS := (Option.some.inj hS).symm
                              have eS := (hD20 _ eS).symm
                              have eS := (hD12 _ eS).symm
                              subst eS
                              exact xRet [] [2] (e4.trans (e7.trans (e22.trans (e29.trans (e33.trans (e37.trans e43)))))) ⟨by kernel_rfl, by kernel_rfl⟩ (fun _ _ h => h)
                            · have hS := cond_F h44 hS
                              have h44p : y41 = 0 := eq_of_bne_false_ h44
                              refine xSk ?_
                              refine wpq_then ?_
                              refine xSub [(1, vp b1 0), (3, vb s20.1), (5, vp b26 0), (34, vs Ap_parts p.parts cp_parts), (35, vi (((p.parts).length : Nat) : Int)), (36, vi ((s20.2 : Nat) : Int))] ?_
                              refine xRg ?_
                              refine xB 2 [] [(1, vp b1 0), (3, vb s20.1), (5, vp b26 0), (34, vs Ap_parts p.parts cp_parts), (35, vi (((p.parts).length : Nat) : Int)), (36, vi ((s20.2 : Nat) : Int)), (118, vb s20.1)] ?_
                              refine wpr_grp 6 [(1, vp b1 0), (3, vb s20.1), (34, vs Ap_parts p.parts cp_parts), (35, vi (((p.parts).length : Nat) : Int)), (36, vi ((s20.2 : Nat) : Int)), (122, vb (s20.1 || ((List.getD p.parts s20.2 default).kind == 2)))] (fun hk1 => ?_) ?_
                              · refine wpq_split 118 (b := s20.1) (by kernel_rfl) (fun q45 => ?_) (fun q45 => ?_)
                                · refine xB 4 [] [(1, vp b1 0), (3, vb s20.1), (34, vs Ap_parts p.parts cp_parts), (35, vi (((p.parts).length : Nat) : Int)), (36, vi ((s20.2 : Nat) : Int)), (122, vb true)] ?_
                                  refine wpq_re 122 (v := vb true) (Value.bool ((s20.1 || ((List.getD p.parts s20.2 default).kind == 2)))) (by kernel_rfl) (re_or1 q45) ?_
                                  exact wpq_sub _ (by kernel_rfl) hk1
                                · refine xB 4 [(3, 0)] [(1, vp b1 0), (3, vb s20.1), (34, vs Ap_parts p.parts cp_parts), (35, vi (((p.parts).length : Nat) : Int)), (36, vi ((s20.2 : Nat) : Int)), (122, vb ((List.getD p.parts s20.2 default).kind == 2))] ?_
                                  refine wpq_re 122 (v := vb ((List.getD p.parts s20.2 default).kind == 2)) (Value.bool ((s20.1 || ((List.getD p.parts s20.2 default).kind == 2)))) (by kernel_rfl) (re_or0 q45) ?_
                                  exact wpq_sub _ (by kernel_rfl) hk1
                              · refine xB 1 [] [(1, vp b1 0), (3, vb (s20.1 || ((List.getD p.parts s20.2 default).kind == 2))), (34, vs Ap_parts p.parts cp_parts), (35, vi (((p.parts).length : Nat) : Int)), (36, vi ((s20.2 : Nat) : Int))] ?_
                                refine xRe ?_
                                refine wpq_blockN ?_
                                refine wpq_then ?_
                                refine xRg ?_
                                obtain ⟨q46, hS⟩ := grd_T hS
                                have q46p := of_decide_eq_true q46
                                refine xV (qAdd .i64 (((s20.2 : Nat) : Int)) (1) (wr64 (by omega))) ?_
                                refine xB 1 [] [(1, vp b1 0), (3, vb (s20.1 || ((List.getD p.parts s20.2 default).kind == 2))), (34, vs Ap_parts p.parts cp_parts), (35, vi (((p.parts).length : Nat) : Int)), (36, vi (((s20.2 : Nat) : Int) + 1))] ?_
                                refine xRe ?_
                                refine wpq_thenN ?_
                                refine xSel [some 1] ?_
                                refine xSub [(1, vp b1 0), (3, vb (s20.1 || ((List.getD p.parts s20.2 default).kind == 2))), (34, vs Ap_parts p.parts cp_parts), (35, vi (((p.parts).length : Nat) : Int)), (36, vi (((s20.2 : Nat) : Int) + 1))] ?_
                                have eS := (Option.some.inj hS).symm
                                exact hN20 _ eS _ _ _ (e29.trans (e33.trans (e37.trans e43))) ⟨by kernel_rfl, by kernel_rfl⟩
                      · intro uu35 hS hN35
                        refine wpq_split 95 (b := (((List.getD p.parts s20.2 default).kind == 1) || ((List.getD p.parts s20.2 default).kind == 3))) (by kernel_rfl) (fun q47 => ?_) (fun q47 => ?_)
                        · have hS := cond_T q47 hS
                          refine xB 2 [(3, 0)] [(1, vp b1 0), (3, vb s20.1), (5, vp b26 0), (9, vb (((List.getD p.parts s20.2 default).kind == 1) || ((List.getD p.parts s20.2 default).kind == 3))), (34, vs Ap_parts p.parts cp_parts), (35, vi (((p.parts).length : Nat) : Int)), (36, vi ((s20.2 : Nat) : Int)), (95, vb true), (97, vt ((List.getD p.parts s20.2 default).name))] ?_
                          obtain ⟨y48, hy48, hS⟩ := bindO_T hS
                          refine xE (eC 0 (fun g' lr eb ln => C38 g' (List.getD p.parts s20.2 default).name (8 : Int) hy48)) ?_
                          rintro _ g49 _ e50 ⟨_, rfl, rfl, rfl⟩
                          refine xB 2 [] [(1, vp b1 0), (3, vb s20.1), (5, vp b26 0), (9, vb (((List.getD p.parts s20.2 default).kind == 1) || ((List.getD p.parts s20.2 default).kind == 3))), (34, vs Ap_parts p.parts cp_parts), (35, vi (((p.parts).length : Nat) : Int)), (36, vi ((s20.2 : Nat) : Int)), (100, vb (!y48))] ?_
                          refine xSub [(1, vp b1 0), (3, vb s20.1), (5, vp b26 0), (9, vb (((List.getD p.parts s20.2 default).kind == 1) || ((List.getD p.parts s20.2 default).kind == 3))), (34, vs Ap_parts p.parts cp_parts), (35, vi (((p.parts).length : Nat) : Int)), (36, vi ((s20.2 : Nat) : Int)), (100, vb (!y48))] ?_
                          exact hN35 _ (Option.some.inj hS).symm _ _ _ e50 ⟨by kernel_rfl, by kernel_rfl⟩
                        · have hS := cond_F q47 hS
                          have q47l := (or_false_ q47).1
                          have q47r := (or_false_ q47).2
                          have q47lp : ¬ ((List.getD p.parts s20.2 default).kind = 1) := ne_of_beq_false_ q47l
                          have q47rp : ¬ ((List.getD p.parts s20.2 default).kind = 3) := ne_of_beq_false_ q47r
                          refine xB 5 [] [(1, vp b1 0), (3, vb s20.1), (5, vp b26 0), (9, vb (((List.getD p.parts s20.2 default).kind == 1) || ((List.getD p.parts s20.2 default).kind == 3))), (34, vs Ap_parts p.parts cp_parts), (35, vi (((p.parts).length : Nat) : Int)), (36, vi ((s20.2 : Nat) : Int)), (100, vb false)] ?_
                          refine xSub [(1, vp b1 0), (3, vb s20.1), (5, vp b26 0), (9, vb (((List.getD p.parts s20.2 default).kind == 1) || ((List.getD p.parts s20.2 default).kind == 3))), (34, vs Ap_parts p.parts cp_parts), (35, vi (((p.parts).length : Nat) : Int)), (36, vi ((s20.2 : Nat) : Int)), (100, vb false)] ?_
                          exact hN35 _ (Option.some.inj hS).symm _ _ _ (Gh.le.refl _) ⟨by kernel_rfl, by kernel_rfl⟩
                  · intro uu31 hS hN31 hD31
                    refine xCd (decide (((s20.2 : Nat) : Int) > 0)) (fun h51 => ?_) (fun h51 => ?_)
                    · have hS := cond_T h51 hS
                      have h51p := of_decide_eq_true h51
                      refine xSq ?_
                      refine xRg ?_
                      refine xB 3 [(1, 1)] [(1, vp b1 0), (3, vb s20.1), (5, vp b26 0), (6, vi y27), (34, vs Ap_parts p.parts cp_parts), (35, vi (((p.parts).length : Nat) : Int)), (36, vi ((s20.2 : Nat) : Int)), (51, vs Ap_parts p.parts cp_parts), (52, vi ((s20.2 : Nat) : Int))] ?_
                      refine xV (qSub .i64 (((s20.2 : Nat) : Int)) (1) (wr64 (by omega))) ?_
                      have fp_parts := fp_parts.mono e29.r
                      obtain ⟨q53, hS⟩ := grd_T hS
                      have q53p := of_decide_eq_true q53
                      have i54 : ((((s20.2 : Nat) : Int) - 1)).toNat < (p.parts).length := by omega
                      obtain ⟨ad52, cs52, hA52, hr52, hc52⟩ := fp_parts.at_ (get_getD (d := default) i54)
                      obtain ⟨A52_legs, c52_legs, rfl, f52_legs⟩ := hr52
                      have nf52_legs := f52_legs.len
                      refine xV (qIx ((((s20.2 : Nat) : Int) - 1)).toNat 3 hA52 (show ((((s20.2 : Nat) : Int) - 1) : Int) = _ from by omega) i54) ?_
                      refine xV (qLdP (Addr.add ad52 (((((s20.2 : Nat) : Int) - 1)).toNat * 3)) 0 hc52) ?_
                      refine xE eB ?_
                      rintro _ _ _ - ⟨b55, rfl, rfl, rfl⟩
                      refine xBo 1 [(7, 0)] [some ⟨b55, 35, [vy ((List.getD p.parts ((((s20.2 : Nat) : Int) - 1)).toNat default).kind), vt ((List.getD p.parts ((((s20.2 : Nat) : Int) - 1)).toNat default).name), vs A52_legs ((List.getD p.parts ((((s20.2 : Nat) : Int) - 1)).toNat default).legs) c52_legs]⟩, some ⟨b26, 35, [vy ((List.getD p.parts s20.2 default).kind), vt ((List.getD p.parts s20.2 default).name), vs A24_legs ((List.getD p.parts s20.2 default).legs) c24_legs]⟩, some ⟨b1, 25, (cProc p Ap_parts cp_parts)⟩] [(1, vp b1 0), (3, vb s20.1), (5, vp b26 0), (6, vi y27), (7, vp b55 0), (34, vs Ap_parts p.parts cp_parts), (35, vi (((p.parts).length : Nat) : Int)), (36, vi ((s20.2 : Nat) : Int))] ?_
                      refine xRe ?_
                      refine wpq_then ?_
                      refine xSq ?_
                      refine xRg ?_
                      refine xB 4 [(1, 2), (3, 0)] [(1, vp b1 0), (3, vb s20.1), (5, vp b26 0), (6, vi y27), (7, vp b55 0), (34, vs Ap_parts p.parts cp_parts), (35, vi (((p.parts).length : Nat) : Int)), (36, vi ((s20.2 : Nat) : Int)), (57, vy p.kind), (59, vy ((List.getD p.parts ((((s20.2 : Nat) : Int) - 1)).toNat default).kind))] ?_
                      obtain ⟨y56, hy56, hS⟩ := letJ_T hS
                      refine xE (eC 0 (fun g' lr eb ln => C39 g' (p.kind : Int) ((List.getD p.parts ((((s20.2 : Nat) : Int) - 1)).toNat default).kind : Int) hy56)) ?_
                      rintro _ g57 _ e58 ⟨_, rfl, rfl, rfl⟩
                      refine xB 1 [] [(1, vp b1 0), (3, vb s20.1), (5, vp b26 0), (6, vi y27), (7, vp b55 0), (8, vi y56), (34, vs Ap_parts p.parts cp_parts), (35, vi (((p.parts).length : Nat) : Int)), (36, vi ((s20.2 : Nat) : Int))] ?_
                      refine xRe ?_
                      refine wpq_then ?_
                      refine xSq ?_
                      refine xSq ?_
                      refine xRg ?_
                      refine xB 4 [] [(1, vp b1 0), (3, vb s20.1), (5, vp b26 0), (6, vi y27), (7, vp b55 0), (8, vi y56), (34, vs Ap_parts p.parts cp_parts), (35, vi (((p.parts).length : Nat) : Int)), (36, vi ((s20.2 : Nat) : Int)), (64, vb (decide (y27 < y56)))] ?_
                      refine wpr_grp 15 [(1, vp b1 0), (3, vb s20.1), (5, vp b26 0), (6, vi y27), (7, vp b55 0), (8, vi y56), (34, vs Ap_parts p.parts cp_parts), (35, vi (((p.parts).length : Nat) : Int)), (36, vi ((s20.2 : Nat) : Int)), (75, vb (decide (y27 < y56) || ((y27 == y56) && (strLt (List.getD p.parts s20.2 default).name (List.getD p.parts ((((s20.2 : Nat) : Int) - 1)).toNat default).name))))] (fun hk3 => ?_) ?_
                      · refine wpq_split 64 (b := decide (y27 < y56)) (by kernel_rfl) (fun q59 => ?_) (fun q59 => ?_)
                        · have q59p := of_decide_eq_true q59
                          refine xB 11 [] [(1, vp b1 0), (3, vb s20.1), (5, vp b26 0), (6, vi y27), (7, vp b55 0), (8, vi y56), (34, vs Ap_parts p.parts cp_parts), (35, vi (((p.parts).length : Nat) : Int)), (36, vi ((s20.2 : Nat) : Int)), (75, vb true)] ?_
                          refine wpq_re 75 (v := vb true) (Value.bool ((decide (y27 < y56) || ((y27 == y56) && (strLt (List.getD p.parts s20.2 default).name (List.getD p.parts ((((s20.2 : Nat) : Int) - 1)).toNat default).name))))) (by kernel_rfl) (re_or1 q59) ?_
                          exact wpq_sub _ (by kernel_rfl) hk3
                        · have q59p := of_decide_eq_false q59
                          refine xB 4 [] [(1, vp b1 0), (3, vb s20.1), (5, vp b26 0), (6, vi y27), (7, vp b55 0), (8, vi y56), (34, vs Ap_parts p.parts cp_parts), (35, vi (((p.parts).length : Nat) : Int)), (36, vi ((s20.2 : Nat) : Int)), (64, vb false), (68, vb (y27 == y56))] ?_
                          refine wpr_grp 14 [(1, vp b1 0), (3, vb s20.1), (5, vp b26 0), (6, vi y27), (7, vp b55 0), (8, vi y56), (34, vs Ap_parts p.parts cp_parts), (35, vi (((p.parts).length : Nat) : Int)), (36, vi ((s20.2 : Nat) : Int)), (64, vb false), (74, vb ((y27 == y56) && (strLt (List.getD p.parts s20.2 default).name (List.getD p.parts ((((s20.2 : Nat) : Int) - 1)).toNat default).name)))] (fun hk7 => ?_) ?_
                          · refine wpq_split 68 (b := (y27 == y56)) (by kernel_rfl) (fun q60 => ?_) (fun q60 => ?_)
                            · have q60p : y27 = y56 := eq_of_beq q60
                              refine xB 6 [(9, 1), (11, 0)] [(1, vp b1 0), (3, vb s20.1), (5, vp b26 0), (6, vi y27), (7, vp b55 0), (8, vi y56), (34, vs Ap_parts p.parts cp_parts), (35, vi (((p.parts).length : Nat) : Int)), (36, vi ((s20.2 : Nat) : Int)), (64, vb false), (74, vb (strLt (List.getD p.parts s20.2 default).name (List.getD p.parts ((((s20.2 : Nat) : Int) - 1)).toNat default).name))] ?_
                              refine wpq_re 74 (v := vb (strLt (List.getD p.parts s20.2 default).name (List.getD p.parts ((((s20.2 : Nat) : Int) - 1)).toNat default).name)) (Value.bool (((y27 == y56) && (strLt (List.getD p.parts s20.2 default).name (List.getD p.parts ((((s20.2 : Nat) : Int) - 1)).toNat default).name)))) (by kernel_rfl) (re_and1 q60) ?_
                              exact wpq_sub _ (by kernel_rfl) hk7
                            · have q60p : ¬ (y27 = y56) := ne_of_beq_false_ q60
                              refine xB 6 [] [(1, vp b1 0), (3, vb s20.1), (5, vp b26 0), (6, vi y27), (7, vp b55 0), (8, vi y56), (34, vs Ap_parts p.parts cp_parts), (35, vi (((p.parts).length : Nat) : Int)), (36, vi ((s20.2 : Nat) : Int)), (64, vb false), (74, vb false)] ?_
                              refine wpq_re 74 (v := vb false) (Value.bool (((y27 == y56) && (strLt (List.getD p.parts s20.2 default).name (List.getD p.parts ((((s20.2 : Nat) : Int) - 1)).toNat default).name)))) (by kernel_rfl) (re_and0 q60) ?_
                              exact wpq_sub _ (by kernel_rfl) hk7
                          · refine xB 1 [] [(1, vp b1 0), (3, vb s20.1), (5, vp b26 0), (6, vi y27), (7, vp b55 0), (8, vi y56), (34, vs Ap_parts p.parts cp_parts), (35, vi (((p.parts).length : Nat) : Int)), (36, vi ((s20.2 : Nat) : Int)), (75, vb ((y27 == y56) && (strLt (List.getD p.parts s20.2 default).name (List.getD p.parts ((((s20.2 : Nat) : Int) - 1)).toNat default).name)))] ?_
                            refine wpq_re 75 (v := vb ((y27 == y56) && (strLt (List.getD p.parts s20.2 default).name (List.getD p.parts ((((s20.2 : Nat) : Int) - 1)).toNat default).name))) (Value.bool ((decide (y27 < y56) || ((y27 == y56) && (strLt (List.getD p.parts s20.2 default).name (List.getD p.parts ((((s20.2 : Nat) : Int) - 1)).toNat default).name))))) (by kernel_rfl) (re_or0 q59) ?_
                            exact wpq_sub _ (by kernel_rfl) hk3
                      · refine xRe ?_
                        refine wpq_then ?_
                        refine xCd ((decide (y27 < y56) || ((y27 == y56) && (strLt (List.getD p.parts s20.2 default).name (List.getD p.parts ((((s20.2 : Nat) : Int) - 1)).toNat default).name)))) (fun h61 => ?_) (fun h61 => ?_)
                        · have hS := cond_T h61 hS
                          refine xSq ?_
                          refine xRg ?_
                          refine xB 1 [] [(2, vi 9)] ?_
                          refine xRe ?_
                          refine wpq_then ?_
                          have eS := (Option.some.inj hS).symm
                          have eS := (hD31 _ eS).symm
                          have eS := (hD20 _ eS).symm
                          have eS := (hD12 _ eS).symm
                          subst eS
                          exact xRet [] [2] (e4.trans (e7.trans (e22.trans (e29.trans e58)))) ⟨by kernel_rfl, by kernel_rfl⟩ (fun _ _ h => h)
                        · have hS := cond_F h61 hS
                          have h61l := (or_false_ h61).1
                          have h61r := (or_false_ h61).2
                          have h61lp := of_decide_eq_false h61l
                          refine xSk ?_
                          refine wpq_then ?_
                          refine xSub [(1, vp b1 0), (3, vb s20.1), (5, vp b26 0), (6, vi y27), (7, vp b55 0), (8, vi y56), (34, vs Ap_parts p.parts cp_parts), (35, vi (((p.parts).length : Nat) : Int)), (36, vi ((s20.2 : Nat) : Int))] ?_
                          refine xSq ?_
                          refine xRg ?_
                          refine xB 4 [] [(1, vp b1 0), (3, vb s20.1), (5, vp b26 0), (7, vp b55 0), (34, vs Ap_parts p.parts cp_parts), (35, vi (((p.parts).length : Nat) : Int)), (36, vi ((s20.2 : Nat) : Int)), (79, vb (y27 == y56))] ?_
                          refine wpr_grp 10 [(1, vp b1 0), (3, vb s20.1), (5, vp b26 0), (34, vs Ap_parts p.parts cp_parts), (35, vi (((p.parts).length : Nat) : Int)), (36, vi ((s20.2 : Nat) : Int)), (85, vb ((y27 == y56) && ((List.getD p.parts s20.2 default).name == (List.getD p.parts ((((s20.2 : Nat) : Int) - 1)).toNat default).name)))] (fun hk3 => ?_) ?_
                          · refine wpq_split 79 (b := (y27 == y56)) (by kernel_rfl) (fun q62 => ?_) (fun q62 => ?_)
                            · have q62p : y27 = y56 := eq_of_beq q62
                              refine xB 4 [(5, 1), (7, 0)] [(1, vp b1 0), (3, vb s20.1), (5, vp b26 0), (34, vs Ap_parts p.parts cp_parts), (35, vi (((p.parts).length : Nat) : Int)), (36, vi ((s20.2 : Nat) : Int)), (79, vb true), (81, vt ((List.getD p.parts s20.2 default).name)), (83, vt ((List.getD p.parts ((((s20.2 : Nat) : Int) - 1)).toNat default).name))] ?_
                              refine xV (qEqS ((List.getD p.parts s20.2 default).name) ((List.getD p.parts ((((s20.2 : Nat) : Int) - 1)).toNat default).name)) ?_
                              refine xB 1 [] [(1, vp b1 0), (3, vb s20.1), (5, vp b26 0), (34, vs Ap_parts p.parts cp_parts), (35, vi (((p.parts).length : Nat) : Int)), (36, vi ((s20.2 : Nat) : Int)), (85, vb ((List.getD p.parts s20.2 default).name == (List.getD p.parts ((((s20.2 : Nat) : Int) - 1)).toNat default).name))] ?_
                              refine wpq_re 85 (v := vb ((List.getD p.parts s20.2 default).name == (List.getD p.parts ((((s20.2 : Nat) : Int) - 1)).toNat default).name)) (Value.bool (((y27 == y56) && ((List.getD p.parts s20.2 default).name == (List.getD p.parts ((((s20.2 : Nat) : Int) - 1)).toNat default).name)))) (by kernel_rfl) (re_and1 q62) ?_
                              exact wpq_sub _ (by kernel_rfl) hk3
                            · have q62p : ¬ (y27 = y56) := ne_of_beq_false_ q62
                              refine xB 6 [] [(1, vp b1 0), (3, vb s20.1), (5, vp b26 0), (34, vs Ap_parts p.parts cp_parts), (35, vi (((p.parts).length : Nat) : Int)), (36, vi ((s20.2 : Nat) : Int)), (85, vb false)] ?_
                              refine wpq_re 85 (v := vb false) (Value.bool (((y27 == y56) && ((List.getD p.parts s20.2 default).name == (List.getD p.parts ((((s20.2 : Nat) : Int) - 1)).toNat default).name)))) (by kernel_rfl) (re_and0 q62) ?_
                              exact wpq_sub _ (by kernel_rfl) hk3
                          · refine xRe ?_
                            refine wpq_then ?_
                            refine xCd (((y27 == y56) && ((List.getD p.parts s20.2 default).name == (List.getD p.parts ((((s20.2 : Nat) : Int) - 1)).toNat default).name))) (fun h63 => ?_) (fun h63 => ?_)
                            · have hS := cond_T h63 hS
                              have h63l := (and_true_ h63).1
                              have h63r := (and_true_ h63).2
                              have h63lp : y27 = y56 := eq_of_beq h63l
                              have h63rp : (List.getD p.parts s20.2 default).name = (List.getD p.parts ((((s20.2 : Nat) : Int) - 1)).toNat default).name := eq_of_beq h63r
                              refine xSq ?_
                              refine xRg ?_
                              refine xB 1 [] [(2, vi 7)] ?_
                              refine xRe ?_
                              refine wpq_then ?_
                              have eS := (Option.some.inj hS).symm
                              have eS := (hD31 _ eS).symm
                              have eS := (hD20 _ eS).symm
                              have eS := (hD12 _ eS).symm
                              subst eS
                              exact xRet [] [2] (e4.trans (e7.trans (e22.trans (e29.trans e58)))) ⟨by kernel_rfl, by kernel_rfl⟩ (fun _ _ h => h)
                            · have hS := cond_F h63 hS
                              refine xSk ?_
                              refine xSel [some 1, some 2] ?_
                              refine xSub [(1, vp b1 0), (3, vb s20.1), (5, vp b26 0), (34, vs Ap_parts p.parts cp_parts), (35, vi (((p.parts).length : Nat) : Int)), (36, vi ((s20.2 : Nat) : Int))] ?_
                              have eS := (Option.some.inj hS).symm
                              exact hN31 _ eS _ _ _ e58 ⟨by kernel_rfl, by kernel_rfl⟩
                    · have hS := cond_F h51 hS
                      have h51p := of_decide_eq_false h51
                      refine xSk ?_
                      refine xSub [(1, vp b1 0), (3, vb s20.1), (5, vp b26 0), (34, vs Ap_parts p.parts cp_parts), (35, vi (((p.parts).length : Nat) : Int)), (36, vi ((s20.2 : Nat) : Int))] ?_
                      have eS := (Option.some.inj hS).symm
                      exact hN31 _ eS _ _ _ (Gh.le.refl _) ⟨by kernel_rfl, by kernel_rfl⟩
              · have hS := cond_F h23 hS
                have h23p := of_decide_eq_false h23
                refine xEx 0 ?_
                refine wpq_thenX ?_
                refine wpq_thenX ?_
                refine wpq_blockE ?_
                refine xSub [(1, vp b1 0), (3, vb s20.1)] ?_
                have eS := (Option.some.inj hS).symm
                have eS := (hD20 _ eS).symm
                exact hN12 _ eS _ _ _ e22 ⟨by kernel_rfl, by kernel_rfl⟩
  · intro uu5 hS hN5
    refine wpq_split 15 (b := (!y2)) (by kernel_rfl) (fun q64 => ?_) (fun q64 => ?_)
    · have hS := cond_T q64 hS
      have q64n := not_eq_true_ q64
      refine xB 5 [] [(1, vp b1 0), (20, vb true)] ?_
      refine xSub [(1, vp b1 0), (20, vb true)] ?_
      exact hN5 _ (Option.some.inj hS).symm _ _ _ (Gh.le.refl _) ⟨by kernel_rfl, by kernel_rfl⟩
    · have hS := cond_F q64 hS
      have q64n := not_eq_false_ q64
      refine xB 2 [(6, 0)] [(1, vp b1 0), (15, vb false), (17, vt p.name)] ?_
      obtain ⟨y65, hy65, hS⟩ := bindO_T hS
      refine xE (eC 0 (fun g' lr eb ln => C38 g' p.name (8 : Int) hy65)) ?_
      rintro _ g66 _ e67 ⟨_, rfl, rfl, rfl⟩
      refine xB 2 [] [(1, vp b1 0), (20, vb (!y65))] ?_
      refine xSub [(1, vp b1 0), (20, vb (!y65))] ?_
      exact hN5 _ (Option.some.inj hS).symm _ _ _ e67 ⟨by kernel_rfl, by kernel_rfl⟩

def o16_L0 (p : Proc) (k : Int) (s7 : (List (List UInt8)) × Nat) : Option (Ctl ((List (List UInt8)) × Nat) ((List (List UInt8)))) :=
  (cond (decide (((s7.2 : Nat) : Int) < (((p.parts).length : Nat) : Int))) (bindO (τ := (List (List UInt8))) (cond (((List.getD p.parts s7.2 default).kind == k)) (grd (decide (((s7.1).length + (([((List.getD p.parts s7.2 default).name : List UInt8)] : List (List UInt8))).length) * 16 ≤ 140737488355328)) (some (((s7.1 ++ ([((List.getD p.parts s7.2 default).name : List UInt8)] : List (List UInt8))) : List (List UInt8))))) (some ((s7.1 : List (List UInt8))))) fun t14 => (grd (decide (((s7.2 : Nat) : Int) + 1 ≤ 9223372036854775807)) (some (Ctl.go ((t14 : List (List UInt8)), (s7.2 + 1)))))) (some (Ctl.done ((s7.1 : List (List UInt8))))))
def o16 (p : Proc) (k : Int) : Option ((List (List UInt8))) :=
  (bindO (τ := (List (List UInt8))) (loopO (σ := (List (List UInt8)) × Nat) (ρ := (List (List UInt8))) fuelN (o16_L0 p k) (([] : List (List UInt8)), 0)) fun t2 => (some ((t2 : List (List UInt8)))))
set_option maxRecDepth 100000 in
theorem C16 (g : Gh) (p : Proc) (Ap_parts : Option Addr) (cp_parts : Nat) (k : Int) (fp_parts : Arr g.r tyPart Ap_parts cp_parts p.parts) {r : (List (List UInt8))} (hS : o16 p k = some r) :
    Ctr Tryd.prog 16 [Value.agg #[vt p.airport, vt p.name, vy p.kind, vs Ap_parts p.parts cp_parts], vy k] g [] (fun v ψ o => ∃ (Ar_0 : Option Addr) (cr_0 : Nat) (kr_0 : Option Bk), v = vs Ar_0 r cr_0 ∧ o = [kr_0] ∧ Buf ψ tyS 9 (.slice Ar_0 (r).length cr_0) kr_0 r) := by
  unfold o16 at hS
  refine xFn Tryd.f16 (Tryd.f16.body.getD .skip) 26 ?_
  have nfp_parts := fp_parts.len
  refine xSq ?_
  refine xRg ?_
  refine xE eB ?_
  rintro _ _ _ - ⟨b1, rfl, rfl, rfl⟩
  refine xB 1 [] [(1, vy k), (2, vp b1 0)] ?_
  refine xRe ?_
  refine wpq_then ?_
  refine xSq ?_
  refine xRg ?_
  refine xB 1 [] [(1, vy k), (2, vp b1 0), (5, Value.slice none 0 0)] ?_
  refine xRe ?_
  refine wpq_then ?_
  refine xSq ?_
  refine xSq ?_
  refine xRg ?_
  refine xB 4 [(1, 0)] [(1, vy k), (5, Value.slice none 0 0), (9, vs Ap_parts p.parts cp_parts), (10, vi (((p.parts).length : Nat) : Int)), (11, vi 0)] ?_
  refine xRe ?_
  refine wpq_then ?_
  refine xBindO hS (fun g own sl t2 => ∃ (A2_0 : Option Addr) (c2_0 : Nat) (k2_0 : Option Bk), own = [k2_0] ∧ sl = [(5, vs A2_0 t2 c2_0)] ∧ Buf g.b tyS 9 (.slice A2_0 (t2).length c2_0) k2_0 t2) ?_ ?_
  · rintro g3 _ _ t2 e4 ⟨A2_0, c2_0, k2_0, rfl, rfl, h2_0⟩ hS
    have nh2_0 := h2_0.len
    refine wpq_then ?_
    refine xSq ?_
    refine xRg ?_
    refine xB 2 [] [(4, vs A2_0 t2 c2_0)] ?_
    refine xRe ?_
    refine wpq_then ?_
    have eS := (Option.some.inj hS).symm
    subst eS
    exact xRet [some 0] [4] e4 ⟨A2_0, c2_0, k2_0, by kernel_rfl, by kernel_rfl, h2_0⟩ (fun _ _ h => h)
  · intro uu2 hS hN2
    refine xBl 0 ?_
    refine xSel [none] ?_
    refine xSub [(1, vy k), (5, Value.slice none 0 0), (9, vs Ap_parts p.parts cp_parts), (10, vi (((p.parts).length : Nat) : Int)), (11, vi 0)] ?_
    refine xLo hS (fun g own sl s7 => ∃ (A7_0 : Option Addr) (c7_0 : Nat) (k7_0 : Option Bk), own = [k7_0] ∧ sl = [(1, vy k), (5, vs A7_0 s7.1 c7_0), (9, vs Ap_parts p.parts cp_parts), (10, vi (((p.parts).length : Nat) : Int)), (11, vi ((s7.2 : Nat) : Int))] ∧ Buf g.b tyS 9 (.slice A7_0 (s7.1).length c7_0) k7_0 s7.1) ⟨none, 0, none, by kernel_rfl, by kernel_rfl, Buf.nil⟩ ?_
    rintro g8 _ _ s7 uu7 e9 ⟨A7_0, c7_0, k7_0, rfl, rfl, h7_0⟩ hS Qr7 hN7 hD7
    have nh7_0 := h7_0.len
    unfold o16_L0 at hS
    refine xSq ?_
    refine xRg ?_
    refine xB 1 [] [(1, vy k), (5, vs A7_0 s7.1 c7_0), (9, vs Ap_parts p.parts cp_parts), (10, vi (((p.parts).length : Nat) : Int)), (11, vi ((s7.2 : Nat) : Int)), (12, vb (decide (((s7.2 : Nat) : Int) < (((p.parts).length : Nat) : Int))))] ?_
    refine xRe ?_
    refine wpq_then ?_
    refine xSq ?_
    refine xCd (decide (((s7.2 : Nat) : Int) < (((p.parts).length : Nat) : Int))) (fun h10 => ?_) (fun h10 => ?_)
    · have hS := cond_T h10 hS
      have h10p := of_decide_eq_true h10
      refine xSk ?_
      refine wpq_then ?_
      refine xSub [(1, vy k), (5, vs A7_0 s7.1 c7_0), (9, vs Ap_parts p.parts cp_parts), (10, vi (((p.parts).length : Nat) : Int)), (11, vi ((s7.2 : Nat) : Int))] ?_
      refine xSq ?_
      refine xBl 1 ?_
      refine xSq ?_
      refine xRg ?_
      have fp_parts := fp_parts.mono e9.r
      have i12 : s7.2 < (p.parts).length := by omega
      obtain ⟨ad11, cs11, hA11, hr11, hc11⟩ := fp_parts.at_ (get_getD (d := default) i12)
      obtain ⟨A11_legs, c11_legs, rfl, f11_legs⟩ := hr11
      have nf11_legs := f11_legs.len
      refine xV (qIx s7.2 3 hA11 rfl i12) ?_
      refine xV (qLdP (Addr.add ad11 (s7.2 * 3)) 0 hc11) ?_
      refine xE eB ?_
      rintro _ _ _ - ⟨b13, rfl, rfl, rfl⟩
      refine xBo 1 [(3, 0)] [some ⟨b13, 35, [vy ((List.getD p.parts s7.2 default).kind), vt ((List.getD p.parts s7.2 default).name), vs A11_legs ((List.getD p.parts s7.2 default).legs) c11_legs]⟩, k7_0] [(1, vy k), (5, vs A7_0 s7.1 c7_0), (7, vp b13 0), (9, vs Ap_parts p.parts cp_parts), (10, vi (((p.parts).length : Nat) : Int)), (11, vi ((s7.2 : Nat) : Int))] ?_
      refine xRe ?_
      refine wpq_then ?_
      refine xSq ?_
      refine xRg ?_
      refine xB 4 [(1, 0)] [(1, vy k), (5, vs A7_0 s7.1 c7_0), (7, vp b13 0), (9, vs Ap_parts p.parts cp_parts), (10, vi (((p.parts).length : Nat) : Int)), (11, vi ((s7.2 : Nat) : Int)), (18, vb ((List.getD p.parts s7.2 default).kind == k))] ?_
      refine xRe ?_
      refine wpq_then ?_
      refine xBindO hS (fun g own sl t14 => ∃ (A14_0 : Option Addr) (c14_0 : Nat) (k14_0 : Option Bk), own = [k14_0] ∧ sl = [(1, vy k), (5, vs A14_0 t14 c14_0), (9, vs Ap_parts p.parts cp_parts), (10, vi (((p.parts).length : Nat) : Int)), (11, vi ((s7.2 : Nat) : Int))] ∧ Buf g.b tyS 9 (.slice A14_0 (t14).length c14_0) k14_0 t14) ?_ ?_
      · rintro g15 _ _ t14 e16 ⟨A14_0, c14_0, k14_0, rfl, rfl, h14_0⟩ hS
        have nh14_0 := h14_0.len
        refine wpq_blockN ?_
        refine wpq_then ?_
        refine xRg ?_
        obtain ⟨q17, hS⟩ := grd_T hS
        have q17p := of_decide_eq_true q17
        refine xV (qAdd .i64 (((s7.2 : Nat) : Int)) (1) (wr64 (by omega))) ?_
        refine xB 1 [] [(1, vy k), (5, vs A14_0 t14 c14_0), (9, vs Ap_parts p.parts cp_parts), (10, vi (((p.parts).length : Nat) : Int)), (11, vi (((s7.2 : Nat) : Int) + 1))] ?_
        refine xRe ?_
        refine wpq_thenN ?_
        refine xSub [(1, vy k), (5, vs A14_0 t14 c14_0), (9, vs Ap_parts p.parts cp_parts), (10, vi (((p.parts).length : Nat) : Int)), (11, vi (((s7.2 : Nat) : Int) + 1))] ?_
        have eS := (Option.some.inj hS).symm
        exact hN7 _ eS _ _ _ e16 ⟨A14_0, c14_0, k14_0, by kernel_rfl, by kernel_rfl, h14_0⟩
      · intro uu14 hS hN14
        refine xCd (((List.getD p.parts s7.2 default).kind == k)) (fun h18 => ?_) (fun h18 => ?_)
        · have hS := cond_T h18 hS
          have h18p : (List.getD p.parts s7.2 default).kind = k := eq_of_beq h18
          refine xRg ?_
          refine xB 3 [(2, 0)] [(1, vy k), (5, vs A7_0 s7.1 c7_0), (9, vs Ap_parts p.parts cp_parts), (10, vi (((p.parts).length : Nat) : Int)), (11, vi ((s7.2 : Nat) : Int)), (19, vs A7_0 s7.1 c7_0), (21, vt ((List.getD p.parts s7.2 default).name))] ?_
          refine xE (eBs (T := tyS) (p := g8.b) (et := 9) (xs := ([((List.getD p.parts s7.2 default).name : List UInt8)] : List (List UInt8))) (reps_cons (c := [vt ((List.getD p.parts s7.2 default).name)]) (show tyS.rep _ _ _ from rfl) reps_nil) (by simp)) ?_
          rintro _ _ _ - ⟨A19, c19, k19, rfl, rfl, rfl, h19⟩
          obtain ⟨nw20, hp20, hs20⟩ := h19.srcO (g := g8)
          obtain ⟨q21, hS⟩ := grd_T hS
          have q21p := of_decide_eq_true q21
          refine xE (eApp (T := tyS) (p := g8.b) (et := 9) (bytes := 16) (xs := (s7.1 : List (List UInt8))) (ys := (([((List.getD p.parts s7.2 default).name : List UInt8)] : List (List UInt8)) : List (List UInt8))) 2 h7_0 rfl (fun w hs => hs20 0 w _ hs (by kernel_rfl)) hp20 (by first | omega | (simp only [List.length_cons, List.length_nil] at *; omega)) (by first | omega | (simp only [List.length_cons, List.length_nil] at *; omega))) ?_
          rintro _ _ _ - ⟨A20, c20, k20, rfl, rfl, rfl, h20⟩
          have nh20 := h20.len
          have hz20 : ((s7.1 ++ ([((List.getD p.parts s7.2 default).name : List UInt8)] : List (List UInt8))) : List (List UInt8)).length = (s7.1).length + (([((List.getD p.parts s7.2 default).name : List UInt8)] : List (List UInt8))).length := List.length_append
          refine xB 1 [] [(1, vy k), (5, vs A20 (s7.1 ++ ([((List.getD p.parts s7.2 default).name : List UInt8)] : List (List UInt8))) c20), (9, vs Ap_parts p.parts cp_parts), (10, vi (((p.parts).length : Nat) : Int)), (11, vi ((s7.2 : Nat) : Int))] ?_
          refine xRe ?_
          refine xSel [some 2] ?_
          refine xSub [(1, vy k), (5, vs A20 (s7.1 ++ ([((List.getD p.parts s7.2 default).name : List UInt8)] : List (List UInt8))) c20), (9, vs Ap_parts p.parts cp_parts), (10, vi (((p.parts).length : Nat) : Int)), (11, vi ((s7.2 : Nat) : Int))] ?_
          have eS := (Option.some.inj hS).symm
          exact hN14 _ eS _ _ _ (Gh.le.refl _) ⟨A20, c20, k20, by kernel_rfl, by kernel_rfl, h20⟩
        · have hS := cond_F h18 hS
          have h18p : ¬ ((List.getD p.parts s7.2 default).kind = k) := ne_of_beq_false_ h18
          refine xSk ?_
          refine xSel [some 1] ?_
          refine xSub [(1, vy k), (5, vs A7_0 s7.1 c7_0), (9, vs Ap_parts p.parts cp_parts), (10, vi (((p.parts).length : Nat) : Int)), (11, vi ((s7.2 : Nat) : Int))] ?_
          have eS := (Option.some.inj hS).symm
          exact hN14 _ eS _ _ _ (Gh.le.refl _) ⟨A7_0, c7_0, k7_0, by kernel_rfl, by kernel_rfl, h7_0⟩
    · have hS := cond_F h10 hS
      have h10p := of_decide_eq_false h10
      refine xEx 0 ?_
      refine wpq_thenX ?_
      refine wpq_thenX ?_
      refine wpq_blockE ?_
      refine xSub [(5, vs A7_0 s7.1 c7_0)] ?_
      have eS := (Option.some.inj hS).symm
      have eS := (hD7 _ eS).symm
      exact hN2 _ eS _ _ _ e9 ⟨A7_0, c7_0, k7_0, by kernel_rfl, by kernel_rfl, h7_0⟩

def o18_L0 (p : Proc) (k : Int) (name : List UInt8) (s8 : Nat) : Option (Ctl (Nat) (Ctl (Unit) (Part × Bool))) :=
  (cond (decide (((s8 : Nat) : Int) < (((p.parts).length : Nat) : Int))) (cond ((((List.getD p.parts s8 default).kind == k) && ((List.getD p.parts s8 default).name == name))) (some (Ctl.done (Ctl.done (((List.getD p.parts s8 default), (true)))))) (grd (decide (((s8 : Nat) : Int) + 1 ≤ 9223372036854775807)) (some (Ctl.go (s8 + 1))))) (some (Ctl.done (Ctl.go ()))))
def o18 (p : Proc) (k : Int) (name : List UInt8) : Option (Part × Bool) :=
  (joinO (τ := Unit) (ρ := Part × Bool) (loopO (σ := Nat) (ρ := Ctl (Unit) (Part × Bool)) fuelN (o18_L0 p k name) (0)) fun t3 => (some (((⟨0, ([] : List UInt8), ([] : List Leg)⟩ : Part), (false)))))
set_option maxRecDepth 100000 in
theorem C18 (g : Gh) (p : Proc) (Ap_parts : Option Addr) (cp_parts : Nat) (k : Int) (name : List UInt8) (fp_parts : Arr g.b tyPart Ap_parts cp_parts p.parts) {r : Part × Bool} (hS : o18 p k name = some r) :
    Ctr Tryd.prog 18 [Value.agg #[vt p.airport, vt p.name, vy p.kind, vs Ap_parts p.parts cp_parts], vy k, vt name] g [] (fun v ψ o => ∃ (Ar_0_legs : Option Addr) (cr_0_legs : Nat), v = Value.tuple #[Value.agg #[vy r.1.kind, vt r.1.name, vs Ar_0_legs r.1.legs cr_0_legs], vb r.2] ∧ o = [] ∧ Arr ψ tyLeg Ar_0_legs cr_0_legs r.1.legs) := by
  unfold o18 at hS
  refine xFn Tryd.f18 (Tryd.f18.body.getD .skip) 30 ?_
  have nfp_parts := fp_parts.len
  refine xSq ?_
  refine xRg ?_
  refine xE eB ?_
  rintro _ _ _ - ⟨b1, rfl, rfl, rfl⟩
  refine xE eB ?_
  rintro _ _ _ - ⟨b2, rfl, rfl, rfl⟩
  refine xB 1 [] [(1, vy k), (2, vt name), (3, vp b1 0), (6, vp b2 0)] ?_
  refine xRe ?_
  refine wpq_then ?_
  refine xSq ?_
  refine xSq ?_
  refine xRg ?_
  refine xB 4 [(1, 1)] [(1, vy k), (2, vt name), (6, vp b2 0), (11, vs Ap_parts p.parts cp_parts), (12, vi (((p.parts).length : Nat) : Int)), (13, vi 0)] ?_
  refine xRe ?_
  refine wpq_then ?_
  refine xJoinO hS (fun g own sl t3 => own = [some ⟨b2, 35, [vy 0, vt ([]), Value.slice none 0 0]⟩] ∧ sl = [(6, vp b2 0)]) ?_ ?_
  · rintro g4 _ _ t3 e5 ⟨rfl, rfl⟩ hS
    refine wpq_then ?_
    refine xSq ?_
    refine xRg ?_
    refine xBo 3 [(1, 0)] [some ⟨b2, 35, [vy 0, vt ([]), Value.slice none 0 0]⟩] [(6, vp b2 0), (7, vb false)] ?_
    refine xRe ?_
    refine wpq_then ?_
    have eS := (Option.some.inj hS).symm
    subst eS
    exact xRetC [] [(6, 0)] e5 ⟨none, 0, by kernel_rfl, by kernel_rfl, Arr.nil⟩ (fun _ _ h => h)
  · intro uu3 hS hN3 hD3
    refine xBl 0 ?_
    refine xSel [some 0] ?_
    refine xSub [(1, vy k), (2, vt name), (6, vp b2 0), (11, vs Ap_parts p.parts cp_parts), (12, vi (((p.parts).length : Nat) : Int)), (13, vi 0)] ?_
    refine xLo hS (fun g own sl s8 => own = [some ⟨b2, 35, [vy 0, vt ([]), Value.slice none 0 0]⟩] ∧ sl = [(1, vy k), (2, vt name), (6, vp b2 0), (11, vs Ap_parts p.parts cp_parts), (12, vi (((p.parts).length : Nat) : Int)), (13, vi ((s8 : Nat) : Int))]) ⟨by kernel_rfl, by kernel_rfl⟩ ?_
    rintro g9 _ _ s8 uu8 e10 ⟨rfl, rfl⟩ hS Qr8 hN8 hD8
    unfold o18_L0 at hS
    refine xSq ?_
    refine xRg ?_
    refine xB 1 [] [(1, vy k), (2, vt name), (6, vp b2 0), (11, vs Ap_parts p.parts cp_parts), (12, vi (((p.parts).length : Nat) : Int)), (13, vi ((s8 : Nat) : Int)), (14, vb (decide (((s8 : Nat) : Int) < (((p.parts).length : Nat) : Int))))] ?_
    refine xRe ?_
    refine wpq_then ?_
    refine xSq ?_
    refine xCd (decide (((s8 : Nat) : Int) < (((p.parts).length : Nat) : Int))) (fun h11 => ?_) (fun h11 => ?_)
    · have hS := cond_T h11 hS
      have h11p := of_decide_eq_true h11
      refine xSk ?_
      refine wpq_then ?_
      refine xSub [(1, vy k), (2, vt name), (6, vp b2 0), (11, vs Ap_parts p.parts cp_parts), (12, vi (((p.parts).length : Nat) : Int)), (13, vi ((s8 : Nat) : Int))] ?_
      refine xSq ?_
      refine xBl 1 ?_
      refine xSq ?_
      refine xRg ?_
      have fp_parts := fp_parts.mono e10.b
      have i13 : s8 < (p.parts).length := by omega
      obtain ⟨ad12, cs12, hA12, hr12, hc12⟩ := fp_parts.at_ (get_getD (d := default) i13)
      obtain ⟨A12_legs, c12_legs, rfl, f12_legs⟩ := hr12
      have nf12_legs := f12_legs.len
      refine xV (qIx s8 3 hA12 rfl i13) ?_
      refine xV (qLdP (Addr.add ad12 (s8 * 3)) 0 (hc12.mono g9.br)) ?_
      refine xE eB ?_
      rintro _ _ _ - ⟨b14, rfl, rfl, rfl⟩
      refine xBo 1 [(3, 0)] [some ⟨b14, 35, [vy ((List.getD p.parts s8 default).kind), vt ((List.getD p.parts s8 default).name), vs A12_legs ((List.getD p.parts s8 default).legs) c12_legs]⟩, some ⟨b2, 35, [vy 0, vt ([]), Value.slice none 0 0]⟩] [(1, vy k), (2, vt name), (6, vp b2 0), (9, vp b14 0), (11, vs Ap_parts p.parts cp_parts), (12, vi (((p.parts).length : Nat) : Int)), (13, vi ((s8 : Nat) : Int))] ?_
      refine xRe ?_
      refine wpq_then ?_
      refine xSq ?_
      refine xRg ?_
      refine xB 5 [(1, 0)] [(1, vy k), (2, vt name), (6, vp b2 0), (9, vp b14 0), (11, vs Ap_parts p.parts cp_parts), (12, vi (((p.parts).length : Nat) : Int)), (13, vi ((s8 : Nat) : Int)), (21, vb ((List.getD p.parts s8 default).kind == k))] ?_
      refine wpr_grp 10 [(1, vy k), (2, vt name), (6, vp b2 0), (9, vp b14 0), (11, vs Ap_parts p.parts cp_parts), (12, vi (((p.parts).length : Nat) : Int)), (13, vi ((s8 : Nat) : Int)), (26, vb (((List.getD p.parts s8 default).kind == k) && ((List.getD p.parts s8 default).name == name)))] (fun hk4 => ?_) ?_
      · refine wpq_split 21 (b := ((List.getD p.parts s8 default).kind == k)) (by kernel_rfl) (fun q15 => ?_) (fun q15 => ?_)
        · have q15p : (List.getD p.parts s8 default).kind = k := eq_of_beq q15
          refine xB 3 [(6, 0)] [(1, vy k), (2, vt name), (6, vp b2 0), (9, vp b14 0), (11, vs Ap_parts p.parts cp_parts), (12, vi (((p.parts).length : Nat) : Int)), (13, vi ((s8 : Nat) : Int)), (21, vb true), (23, vt ((List.getD p.parts s8 default).name)), (24, vt name)] ?_
          refine xV (qEqS ((List.getD p.parts s8 default).name) (name)) ?_
          refine xB 1 [] [(1, vy k), (2, vt name), (6, vp b2 0), (9, vp b14 0), (11, vs Ap_parts p.parts cp_parts), (12, vi (((p.parts).length : Nat) : Int)), (13, vi ((s8 : Nat) : Int)), (26, vb ((List.getD p.parts s8 default).name == name))] ?_
          refine wpq_re 26 (v := vb ((List.getD p.parts s8 default).name == name)) (Value.bool ((((List.getD p.parts s8 default).kind == k) && ((List.getD p.parts s8 default).name == name)))) (by kernel_rfl) (re_and1 q15) ?_
          exact wpq_sub _ (by kernel_rfl) hk4
        · have q15p : ¬ ((List.getD p.parts s8 default).kind = k) := ne_of_beq_false_ q15
          refine xB 5 [] [(1, vy k), (2, vt name), (6, vp b2 0), (9, vp b14 0), (11, vs Ap_parts p.parts cp_parts), (12, vi (((p.parts).length : Nat) : Int)), (13, vi ((s8 : Nat) : Int)), (26, vb false)] ?_
          refine wpq_re 26 (v := vb false) (Value.bool ((((List.getD p.parts s8 default).kind == k) && ((List.getD p.parts s8 default).name == name)))) (by kernel_rfl) (re_and0 q15) ?_
          exact wpq_sub _ (by kernel_rfl) hk4
      · refine xRe ?_
        refine wpq_then ?_
        refine xCd ((((List.getD p.parts s8 default).kind == k) && ((List.getD p.parts s8 default).name == name))) (fun h16 => ?_) (fun h16 => ?_)
        · have hS := cond_T h16 hS
          have h16l := (and_true_ h16).1
          have h16r := (and_true_ h16).2
          have h16lp : (List.getD p.parts s8 default).kind = k := eq_of_beq h16l
          have h16rp : (List.getD p.parts s8 default).name = name := eq_of_beq h16r
          refine xSq ?_
          refine xRg ?_
          refine xBo 3 [(0, 0), (1, 1)] [some ⟨b14, 35, [vy ((List.getD p.parts s8 default).kind), vt ((List.getD p.parts s8 default).name), vs A12_legs ((List.getD p.parts s8 default).legs) c12_legs]⟩, some ⟨b2, 35, [vy ((List.getD p.parts s8 default).kind), vt ((List.getD p.parts s8 default).name), vs A12_legs ((List.getD p.parts s8 default).legs) c12_legs]⟩] [(6, vp b2 0), (7, vb true)] ?_
          refine xRe ?_
          refine wpq_then ?_
          have eS := (Option.some.inj hS).symm
          have eS := (hD8 _ eS).symm
          have eS := (hD3 _ eS).symm
          subst eS
          exact xRetC [] [(6, 1)] e10 ⟨A12_legs, c12_legs, by kernel_rfl, by kernel_rfl, f12_legs⟩ (fun _ _ h => h)
        · have hS := cond_F h16 hS
          refine xSk ?_
          refine wpq_blockN ?_
          refine wpq_then ?_
          refine xSub [(1, vy k), (2, vt name), (6, vp b2 0), (11, vs Ap_parts p.parts cp_parts), (12, vi (((p.parts).length : Nat) : Int)), (13, vi ((s8 : Nat) : Int))] ?_
          refine xRg ?_
          obtain ⟨q17, hS⟩ := grd_T hS
          have q17p := of_decide_eq_true q17
          refine xV (qAdd .i64 (((s8 : Nat) : Int)) (1) (wr64 (by omega))) ?_
          refine xB 1 [] [(1, vy k), (2, vt name), (6, vp b2 0), (11, vs Ap_parts p.parts cp_parts), (12, vi (((p.parts).length : Nat) : Int)), (13, vi (((s8 : Nat) : Int) + 1))] ?_
          refine xRe ?_
          refine wpq_thenN ?_
          refine xSel [some 1] ?_
          refine xSub [(1, vy k), (2, vt name), (6, vp b2 0), (11, vs Ap_parts p.parts cp_parts), (12, vi (((p.parts).length : Nat) : Int)), (13, vi (((s8 : Nat) : Int) + 1))] ?_
          have eS := (Option.some.inj hS).symm
          exact hN8 _ eS _ _ _ (Gh.le.refl _) ⟨by kernel_rfl, by kernel_rfl⟩
    · have hS := cond_F h11 hS
      have h11p := of_decide_eq_false h11
      refine xEx 0 ?_
      refine wpq_thenX ?_
      refine wpq_thenX ?_
      refine wpq_blockE ?_
      refine xSub [(6, vp b2 0)] ?_
      have eS := (Option.some.inj hS).symm
      have eS := (hD8 _ eS).symm
      exact hN3 _ eS _ _ _ e10 ⟨by kernel_rfl, by kernel_rfl⟩

def o43 (t : Int) : Bool :=
  ((((decide (t ≥ 1) && decide (t ≤ 6)) || (decide (t ≥ 14) && decide (t ≤ 17)))))
set_option maxRecDepth 100000 in
theorem C43 (g : Gh) (t : Int) {r : Bool} (hS : o43 t = r) :
    Ctr Tryd.prog 43 [vy t] g [] (fun v ψ o => v = vb r ∧ o = []) := by
  unfold o43 at hS
  refine xFn Tryd.f43 (Tryd.f43.body.getD .skip) 17 ?_
  refine xSq ?_
  refine xRg ?_
  refine xB 1 [] [(0, vy t)] ?_
  refine xRe ?_
  refine wpq_then ?_
  refine xSq ?_
  refine xRg ?_
  refine xB 3 [] [(0, vy t), (5, vb (decide (t ≥ 1)))] ?_
  refine wpr_grp 6 [(0, vy t), (8, vb (decide (t ≥ 1) && decide (t ≤ 6)))] (fun hk2 => ?_) ?_
  · refine wpq_split 5 (b := decide (t ≥ 1)) (by kernel_rfl) (fun q1 => ?_) (fun q1 => ?_)
    · have q1p := of_decide_eq_true q1
      refine xB 3 [] [(0, vy t), (8, vb (decide (t ≤ 6)))] ?_
      refine wpq_re 8 (v := vb (decide (t ≤ 6))) (Value.bool ((decide (t ≥ 1) && decide (t ≤ 6)))) (by kernel_rfl) (re_and1 q1) ?_
      exact wpq_sub _ (by kernel_rfl) hk2
    · have q1p := of_decide_eq_false q1
      refine xB 3 [] [(0, vy t), (8, vb false)] ?_
      refine wpq_re 8 (v := vb false) (Value.bool ((decide (t ≥ 1) && decide (t ≤ 6)))) (by kernel_rfl) (re_and0 q1) ?_
      exact wpq_sub _ (by kernel_rfl) hk2
  · refine xB 1 [] [(0, vy t), (9, vb (decide (t ≥ 1) && decide (t ≤ 6)))] ?_
    refine wpr_grp 14 [(16, vb ((decide (t ≥ 1) && decide (t ≤ 6)) || (decide (t ≥ 14) && decide (t ≤ 17))))] (fun hk6 => ?_) ?_
    · refine wpq_split 9 (b := (decide (t ≥ 1) && decide (t ≤ 6))) (by kernel_rfl) (fun q2 => ?_) (fun q2 => ?_)
      · have q2l := (and_true_ q2).1
        have q2r := (and_true_ q2).2
        have q2lp := of_decide_eq_true q2l
        have q2rp := of_decide_eq_true q2r
        refine xB 7 [] [(16, vb true)] ?_
        refine wpq_re 16 (v := vb true) (Value.bool (((decide (t ≥ 1) && decide (t ≤ 6)) || (decide (t ≥ 14) && decide (t ≤ 17))))) (by kernel_rfl) (re_or1 q2) ?_
        exact wpq_sub _ (by kernel_rfl) hk6
      · refine xB 3 [] [(0, vy t), (9, vb false), (12, vb (decide (t ≥ 14)))] ?_
        refine wpr_grp 13 [(9, vb false), (15, vb (decide (t ≥ 14) && decide (t ≤ 17)))] (fun hk9 => ?_) ?_
        · refine wpq_split 12 (b := decide (t ≥ 14)) (by kernel_rfl) (fun q3 => ?_) (fun q3 => ?_)
          · have q3p := of_decide_eq_true q3
            refine xB 3 [] [(9, vb false), (15, vb (decide (t ≤ 17)))] ?_
            refine wpq_re 15 (v := vb (decide (t ≤ 17))) (Value.bool ((decide (t ≥ 14) && decide (t ≤ 17)))) (by kernel_rfl) (re_and1 q3) ?_
            exact wpq_sub _ (by kernel_rfl) hk9
          · have q3p := of_decide_eq_false q3
            refine xB 3 [] [(9, vb false), (15, vb false)] ?_
            refine wpq_re 15 (v := vb false) (Value.bool ((decide (t ≥ 14) && decide (t ≤ 17)))) (by kernel_rfl) (re_and0 q3) ?_
            exact wpq_sub _ (by kernel_rfl) hk9
        · refine xB 1 [] [(16, vb (decide (t ≥ 14) && decide (t ≤ 17)))] ?_
          refine wpq_re 16 (v := vb (decide (t ≥ 14) && decide (t ≤ 17))) (Value.bool (((decide (t ≥ 1) && decide (t ≤ 6)) || (decide (t ≥ 14) && decide (t ≤ 17))))) (by kernel_rfl) (re_or0 q2) ?_
          exact wpq_sub _ (by kernel_rfl) hk6
    · refine xB 1 [] [(2, vb ((decide (t ≥ 1) && decide (t ≤ 6)) || (decide (t ≥ 14) && decide (t ≤ 17))))] ?_
      refine xRe ?_
      refine wpq_then ?_
      have eS := hS.symm
      subst eS
      exact xRet [] [2] (Gh.le.refl _) ⟨by kernel_rfl, by kernel_rfl⟩ (fun _ _ h => h)

def o22 (a : List Leg) (b : List Leg) : Option ((List Leg)) :=
  (grd (decide ((0 + (a).length) * 112 ≤ 140737488355328)) (bindO (τ := (List Leg)) (cond (((decide ((((a).length : Nat) : Int) > 0) && decide ((((b).length : Nat) : Int) > 0)) && ((List.getD b 0 default).type_ == 1))) (grd (decide (0 ≤ ((((a).length : Nat) : Int) - 1) ∧ ((((a).length : Nat) : Int) - 1) < (((a).length : Nat) : Int))) (letJ (τ := Bool) (o43 ((List.getD a (((((a).length : Nat) : Int) - 1)).toNat default).type_ : Int)) fun y17 => (letJ (τ := Bool) (cond ((y17 && ((List.getD a (((((a).length : Nat) : Int) - 1)).toNat default).fix == (List.getD b 0 default).fix))) (letJ (τ := Bool) (cond (((((b).length : Nat) : Int) == 1)) (true) (letJ (τ := Bool) (o44 (List.getD a (((((a).length : Nat) : Int) - 1)).toNat default) (List.getD b 1 default)) fun y38 => y38)) fun t32 => t32) (false)) fun t23 => (letJ (τ := (List Leg)) (cond (t23) (((List.drop 1 b) : List Leg)) ((b : List Leg))) fun t26 => (some ((t26 : List Leg))))))) (some ((b : List Leg)))) fun t7 => (grd (decide (((a).length + (t7).length) * 112 ≤ 140737488355328)) (some (((a ++ t7) : List Leg))))))
set_option maxRecDepth 100000 in
theorem C22 (g : Gh) (a : List Leg) (Aa : Option Addr) (ca : Nat) (b : List Leg) (Ab : Option Addr) (cb : Nat) (fa : ArrM g.r g.b tyLeg Aa ca a) (fb : Arr g.b tyLeg Ab cb b) {r : (List Leg)} (hS : o22 a b = some r) :
    Ctr Tryd.prog 22 [vs Aa a ca, vs Ab b cb] g [] (fun v ψ o => ∃ (Ar_0 : Option Addr) (cr_0 : Nat) (kr_0 : Option Bk), v = vs Ar_0 r cr_0 ∧ o = [kr_0] ∧ Buf ψ tyLeg 46 (.slice Ar_0 (r).length cr_0) kr_0 r) := by
  unfold o22 at hS
  refine xFn Tryd.f22 (Tryd.f22.body.getD .skip) 60 ?_
  have nfa := fa.len
  have nfb := fb.len
  refine xSq ?_
  refine xRg ?_
  refine xB 1 [] [(0, vs Aa a ca), (1, vs Ab b cb)] ?_
  refine xRe ?_
  refine wpq_then ?_
  refine xSq ?_
  refine xRg ?_
  refine xB 1 [] [(0, vs Aa a ca), (1, vs Ab b cb), (5, Value.slice none 0 0)] ?_
  refine xRe ?_
  refine wpq_then ?_
  refine xSq ?_
  refine xRg ?_
  refine xB 2 [] [(0, vs Aa a ca), (1, vs Ab b cb), (5, Value.slice none 0 0), (7, Value.slice none 0 0), (8, vs Aa a ca)] ?_
  refine wpq_addnone ?_
  obtain ⟨nw1, hp1, hs1⟩ := fa.srcM
  obtain ⟨q2, hS⟩ := grd_T hS
  have q2p := of_decide_eq_true q2
  refine xE (eApp (T := tyLeg) (p := g.b) (et := 46) (bytes := 112) (xs := ([] : List Leg)) (ys := (a : List Leg)) 0 Buf.nil rfl (fun w hs => hs1 w _ hs) hp1 (by first | omega | (simp only [List.length_cons, List.length_nil] at *; omega)) (by first | omega | (simp only [List.length_cons, List.length_nil] at *; omega))) ?_
  rintro _ _ _ - ⟨A1, c1, k1, rfl, rfl, rfl, h1⟩
  have h1 : Buf g.b tyLeg 46 (.slice A1 ((a : List Leg)).length c1) k1 (a : List Leg) := h1
  have nh1 := h1.len
  refine xB 1 [] [(0, vs Aa a ca), (1, vs Ab b cb), (5, vs A1 a c1)] ?_
  refine xRe ?_
  refine wpq_then ?_
  refine xSq ?_
  refine xSq ?_
  refine xRg ?_
  refine xB 4 [] [(0, vs Aa a ca), (1, vs Ab b cb), (5, vs A1 a c1), (13, vb (decide ((((a).length : Nat) : Int) > 0)))] ?_
  refine wpr_grp 8 [(0, vs Aa a ca), (1, vs Ab b cb), (5, vs A1 a c1), (17, vb (decide ((((a).length : Nat) : Int) > 0) && decide ((((b).length : Nat) : Int) > 0)))] (fun hk3 => ?_) ?_
  · refine wpq_split 13 (b := decide ((((a).length : Nat) : Int) > 0)) (by kernel_rfl) (fun q3 => ?_) (fun q3 => ?_)
    · have q3p := of_decide_eq_true q3
      refine xB 4 [] [(0, vs Aa a ca), (1, vs Ab b cb), (5, vs A1 a c1), (17, vb (decide ((((b).length : Nat) : Int) > 0)))] ?_
      refine wpq_re 17 (v := vb (decide ((((b).length : Nat) : Int) > 0))) (Value.bool ((decide ((((a).length : Nat) : Int) > 0) && decide ((((b).length : Nat) : Int) > 0)))) (by kernel_rfl) (re_and1 q3) ?_
      exact wpq_sub _ (by kernel_rfl) hk3
    · have q3p := of_decide_eq_false q3
      refine xB 4 [] [(0, vs Aa a ca), (1, vs Ab b cb), (5, vs A1 a c1), (17, vb false)] ?_
      refine wpq_re 17 (v := vb false) (Value.bool ((decide ((((a).length : Nat) : Int) > 0) && decide ((((b).length : Nat) : Int) > 0)))) (by kernel_rfl) (re_and0 q3) ?_
      exact wpq_sub _ (by kernel_rfl) hk3
  · refine xB 1 [] [(0, vs Aa a ca), (1, vs Ab b cb), (5, vs A1 a c1), (18, vb (decide ((((a).length : Nat) : Int) > 0) && decide ((((b).length : Nat) : Int) > 0)))] ?_
    refine wpr_grp 15 [(0, vs Aa a ca), (1, vs Ab b cb), (5, vs A1 a c1), (24, vb ((decide ((((a).length : Nat) : Int) > 0) && decide ((((b).length : Nat) : Int) > 0)) && ((List.getD b 0 default).type_ == 1)))] (fun hk8 => ?_) ?_
    · refine wpq_split 18 (b := (decide ((((a).length : Nat) : Int) > 0) && decide ((((b).length : Nat) : Int) > 0))) (by kernel_rfl) (fun q4 => ?_) (fun q4 => ?_)
      · have q4l := (and_true_ q4).1
        have q4r := (and_true_ q4).2
        have q4lp := of_decide_eq_true q4l
        have q4rp := of_decide_eq_true q4r
        have i6 : 0 < (b).length := by omega
        obtain ⟨ad5, cs5, hA5, hr5, hc5⟩ := fb.at_ (get_getD (d := default) i6)
        obtain ⟨rfl⟩ := hr5
        refine xB 1 [] [(0, vs Aa a ca), (1, vs Ab b cb), (5, vs A1 a c1), (18, vb true), (19, vs Ab b cb)] ?_
        refine xV (qIx 0 13 hA5 rfl i6) ?_
        refine xB 1 [] [(0, vs Aa a ca), (1, vs Ab b cb), (5, vs A1 a c1), (18, vb true), (21, Value.pointer (some (Addr.add ad5 (0 * 13))))] ?_
        refine xV (qLdP (Addr.add ad5 (0 * 13)) 0 (hc5.mono g.br)) ?_
        refine xB 2 [] [(0, vs Aa a ca), (1, vs Ab b cb), (5, vs A1 a c1), (24, vb ((List.getD b 0 default).type_ == 1))] ?_
        refine wpq_re 24 (v := vb ((List.getD b 0 default).type_ == 1)) (Value.bool (((decide ((((a).length : Nat) : Int) > 0) && decide ((((b).length : Nat) : Int) > 0)) && ((List.getD b 0 default).type_ == 1)))) (by kernel_rfl) (re_and1 q4) ?_
        exact wpq_sub _ (by kernel_rfl) hk8
      · refine xB 6 [] [(0, vs Aa a ca), (1, vs Ab b cb), (5, vs A1 a c1), (24, vb false)] ?_
        refine wpq_re 24 (v := vb false) (Value.bool (((decide ((((a).length : Nat) : Int) > 0) && decide ((((b).length : Nat) : Int) > 0)) && ((List.getD b 0 default).type_ == 1)))) (by kernel_rfl) (re_and0 q4) ?_
        exact wpq_sub _ (by kernel_rfl) hk8
    · refine xRe ?_
      refine wpq_then ?_
      refine xBindO hS (fun g own sl t7 => ∃ (A7_0 : Option Addr) (c7_0 : Nat), own = [k1] ∧ sl = [(1, vs A7_0 t7 c7_0), (5, vs A1 a c1)] ∧ Arr g.b tyLeg A7_0 c7_0 t7) ?_ ?_
      · rintro g8 _ _ t7 e9 ⟨A7_0, c7_0, rfl, rfl, f7_0⟩ hS
        have nf7_0 := f7_0.len
        refine wpq_then ?_
        refine xSq ?_
        refine xRg ?_
        refine xB 2 [] [(57, vs A1 a c1), (58, vs A7_0 t7 c7_0)] ?_
        have h1 := h1.mono e9.b
        obtain ⟨nw10, hp10, hs10⟩ := f7_0.srcB
        obtain ⟨q11, hS⟩ := grd_T hS
        have q11p := of_decide_eq_true q11
        refine xE (eApp (T := tyLeg) (p := g8.b) (et := 46) (bytes := 112) (xs := (a : List Leg)) (ys := (t7 : List Leg)) 0 h1 rfl (fun w hs => hs10 w _ hs) hp10 (by first | omega | (simp only [List.length_cons, List.length_nil] at *; omega)) (by first | omega | (simp only [List.length_cons, List.length_nil] at *; omega))) ?_
        rintro _ _ _ - ⟨A10, c10, k10, rfl, rfl, rfl, h10⟩
        have nh10 := h10.len
        have hz10 : ((a ++ t7) : List Leg).length = (a).length + (t7).length := List.length_append
        refine xB 1 [] [(4, vs A10 (a ++ t7) c10)] ?_
        refine xRe ?_
        refine wpq_then ?_
        have eS := (Option.some.inj hS).symm
        subst eS
        exact xRet [some 0] [4] e9 ⟨A10, c10, k10, by kernel_rfl, by kernel_rfl, h10⟩ (fun _ _ h => h)
      · intro uu7 hS hN7
        refine xCd (((decide ((((a).length : Nat) : Int) > 0) && decide ((((b).length : Nat) : Int) > 0)) && ((List.getD b 0 default).type_ == 1))) (fun h12 => ?_) (fun h12 => ?_)
        · have hS := cond_T h12 hS
          have h12l := (and_true_ h12).1
          have h12r := (and_true_ h12).2
          have h12ll := (and_true_ h12l).1
          have h12lr := (and_true_ h12l).2
          have h12llp := of_decide_eq_true h12ll
          have h12lrp := of_decide_eq_true h12lr
          have h12rp : (List.getD b 0 default).type_ = 1 := eq_of_beq h12r
          refine xSq ?_
          refine xRg ?_
          refine xB 3 [] [(1, vs Ab b cb), (5, vs A1 a c1), (25, vs Aa a ca), (27, vi (((a).length : Nat) : Int))] ?_
          refine xV (qSub .i64 ((((a).length : Nat) : Int)) (1) (wr64 (by omega))) ?_
          obtain ⟨q14, hS⟩ := grd_T hS
          have q14p := of_decide_eq_true q14
          have i15 : (((((a).length : Nat) : Int) - 1)).toNat < (a).length := by omega
          obtain ⟨ad13, cs13, hA13, hr13, hc13⟩ := fa.at_ (get_getD (d := default) i15)
          obtain ⟨rfl⟩ := hr13
          refine xV (qIx (((((a).length : Nat) : Int) - 1)).toNat 13 hA13 (show (((((a).length : Nat) : Int) - 1) : Int) = _ from by omega) i15) ?_
          refine xV (qLdP (Addr.add ad13 ((((((a).length : Nat) : Int) - 1)).toNat * 13)) 0 hc13) ?_
          refine xE eB ?_
          rintro _ _ _ - ⟨b16, rfl, rfl, rfl⟩
          refine xBo 1 [(7, 0)] [some ⟨b16, 46, (cLeg (List.getD a (((((a).length : Nat) : Int) - 1)).toNat default))⟩, k1] [(1, vs Ab b cb), (5, vs A1 a c1), (6, vp b16 0)] ?_
          refine xRe ?_
          refine wpq_then ?_
          refine xSq ?_
          refine xDr 0 [1, 5, 9, 17, 20] [] [some ⟨b16, 46, (cLeg (List.getD a (((((a).length : Nat) : Int) - 1)).toNat default))⟩] 24 (fun RG => ?_) (fun _ _ _ _ _ h => h)
          refine xT 22 [0, 1] [(1, 0)] [some 0] [(1, vs Ab b cb), (5, vs A1 a c1), (6, vp b16 0), (32, vy ((List.getD a (((((a).length : Nat) : Int) - 1)).toNat default).type_))] RG (Psi.le.refl _) ?_
          obtain ⟨y17, hy17, hS⟩ := letJ_T hS
          refine xO1 (lds := [1, 5, 9, 17, 20]) 2 ?_
          refine xIe (lds := [1, 5, 9, 17, 20]) (Psi.le.refl _) (eC 0 (fun g' lr eb ln => C43 g' ((List.getD a (((((a).length : Nat) : Int) - 1)).toNat default).type_ : Int) hy17)) ?_
          rintro _ g18 _ e19 ⟨_, rfl, rfl, rfl⟩
          refine kk [some 0] ?_
          refine xT 20 [3] [] [some 0] [(1, vs Ab b cb), (5, vs A1 a c1), (6, vp b16 0), (34, vb y17)] RG e19.r ?_
          refine wpa_grp 12 [true, true, true, true, true, true, true, true, true, true, true, true, false, false, false, false, false, false, false, false, false, false, false, false] [(1, vs Ab b cb), (5, vs A1 a c1), (6, vp b16 0), (42, vb (y17 && ((List.getD a (((((a).length : Nat) : Int) - 1)).toNat default).fix == (List.getD b 0 default).fix)))] (fun hk3 => ?_) ?_
          · refine wpq_split 34 (b := y17) (by kernel_rfl) (fun q20 => ?_) (fun q20 => ?_)
            · have i22 : 0 < (b).length := by omega
              obtain ⟨ad21, cs21, hA21, hr21, hc21⟩ := fb.at_ (get_getD (d := default) i22)
              obtain ⟨rfl⟩ := hr21
              refine xT 17 [4, 5, 6] [(5, 0)] [some 0] [(1, vs Ab b cb), (5, vs A1 a c1), (6, vp b16 0), (34, vb true), (36, vt ((List.getD a (((((a).length : Nat) : Int) - 1)).toNat default).fix)), (37, vs Ab b cb)] RG e19.r ?_
              refine xTp 7 RG (fun _ => (qIx 0 13 hA21 rfl i22)) ?_
              refine xT 15 [8] [] [some 0] [(1, vs Ab b cb), (5, vs A1 a c1), (6, vp b16 0), (34, vb true), (36, vt ((List.getD a (((((a).length : Nat) : Int) - 1)).toNat default).fix)), (39, Value.pointer (some (Addr.add (Addr.add ad21 (0 * 13)) 1)))] RG e19.r ?_
              refine xTv 9 [some 0] RG e19.r (qLdP (Addr.add ad21 (0 * 13)) 1 (hc21.mono g.br)) ?_
              refine xTp 10 RG (fun _ => (qEqS ((List.getD a (((((a).length : Nat) : Int) - 1)).toNat default).fix) ((List.getD b 0 default).fix))) ?_
              refine xT 12 [11] [] [some 0] [(1, vs Ab b cb), (5, vs A1 a c1), (6, vp b16 0), (42, vb ((List.getD a (((((a).length : Nat) : Int) - 1)).toNat default).fix == (List.getD b 0 default).fix))] RG e19.r ?_
              refine wpq_re 42 (v := vb ((List.getD a (((((a).length : Nat) : Int) - 1)).toNat default).fix == (List.getD b 0 default).fix)) (Value.bool ((y17 && ((List.getD a (((((a).length : Nat) : Int) - 1)).toNat default).fix == (List.getD b 0 default).fix)))) (by kernel_rfl) (re_and1 q20) ?_
              exact wpq_sub _ (by kernel_rfl) hk3
            · refine xT 12 [4, 5, 6, 7, 8, 9, 10, 11] [] [some 0] [(1, vs Ab b cb), (5, vs A1 a c1), (6, vp b16 0), (42, vb false)] RG e19.r ?_
              refine wpq_re 42 (v := vb false) (Value.bool ((y17 && ((List.getD a (((((a).length : Nat) : Int) - 1)).toNat default).fix == (List.getD b 0 default).fix)))) (by kernel_rfl) (re_and0 q20) ?_
              exact wpq_sub _ (by kernel_rfl) hk3
          · refine xT 11 [12] [] [some 0] [(1, vs Ab b cb), (5, vs A1 a c1), (6, vp b16 0), (43, vb (y17 && ((List.getD a (((((a).length : Nat) : Int) - 1)).toNat default).fix == (List.getD b 0 default).fix)))] RG e19.r ?_
            refine xGJlA hS 0 [true, true, true, true, true, true, true, true, true, true, true, true, true, true, true, true, true, true, true, true, true, true, true, true] (fun g own sl t23 => own = [some ⟨b16, 46, (cLeg (List.getD a (((((a).length : Nat) : Int) - 1)).toNat default))⟩, k1] ∧ sl = [(1, vs Ab b cb), (5, vs A1 a c1), (54, vb t23)]) ?_ ?_
            · rintro g24 _ _ t23 e25 ⟨rfl, rfl⟩ hS
              refine xAe (lds := [1, 5, 9, 17, 20]) ?_
              refine wpq_then ?_
              refine xLetJ hS (fun g own sl t26 => ∃ (A26_0 : Option Addr) (c26_0 : Nat), own = [k1] ∧ sl = [(1, vs A26_0 t26 c26_0), (5, vs A1 a c1)] ∧ Arr g.b tyLeg A26_0 c26_0 t26) ?_ ?_
              · rintro g27 _ _ t26 e28 ⟨A26_0, c26_0, rfl, rfl, f26_0⟩ hS
                have nf26_0 := f26_0.len
                refine xSub [(1, vs A26_0 t26 c26_0), (5, vs A1 a c1)] ?_
                have eS := (Option.some.inj hS).symm
                exact hN7 _ eS _ _ _ (e19.trans (e25.trans e28)) ⟨A26_0, c26_0, by kernel_rfl, by kernel_rfl, f26_0⟩
              · intro uu26 hS hN26
                refine xCd (t23) (fun h29 => ?_) (fun h29 => ?_)
                · have hS := cond_T h29 hS
                  refine xRg ?_
                  have fb := fb.mono (e19.trans e25).b
                  have ncapf30 := fb.cap
                  have f30 : Arr g24.b tyLeg (offA Ab cb 1 13) (cb - 1) (List.drop 1 b) := fb.cut_from 1 (by omega)
                  have nf30 := f30.len
                  have hlf30 : (b).length - 1 = ((List.drop 1 b)).length := by simp only [List.length_take, List.length_drop] <;> omega
                  have hvf30 : ((((List.drop 1 b)).length : Nat) : Int) = (((b).length : Nat) : Int) - 1 := by omega
                  refine xB 1 [] [(1, vs Ab b cb), (5, vs A1 a c1), (55, vs Ab b cb)] ?_
                  refine xV (qSl (m := 13) (A := Ab) (len := (b).length) (c := cb) 1 (b).length (some 1) none ((List.drop 1 b)).length rfl rfl (by omega) (by omega) hlf30) ?_
                  refine xB 1 [] [(1, vs (offA Ab cb 1 13) (List.drop 1 b) (cb - 1)), (5, vs A1 a c1)] ?_
                  refine xRe ?_
                  refine xSel [some 1] ?_
                  refine xSub [(1, vs (offA Ab cb 1 13) (List.drop 1 b) (cb - 1)), (5, vs A1 a c1)] ?_
                  have eS := hS.symm
                  exact hN26 _ eS _ _ _ (Gh.le.refl _) ⟨(offA Ab cb 1 13), (cb - 1), by kernel_rfl, by kernel_rfl, f30⟩
                · have hS := cond_F h29 hS
                  refine xSk ?_
                  have fb := fb.mono (e19.trans e25).b
                  refine xSel [some 1] ?_
                  refine xSub [(1, vs Ab b cb), (5, vs A1 a c1)] ?_
                  have eS := hS.symm
                  exact hN26 _ eS _ _ _ (Gh.le.refl _) ⟨Ab, cb, by kernel_rfl, by kernel_rfl, fb⟩
            · intro uu23 hS hN23
              refine wpq_split 43 (b := (y17 && ((List.getD a (((((a).length : Nat) : Int) - 1)).toNat default).fix == (List.getD b 0 default).fix))) (by kernel_rfl) (fun q31 => ?_) (fun q31 => ?_)
              · have hS := cond_T q31 hS
                have q31l := (and_true_ q31).1
                have q31r := (and_true_ q31).2
                have q31rp : (List.getD a (((((a).length : Nat) : Int) - 1)).toNat default).fix = (List.getD b 0 default).fix := eq_of_beq q31r
                refine xT 7 [13, 14, 15, 16] [] [some 0] [(1, vs Ab b cb), (5, vs A1 a c1), (6, vp b16 0), (43, vb true), (47, vb ((((b).length : Nat) : Int) == 1))] RG e19.r ?_
                refine xGJlA hS 1 [true, true, true, true, true, true, true, true, true, true, true, true, true, true, true, true, true, true, true, true, true, true, true, false] (fun g own sl t32 => own = [some ⟨b16, 46, (cLeg (List.getD a (((((a).length : Nat) : Int) - 1)).toNat default))⟩, k1] ∧ sl = [(1, vs Ab b cb), (5, vs A1 a c1), (43, vb true), (53, vb t32)]) ?_ ?_
                · rintro g33 _ _ t32 e34 ⟨rfl, rfl⟩ hS
                  refine xT 0 [23] [] [some 0] [(1, vs Ab b cb), (5, vs A1 a c1), (54, vb t32)] RG (e19.trans e34).r ?_
                  refine xSub [(1, vs Ab b cb), (5, vs A1 a c1), (54, vb t32)] ?_
                  exact hN23 _ hS.symm _ _ _ e34 ⟨by kernel_rfl, by kernel_rfl⟩
                · intro uu32 hS hN32
                  refine wpq_split 47 (b := ((((b).length : Nat) : Int) == 1)) (by kernel_rfl) (fun q35 => ?_) (fun q35 => ?_)
                  · have hS := cond_T q35 hS
                    have q35p : (((b).length : Nat) : Int) = 1 := eq_of_beq q35
                    refine xT 3 [17, 18, 19, 20] [] [some 0] [(1, vs Ab b cb), (5, vs A1 a c1), (43, vb true), (47, vb true), (48, undef), (51, undef)] RG e19.r ?_
                    refine xO1 (lds := [1, 5, 9, 17, 20]) 21 ?_
                    refine xIb (lds := [1, 5, 9, 17, 20]) [] ?_
                    refine xT 1 [22] [] [some 0] [(1, vs Ab b cb), (5, vs A1 a c1), (43, vb true), (53, vb true)] RG e19.r ?_
                    refine xSub [(1, vs Ab b cb), (5, vs A1 a c1), (43, vb true), (53, vb true)] ?_
                    exact hN32 _ hS.symm _ _ _ (Gh.le.refl _) ⟨by kernel_rfl, by kernel_rfl⟩
                  · have hS := cond_F q35 hS
                    have q35p : ¬ ((((b).length : Nat) : Int) = 1) := ne_of_beq_false_ q35
                    have i37 : 1 < (b).length := by omega
                    obtain ⟨ad36, cs36, hA36, hr36, hc36⟩ := fb.at_ (get_getD (d := default) i37)
                    obtain ⟨rfl⟩ := hr36
                    refine xT 5 [17, 18] [(17, 0)] [some 0] [(1, vs Ab b cb), (5, vs A1 a c1), (43, vb true), (47, vb false), (48, Value.agg #[vy ((List.getD a (((((a).length : Nat) : Int) - 1)).toNat default).type_), vt ((List.getD a (((((a).length : Nat) : Int) - 1)).toNat default).fix), vt ((List.getD a (((((a).length : Nat) : Int) - 1)).toNat default).center), vy ((List.getD a (((((a).length : Nat) : Int) - 1)).toNat default).turn), vb ((List.getD a (((((a).length : Nat) : Int) - 1)).toNat default).over), vi ((List.getD a (((((a).length : Nat) : Int) - 1)).toNat default).course), vi ((List.getD a (((((a).length : Nat) : Int) - 1)).toNat default).dist), vi ((List.getD a (((((a).length : Nat) : Int) - 1)).toNat default).radius), vi ((List.getD a (((((a).length : Nat) : Int) - 1)).toNat default).theta), vi ((List.getD a (((((a).length : Nat) : Int) - 1)).toNat default).alt.lo), vi ((List.getD a (((((a).length : Nat) : Int) - 1)).toNat default).alt.hi), vi ((List.getD a (((((a).length : Nat) : Int) - 1)).toNat default).speed), vi ((List.getD a (((((a).length : Nat) : Int) - 1)).toNat default).rnp)]), (49, vs Ab b cb)] RG e19.r ?_
                    refine xTp 19 RG (fun _ => (qIx 1 13 hA36 rfl i37)) ?_
                    refine xTv 20 [some 0] RG e19.r (qLdP (Addr.add ad36 (1 * 13)) 0 (hc36.mono g.br)) ?_
                    obtain ⟨y38, hy38, hS⟩ := letJ_T hS
                    refine xO1 (lds := [1, 5, 9, 17, 20]) 21 ?_
                    refine xIe (lds := [1, 5, 9, 17, 20]) e19.r (eC 0 (fun g' lr eb ln => C44 g' (List.getD a (((((a).length : Nat) : Int) - 1)).toNat default) (List.getD b 1 default) hy38)) ?_
                    rintro _ g39 _ e40 ⟨_, rfl, rfl, rfl⟩
                    refine kk [some 0] ?_
                    refine xT 1 [22] [] [some 0] [(1, vs Ab b cb), (5, vs A1 a c1), (43, vb true), (53, vb y38)] RG (e19.trans e40).r ?_
                    refine xSub [(1, vs Ab b cb), (5, vs A1 a c1), (43, vb true), (53, vb y38)] ?_
                    exact hN32 _ hS.symm _ _ _ e40 ⟨by kernel_rfl, by kernel_rfl⟩
              · have hS := cond_F q31 hS
                refine xT 3 [13, 14, 15, 16, 17, 18, 19, 20] [] [some 0] [(1, vs Ab b cb), (5, vs A1 a c1), (43, vb false), (47, undef), (48, undef), (51, undef)] RG e19.r ?_
                refine xO1 (lds := [1, 5, 9, 17, 20]) 21 ?_
                refine xIb (lds := [1, 5, 9, 17, 20]) [] ?_
                refine xT 0 [22, 23] [] [some 0] [(1, vs Ab b cb), (5, vs A1 a c1), (54, vb false)] RG e19.r ?_
                refine xSub [(1, vs Ab b cb), (5, vs A1 a c1), (54, vb false)] ?_
                exact hN23 _ hS.symm _ _ _ (Gh.le.refl _) ⟨by kernel_rfl, by kernel_rfl⟩
        · have hS := cond_F h12 hS
          refine xSk ?_
          refine xSub [(1, vs Ab b cb), (5, vs A1 a c1)] ?_
          have eS := (Option.some.inj hS).symm
          exact hN7 _ eS _ _ _ (Gh.le.refl _) ⟨Ab, cb, by kernel_rfl, by kernel_rfl, fb⟩

def o24 (p : Proc) (runway : List UInt8) (transition : List UInt8) : Option ((List Leg) × Int) :=
  (bindO (τ := Int) (o14 p) fun y2 => (cond ((y2 != 0)) (some ((([] : List Leg), (y2 : Int)))) (bindO (τ := (List (List UInt8))) (o16 p (1 : Int)) fun y8 => (joinO (τ := (List Part)) (ρ := (List Leg) × Int) (cond (decide ((((y8).length : Nat) : Int) > 0)) (bindO (τ := Part × Bool) (o18 p (1 : Int) runway) fun y60 => (cond ((!y60.2)) (some (Ctl.done ((([] : List Leg), (6 : Int))))) (letJ (τ := Int) (o39 (p.kind : Int) (1 : Int)) fun y65 => (grd (decide (0 ≤ y65 ∧ y65 < 4)) (some (Ctl.go ((List.set (List.replicate 4 (default : Part)) (y65).toNat y60.1) : List Part))))))) (some (Ctl.go ((List.replicate 4 (default : Part)) : List Part)))) fun t11 => (joinO (τ := (List Part)) (ρ := (List Leg) × Int) (cond ((!(transition == []))) (bindO (τ := Part × Bool) (o18 p (3 : Int) transition) fun y46 => (cond ((!y46.2)) (some (Ctl.done ((([] : List Leg), (6 : Int))))) (letJ (τ := Int) (o39 (p.kind : Int) (3 : Int)) fun y51 => (grd (decide (0 ≤ y51 ∧ y51 < 4)) (some (Ctl.go ((List.set t11 (y51).toNat y46.1) : List Part))))))) (some (Ctl.go (t11 : List Part)))) fun t14 => (bindO (τ := Part × Bool) (o18 p (2 : Int) []) fun y17 => (letJ (τ := (List Part)) (cond (y17.2) (((List.set t14 2 y17.1) : List Part)) ((t14 : List Part))) fun t21 => (bindO (τ := (List Leg)) (o22 ((List.getD t21 1 default).legs : List Leg) ((List.getD t21 2 default).legs : List Leg)) fun y33 => (bindO (τ := (List Leg)) (o22 (y33 : List Leg) ((List.getD t21 3 default).legs : List Leg)) fun y36 => (cond (((((y36).length : Nat) : Int) == 0)) (some ((([] : List Leg), (6 : Int)))) (some (((y36 : List Leg), (0 : Int))))))))))))))
set_option maxRecDepth 100000 in
theorem C24 (g : Gh) (p : Proc) (Ap_parts : Option Addr) (cp_parts : Nat) (runway : List UInt8) (transition : List UInt8) (fp_parts : Arr g.b tyPart Ap_parts cp_parts p.parts) {r : (List Leg) × Int} (hS : o24 p runway transition = some r) :
    Ctr Tryd.prog 24 [Value.agg #[vt p.airport, vt p.name, vy p.kind, vs Ap_parts p.parts cp_parts], vt runway, vt transition] g [] (fun v ψ o => ∃ (Ar_0 : Option Addr) (cr_0 : Nat) (kr_0 : Option Bk), v = Value.tuple #[vs Ar_0 r.1 cr_0, vi r.2] ∧ o = [kr_0] ∧ Buf ψ tyLeg 46 (.slice Ar_0 (r.1).length cr_0) kr_0 r.1) := by
  unfold o24 at hS
  refine xFn Tryd.f24 (Tryd.f24.body.getD .skip) 77 ?_
  have nfp_parts := fp_parts.len
  refine xSq ?_
  refine xRg ?_
  refine xE eB ?_
  rintro _ _ _ - ⟨b1, rfl, rfl, rfl⟩
  refine xB 2 [] [(1, vt runway), (2, vt transition), (3, vp b1 0)] ?_
  refine xRe ?_
  refine wpq_then ?_
  refine xSq ?_
  refine xSq ?_
  refine xRg ?_
  refine xB 1 [(0, 0)] [(1, vt runway), (2, vt transition), (3, vp b1 0), (17, Value.agg #[vt p.airport, vt p.name, vy p.kind, vs Ap_parts p.parts cp_parts])] ?_
  obtain ⟨y2, hy2, hS⟩ := bindO_T hS
  refine xE (eC 0 (fun g' lr eb ln => C14 g' p Ap_parts cp_parts ((fp_parts.mono g.br).mono lr) hy2)) ?_
  rintro _ g3 _ e4 ⟨_, rfl, rfl, rfl⟩
  refine xB 1 [] [(1, vt runway), (2, vt transition), (3, vp b1 0), (8, vi y2)] ?_
  refine xRe ?_
  refine wpq_then ?_
  refine xSq ?_
  refine xRg ?_
  refine xB 2 [] [(1, vt runway), (2, vt transition), (3, vp b1 0), (8, vi y2), (20, vb (y2 != 0))] ?_
  refine xRe ?_
  refine wpq_then ?_
  refine xCd ((y2 != 0)) (fun h5 => ?_) (fun h5 => ?_)
  · have hS := cond_T h5 hS
    have h5p : ¬ (y2 = 0) := ne_of_bne_ h5
    refine xSq ?_
    refine xRg ?_
    refine xB 3 [] [(6, Value.slice none 0 0), (7, vi y2)] ?_
    refine xRe ?_
    refine wpq_then ?_
    have eS := (Option.some.inj hS).symm
    subst eS
    exact xRet [none] [6, 7] e4 ⟨none, 0, none, by kernel_rfl, by kernel_rfl, Buf.nil⟩ (fun _ _ h => h)
  · have hS := cond_F h5 hS
    have h5p : y2 = 0 := eq_of_bne_false_ h5
    refine xSk ?_
    refine wpq_then ?_
    refine xSub [(1, vt runway), (2, vt transition), (3, vp b1 0)] ?_
    refine xSq ?_
    refine xRg ?_
    refine xE eB ?_
    rintro _ _ _ - ⟨b6, rfl, rfl, rfl⟩
    refine wpq_name (T := tyPart) (p := g3.b) (et := 70) (v := .slice (some ⟨b6, 0, none⟩) 4 4) (xs := (List.replicate 4 (default : Part))) 0 (k := some ⟨b6, 70, (List.replicate 4 [vy 0, vt ([]), Value.slice none 0 0]).flatten⟩) (by kernel_rfl) (buf_zeros ⟨none, 0, rfl, Arr.nil⟩ (by decide)) (fun k7 h7 => ?_)
    have hz7 : 4 = ((List.replicate 4 (default : Part))).length := h7.leneq
    refine wpq_addnone ?_
    refine xRe ?_
    refine wpq_then ?_
    refine xSq ?_
    refine xSq ?_
    refine xRg ?_
    refine xB 1 [(0, 2)] [(1, vt runway), (2, vt transition), (3, vp b1 0), (9, vp b6 0), (22, Value.agg #[vt p.airport, vt p.name, vy p.kind, vs Ap_parts p.parts cp_parts])] ?_
    have fp_parts := fp_parts.mono e4.b
    obtain ⟨y8, hy8, hS⟩ := bindO_T hS
    refine xE (eC 0 (fun g' lr eb ln => C16 g' p Ap_parts cp_parts (1 : Int) ((fp_parts.mono g3.br).mono lr) hy8)) ?_
    rintro _ g9 _ e10 ⟨_, rfl, A8_0, c8_0, k8_0, rfl, rfl, h8_0⟩
    have nh8_0 := h8_0.len
    refine xB 2 [] [(1, vt runway), (2, vt transition), (3, vp b1 0), (9, vp b6 0), (25, vb (decide ((((y8).length : Nat) : Int) > 0)))] ?_
    refine xRe ?_
    refine wpq_then ?_
    refine xJoinO hS (fun g own sl t11 => ∃ (k11_0 : Option Bk), own = [none, some ⟨b1, 25, (cProc p Ap_parts cp_parts)⟩, k11_0] ∧ sl = [(2, vt transition), (3, vp b1 0), (9, vp b6 0)] ∧ Buf g.b tyPart 70 (.slice (some ⟨b6, 0, none⟩) (t11).length 4) k11_0 t11 ∧ 4 = (t11).length) ?_ ?_
    · rintro g12 _ _ t11 e13 ⟨k11_0, rfl, rfl, h11_0, hz11_v0⟩ hS
      have nh11_0 := h11_0.len
      refine wpq_then ?_
      refine xSq ?_
      refine xSq ?_
      refine xRg ?_
      refine xB 1 [] [(2, vt transition), (3, vp b1 0), (9, vp b6 0), (39, vt transition)] ?_
      refine xV (qNeS (transition) ([])) ?_
      refine xRe ?_
      refine wpq_then ?_
      refine xSub [(2, vt transition), (3, vp b1 0), (9, vp b6 0), (40, vb (!(transition == [])))] ?_
      refine xJoinO hS (fun g own sl t14 => ∃ (k14_0 : Option Bk), own = [none, some ⟨b1, 25, (cProc p Ap_parts cp_parts)⟩, k14_0] ∧ sl = [(3, vp b1 0), (9, vp b6 0)] ∧ Buf g.b tyPart 70 (.slice (some ⟨b6, 0, none⟩) (t14).length 4) k14_0 t14 ∧ 4 = (t14).length) ?_ ?_
      · rintro g15 _ _ t14 e16 ⟨k14_0, rfl, rfl, h14_0, hz14_v0⟩ hS
        have nh14_0 := h14_0.len
        refine wpq_then ?_
        refine xSq ?_
        refine xSq ?_
        refine xRg ?_
        refine xB 1 [(0, 1)] [(9, vp b6 0), (55, Value.agg #[vt p.airport, vt p.name, vy p.kind, vs Ap_parts p.parts cp_parts])] ?_
        have fp_parts := fp_parts.mono (e10.trans (e13.trans e16)).b
        obtain ⟨y17, hy17, hS⟩ := bindO_T hS
        refine xE (eC 0 (fun g' lr eb ln => C18 g' p Ap_parts cp_parts (2 : Int) [] (by rw [eb]; exact fp_parts) hy17)) ?_
        rintro _ g18 _ e19 ⟨_, rfl, A17_0_legs, c17_0_legs, rfl, rfl, f17_0_legs⟩
        have nf17_0_legs := f17_0_legs.len
        refine xB 3 [] [(9, vp b6 0), (57, Value.agg #[vy y17.1.kind, vt y17.1.name, vs A17_0_legs y17.1.legs c17_0_legs]), (58, vb y17.2)] ?_
        refine xE eB ?_
        rintro _ _ _ - ⟨b20, rfl, rfl, rfl⟩
        refine xBo 2 [(6, 0)] [some ⟨b20, 35, [vy y17.1.kind, vt y17.1.name, vs A17_0_legs y17.1.legs c17_0_legs]⟩, none, some ⟨b1, 25, (cProc p Ap_parts cp_parts)⟩, k14_0] [(9, vp b6 0), (14, vp b20 0), (15, vb y17.2)] ?_
        refine xRe ?_
        refine wpq_then ?_
        refine xSq ?_
        refine xRg ?_
        refine xB 1 [] [(9, vp b6 0), (14, vp b20 0), (59, vb y17.2)] ?_
        refine xRe ?_
        refine wpq_then ?_
        refine xLetJ hS (fun g own sl t21 => ∃ (k21_0 : Option Bk), own = [none, k21_0] ∧ sl = [(9, vp b6 0)] ∧ Buf g.b tyPart 70 (.slice (some ⟨b6, 0, none⟩) (t21).length 4) k21_0 t21 ∧ 4 = (t21).length) ?_ ?_
        · rintro g22 _ _ t21 e23 ⟨k21_0, rfl, rfl, h21_0, hz21_v0⟩ hS
          have nh21_0 := h21_0.len
          refine wpq_then ?_
          refine xSq ?_
          refine xDr 0 [2, 5, 9] [11] [k21_0] 12 (fun RG => ?_) (fun _ _ _ _ _ h => h)
          have i25 : 1 < 4 := by omega
          have i26 : 1 < (t21).length := by omega
          obtain ⟨kc24, cs24, hA24, hk24, hr24, hw24⟩ := h21_0.open_ i26 default
          obtain ⟨kb24, rfl⟩ : ∃ z, z = kc24 := ⟨_, rfl⟩
          subst hk24
          obtain ⟨A24_legs, c24_legs, rfl, f24_legs⟩ := hr24
          have nf24_legs := f24_legs.len
          refine xTp 0 RG (fun _ => (qIxRA 1 3 kb24.g hA24 rfl i25)) ?_
          refine xT 10 [1] [] [some 1] [(9, vp b6 0), (63, Value.pointer (some ⟨kb24.g, 1 * 3 + 2, none⟩))] RG (Psi.le.refl _) ?_
          refine xTv 2 [some 1] RG (Psi.le.refl _) (qLdB 1 3 2 0 hw24) ?_
          have i28 : 2 < 4 := by omega
          have i29 : 2 < (t21).length := by omega
          obtain ⟨kc27, cs27, hA27, hk27, hr27, hw27⟩ := h21_0.open_ i29 default
          cases hk27
          obtain ⟨A27_legs, c27_legs, rfl, f27_legs⟩ := hr27
          have nf27_legs := f27_legs.len
          refine xTp 3 RG (fun _ => (qIxRA 2 3 kb24.g hA27 rfl i28)) ?_
          refine xT 7 [4] [] [some 1] [(9, vp b6 0), (64, vs A24_legs ((List.getD t21 1 default).legs) c24_legs), (66, Value.pointer (some ⟨kb24.g, 2 * 3 + 2, none⟩))] RG (Psi.le.refl _) ?_
          refine xTv 5 [some 1] RG (Psi.le.refl _) (qLdB 2 3 2 0 hw27) ?_
          have i31 : 3 < 4 := by omega
          have i32 : 3 < (t21).length := by omega
          obtain ⟨kc30, cs30, hA30, hk30, hr30, hw30⟩ := h21_0.open_ i32 default
          cases hk30
          obtain ⟨A30_legs, c30_legs, rfl, f30_legs⟩ := hr30
          have nf30_legs := f30_legs.len
          refine xTp 7 RG (fun _ => (qIxRA 3 3 kb24.g hA30 rfl i31)) ?_
          refine xT 4 [8] [] [some 1] [(64, vs A24_legs ((List.getD t21 1 default).legs) c24_legs), (67, vs A27_legs ((List.getD t21 2 default).legs) c27_legs), (70, Value.pointer (some ⟨kb24.g, 3 * 3 + 2, none⟩))] RG (Psi.le.refl _) ?_
          refine xTv 9 [some 1] RG (Psi.le.refl _) (qLdB 3 3 2 0 hw30) ?_
          obtain ⟨y33, hy33, hS⟩ := bindO_T hS
          refine xO1 (lds := [2, 5, 9]) 6 ?_
          refine xIe (lds := [2, 5, 9]) (Psi.le.refl _) (eC 0 (fun g' lr eb ln => C22 g' ((List.getD t21 1 default).legs : List Leg) A24_legs c24_legs ((List.getD t21 2 default).legs : List Leg) A27_legs c27_legs (ArrM.lent (f24_legs.toM g22.br) lr eb) (by rw [eb]; exact f27_legs) hy33)) ?_
          rintro _ g34 _ e35 ⟨_, rfl, A33_0, c33_0, k33_0, rfl, rfl, h33_0⟩
          refine kk [some 2] ?_
          have nh33_0 := h33_0.len
          have f30_legs := f30_legs.mono e35.b
          obtain ⟨y36, hy36, hS⟩ := bindO_T hS
          refine xO1 (lds := [2, 5, 9]) 10 ?_
          refine xIe (lds := [2, 5, 9]) e35.r (eC 0 (fun g' lr eb ln => C22 g' (y33 : List Leg) A33_0 c33_0 ((List.getD t21 3 default).legs : List Leg) A30_legs c30_legs (arrm_of_buf h33_0 eb (lentk 0 (by kernel_rfl) ln)) (by rw [eb]; exact f30_legs) hy36)) ?_
          rintro _ g37 _ e38 ⟨_, rfl, A36_0, c36_0, k36_0, rfl, rfl, h36_0⟩
          refine kk [some 3] ?_
          have nh36_0 := h36_0.len
          refine xT 0 [11] [] [some 3] [(16, vs A36_0 y36 c36_0)] RG (e35.trans e38).r ?_
          refine xAe (lds := [2, 5, 9]) ?_
          refine wpq_then ?_
          refine xSq ?_
          refine xSq ?_
          refine xRg ?_
          refine xB 3 [] [(16, vs A36_0 y36 c36_0), (75, vb ((((y36).length : Nat) : Int) == 0))] ?_
          refine xRe ?_
          refine wpq_then ?_
          refine xCd (((((y36).length : Nat) : Int) == 0)) (fun h39 => ?_) (fun h39 => ?_)
          · have hS := cond_T h39 hS
            have h39p : (((y36).length : Nat) : Int) = 0 := eq_of_beq h39
            refine xSq ?_
            refine xRg ?_
            refine xB 2 [] [(6, Value.slice none 0 0), (7, vi 6)] ?_
            refine xRe ?_
            refine wpq_then ?_
            have eS := (Option.some.inj hS).symm
            subst eS
            exact xRet [none] [6, 7] (e4.trans (e10.trans (e13.trans (e16.trans (e19.trans (e23.trans (e35.trans e38))))))) ⟨none, 0, none, by kernel_rfl, by kernel_rfl, Buf.nil⟩ (fun _ _ h => h)
          · have hS := cond_F h39 hS
            have h39p : ¬ ((((y36).length : Nat) : Int) = 0) := ne_of_beq_false_ h39
            refine xSk ?_
            refine wpq_then ?_
            refine xSub [(16, vs A36_0 y36 c36_0)] ?_
            refine xSq ?_
            refine xRg ?_
            refine xB 3 [] [(6, vs A36_0 y36 c36_0), (7, vi 0)] ?_
            refine xRe ?_
            refine wpq_then ?_
            have eS := (Option.some.inj hS).symm
            subst eS
            exact xRet [some 0] [6, 7] (e4.trans (e10.trans (e13.trans (e16.trans (e19.trans (e23.trans (e35.trans e38))))))) ⟨A36_0, c36_0, k36_0, by kernel_rfl, by kernel_rfl, h36_0⟩ (fun _ _ h => h)
        · intro uu21 hS hN21
          refine xCd (y17.2) (fun h40 => ?_) (fun h40 => ?_)
          · have hS := cond_T h40 hS
            refine xRg ?_
            have h14_0 := h14_0.mono e19.b
            have i42 : 2 < 4 := by omega
            have i43 : 2 < (t14).length := by omega
            obtain ⟨kc41, cs41, hA41, hk41, hr41, hw41⟩ := h14_0.open_ i43 default
            obtain ⟨kb41, rfl⟩ : ∃ z, z = kc41 := ⟨_, rfl⟩
            subst hk41
            obtain ⟨A41_legs, c41_legs, rfl, f41_legs⟩ := hr41
            have nf41_legs := f41_legs.len
            refine xB 1 [(0, 0)] [(9, vp b6 0), (60, Value.agg #[vy y17.1.kind, vt y17.1.name, vs A17_0_legs y17.1.legs c17_0_legs])] ?_
            refine xV (qIxRA 2 3 kb41.g hA41 rfl i42) ?_
            refine xD (eStB 2 3 0 3 [vy y17.1.kind, vt y17.1.name, vs A17_0_legs y17.1.legs c17_0_legs] h14_0 rfl hw41 (show tyPart.rep _ _ y17.1 from ⟨A17_0_legs, c17_0_legs, rfl, f17_0_legs⟩) i43) ?_
            rintro _ _ _ - ⟨k44, rfl, rfl, h44⟩
            have hz44 : (t14).length = ((List.set t14 2 y17.1)).length := by simp
            have hz44_1 : 4 = ((List.set t14 2 y17.1)).length := hz14_v0.trans hz44
            refine xRe ?_
            refine xSel [none, some 3] ?_
            refine xSub [(9, vp b6 0)] ?_
            have eS := hS.symm
            exact hN21 _ eS _ _ _ (Gh.le.refl _) ⟨k44, by kernel_rfl, by kernel_rfl, (Buf.re h44 hz44 rfl), hz44_1⟩
          · have hS := cond_F h40 hS
            refine xSk ?_
            have h14_0 := h14_0.mono e19.b
            refine xSel [none, some 3] ?_
            refine xSub [(9, vp b6 0)] ?_
            have eS := hS.symm
            exact hN21 _ eS _ _ _ (Gh.le.refl _) ⟨k14_0, by kernel_rfl, by kernel_rfl, h14_0, hz14_v0⟩
      · intro uu14 hS hN14 hD14
        refine xCd ((!(transition == []))) (fun h45 => ?_) (fun h45 => ?_)
        · have hS := cond_T h45 hS
          have h45n := not_eq_true_ h45
          have h45np : ¬ (transition = []) := ne_of_beq_false_ h45n
          refine xSq ?_
          refine xRg ?_
          refine xB 2 [(0, 1)] [(3, vp b1 0), (9, vp b6 0), (42, Value.agg #[vt p.airport, vt p.name, vy p.kind, vs Ap_parts p.parts cp_parts]), (43, vt transition)] ?_
          have fp_parts := fp_parts.mono (e10.trans e13).b
          obtain ⟨y46, hy46, hS⟩ := bindO_T hS
          refine xE (eC 0 (fun g' lr eb ln => C18 g' p Ap_parts cp_parts (3 : Int) transition (by rw [eb]; exact fp_parts) hy46)) ?_
          rintro _ g47 _ e48 ⟨_, rfl, A46_0_legs, c46_0_legs, rfl, rfl, f46_0_legs⟩
          have nf46_0_legs := f46_0_legs.len
          refine xB 3 [] [(3, vp b1 0), (9, vp b6 0), (45, Value.agg #[vy y46.1.kind, vt y46.1.name, vs A46_0_legs y46.1.legs c46_0_legs]), (46, vb y46.2)] ?_
          refine xE eB ?_
          rintro _ _ _ - ⟨b49, rfl, rfl, rfl⟩
          refine xBo 2 [(7, 0)] [some ⟨b49, 35, [vy y46.1.kind, vt y46.1.name, vs A46_0_legs y46.1.legs c46_0_legs]⟩, none, some ⟨b1, 25, (cProc p Ap_parts cp_parts)⟩, k11_0] [(3, vp b1 0), (9, vp b6 0), (12, vp b49 0), (13, vb y46.2)] ?_
          refine xRe ?_
          refine wpq_then ?_
          refine xSq ?_
          refine xSq ?_
          refine xRg ?_
          refine xB 2 [] [(3, vp b1 0), (9, vp b6 0), (12, vp b49 0), (48, vb (!y46.2))] ?_
          refine xRe ?_
          refine wpq_then ?_
          refine xCd ((!y46.2)) (fun h50 => ?_) (fun h50 => ?_)
          · have hS := cond_T h50 hS
            have h50n := not_eq_true_ h50
            refine xSq ?_
            refine xRg ?_
            refine xB 2 [] [(6, Value.slice none 0 0), (7, vi 6)] ?_
            refine xRe ?_
            refine wpq_then ?_
            have eS := (Option.some.inj hS).symm
            have eS := (hD14 _ eS).symm
            subst eS
            exact xRet [none] [6, 7] (e4.trans (e10.trans (e13.trans e48))) ⟨none, 0, none, by kernel_rfl, by kernel_rfl, Buf.nil⟩ (fun _ _ h => h)
          · have hS := cond_F h50 hS
            have h50n := not_eq_false_ h50
            refine xSk ?_
            refine wpq_then ?_
            refine xSub [(3, vp b1 0), (9, vp b6 0), (12, vp b49 0)] ?_
            refine xDr 0 [1, 3] [5, 4] [some ⟨b49, 35, [vy y46.1.kind, vt y46.1.name, vs A46_0_legs y46.1.legs c46_0_legs]⟩, some ⟨b1, 25, (cProc p Ap_parts cp_parts)⟩] 6 (fun RG => ?_) (fun _ _ _ _ _ h => h)
            refine xT 3 [0, 1, 3] [(1, 1), (3, 0)] [some 0, some 2] [(3, vp b1 0), (9, vp b6 0), (50, vy p.kind), (52, Value.agg #[vy y46.1.kind, vt y46.1.name, vs A46_0_legs y46.1.legs c46_0_legs])] RG (Psi.le.refl _) ?_
            obtain ⟨y51, hy51, hS⟩ := letJ_T hS
            refine xO1 (lds := [1, 3]) 2 ?_
            refine xIe (lds := [1, 3]) (Psi.le.refl _) (eC 0 (fun g' lr eb ln => C39 g' (p.kind : Int) (3 : Int) hy51)) ?_
            rintro _ g52 _ e53 ⟨_, rfl, rfl, rfl⟩
            refine kk [some 0, some 2] ?_
            have h11_0 := h11_0.mono (e48.trans e53).b
            obtain ⟨q55, hS⟩ := grd_T hS
            have q55p := of_decide_eq_true q55
            have i56 : (y51).toNat < 4 := by omega
            have i57 : (y51).toNat < (t11).length := by omega
            obtain ⟨kc54, cs54, hA54, hk54, hr54, hw54⟩ := h11_0.open_ i57 default
            obtain ⟨kb54, rfl⟩ : ∃ z, z = kc54 := ⟨_, rfl⟩
            subst hk54
            obtain ⟨A54_legs, c54_legs, rfl, f54_legs⟩ := hr54
            have nf54_legs := f54_legs.len
            refine xTp 4 RG (fun _ => (qIxRA (y51).toNat 3 kb54.g hA54 (show (y51 : Int) = _ from by omega) i56)) ?_
            have f46_0_legs := f46_0_legs.mono e53.b
            refine xO1 (lds := [1, 3]) 5 ?_
            refine xId (lds := [1, 3]) e53.r (eStB (y51).toNat 3 0 3 [vy y46.1.kind, vt y46.1.name, vs A46_0_legs y46.1.legs c46_0_legs] h11_0 rfl hw54 (show tyPart.rep _ _ y46.1 from ⟨A46_0_legs, c46_0_legs, rfl, f46_0_legs⟩) i57) ?_
            rintro _ _ _ - ⟨k58, rfl, rfl, h58⟩
            refine kf ?_
            have hz58 : (t11).length = ((List.set t11 (y51).toNat y46.1)).length := by simp
            have hz58_1 : 4 = ((List.set t11 (y51).toNat y46.1)).length := hz11_v0.trans hz58
            refine xAe (lds := [1, 3]) ?_
            refine xSel [none, some 2, some 3] ?_
            refine xSub [(3, vp b1 0), (9, vp b6 0)] ?_
            have eS := (Option.some.inj hS).symm
            exact hN14 _ eS _ _ _ (e48.trans e53) ⟨k58, by kernel_rfl, by kernel_rfl, (Buf.re h58 hz58 rfl), hz58_1⟩
        · have hS := cond_F h45 hS
          have h45n := not_eq_false_ h45
          have h45np : transition = [] := eq_of_beq h45n
          refine xSk ?_
          refine xSel [none, some 1, some 2] ?_
          refine xSub [(3, vp b1 0), (9, vp b6 0)] ?_
          have eS := (Option.some.inj hS).symm
          exact hN14 _ eS _ _ _ (Gh.le.refl _) ⟨k11_0, by kernel_rfl, by kernel_rfl, h11_0, hz11_v0⟩
    · intro uu11 hS hN11 hD11
      refine xCd (decide ((((y8).length : Nat) : Int) > 0)) (fun h59 => ?_) (fun h59 => ?_)
      · have hS := cond_T h59 hS
        have h59p := of_decide_eq_true h59
        refine xSq ?_
        refine xRg ?_
        refine xB 2 [(0, 3)] [(2, vt transition), (3, vp b1 0), (9, vp b6 0), (27, Value.agg #[vt p.airport, vt p.name, vy p.kind, vs Ap_parts p.parts cp_parts]), (28, vt runway)] ?_
        have fp_parts := fp_parts.mono e10.b
        obtain ⟨y60, hy60, hS⟩ := bindO_T hS
        refine xE (eC 0 (fun g' lr eb ln => C18 g' p Ap_parts cp_parts (1 : Int) runway (by rw [eb]; exact fp_parts) hy60)) ?_
        rintro _ g61 _ e62 ⟨_, rfl, A60_0_legs, c60_0_legs, rfl, rfl, f60_0_legs⟩
        have nf60_0_legs := f60_0_legs.len
        refine xB 3 [] [(2, vt transition), (3, vp b1 0), (9, vp b6 0), (30, Value.agg #[vy y60.1.kind, vt y60.1.name, vs A60_0_legs y60.1.legs c60_0_legs]), (31, vb y60.2)] ?_
        refine xE eB ?_
        rintro _ _ _ - ⟨b63, rfl, rfl, rfl⟩
        refine xBo 2 [(7, 0)] [some ⟨b63, 35, [vy y60.1.kind, vt y60.1.name, vs A60_0_legs y60.1.legs c60_0_legs]⟩, k8_0, none, k7, some ⟨b1, 25, (cProc p Ap_parts cp_parts)⟩] [(2, vt transition), (3, vp b1 0), (9, vp b6 0), (10, vp b63 0), (11, vb y60.2)] ?_
        refine xRe ?_
        refine wpq_then ?_
        refine xSq ?_
        refine xSq ?_
        refine xRg ?_
        refine xB 2 [] [(2, vt transition), (3, vp b1 0), (9, vp b6 0), (10, vp b63 0), (33, vb (!y60.2))] ?_
        refine xRe ?_
        refine wpq_then ?_
        refine xCd ((!y60.2)) (fun h64 => ?_) (fun h64 => ?_)
        · have hS := cond_T h64 hS
          have h64n := not_eq_true_ h64
          refine xSq ?_
          refine xRg ?_
          refine xB 2 [] [(6, Value.slice none 0 0), (7, vi 6)] ?_
          refine xRe ?_
          refine wpq_then ?_
          have eS := (Option.some.inj hS).symm
          have eS := (hD11 _ eS).symm
          subst eS
          exact xRet [none] [6, 7] (e4.trans (e10.trans e62)) ⟨none, 0, none, by kernel_rfl, by kernel_rfl, Buf.nil⟩ (fun _ _ h => h)
        · have hS := cond_F h64 hS
          have h64n := not_eq_false_ h64
          refine xSk ?_
          refine wpq_then ?_
          refine xSub [(2, vt transition), (3, vp b1 0), (9, vp b6 0), (10, vp b63 0)] ?_
          refine xDr 0 [1, 3] [5, 4] [some ⟨b63, 35, [vy y60.1.kind, vt y60.1.name, vs A60_0_legs y60.1.legs c60_0_legs]⟩, some ⟨b1, 25, (cProc p Ap_parts cp_parts)⟩] 6 (fun RG => ?_) (fun _ _ _ _ _ h => h)
          refine xT 3 [0, 1, 3] [(1, 1), (3, 0)] [some 0, some 4] [(2, vt transition), (3, vp b1 0), (9, vp b6 0), (35, vy p.kind), (37, Value.agg #[vy y60.1.kind, vt y60.1.name, vs A60_0_legs y60.1.legs c60_0_legs])] RG (Psi.le.refl _) ?_
          obtain ⟨y65, hy65, hS⟩ := letJ_T hS
          refine xO1 (lds := [1, 3]) 2 ?_
          refine xIe (lds := [1, 3]) (Psi.le.refl _) (eC 0 (fun g' lr eb ln => C39 g' (p.kind : Int) (1 : Int) hy65)) ?_
          rintro _ g66 _ e67 ⟨_, rfl, rfl, rfl⟩
          refine kk [some 0, some 4] ?_
          have h7 := h7.mono (e10.trans (e62.trans e67)).b
          obtain ⟨q69, hS⟩ := grd_T hS
          have q69p := of_decide_eq_true q69
          have i70 : (y65).toNat < 4 := by omega
          have i71 : (y65).toNat < ((List.replicate 4 (default : Part))).length := by omega
          obtain ⟨kc68, cs68, hA68, hk68, hr68, hw68⟩ := h7.open_ i71 default
          obtain ⟨kb68, rfl⟩ : ∃ z, z = kc68 := ⟨_, rfl⟩
          subst hk68
          obtain ⟨A68_legs, c68_legs, rfl, f68_legs⟩ := hr68
          have nf68_legs := f68_legs.len
          refine xTp 4 RG (fun _ => (qIxRA (y65).toNat 3 kb68.g hA68 (show (y65 : Int) = _ from by omega) i70)) ?_
          have f60_0_legs := f60_0_legs.mono e67.b
          refine xO1 (lds := [1, 3]) 5 ?_
          refine xId (lds := [1, 3]) e67.r (eStB (y65).toNat 3 0 3 [vy y60.1.kind, vt y60.1.name, vs A60_0_legs y60.1.legs c60_0_legs] h7 rfl hw68 (show tyPart.rep _ _ y60.1 from ⟨A60_0_legs, c60_0_legs, rfl, f60_0_legs⟩) i71) ?_
          rintro _ _ _ - ⟨k72, rfl, rfl, h72⟩
          refine kf ?_
          have hz72 : 4 = ((List.set (List.replicate 4 (default : Part)) (y65).toNat y60.1)).length := hz7.trans (by simp)
          refine xAe (lds := [1, 3]) ?_
          refine xSel [none, some 4, some 3] ?_
          refine xSub [(2, vt transition), (3, vp b1 0), (9, vp b6 0)] ?_
          have eS := (Option.some.inj hS).symm
          exact hN11 _ eS _ _ _ (e62.trans e67) ⟨k72, by kernel_rfl, by kernel_rfl, (Buf.re h72 hz72 rfl), hz72⟩
      · have hS := cond_F h59 hS
        have h59p := of_decide_eq_false h59
        refine xSk ?_
        have h7 := h7.mono e10.b
        refine xSel [none, some 3, some 2] ?_
        refine xSub [(2, vt transition), (3, vp b1 0), (9, vp b6 0)] ?_
        have eS := (Option.some.inj hS).symm
        exact hN11 _ eS _ _ _ (Gh.le.refl _) ⟨k7, by kernel_rfl, by kernel_rfl, (Buf.re h7 hz7 rfl), hz7⟩

def o7 (p : Proc) (runway : List UInt8) (transition : List UInt8) : Option (Bool) :=
  (bindO (τ := Bool) (o12) fun y2 => (cond ((!y2)) (some ((false))) (bindO (τ := (List Leg) × Int) (o23 p runway transition) fun y6 => (bindO (τ := (List Leg) × Int) (o24 p runway transition) fun y9 => (bindO (τ := Bool) (cond ((y6.2 == y9.2)) (bindO (τ := Bool) (o20 (y6.1 : List Leg) (y9.1 : List Leg)) fun y16 => (some (y16))) (some (false))) fun t12 => (some ((t12))))))))
set_option maxRecDepth 100000 in
theorem C7 (g : Gh) (p : Proc) (Ap_parts : Option Addr) (cp_parts : Nat) (runway : List UInt8) (transition : List UInt8) (fp_parts : Arr g.b tyPart Ap_parts cp_parts p.parts) (fG0 : Arr g.r (tyI .u16) (some ⟨0, 0, none⟩) 18 usesL) {r : Bool} (hS : o7 p runway transition = some r) :
    Ctr Tryd.prog 7 [Value.agg #[vt p.airport, vt p.name, vy p.kind, vs Ap_parts p.parts cp_parts], vt runway, vt transition] g [] (fun v ψ o => v = vb r ∧ o = []) := by
  unfold o7 at hS
  refine xFn Tryd.f7 (Tryd.f7.body.getD .skip) 35 ?_
  have hlG0 := hlUses
  have nfp_parts := fp_parts.len
  have nfG0 := fG0.len
  refine xSq ?_
  refine xRg ?_
  refine xE eB ?_
  rintro _ _ _ - ⟨b1, rfl, rfl, rfl⟩
  refine xB 1 [] [(1, vt runway), (2, vt transition), (3, vp b1 0)] ?_
  refine xRe ?_
  refine wpq_then ?_
  refine xSq ?_
  refine xSq ?_
  refine xRg ?_
  obtain ⟨y2, hy2, hS⟩ := bindO_T hS
  refine xE (eC 0 (fun g' lr eb ln => C12 g' (fG0.mono lr) hy2)) ?_
  rintro _ g3 _ e4 ⟨_, rfl, rfl, rfl⟩
  refine xB 1 [] [(1, vt runway), (2, vt transition), (3, vp b1 0), (12, vb (!y2))] ?_
  refine xRe ?_
  refine wpq_then ?_
  refine xCd ((!y2)) (fun h5 => ?_) (fun h5 => ?_)
  · have hS := cond_T h5 hS
    have h5n := not_eq_true_ h5
    refine xSq ?_
    refine xRg ?_
    refine xB 1 [] [(6, vb false)] ?_
    refine xRe ?_
    refine wpq_then ?_
    have eS := (Option.some.inj hS).symm
    subst eS
    exact xRet [] [6] e4 ⟨by kernel_rfl, by kernel_rfl⟩ (fun _ _ h => h)
  · have hS := cond_F h5 hS
    have h5n := not_eq_false_ h5
    refine xSk ?_
    refine wpq_then ?_
    refine xSub [(1, vt runway), (2, vt transition), (3, vp b1 0)] ?_
    refine xSq ?_
    refine xRg ?_
    refine xB 3 [(0, 0)] [(1, vt runway), (2, vt transition), (3, vp b1 0), (14, Value.agg #[vt p.airport, vt p.name, vy p.kind, vs Ap_parts p.parts cp_parts]), (15, vt runway), (16, vt transition)] ?_
    have fp_parts := fp_parts.mono e4.b
    have fG0 := fG0.mono e4.r
    obtain ⟨y6, hy6, hS⟩ := bindO_T hS
    refine xE (eC 0 (fun g' lr eb ln => C23 g' p Ap_parts cp_parts runway transition (ArrM.lent (fp_parts.toM g3.br) lr eb) (fG0.mono lr) hy6)) ?_
    rintro _ g7 _ e8 ⟨_, rfl, A6_0, c6_0, k6_0, rfl, rfl, h6_0⟩
    have nh6_0 := h6_0.len
    refine xB 5 [] [(1, vt runway), (2, vt transition), (3, vp b1 0), (7, vs A6_0 y6.1 c6_0), (8, vi y6.2)] ?_
    refine xRe ?_
    refine wpq_then ?_
    refine xSq ?_
    refine xRg ?_
    refine xB 3 [(0, 1)] [(7, vs A6_0 y6.1 c6_0), (8, vi y6.2), (21, Value.agg #[vt p.airport, vt p.name, vy p.kind, vs Ap_parts p.parts cp_parts]), (22, vt runway), (23, vt transition)] ?_
    have fp_parts := fp_parts.mono e8.b
    obtain ⟨y9, hy9, hS⟩ := bindO_T hS
    refine xE (eC 0 (fun g' lr eb ln => C24 g' p Ap_parts cp_parts runway transition (by rw [eb]; exact fp_parts) hy9)) ?_
    rintro _ g10 _ e11 ⟨_, rfl, A9_0, c9_0, k9_0, rfl, rfl, h9_0⟩
    have nh9_0 := h9_0.len
    refine xB 5 [] [(7, vs A6_0 y6.1 c6_0), (8, vi y6.2), (9, vs A9_0 y9.1 c9_0), (10, vi y9.2)] ?_
    refine xRe ?_
    refine wpq_then ?_
    refine xSq ?_
    refine xRg ?_
    refine xB 4 [] [(7, vs A6_0 y6.1 c6_0), (9, vs A9_0 y9.1 c9_0), (30, vb (y6.2 == y9.2))] ?_
    refine xGJo hS 8 (fun g own sl t12 => own = [] ∧ sl = [(34, vb t12)]) ?_ ?_
    · rintro g13 _ _ t12 e14 ⟨rfl, rfl⟩ hS
      refine xB 1 [] [(6, vb t12)] ?_
      refine xRe ?_
      refine wpq_then ?_
      have eS := (Option.some.inj hS).symm
      subst eS
      exact xRet [] [6] (e4.trans (e8.trans (e11.trans e14))) ⟨by kernel_rfl, by kernel_rfl⟩ (fun _ _ h => h)
    · intro uu12 hS hN12
      refine wpq_split 30 (b := (y6.2 == y9.2)) (by kernel_rfl) (fun q15 => ?_) (fun q15 => ?_)
      · have hS := cond_T q15 hS
        have q15p : y6.2 = y9.2 := eq_of_beq q15
        refine xB 2 [] [(30, vb true), (31, vs A6_0 y6.1 c6_0), (32, vs A9_0 y9.1 c9_0)] ?_
        have h6_0 := h6_0.mono e11.b
        obtain ⟨y16, hy16, hS⟩ := bindO_T hS
        refine xE (eC 0 (fun g' lr eb ln => C20 g' (y6.1 : List Leg) A6_0 c6_0 (y9.1 : List Leg) A9_0 c9_0 (arr_of_buf h6_0 (Psi.le_b eb) (lentk 1 (by kernel_rfl) ln)) (arr_of_buf h9_0 (Psi.le_b eb) (lentk 0 (by kernel_rfl) ln)) hy16)) ?_
        rintro _ g17 _ e18 ⟨_, rfl, rfl, rfl⟩
        refine xB 1 [] [(34, vb y16)] ?_
        refine xSel [] ?_
        refine xSub [(34, vb y16)] ?_
        exact hN12 _ (Option.some.inj hS).symm _ _ _ e18 ⟨by kernel_rfl, by kernel_rfl⟩
      · have hS := cond_F q15 hS
        have q15p : ¬ (y6.2 = y9.2) := ne_of_beq_false_ q15
        refine xB 4 [] [(34, vb false)] ?_
        refine xSel [] ?_
        refine xSub [(34, vb false)] ?_
        exact hN12 _ (Option.some.inj hS).symm _ _ _ (Gh.le.refl _) ⟨by kernel_rfl, by kernel_rfl⟩

end Go.Proofs.YthfekfebgghjhaaDoor
