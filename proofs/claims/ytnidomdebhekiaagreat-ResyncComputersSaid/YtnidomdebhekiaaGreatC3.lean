/-
Walks, printed by wip/gen, with half of their indentation. Conditions: each theorem's own.
-/
import Derived.Test.YtnidomdebhekiaaGreatC2
namespace Go.Proofs.YtnidomdebhekiaaGreat
set_option linter.unusedVariables false
set_option linter.unusedSimpArgs false
open Go.RowKit
set_option maxRecDepth 100000
def o92 (number : Int) (role : Int) (steps : Int) (alone : Int) (heard : Bool) (other : Int) (theirs : Int) : Int :=
 (letJ (τ := Int) (cond (((other != 2) && (other != 3))) (1) (other)) fun t2 => (cond ((role == 2)) (cond (((heard && (t2 == 2)) && (decide (theirs > steps) || ((theirs == steps) && (number == 2))))) ((1 : Int)) ((2 : Int))) (cond ((role == 3)) (cond (((!heard) || (t2 == 1))) ((2 : Int)) (cond ((t2 == 2)) (cond ((theirs == steps)) ((3 : Int)) ((1 : Int))) (cond (decide (theirs > steps)) ((1 : Int)) (cond ((decide (theirs < steps) || (number == 1))) ((2 : Int)) ((3 : Int)))))) (cond ((((!heard) && decide (alone ≥ 3)) || ((heard && (t2 == 1)) && (number == 1)))) ((2 : Int)) ((1 : Int))))))
theorem c92 (g : Gh) (number : Int) (role : Int) (steps : Int) (alone : Int) (heard : Bool) (other : Int) (w0 : Int) {r : Int} (hS : o92 number role steps alone heard other w0 = r) :
  Ctr Tryz.prog 92 [vi number, vy role, vi steps, vi alone, vb heard, vy other, vi w0] g [] (fun v ψ o => v = vy r ∧ o = []) := by
 unfold o92 at hS
 refine xFn Tryz.f92 (Tryz.f92.body.getD .skip) 82 (xSq (xRg (xb 1 [] [0, 1, 2, 3, 4, 5, 6] (xRe (xW (xSq (xSq (xRg (xb 3 [] [0, 1, 2, 3, 4, 5, 6, 17] ?_)))))))))
 refine wpr_grp 6 [(0, vi number), (1, vy role), (2, vi steps), (3, vi alone), (4, vb heard), (5, vy other), (6, vi w0), (20, vb ((other != 2) && (other != 3)))] (fun hk2 => ?_) ?_
 ·refine wpq_split 17 (b := (other != 2)) (by kernel_rfl) (fun q1 => ?_) (fun q1 => ?_)
  ·have q1p : ¬ (other = 2) := ne_of_bne_ q1
   refine xb 3 [] [0, 1, 2, 3, 4, 5, 6, 20] (wpq_re 20 (v := vb (other != 3)) (Value.bool (((other != 2) && (other != 3)))) (by kernel_rfl) (re_and1 q1) ?_)
   exact wpq_sub _ (by kernel_rfl) hk2
  ·have q1p : other = 2 := eq_of_bne_false_ q1
   refine xb 3 [] [0, 1, 2, 3, 4, 5, 6, 20] (wpq_re 20 (v := vb false) (Value.bool (((other != 2) && (other != 3)))) (by kernel_rfl) (re_and0 q1) ?_)
   exact wpq_sub _ (by kernel_rfl) hk2
 ·refine xRe ?_
  refine xW ?_
  refine xLetJ hS (fun g own sl t2 => own = [] ∧ sl = [(0, vi number), (1, vy role), (2, vi steps), (3, vi alone), (4, vb heard), (5, vy t2), (6, vi w0)]) ?_ ?_
  ·rintro g3 _ _ t2 e4 ⟨rfl, rfl⟩ hS
   refine xW (xSq (xSq (xRg (xb 2 [] [0, 1, 2, 3, 4, 5, 6, 22] (xRe (xW ?_))))))
   refine xCd ((role == 2)) (fun h5 => ?_) (fun h5 => ?_)
   ·have hS := cond_T h5 hS
    have h5p : role = 2 := eq_of_beq h5
    refine xSq (xSq (xRg (xb 2 [] [0, 2, 5, 6, 24] ?_)))
    refine wpr_grp 5 [(0, vi number), (2, vi steps), (6, vi w0), (27, vb (heard && (t2 == 2)))] (fun hk1 => ?_) ?_
    ·refine wpq_split 24 (b := heard) (by kernel_rfl) (fun q6 => ?_) (fun q6 => ?_)
     ·refine xb 3 [] [0, 2, 6, 27] ?_
      refine wpq_re 27 (v := vb (t2 == 2)) (Value.bool ((heard && (t2 == 2)))) (by kernel_rfl) (re_and1 q6) ?_
      exact wpq_sub _ (by kernel_rfl) hk1
     ·refine xb 3 [] [0, 2, 6, 27] ?_
      refine wpq_re 27 (v := vb false) (Value.bool ((heard && (t2 == 2)))) (by kernel_rfl) (re_and0 q6) ?_
      exact wpq_sub _ (by kernel_rfl) hk1
    ·refine xb 1 [] [0, 2, 6, 28] ?_
     refine wpr_grp 19 [(41, vb ((heard && (t2 == 2)) && (decide (w0 > steps) || ((w0 == steps) && (number == 2)))))] (fun hk5 => ?_) ?_
     ·refine wpq_split 28 (b := (heard && (t2 == 2))) (by kernel_rfl) (fun q7 => ?_) (fun q7 => ?_)
      ·have q7l := (and_true_ q7).1
       have q7r := (and_true_ q7).2
       have a2 : t2 = 2 := eq_of_beq q7r
       refine xb 4 [] [0, 2, 6, 28, 32] ?_
       refine wpr_grp 18 [(28, vb true), (40, vb (decide (w0 > steps) || ((w0 == steps) && (number == 2))))] (fun hk9 => ?_) ?_
       ·refine wpq_split 32 (b := decide (w0 > steps)) (by kernel_rfl) (fun q8 => ?_) (fun q8 => ?_)
        ·have q8p := of_decide_eq_true q8
         refine xb 8 [] [28, 40] (wpq_re 40 (v := vb true) (Value.bool ((decide (w0 > steps) || ((w0 == steps) && (number == 2))))) (by kernel_rfl) (re_or1 q8) ?_)
         exact wpq_sub _ (by kernel_rfl) hk9
        ·have q8p := of_decide_eq_false q8
         refine xb 4 [] [0, 28, 32, 36] ?_
         refine wpr_grp 17 [(28, vb true), (32, vb false), (39, vb ((w0 == steps) && (number == 2)))] (fun i0 => ?_) ?_
         ·refine wpq_split 36 (b := (w0 == steps)) (by kernel_rfl) (fun q9 => ?_) (fun q9 => ?_)
          ·have q9p : w0 = steps := eq_of_beq q9
           refine xb 3 [] [28, 32, 39] (wpq_re 39 (v := vb (number == 2)) (Value.bool (((w0 == steps) && (number == 2)))) (by kernel_rfl) (re_and1 q9) ?_)
           exact wpq_sub _ (by kernel_rfl) i0
          ·have q9p : ¬ (w0 = steps) := ne_of_beq_false_ q9
           refine xb 3 [] [28, 32, 39] (wpq_re 39 (v := vb false) (Value.bool (((w0 == steps) && (number == 2)))) (by kernel_rfl) (re_and0 q9) ?_)
           exact wpq_sub _ (by kernel_rfl) i0
         ·refine xb 1 [] [28, 40] ?_
          refine wpq_re 40 (v := vb ((w0 == steps) && (number == 2))) (Value.bool ((decide (w0 > steps) || ((w0 == steps) && (number == 2))))) (by kernel_rfl) (re_or0 q8) ?_
          exact wpq_sub _ (by kernel_rfl) hk9
       ·refine xb 1 [] [41] ?_
        refine wpq_re 41 (v := vb (decide (w0 > steps) || ((w0 == steps) && (number == 2)))) (Value.bool (((heard && (t2 == 2)) && (decide (w0 > steps) || ((w0 == steps) && (number == 2)))))) (by kernel_rfl) (re_and1 q7) ?_
        exact wpq_sub _ (by kernel_rfl) hk5
      ·refine xb 13 [] [41] ?_
       refine wpq_re 41 (v := vb false) (Value.bool (((heard && (t2 == 2)) && (decide (w0 > steps) || ((w0 == steps) && (number == 2)))))) (by kernel_rfl) (re_and0 q7) ?_
       exact wpq_sub _ (by kernel_rfl) hk5
     ·refine xRe ?_
      refine xW ?_
      refine xCd (((heard && (t2 == 2)) && (decide (w0 > steps) || ((w0 == steps) && (number == 2))))) (fun h10 => ?_) (fun h10 => ?_)
      ·have hS := cond_T h10 hS
       have f0 := (and_true_ h10).1
       have p0 := (and_true_ f0).2
       have f1 : t2 = 2 := eq_of_beq p0
       refine xSq (xRg (xb 1 [] [14] (xRe (xW ?_))))
       have eS := hS.symm
       subst eS
       exact xRet [] [14] e4 ⟨by kernel_rfl, by kernel_rfl⟩ (fun _ _ h => h)
      ·have hS := cond_F h10 hS
       refine xSk (xW (xc [] (xSq (xRg (xb 1 [] [14] (xRe (xW ?_)))))))
       have eS := hS.symm
       subst eS
       exact xRet [] [14] e4 ⟨by kernel_rfl, by kernel_rfl⟩ (fun _ _ h => h)
   ·have hS := cond_F h5 hS
    have h5p : ¬ (role = 2) := ne_of_beq_false_ h5
    refine xSk (xW (xc [0, 1, 2, 3, 4, 5, 6] (xSq (xSq (xRg (xb 2 [] [0, 2, 3, 4, 5, 6, 43] (xRe (xW ?_))))))))
    refine xCd ((role == 3)) (fun h11 => ?_) (fun h11 => ?_)
    ·have hS := cond_T h11 hS
     have v0 : role = 3 := eq_of_beq h11
     refine xSq (xSq (xRg (xb 3 [] [0, 2, 5, 6, 46] ?_)))
     refine wpr_grp 6 [(0, vi number), (2, vi steps), (5, vy t2), (6, vi w0), (49, vb ((!heard) || (t2 == 1)))] (fun hk2 => ?_) ?_
     ·refine wpq_split 46 (b := (!heard)) (by kernel_rfl) (fun q12 => ?_) (fun q12 => ?_)
      ·have d0 := not_eq_true_ q12
       refine xb 3 [] [0, 2, 5, 6, 49] (wpq_re 49 (v := vb true) (Value.bool (((!heard) || (t2 == 1)))) (by kernel_rfl) (re_or1 q12) ?_)
       exact wpq_sub _ (by kernel_rfl) hk2
      ·have d0 := not_eq_false_ q12
       refine xb 3 [] [0, 2, 5, 6, 49] (wpq_re 49 (v := vb (t2 == 1)) (Value.bool (((!heard) || (t2 == 1)))) (by kernel_rfl) (re_or0 q12) ?_)
       exact wpq_sub _ (by kernel_rfl) hk2
     ·refine xRe ?_
      refine xW ?_
      refine xCd (((!heard) || (t2 == 1))) (fun h13 => ?_) (fun h13 => ?_)
      ·have hS := cond_T h13 hS
       refine xSq (xRg (xb 1 [] [14] (xRe (xW ?_))))
       have eS := hS.symm
       subst eS
       exact xRet [] [14] e4 ⟨by kernel_rfl, by kernel_rfl⟩ (fun _ _ h => h)
      ·have hS := cond_F h13 hS
       have l1 := (or_false_ h13).2
       have v2 : ¬ (t2 = 1) := ne_of_beq_false_ l1
       refine xSk (xW (xc [0, 2, 5, 6] (xSq (xSq (xRg (xb 2 [] [0, 2, 6, 51] (xRe (xW ?_))))))))
       refine xCd ((t2 == 2)) (fun h14 => ?_) (fun h14 => ?_)
       ·have hS := cond_T h14 hS
        have j1 : t2 = 2 := eq_of_beq h14
        refine xSq (xSq (xRg (xb 3 [] [54] (xRe (xW ?_)))))
        refine xCd ((w0 == steps)) (fun h15 => ?_) (fun h15 => ?_)
        ·have hS := cond_T h15 hS
         have d1 : w0 = steps := eq_of_beq h15
         refine xSq (xRg (xb 1 [] [14] (xRe (xW ?_))))
         have eS := hS.symm
         subst eS
         exact xRet [] [14] e4 ⟨by kernel_rfl, by kernel_rfl⟩ (fun _ _ h => h)
        ·have hS := cond_F h15 hS
         have d1 : ¬ (w0 = steps) := ne_of_beq_false_ h15
         refine xSk (xW (xc [] (xSq (xRg (xb 1 [] [14] (xRe (xW ?_)))))))
         have eS := hS.symm
         subst eS
         exact xRet [] [14] e4 ⟨by kernel_rfl, by kernel_rfl⟩ (fun _ _ h => h)
       ·have hS := cond_F h14 hS
        have j1 : ¬ (t2 = 2) := ne_of_beq_false_ h14
        refine xSk (xW (xc [0, 2, 6] (xSq (xSq (xRg (xb 3 [] [0, 2, 6, 57] (xRe (xW ?_))))))))
        refine xCd (decide (w0 > steps)) (fun h16 => ?_) (fun h16 => ?_)
        ·have hS := cond_T h16 hS
         refine xSq (xRg (xb 1 [] [14] (xRe (xW ?_))))
         have eS := hS.symm
         subst eS
         exact xRet [] [14] e4 ⟨by kernel_rfl, by kernel_rfl⟩ (fun _ _ h => h)
        ·have hS := cond_F h16 hS
         refine xSk (xW (xc [0, 2, 6] (xSq (xSq (xRg (xb 4 [] [0, 61] ?_))))))
         refine wpr_grp 7 [(64, vb (decide (w0 < steps) || (number == 1)))] (fun hk3 => ?_) ?_
         ·refine wpq_split 61 (b := decide (w0 < steps)) (by kernel_rfl) (fun q17 => ?_) (fun q17 => ?_)
          ·have l0 := of_decide_eq_true q17
           refine xb 3 [] [64] (wpq_re 64 (v := vb true) (Value.bool ((decide (w0 < steps) || (number == 1)))) (by kernel_rfl) (re_or1 q17) ?_)
           exact wpq_sub _ (by kernel_rfl) hk3
          ·have l0 := of_decide_eq_false q17
           refine xb 3 [] [64] (wpq_re 64 (v := vb (number == 1)) (Value.bool ((decide (w0 < steps) || (number == 1)))) (by kernel_rfl) (re_or0 q17) ?_)
           exact wpq_sub _ (by kernel_rfl) hk3
         ·refine xRe ?_
          refine xW ?_
          refine xCd ((decide (w0 < steps) || (number == 1))) (fun h18 => ?_) (fun h18 => ?_)
          ·have hS := cond_T h18 hS
           refine xSq (xRg (xb 1 [] [14] (xRe (xW ?_))))
           have eS := hS.symm
           subst eS
           exact xRet [] [14] e4 ⟨by kernel_rfl, by kernel_rfl⟩ (fun _ _ h => h)
          ·have hS := cond_F h18 hS
           have w1 := (or_false_ h18).2
           have z2 : ¬ (number = 1) := ne_of_beq_false_ w1
           refine xSk (xW (xc [] (xSq (xRg (xb 1 [] [14] (xRe (xW ?_)))))))
           have eS := hS.symm
           subst eS
           exact xRet [] [14] e4 ⟨by kernel_rfl, by kernel_rfl⟩ (fun _ _ h => h)
    ·have hS := cond_F h11 hS
     have v0 : ¬ (role = 3) := ne_of_beq_false_ h11
     refine xSk (xW (xc [0, 3, 4, 5] (xSq (xSq (xRg (xb 3 [] [0, 3, 4, 5, 67] ?_))))))
     refine wpr_grp 6 [(0, vi number), (4, vb heard), (5, vy t2), (70, vb ((!heard) && decide (alone ≥ 3)))] (fun hk2 => ?_) ?_
     ·refine wpq_split 67 (b := (!heard)) (by kernel_rfl) (fun q19 => ?_) (fun q19 => ?_)
      ·have z1 := not_eq_true_ q19
       refine xb 3 [] [0, 4, 5, 70] (wpq_re 70 (v := vb (decide (alone ≥ 3))) (Value.bool (((!heard) && decide (alone ≥ 3)))) (by kernel_rfl) (re_and1 q19) ?_)
       exact wpq_sub _ (by kernel_rfl) hk2
      ·have z1 := not_eq_false_ q19
       refine xb 3 [] [0, 4, 5, 70] (wpq_re 70 (v := vb false) (Value.bool (((!heard) && decide (alone ≥ 3)))) (by kernel_rfl) (re_and0 q19) ?_)
       exact wpq_sub _ (by kernel_rfl) hk2
     ·refine xb 1 [] [0, 4, 5, 71] ?_
      refine wpr_grp 17 [(81, vb (((!heard) && decide (alone ≥ 3)) || ((heard && (t2 == 1)) && (number == 1))))] (fun hk6 => ?_) ?_
      ·refine wpq_split 71 (b := ((!heard) && decide (alone ≥ 3))) (by kernel_rfl) (fun q20 => ?_) (fun q20 => ?_)
       ·have f2 := (and_true_ q20).1
        refine xb 10 [] [81] (wpq_re 81 (v := vb true) (Value.bool ((((!heard) && decide (alone ≥ 3)) || ((heard && (t2 == 1)) && (number == 1))))) (by kernel_rfl) (re_or1 q20) ?_)
        exact wpq_sub _ (by kernel_rfl) hk6
       ·refine xb 2 [] [0, 5, 71, 73] ?_
        refine wpr_grp 12 [(0, vi number), (71, vb false), (76, vb (heard && (t2 == 1)))] (fun hk8 => ?_) ?_
        ·refine wpq_split 73 (b := heard) (by kernel_rfl) (fun q21 => ?_) (fun q21 => ?_)
         ·refine xb 3 [] [0, 71, 76] ?_
          refine wpq_re 76 (v := vb (t2 == 1)) (Value.bool ((heard && (t2 == 1)))) (by kernel_rfl) (re_and1 q21) ?_
          exact wpq_sub _ (by kernel_rfl) hk8
         ·refine xb 3 [] [0, 71, 76] ?_
          refine wpq_re 76 (v := vb false) (Value.bool ((heard && (t2 == 1)))) (by kernel_rfl) (re_and0 q21) ?_
          exact wpq_sub _ (by kernel_rfl) hk8
        ·refine xb 1 [] [0, 71, 77] ?_
         refine wpr_grp 16 [(71, vb false), (80, vb ((heard && (t2 == 1)) && (number == 1)))] (fun j0 => ?_) ?_
         ·refine wpq_split 77 (b := (heard && (t2 == 1))) (by kernel_rfl) (fun q22 => ?_) (fun q22 => ?_)
          ·have w3 := (and_true_ q22).1
           have v1 := (and_true_ q22).2
           have w2 : t2 = 1 := eq_of_beq v1
           refine xb 3 [] [71, 80] (wpq_re 80 (v := vb (number == 1)) (Value.bool (((heard && (t2 == 1)) && (number == 1)))) (by kernel_rfl) (re_and1 q22) ?_)
           exact wpq_sub _ (by kernel_rfl) j0
          ·refine xb 3 [] [71, 80] ?_
           refine wpq_re 80 (v := vb false) (Value.bool (((heard && (t2 == 1)) && (number == 1)))) (by kernel_rfl) (re_and0 q22) ?_
           exact wpq_sub _ (by kernel_rfl) j0
         ·refine xb 1 [] [81] ?_
          refine wpq_re 81 (v := vb ((heard && (t2 == 1)) && (number == 1))) (Value.bool ((((!heard) && decide (alone ≥ 3)) || ((heard && (t2 == 1)) && (number == 1))))) (by kernel_rfl) (re_or0 q20) ?_
          exact wpq_sub _ (by kernel_rfl) hk6
      ·refine xRe ?_
       refine xW ?_
       refine xCd ((((!heard) && decide (alone ≥ 3)) || ((heard && (t2 == 1)) && (number == 1)))) (fun h23 => ?_) (fun h23 => ?_)
       ·have hS := cond_T h23 hS
        refine xSq (xRg (xb 1 [] [14] (xRe (xW ?_))))
        have eS := hS.symm
        subst eS
        exact xRet [] [14] e4 ⟨by kernel_rfl, by kernel_rfl⟩ (fun _ _ h => h)
       ·have hS := cond_F h23 hS
        refine xSk (xW (xc [] (xSq (xRg (xb 1 [] [14] (xRe (xW ?_)))))))
        have eS := hS.symm
        subst eS
        exact xRet [] [14] e4 ⟨by kernel_rfl, by kernel_rfl⟩ (fun _ _ h => h)
  ·intro uu2 hS hN2
   refine xCd (((other != 2) && (other != 3))) (fun h24 => ?_) (fun h24 => ?_)
   ·have hS := cond_T h24 hS
    have i1 := (and_true_ h24).1
    have t1 := (and_true_ h24).2
    have j2 : ¬ (other = 2) := ne_of_bne_ i1
    have d2 : ¬ (other = 3) := ne_of_bne_ t1
    refine xRg (xb 1 [] [0, 1, 2, 3, 4, 5, 6] (xRe (xc [0, 1, 2, 3, 4, 5, 6] ?_)))
    have eS := hS.symm
    exact hN2 _ eS _ _ _ gR ⟨by kernel_rfl, by kernel_rfl⟩
   ·have hS := cond_F h24 hS
    refine xSk (xc [0, 1, 2, 3, 4, 5, 6] ?_)
    have eS := hS.symm
    exact hN2 _ eS _ _ _ gR ⟨by kernel_rfl, by kernel_rfl⟩

def o53 (n : RNode) (f : Frame) (came : Bool) : Option (RNode × Heard × Bool × Int) :=
 (cond ((n.stage != 1)) (some ((n, (⟨0, 0, (⟨0, 0⟩ : Want), ([] : List UInt8)⟩ : Heard), (false), (8 : Int)))) (letJ (o60 ({ n with alone := (IntKind.i64.wrap (n.alone + 1)), stage := 2 }) f (came) (1 : Int)) fun y6 => (bindO (τ := Int × Bool × Heard) (cond (y6) (bindO (o91 f.payload) fun y25 => (letJ (τ := Int × Bool × Heard) (cond ((y25.2 == 0)) ((0, true, y25.1)) (((IntKind.i64.wrap (n.alone + 1)), n.isHeard, n.heard))) fun t29 => (some ((t29.1, t29.2.1, t29.2.2))))) (some (((IntKind.i64.wrap (n.alone + 1)), n.isHeard, n.heard)))) fun t9 => (letJ (o92 n.number n.role n.steps t9.1 (t9.2.1) t9.2.2.role t9.2.2.steps) fun y12 => (letJ (τ := Int) (cond ((y12 == 1)) (0) (n.steps)) fun t15 => (letJ (τ := Int × Bool) (cond (((y12 == 2) && (n.role == 1))) ((0, true)) ((t15, n.fresh))) fun t19 => (some (((⟨n.number, y12, t19.1, t9.1, 2, n.cycle, n.input, t19.2, t9.2.1, t9.2.2, n.stepped, n.told⟩ : RNode), t9.2.2, (t9.2.1), (0 : Int))))))))))
theorem c53 (g : Gh) (n : RNode) (p0 : OA) (i0 : Nat) (w0 : OA) (j0 : Nat) (f : Frame) (w1 : OA) (f0 : Nat) (came : Bool) (l1 : Arr g.b tyU8 p0 i0 n.input) (d0 : Arr g.b tyU8 w0 j0 n.heard.input) (d1 : Arr g.r tyU8 w1 f0 f.payload) {r : RNode × Heard × Bool × Int} (hS : o53 n f came = some r) :
  Ctr Tryz.prog 53 [(aRNode n p0 i0 w0 j0), (aFrame f w1 f0), vb came] g [] (fun v ψ o => ∃ (j2 : OA) (v2 : Nat) (t1 : OA) (v1 : Nat) (d2 : OA) (z2 : Nat), v = Value.tuple #[(aRNode r.1 j2 v2 t1 v1), (aHeard r.2.1 d2 z2), vb r.2.2.1, vi r.2.2.2] ∧ o = [] ∧ Arr ψ tyU8 j2 v2 r.1.input ∧ Arr ψ tyU8 t1 v1 r.1.heard.input ∧ Arr ψ tyU8 d2 z2 r.2.1.input) := by
 unfold o53 at hS
 refine xFn Tryz.f53 (Tryz.f53.body.getD .skip) 75 (xSq (xRg (xE eB ?_)))
 rintro _ _ _ - ⟨b1, rfl, rfl, rfl⟩
 refine xE eB ?_
 rintro _ _ _ - ⟨b2, rfl, rfl, rfl⟩
 refine xE eB ?_
 rintro _ _ _ - ⟨b3, rfl, rfl, rfl⟩
 refine xE eB ?_
 rintro _ _ _ - ⟨b4, rfl, rfl, rfl⟩
 refine xb 2 [] [2, 3, 4, 6, 7] (xRe (xW (xSq (xSq (xRg (xb 3 [(1, 3)] [2, 3, 4, 6, 7, 15] (xRe (xW ?_))))))))
 refine xCd ((n.stage != 1)) (fun h5 => ?_) (fun h5 => ?_)
 ·have hS := cond_T h5 hS
  have h5p : ¬ (n.stage = 1) := ne_of_bne_ h5
  refine xSq (xRg (xbo 6 [(0, 3), (2, 1), (3, 0)] [some ⟨b4, 32, (cHeard (⟨0, 0, (⟨0, 0⟩ : Want), ([] : List UInt8)⟩ : Heard) none 0)⟩, some ⟨b3, 36, (cRNode n p0 i0 w0 j0)⟩, some ⟨b2, 49, (cFrame f w1 f0)⟩, some ⟨b1, 36, (cRNode n p0 i0 w0 j0)⟩] [6, 7, 8, 9] (xRe (xW ?_))))
  obtain rfl := Option.some.inj hS
  exact xRetC [] [(6, 1), (7, 0)] gR ⟨p0, i0, w0, j0, none, 0, by kernel_rfl, by kernel_rfl, l1, d0, Arr.nil⟩ (fun _ _ h => h)
 ·have hS := cond_F h5 hS
  have h5p : n.stage = 1 := eq_of_bne_false_ h5
  refine xSk (xW (xc [2, 3, 4, 6, 7] (xSq (xRg (xbo 2 [(1, 3)] [some ⟨b4, 32, (cHeard (⟨0, 0, (⟨0, 0⟩ : Want), ([] : List UInt8)⟩ : Heard) none 0)⟩, some ⟨b3, 36, (cRNode (⟨0, 0, 0, 0, 0, 0, ([] : List UInt8), false, false, (⟨0, 0, (⟨0, 0⟩ : Want), ([] : List UInt8)⟩ : Heard), false, Z0⟩ : RNode) none 0 none 0)⟩, some ⟨b2, 49, (cFrame f w1 f0)⟩, some ⟨b1, 36, (cRNode ({ n with stage := 2 }) p0 i0 w0 j0)⟩] [2, 3, 4, 6, 7] (xRe (xW (xSq (xRg (xbo 5 [(1, 3), (4, 3)] [some ⟨b4, 32, (cHeard (⟨0, 0, (⟨0, 0⟩ : Want), ([] : List UInt8)⟩ : Heard) none 0)⟩, some ⟨b3, 36, (cRNode (⟨0, 0, 0, 0, 0, 0, ([] : List UInt8), false, false, (⟨0, 0, (⟨0, 0⟩ : Want), ([] : List UInt8)⟩ : Heard), false, Z0⟩ : RNode) none 0 none 0)⟩, some ⟨b2, 49, (cFrame f w1 f0)⟩, some ⟨b1, 36, (cRNode ({ n with alone := (IntKind.i64.wrap (n.alone + 1)), stage := 2 }) p0 i0 w0 j0)⟩] [2, 3, 4, 6, 7] (xRe (xW (xSq (xSq (xRg (xb 3 [(0, 3), (1, 2)] [3, 4, 6, 7, 23, 24, 25] ?_))))))))))))))))
  obtain ⟨y6, hy6, hS⟩ := letJ_T hS
  refine xE (eC 0 (fun g' lr eb ln => c60 g' ({ n with alone := (IntKind.i64.wrap (n.alone + 1)), stage := 2 }) p0 i0 w0 j0 f w1 f0 (came) (1 : Int) ((l1.mono g.br).mono lr) ((d0.mono g.br).mono lr) (d1.mono lr) hy6)) ?_
  rintro _ g7 _ e8 ⟨_, rfl, rfl, rfl⟩
  refine xRe (xW (xc [3, 4, 6, 7, 26] ?_))
  refine xBindO hS (fun g own sl t9 => ∃ (v0 : OA) (l0 : Nat), own = [some ⟨b4, 32, (cHeard (⟨0, 0, (⟨0, 0⟩ : Want), ([] : List UInt8)⟩ : Heard) none 0)⟩, some ⟨b3, 36, (cRNode (⟨0, 0, 0, 0, 0, 0, ([] : List UInt8), false, false, (⟨0, 0, (⟨0, 0⟩ : Want), ([] : List UInt8)⟩ : Heard), false, Z0⟩ : RNode) none 0 none 0)⟩, some ⟨b1, 36, (cRNode ({ n with alone := t9.1, stage := 2, isHeard := t9.2.1, heard := t9.2.2 }) p0 i0 v0 l0)⟩] ∧ sl = [(3, vp b1 0), (6, vp b3 0), (7, vp b4 0)] ∧ Arr g.b tyU8 v0 l0 t9.2.2.input) ?_ ?_
  ·rintro g10 _ _ t9 e11 ⟨v0, l0, rfl, rfl, i1⟩ hS
   refine xW (xSq (xRg (xb 16 [(1, 2), (3, 2), (5, 2), (7, 2), (9, 2), (12, 2), (15, 2)] [3, 6, 7, 40, 42, 44, 46, 48, 51, 54] ?_)))
   obtain ⟨y12, j3, hS⟩ := letJ_T hS
   refine xE (eC 0 (fun g' lr eb ln => c92 g' n.number n.role n.steps t9.1 (t9.2.1) t9.2.2.role t9.2.2.steps j3)) ?_
   rintro _ g13 _ e14 ⟨_, rfl, rfl, rfl⟩
   refine xb 1 [] [3, 6, 7, 12] (xRe (xW (xSq (xSq (xRg (xb 2 [] [3, 6, 7, 12, 57] (xRe (xW ?_))))))))
   refine xLetJ hS (fun g own sl t15 => own = [some ⟨b4, 32, (cHeard (⟨0, 0, (⟨0, 0⟩ : Want), ([] : List UInt8)⟩ : Heard) none 0)⟩, some ⟨b3, 36, (cRNode (⟨0, 0, 0, 0, 0, 0, ([] : List UInt8), false, false, (⟨0, 0, (⟨0, 0⟩ : Want), ([] : List UInt8)⟩ : Heard), false, Z0⟩ : RNode) none 0 none 0)⟩, some ⟨b1, 36, (cRNode ({ n with steps := t15, alone := t9.1, stage := 2, isHeard := t9.2.1, heard := t9.2.2 }) p0 i0 v0 l0)⟩] ∧ sl = [(3, vp b1 0), (6, vp b3 0), (7, vp b4 0), (12, vy y12)]) ?_ ?_
   ·rintro g16 _ _ t15 e17 ⟨rfl, rfl⟩ hS
    refine xW (xSq (xSq (xRg (xb 3 [] [3, 6, 7, 12, 61] ?_))))
    refine wpr_grp 7 [(3, vp b1 0), (6, vp b3 0), (7, vp b4 0), (12, vy y12), (65, vb ((y12 == 2) && (n.role == 1)))] (fun hk2 => ?_) ?_
    ·refine wpq_split 61 (b := (y12 == 2)) (by kernel_rfl) (fun q18 => ?_) (fun q18 => ?_)
     ·have t3 : y12 = 2 := eq_of_beq q18
      refine xb 4 [(4, 2)] [3, 6, 7, 12, 65] (wpq_re 65 (v := vb (n.role == 1)) (Value.bool (((y12 == 2) && (n.role == 1)))) (by kernel_rfl) (re_and1 q18) ?_)
      exact wpq_sub _ (by kernel_rfl) hk2
     ·have t3 : ¬ (y12 = 2) := ne_of_beq_false_ q18
      refine xb 4 [] [3, 6, 7, 12, 65] (wpq_re 65 (v := vb false) (Value.bool (((y12 == 2) && (n.role == 1)))) (by kernel_rfl) (re_and0 q18) ?_)
      exact wpq_sub _ (by kernel_rfl) hk2
    ·refine xRe ?_
     refine xW ?_
     refine xLetJ hS (fun g own sl t19 => own = [some ⟨b4, 32, (cHeard (⟨0, 0, (⟨0, 0⟩ : Want), ([] : List UInt8)⟩ : Heard) none 0)⟩, some ⟨b3, 36, (cRNode (⟨0, 0, 0, 0, 0, 0, ([] : List UInt8), false, false, (⟨0, 0, (⟨0, 0⟩ : Want), ([] : List UInt8)⟩ : Heard), false, Z0⟩ : RNode) none 0 none 0)⟩, some ⟨b1, 36, (cRNode ({ n with steps := t19.1, alone := t9.1, stage := 2, fresh := t19.2, isHeard := t9.2.1, heard := t9.2.2 }) p0 i0 v0 l0)⟩] ∧ sl = [(3, vp b1 0), (6, vp b3 0), (7, vp b4 0), (12, vy y12)]) ?_ ?_
     ·rintro g20 _ _ t19 e21 ⟨rfl, rfl⟩ hS
      refine xW (xSq (xRg (xbo 3 [(2, 2)] [some ⟨b4, 32, (cHeard (⟨0, 0, (⟨0, 0⟩ : Want), ([] : List UInt8)⟩ : Heard) none 0)⟩, some ⟨b3, 36, (cRNode (⟨0, 0, 0, 0, 0, 0, ([] : List UInt8), false, false, (⟨0, 0, (⟨0, 0⟩ : Want), ([] : List UInt8)⟩ : Heard), false, Z0⟩ : RNode) none 0 none 0)⟩, some ⟨b1, 36, (cRNode (⟨n.number, y12, t19.1, t9.1, 2, n.cycle, n.input, t19.2, t9.2.1, t9.2.2, n.stepped, n.told⟩ : RNode) p0 i0 v0 l0)⟩] [3, 6, 7] (xRe (xW (xSq ?_))))))
      refine xDr 0 [0, 2, 4] [7, 8] [some ⟨b1, 36, (cRNode (⟨n.number, y12, t19.1, t9.1, 2, n.cycle, n.input, t19.2, t9.2.1, t9.2.2, n.stepped, n.told⟩ : RNode) p0 i0 v0 l0)⟩] 9 (fun RG => ?_) (fun _ _ _ _ _ h => h)
      refine xt 4 [0, 1, 2, 3, 4] [(0, 0), (2, 0), (4, 0)] [some 2] [6, 7, 70, 72, 74] RG pR (xO1 (lds := [0, 2, 4]) 5 (xId (lds := [0, 2, 4]) pR (eStL b3 0 1) ?_))
      rintro _ _ _ - ⟨rfl, rfl⟩
      refine kk [some 2] (xO1 (lds := [0, 2, 4]) 6 (xId (lds := [0, 2, 4]) pR (eStL b4 0 0) ?_))
      rintro _ _ _ - ⟨rfl, rfl⟩
      refine kk [some 2] (xt 0 [7, 8] [] [some 2] [6, 7, 8, 9] RG pR (xAe (lds := [0, 2, 4]) (xW ?_)))
      have l1 := l1.mono (e8.trans (e11.trans (e14.trans (e17.trans e21)))).b
      have i1 := i1.mono (e14.trans (e17.trans e21)).b
      obtain rfl := Option.some.inj hS
      exact xRetC [] [(6, 1), (7, 0)] (e8.trans (e11.trans (e14.trans (e17.trans e21)))) ⟨p0, i0, v0, l0, v0, l0, by kernel_rfl, by kernel_rfl, l1, i1, i1⟩ (fun _ _ h => h)
     ·intro uu19 hS hN19
      refine xCd (((y12 == 2) && (n.role == 1))) (fun h22 => ?_) (fun h22 => ?_)
      ·have hS := cond_T h22 hS
       have l3 := (and_true_ h22).1
       have d3 := (and_true_ h22).2
       have f3 : y12 = 2 := eq_of_beq l3
       have a3 : n.role = 1 := eq_of_beq d3
       refine xRg (xbo 4 [(1, 2), (3, 2)] [some ⟨b4, 32, (cHeard (⟨0, 0, (⟨0, 0⟩ : Want), ([] : List UInt8)⟩ : Heard) none 0)⟩, some ⟨b3, 36, (cRNode (⟨0, 0, 0, 0, 0, 0, ([] : List UInt8), false, false, (⟨0, 0, (⟨0, 0⟩ : Want), ([] : List UInt8)⟩ : Heard), false, Z0⟩ : RNode) none 0 none 0)⟩, some ⟨b1, 36, (cRNode ({ n with steps := 0, alone := t9.1, stage := 2, fresh := true, isHeard := t9.2.1, heard := t9.2.2 }) p0 i0 v0 l0)⟩] [3, 6, 7, 12] (xRe (xc [3, 6, 7, 12] ?_)))
       have eS := hS.symm
       exact hN19 _ eS _ _ _ gR ⟨by kernel_rfl, by kernel_rfl⟩
      ·have hS := cond_F h22 hS
       refine xSk (xc [3, 6, 7, 12] ?_)
       have eS := hS.symm
       exact hN19 _ eS _ _ _ gR ⟨by kernel_rfl, by kernel_rfl⟩
   ·intro uu15 hS hN15
    refine xCd ((y12 == 1)) (fun h23 => ?_) (fun h23 => ?_)
    ·have hS := cond_T h23 hS
     have z3 : y12 = 1 := eq_of_beq h23
     refine xRg (xbo 2 [(1, 2)] [some ⟨b4, 32, (cHeard (⟨0, 0, (⟨0, 0⟩ : Want), ([] : List UInt8)⟩ : Heard) none 0)⟩, some ⟨b3, 36, (cRNode (⟨0, 0, 0, 0, 0, 0, ([] : List UInt8), false, false, (⟨0, 0, (⟨0, 0⟩ : Want), ([] : List UInt8)⟩ : Heard), false, Z0⟩ : RNode) none 0 none 0)⟩, some ⟨b1, 36, (cRNode ({ n with steps := 0, alone := t9.1, stage := 2, isHeard := t9.2.1, heard := t9.2.2 }) p0 i0 v0 l0)⟩] [3, 6, 7, 12] (xRe (xc [3, 6, 7, 12] ?_)))
     have eS := hS.symm
     exact hN15 _ eS _ _ _ gR ⟨by kernel_rfl, by kernel_rfl⟩
    ·have hS := cond_F h23 hS
     have z3 : ¬ (y12 = 1) := ne_of_beq_false_ h23
     refine xSk (xc [3, 6, 7, 12] ?_)
     have eS := hS.symm
     exact hN15 _ eS _ _ _ gR ⟨by kernel_rfl, by kernel_rfl⟩
  ·intro uu9 hS hN9
   refine xCd (y6) (fun h24 => ?_) (fun h24 => ?_)
   ·have hS := cond_T h24 hS
    refine xSq (xRg (xb 2 [(1, 2)] [3, 6, 7, 29] ?_))
    have d1 := d1.mono e8.r
    obtain ⟨y25, v3, hS⟩ := bindO_T hS
    refine xE (eC 0 (fun g' lr eb ln => c91 g' f.payload w1 f0 (d1.mono lr) v3)) ?_
    rintro _ g26 _ e27 ⟨_, rfl, f1, w2, rfl, rfl, a2⟩
    refine xb 3 [] [3, 6, 7, 31, 32] (xE eB ?_)
    rintro _ _ _ - ⟨b28, rfl, rfl, rfl⟩
    refine xbo 2 [(7, 0)] [some ⟨b28, 32, (cHeard y25.1 f1 w2)⟩, some ⟨b4, 32, (cHeard (⟨0, 0, (⟨0, 0⟩ : Want), ([] : List UInt8)⟩ : Heard) none 0)⟩, some ⟨b3, 36, (cRNode (⟨0, 0, 0, 0, 0, 0, ([] : List UInt8), false, false, (⟨0, 0, (⟨0, 0⟩ : Want), ([] : List UInt8)⟩ : Heard), false, Z0⟩ : RNode) none 0 none 0)⟩, some ⟨b2, 49, (cFrame f w1 f0)⟩, some ⟨b1, 36, (cRNode ({ n with alone := (IntKind.i64.wrap (n.alone + 1)), stage := 2 }) p0 i0 w0 j0)⟩] [3, 6, 7, 10, 11] (xRe (xW (xSq (xRg (xb 2 [] [3, 6, 7, 10, 34] (xRe (xW ?_)))))))
    refine xLetJ hS (fun g own sl t29 => ∃ (j1 : OA) (z1 : Nat), own = [some ⟨b4, 32, (cHeard (⟨0, 0, (⟨0, 0⟩ : Want), ([] : List UInt8)⟩ : Heard) none 0)⟩, some ⟨b3, 36, (cRNode (⟨0, 0, 0, 0, 0, 0, ([] : List UInt8), false, false, (⟨0, 0, (⟨0, 0⟩ : Want), ([] : List UInt8)⟩ : Heard), false, Z0⟩ : RNode) none 0 none 0)⟩, some ⟨b1, 36, (cRNode ({ n with alone := t29.1, stage := 2, isHeard := t29.2.1, heard := t29.2.2 }) p0 i0 j1 z1)⟩] ∧ sl = [(3, vp b1 0), (6, vp b3 0), (7, vp b4 0)] ∧ Arr g.b tyU8 j1 z1 t29.2.2.input) ?_ ?_
    ·rintro g30 _ _ t29 e31 ⟨j1, z1, rfl, rfl, f2⟩ hS
     refine xc [3, 6, 7] ?_
     have eS := (Option.some.inj hS).symm
     exact hN9 _ eS _ _ _ (e27.trans e31) ⟨j1, z1, by kernel_rfl, by kernel_rfl, f2⟩
    ·intro uu29 hS hN29
     refine xCd ((y25.2 == 0)) (fun h32 => ?_) (fun h32 => ?_)
     ·have hS := cond_T h32 hS
      have w3 : y25.2 = 0 := eq_of_beq h32
      refine xDr 0 [0] [4, 6, 3, 5] [some ⟨b28, 32, (cHeard y25.1 f1 w2)⟩, some ⟨b4, 32, (cHeard (⟨0, 0, (⟨0, 0⟩ : Want), ([] : List UInt8)⟩ : Heard) none 0)⟩, some ⟨b3, 36, (cRNode (⟨0, 0, 0, 0, 0, 0, ([] : List UInt8), false, false, (⟨0, 0, (⟨0, 0⟩ : Want), ([] : List UInt8)⟩ : Heard), false, Z0⟩ : RNode) none 0 none 0)⟩, some ⟨b2, 49, (cFrame f w1 f0)⟩] 7 (fun RG => ?_) (fun _ _ _ _ _ h => h)
      refine xt 5 [0, 1] [(0, 0)] (sm [0, 1, 2, 3]) [3, 6, 7, 35, 36] RG pR (xO1 (lds := [0]) 2 (xId (lds := [0]) pR (eStL b1 8 4) ?_))
      rintro _ _ _ - ⟨rfl, rfl⟩
      refine kk (sm [0, 1, 2, 3]) (xt 3 [3] [] (sm [0, 1, 2, 3]) [3, 6, 7, 35, 37] RG pR (xO1 (lds := [0]) 4 (xId (lds := [0]) pR (eStL b1 9 4) ?_)))
      rintro _ _ _ - ⟨rfl, rfl⟩
      refine kf (xt 1 [5] [] (sm [0, 1, 2, 3]) [3, 6, 7, 38] RG pR (xO1 (lds := [0]) 6 (xId (lds := [0]) pR (eStL b1 3 4) ?_)))
      rintro _ _ _ - ⟨rfl, rfl⟩
      refine kf (xAe (lds := [0]) (xSel (sm [1, 2, 4]) (xc [3, 6, 7] ?_)))
      have eS := hS.symm
      exact hN29 _ eS _ _ _ gR ⟨f1, w2, by kernel_rfl, by kernel_rfl, a2⟩
     ·have hS := cond_F h32 hS
      have w3 : ¬ (y25.2 = 0) := ne_of_beq_false_ h32
      refine xSk ?_
      have d0 := d0.mono (e8.trans e27).b
      refine xSel (sm [1, 2, 4]) (xc [3, 6, 7] ?_)
      have eS := hS.symm
      exact hN29 _ eS _ _ _ gR ⟨w0, j0, by kernel_rfl, by kernel_rfl, d0⟩
   ·have hS := cond_F h24 hS
    refine xSk ?_
    have d0 := d0.mono e8.b
    refine xSel (sm [0, 1, 3]) (xc [3, 6, 7] ?_)
    have eS := (Option.some.inj hS).symm
    exact hN9 _ eS _ _ _ gR ⟨w0, j0, by kernel_rfl, by kernel_rfl, d0⟩

def o23 (c : RComp) (f : Frame) (came : Bool) : Option (RComp × Int) :=
 (cond ((c.stage != 1)) (some ((c, (8 : Int)))) (bindO (o53 c.node f (came)) fun y5 => (letJ (τ := (List Piece) × Coll) (cond ((y5.1.role != c.node.role)) ((([] : List Piece), ((⟨0, 0, ([] : List (List UInt8)), ([] : List Sett)⟩ : Coll) : Coll))) ((c.sender.pieces, c.collector))) fun t10 => (some (((⟨y5.1, (⟨t10.1⟩ : Sender), t10.2, (((y5.1.role == 2) && y5.2.2.1) && (y5.2.1.role == 1)), 2⟩ : RComp), (0 : Int)))))))
theorem c23 (g : Gh) (c : RComp) (d1 : OA) (t1 : Nat) (f0 : OA) (l0 : Nat) (z1 : OA) (w1 : Nat) (i0 : OA) (p0 : Nat) (v0 : OA) (d0 : Nat) (f : Frame) (f2 : OA) (j2 : Nat) (came : Bool) (l4 : Arr g.b tyU8 d1 t1 c.node.input) (f3 : Arr g.b tyU8 f0 l0 c.node.heard.input) (z2 : Arr g.b tyPiece z1 w1 c.sender.pieces) (v1 : Arr g.b (tyArr tyU8) i0 p0 c.collector.parts) (w2 : Arr g.b tySett v0 d0 c.collector.sets) (a4 : Arr g.r tyU8 f2 j2 f.payload) {r : RComp × Int} (hS : o23 c f came = some r) :
  Ctr Tryz.prog 23 [(aRComp c d1 t1 f0 l0 z1 w1 i0 p0 v0 d0), (aFrame f f2 j2), vb came] g [] (fun v ψ o => ∃ (i4 : OA) (j4 : Nat) (d3 : OA) (j3 : Nat) (w4 : OA) (z4 : Nat) (t3 : OA) (v3 : Nat) (l3 : OA) (a3 : Nat), v = Value.tuple #[(aRComp r.1 i4 j4 d3 j3 w4 z4 t3 v3 l3 a3), vi r.2] ∧ o = [] ∧ Arr ψ tyU8 i4 j4 r.1.node.input ∧ Arr ψ tyU8 d3 j3 r.1.node.heard.input ∧ Arr ψ tyPiece w4 z4 r.1.sender.pieces ∧ Arr ψ (tyArr tyU8) t3 v3 r.1.collector.parts ∧ Arr ψ tySett l3 a3 r.1.collector.sets) := by
 unfold o23 at hS
 refine xFn Tryz.f23 (Tryz.f23.body.getD .skip) 54 (xSq (xRg (xE eB ?_)))
 rintro _ _ _ - ⟨b1, rfl, rfl, rfl⟩
 refine xE eB ?_
 rintro _ _ _ - ⟨b2, rfl, rfl, rfl⟩
 refine xE eB ?_
 rintro _ _ _ - ⟨b3, rfl, rfl, rfl⟩
 refine xb 1 [] [2, 3, 4, 6] (xRe (xW (xSq (xSq (xRg (xb 3 [(1, 2)] [2, 3, 4, 6, 15] (xRe (xW ?_))))))))
 refine xCd ((c.stage != 1)) (fun h4 => ?_) (fun h4 => ?_)
 ·have hS := cond_T h4 hS
  have h4p : ¬ (c.stage = 1) := ne_of_bne_ h4
  refine xSq (xRg (xbo 3 [(0, 2), (1, 0)] [some ⟨b3, 45, (cRComp c d1 t1 f0 l0 z1 w1 i0 p0 v0 d0)⟩, some ⟨b2, 49, (cFrame f f2 j2)⟩, some ⟨b1, 45, (cRComp c d1 t1 f0 l0 z1 w1 i0 p0 v0 d0)⟩] [6, 7] (xRe (xW ?_))))
  obtain rfl := Option.some.inj hS
  exact xRetC [] [(6, 0)] gR ⟨d1, t1, f0, l0, z1, w1, i0, p0, v0, d0, by kernel_rfl, by kernel_rfl, l4, f3, z2, v1, w2⟩ (fun _ _ h => h)
 ·have hS := cond_F h4 hS
  have h4p : c.stage = 1 := eq_of_bne_false_ h4
  refine xSk (xW (xc [2, 3, 4, 6] (xSq (xRg (xb 4 [(2, 2)] [2, 3, 4, 6, 8] (xRe (xW (xSq (xRg (xb 4 [(1, 2), (2, 1)] [3, 6, 8, 22, 23, 24] ?_))))))))))
  obtain ⟨y5, hy5, hS⟩ := bindO_T hS
  refine xE (eC 0 (fun g' lr eb ln => c53 g' c.node d1 t1 f0 l0 f f2 j2 (came) (by rw [eb]; exact l4) (by rw [eb]; exact f3) (a4.mono lr) hy5)) ?_
  rintro _ g6 _ e7 ⟨_, rfl, i1, j1, w0, j0, a2, w3, rfl, rfl, t4, z3, z5⟩
  refine xb 5 [] [3, 6, 8, 26, 27, 28, 29] (xE eB ?_)
  rintro _ _ _ - ⟨b8, rfl, rfl, rfl⟩
  refine xE eB ?_
  rintro _ _ _ - ⟨b9, rfl, rfl, rfl⟩
  refine xbo 4 [(12, 1), (13, 0)] [some ⟨b9, 32, (cHeard y5.2.1 a2 w3)⟩, some ⟨b8, 36, (cRNode y5.1 i1 j1 w0 j0)⟩, some ⟨b3, 45, (cRComp (⟨(⟨0, 0, 0, 0, 0, 0, ([] : List UInt8), false, false, (⟨0, 0, (⟨0, 0⟩ : Want), ([] : List UInt8)⟩ : Heard), false, Z0⟩ : RNode), Z3, Z4, false, 0⟩ : RComp) none 0 none 0 none 0 none 0 none 0)⟩, some ⟨b2, 49, (cFrame f f2 j2)⟩, some ⟨b1, 45, (cRComp c d1 t1 f0 l0 z1 w1 i0 p0 v0 d0)⟩] [3, 6, 8, 9, 10, 11] (xRe (xW (xSq (xRg (xbo 5 [(0, 1), (2, 4), (4, 4)] [some ⟨b9, 32, (cHeard y5.2.1 a2 w3)⟩, some ⟨b8, 36, (cRNode y5.1 i1 j1 w0 j0)⟩, some ⟨b3, 45, (cRComp (⟨(⟨0, 0, 0, 0, 0, 0, ([] : List UInt8), false, false, (⟨0, 0, (⟨0, 0⟩ : Want), ([] : List UInt8)⟩ : Heard), false, Z0⟩ : RNode), Z3, Z4, false, 0⟩ : RComp) none 0 none 0 none 0 none 0 none 0)⟩, some ⟨b2, 49, (cFrame f f2 j2)⟩, some ⟨b1, 45, (cRComp ({ c with node := y5.1, stage := 2 }) i1 j1 w0 j0 z1 w1 i0 p0 v0 d0)⟩] [3, 6, 8, 9, 10, 11] (xRe (xW (xSq (xSq (xRg (xb 4 [(1, 1)] [3, 6, 9, 10, 11, 36] (xRe (xW ?_)))))))))))))
  refine xLetJ hS (fun g own sl t10 => ∃ (v4 : OA) (d4 : Nat) (f1 : OA) (l1 : Nat) (v2 : OA) (d2 : Nat), own = [some ⟨b9, 32, (cHeard y5.2.1 a2 w3)⟩, some ⟨b8, 36, (cRNode y5.1 i1 j1 w0 j0)⟩, some ⟨b3, 45, (cRComp (⟨(⟨0, 0, 0, 0, 0, 0, ([] : List UInt8), false, false, (⟨0, 0, (⟨0, 0⟩ : Want), ([] : List UInt8)⟩ : Heard), false, Z0⟩ : RNode), Z3, Z4, false, 0⟩ : RComp) none 0 none 0 none 0 none 0 none 0)⟩, some ⟨b1, 45, (cRComp (⟨y5.1, (⟨t10.1⟩ : Sender), t10.2, c.asked, 2⟩ : RComp) i1 j1 w0 j0 v4 d4 f1 l1 v2 d2)⟩] ∧ sl = [(3, vp b1 0), (6, vp b3 0), (9, vp b8 0), (10, vp b9 0), (11, vb y5.2.2.1)] ∧ Arr g.b tyPiece v4 d4 t10.1 ∧ Arr g.b (tyArr tyU8) f1 l1 t10.2.parts ∧ Arr g.b tySett v2 d2 t10.2.sets) ?_ ?_
  ·rintro g11 _ _ t10 e12 ⟨v4, d4, f1, l1, v2, d2, rfl, rfl, j5, f4, w5⟩ hS
   refine xW (xSq (xRg (xb 4 [(1, 1)] [3, 6, 10, 11, 44] ?_)))
   refine wpr_grp 6 [(3, vp b1 0), (6, vp b3 0), (10, vp b9 0), (46, vb ((y5.1.role == 2) && y5.2.2.1))] (fun hk3 => ?_) ?_
   ·refine wpq_split 44 (b := (y5.1.role == 2)) (by kernel_rfl) (fun q13 => ?_) (fun q13 => ?_)
    ·have i5 : y5.1.role = 2 := eq_of_beq q13
     refine xb 2 [] [3, 6, 10, 46] (wpq_re 46 (v := vb y5.2.2.1) (Value.bool (((y5.1.role == 2) && y5.2.2.1))) (by kernel_rfl) (re_and1 q13) ?_)
     exact wpq_sub _ (by kernel_rfl) hk3
    ·have i5 : ¬ (y5.1.role = 2) := ne_of_beq_false_ q13
     refine xb 2 [] [3, 6, 10, 46] (wpq_re 46 (v := vb false) (Value.bool (((y5.1.role == 2) && y5.2.2.1))) (by kernel_rfl) (re_and0 q13) ?_)
     exact wpq_sub _ (by kernel_rfl) hk3
   ·refine xb 1 [] [3, 6, 10, 47] ?_
    refine wpr_grp 11 [(3, vp b1 0), (6, vp b3 0), (51, vb (((y5.1.role == 2) && y5.2.2.1) && (y5.2.1.role == 1)))] (fun hk6 => ?_) ?_
    ·refine wpq_split 47 (b := ((y5.1.role == 2) && y5.2.2.1)) (by kernel_rfl) (fun q14 => ?_) (fun q14 => ?_)
     ·have t5 := (and_true_ q14).1
      have v5 : y5.1.role = 2 := eq_of_beq t5
      refine xb 4 [(8, 0)] [3, 6, 51] (wpq_re 51 (v := vb (y5.2.1.role == 1)) (Value.bool ((((y5.1.role == 2) && y5.2.2.1) && (y5.2.1.role == 1)))) (by kernel_rfl) (re_and1 q14) ?_)
      exact wpq_sub _ (by kernel_rfl) hk6
     ·refine xb 4 [] [3, 6, 51] ?_
      refine wpq_re 51 (v := vb false) (Value.bool ((((y5.1.role == 2) && y5.2.2.1) && (y5.2.1.role == 1)))) (by kernel_rfl) (re_and0 q14) ?_
      exact wpq_sub _ (by kernel_rfl) hk6
    ·refine xbo 2 [(12, 3)] [some ⟨b9, 32, (cHeard y5.2.1 a2 w3)⟩, some ⟨b8, 36, (cRNode y5.1 i1 j1 w0 j0)⟩, some ⟨b3, 45, (cRComp (⟨(⟨0, 0, 0, 0, 0, 0, ([] : List UInt8), false, false, (⟨0, 0, (⟨0, 0⟩ : Want), ([] : List UInt8)⟩ : Heard), false, Z0⟩ : RNode), Z3, Z4, false, 0⟩ : RComp) none 0 none 0 none 0 none 0 none 0)⟩, some ⟨b1, 45, (cRComp (⟨y5.1, (⟨t10.1⟩ : Sender), t10.2, (((y5.1.role == 2) && y5.2.2.1) && (y5.2.1.role == 1)), 2⟩ : RComp) i1 j1 w0 j0 v4 d4 f1 l1 v2 d2)⟩] [3, 6] ?_
     refine xRe (xW (xSq (xRg (xbo 3 [(0, 3), (1, 2)] [some ⟨b9, 32, (cHeard y5.2.1 a2 w3)⟩, some ⟨b8, 36, (cRNode y5.1 i1 j1 w0 j0)⟩, some ⟨b3, 45, (cRComp (⟨y5.1, (⟨t10.1⟩ : Sender), t10.2, (((y5.1.role == 2) && y5.2.2.1) && (y5.2.1.role == 1)), 2⟩ : RComp) i1 j1 w0 j0 v4 d4 f1 l1 v2 d2)⟩, some ⟨b1, 45, (cRComp (⟨y5.1, (⟨t10.1⟩ : Sender), t10.2, (((y5.1.role == 2) && y5.2.2.1) && (y5.2.1.role == 1)), 2⟩ : RComp) i1 j1 w0 j0 v4 d4 f1 l1 v2 d2)⟩] [6, 7] (xRe (xW ?_))))))
     have t4 := t4.mono e12.b
     have z3 := z3.mono e12.b
     obtain rfl := Option.some.inj hS
     exact xRetC [] [(6, 2)] (e7.trans e12) ⟨i1, j1, w0, j0, v4, d4, f1, l1, v2, d2, by kernel_rfl, by kernel_rfl, t4, z3, j5, f4, w5⟩ (fun _ _ h => h)
  ·intro uu10 hS hN10
   refine xCd ((y5.1.role != c.node.role)) (fun h15 => ?_) (fun h15 => ?_)
   ·have hS := cond_T h15 hS
    have d5 : ¬ (y5.1.role = c.node.role) := ne_of_bne_ h15
    refine xRg (xbo 6 [(3, 4), (5, 4)] [some ⟨b9, 32, (cHeard y5.2.1 a2 w3)⟩, some ⟨b8, 36, (cRNode y5.1 i1 j1 w0 j0)⟩, some ⟨b3, 45, (cRComp (⟨(⟨0, 0, 0, 0, 0, 0, ([] : List UInt8), false, false, (⟨0, 0, (⟨0, 0⟩ : Want), ([] : List UInt8)⟩ : Heard), false, Z0⟩ : RNode), Z3, Z4, false, 0⟩ : RComp) none 0 none 0 none 0 none 0 none 0)⟩, some ⟨b2, 49, (cFrame f f2 j2)⟩, some ⟨b1, 45, (cRComp (⟨y5.1, Z3, Z4, c.asked, 2⟩ : RComp) i1 j1 w0 j0 none 0 none 0 none 0)⟩] [3, 6, 9, 10, 11] (xRe (xSel (sm [0, 1, 2, 4]) (xc [3, 6, 9, 10, 11] ?_))))
    have eS := hS.symm
    exact hN10 _ eS _ _ _ gR ⟨none, 0, none, 0, none, 0, by kernel_rfl, by kernel_rfl, Arr.nil, Arr.nil, Arr.nil⟩
   ·have hS := cond_F h15 hS
    have d5 : y5.1.role = c.node.role := eq_of_bne_false_ h15
    refine xSk ?_
    have z2 := z2.mono e7.b
    have v1 := v1.mono e7.b
    have w2 := w2.mono e7.b
    refine xSel (sm [0, 1, 2, 4]) (xc [3, 6, 9, 10, 11] ?_)
    have eS := hS.symm
    exact hN10 _ eS _ _ _ gR ⟨z1, w1, i0, p0, v0, d0, by kernel_rfl, by kernel_rfl, z2, v1, w2⟩

def o93 (n : Node) : Bool :=
 (((n.is_ && (n.heard.role == 3))))
theorem c93 (g : Gh) (a_n : Addr) (n : Node) (v0 : OA) (d0 : Nat) (w0 : OA) (j0 : Nat) (p0 : OA) (i0 : Nat) (f0 : Cells g.r a_n (cNode n v0 d0 w0 j0 p0 i0)) (z1 : Arr g.r tyU8 v0 d0 n.input) (l0 : Arr g.r tyU8 w0 j0 n.heard.input) (w1 : Arr g.r tyU8 p0 i0 n.set_.in_) {r : Bool} (hS : o93 n = r) :
  Ctr Tryz.prog 93 [Value.pointer (some a_n)] g [] (fun v ψ o => v = vb r ∧ o = []) := by
 unfold o93 at hS
 refine xFn Tryz.f93 (Tryz.f93.body.getD .skip) 15 (xSq (xRg (xb 1 [] [0] (xRe (xW (xSq (xRg (xb 3 [] [0, 5] (xV (qLdP a_n 12 f0) (xb 1 [] [0, 7] ?_))))))))))
 refine wpr_grp 12 [(14, vb (n.is_ && (n.heard.role == 3)))] (fun hk4 => ?_) ?_
 ·refine wpq_split 7 (b := n.is_) (by kernel_rfl) (fun q1 => ?_) (fun q1 => ?_)
  ·refine xb 4 [] [7, 11] ?_
   refine xV (qLdP a_n 7 f0) (xb 2 [] [14] (wpq_re 14 (v := vb (n.heard.role == 3)) (Value.bool ((n.is_ && (n.heard.role == 3)))) (by kernel_rfl) (re_and1 q1) ?_))
   exact wpq_sub _ (by kernel_rfl) hk4
  ·refine xb 7 [] [14] ?_
   refine wpq_re 14 (v := vb false) (Value.bool ((n.is_ && (n.heard.role == 3)))) (by kernel_rfl) (re_and0 q1) ?_
   exact wpq_sub _ (by kernel_rfl) hk4
 ·refine xb 1 [] [2] ?_
  refine xRe (xW ?_)
  have eS := hS.symm
  subst eS
  exact xRet [] [2] gR ⟨by kernel_rfl, by kernel_rfl⟩ (fun _ _ h => h)

def o112 (p : List UInt8) (is_ : Bool) (bit : Int) (fv : List UInt8) : Option ((List UInt8)) :=
 (bindO (τ := (List UInt8)) (cond (is_) (grd (decide (0 < (fv).length)) (grd (decide (0 < (fv).length)) (bindO (o111 ((List.set fv 0 (u8 (lorK .u8 ((List.getD fv 0 0).toNat : Int) bit))) : List UInt8) ((((p).length : Nat) : Int) : Int) (2 : Int)) fun y10 => (grd (decide (((y10).length + (p).length) * 1 ≤ 140737488355328)) (some (((y10 ++ p) : List UInt8))))))) (some ((fv : List UInt8)))) fun t1 => (some ((t1 : List UInt8))))
theorem c112 (g : Gh) (p : List UInt8) (Ap : OA) (cp : Nat) (is_ : Bool) (bit : Int) (w0 : Nat) (fv : List UInt8) (Afv : OA) (cfv : Nat) (kfv : OB) (fp : Arr g.r tyU8 Ap cp p) (hfv : Buf g.b tyU8 5 (.slice Afv (fv).length cfv) kfv fv) {r : (List UInt8)} (hS : o112 p is_ bit fv = some r) :
  Ctr Tryz.prog 112 [vs Ap p cp, vb is_, vy bit, vp w0 0] g [some ⟨w0, 28, [vs Afv fv cfv]⟩, kfv] (fun v ψ o => ∃ (f0 : OA) (v0 : Nat) (l0 : OB), v = Value.tuple #[] ∧ o = [some ⟨w0, 28, [vs f0 r v0]⟩, l0] ∧ Buf ψ tyU8 5 (.slice f0 (r).length v0) l0 r) := by
 unfold o112 at hS
 refine xFn Tryz.f112 (Tryz.f112.body.getD .skip) 20 ?_
 have nfp := fp.len
 have j2 := hfv.len
 refine xSq (xRg (xb 1 [] [0, 2, 3, 7] (xRe (xW ?_))))
 refine xBindO hS (fun g own sl t1 => ∃ (p0 : OA) (j0 : Nat) (i0 : OB), own = [some ⟨w0, 28, [vs p0 t1 j0]⟩, i0] ∧ sl = [] ∧ Buf g.b tyU8 5 (.slice p0 (t1).length j0) i0 t1) ?_ ?_
 ·rintro g2 _ _ t1 e3 ⟨p0, j0, i0, rfl, rfl, w1⟩ hS
  have v1 := w1.len
  obtain rfl := Option.some.inj hS
  exact xFin [some 0, some 1] [] e3 ⟨p0, j0, i0, by kernel_rfl, by kernel_rfl, w1⟩
 ·intro uu1 hS hN1
  refine xCd (is_) (fun h4 => ?_) (fun h4 => ?_)
  ·have hS := cond_T h4 hS
   refine xSq (xRg ?_)
   obtain ⟨q6, hS⟩ := grd_T hS
   have q6p := of_decide_eq_true q6
   obtain ⟨kc5, cs5, hA5, hk5, hr5, hw5⟩ := hfv.open_ q6p 0
   obtain ⟨kb5, rfl⟩ : ∃ z, z = kc5 := ⟨_, rfl⟩
   subst hk5
   have hr5 : cs5 = [vy ((List.getD fv 0 0).toNat : Int)] := hr5
   subst hr5
   have nb5 := UInt8.toNat_lt (List.getD fv 0 0)
   refine xb 1 [(0, 0)] [0, 2, 3, 8] (xV (qIxB 0 1 kb5.g hA5 rfl q6p) (xV (qLdB 0 1 0 1 hw5) ?_))
   obtain ⟨q8, hS⟩ := grd_T hS
   have q8p := of_decide_eq_true q8
   obtain ⟨kc7, cs7, hA7, hk7, hr7, hw7⟩ := hfv.open_ q8p 0
   cases hk7
   have hr7 : cs7 = [vy ((List.getD fv 0 0).toNat : Int)] := hr7
   subst hr7
   have nb7 := UInt8.toNat_lt (List.getD fv 0 0)
   refine xb 2 [] [0, 3, 8, 12] (xV (qIxB 0 1 kb5.g hA7 rfl q8p) (xD (eStB 0 1 0 1 [vy (lorK .u8 ((List.getD fv 0 0).toNat : Int) bit)] hfv rfl hw7 (u8_rep (lorU8 _ _)) q8p) ?_))
   rintro _ _ _ - ⟨k9, rfl, rfl, h9⟩
   have hz9 : (fv).length = ((List.set fv 0 (u8 (lorK .u8 ((List.getD fv 0 0).toNat : Int) bit)))).length := by simp
   refine xRe (xW (xc [0, 3] (xRg (xb 3 [(0, 0)] [0, 3, 14, 16] (wpq_re 14 (v := Value.slice Afv ((fv).length) cfv) (vs Afv (List.set fv 0 (u8 (lorK .u8 ((List.getD fv 0 0).toNat : Int) bit))) cfv) (by kernel_rfl) (congrArg (fun z => Value.slice Afv z cfv) hz9) ?_)))))
   have h9 := Buf.re h9 hz9 (rfl : (List.set fv 0 (u8 (lorK .u8 ((List.getD fv 0 0).toNat : Int) bit))) = _)
   refine xOwn [some ⟨w0, 28, [Value.slice Afv ((fv).length) cfv]⟩, k9] (wpq_own [some ⟨w0, 28, [vs Afv (List.set fv 0 (u8 (lorK .u8 ((List.getD fv 0 0).toNat : Int) bit))) cfv]⟩, k9] (by rw [hz9]) (xSel [some 1, some 0] ?_))
   obtain ⟨y10, z1, hS⟩ := bindO_T hS
   refine xE (eC 1 (fun g' lr eb ln => c111 g' ((List.set fv 0 (u8 (lorK .u8 ((List.getD fv 0 0).toNat : Int) bit))) : List UInt8) Afv cfv k9 ((((p).length : Nat) : Int) : Int) (2 : Int) (by rw [eb]; exact h9) z1)) ?_
   rintro _ g11 _ e12 ⟨_, rfl, w2, l1, f1, rfl, rfl, d0⟩
   have d1 := d0.len
   refine xb 1 [] [3, 17, 18] ?_
   have fp := fp.mono e12.r
   obtain ⟨v2, i1, j1⟩ := fp.srcR
   obtain ⟨q14, hS⟩ := grd_T hS
   have f2 := of_decide_eq_true q14
   refine xE (eApp (T := tyU8) (p := g11.b) (et := 5) (bytes := 1) (xs := (y10 : List UInt8)) (ys := (p : List UInt8)) 0 d0 rfl (fun w hs => j1 w _ hs) (flatU8.reps i1) (by first | omega | (simp only [List.length_cons, List.length_nil] at *; omega)) (by first | omega | (simp only [List.length_cons, List.length_nil] at *; omega))) ?_
   rintro _ _ _ - ⟨A13, c13, k13, rfl, rfl, rfl, h13⟩
   have z2 := h13.len
   have d2 : ((y10 ++ p) : List UInt8).length = (y10).length + (p).length := List.length_append
   refine xbo 1 [(6, 1)] [k13, some ⟨w0, 28, [vs A13 (y10 ++ p) c13]⟩] [] (xRe (xSel [some 1, some 0] (xc [] ?_)))
   have eS := (Option.some.inj hS).symm
   exact hN1 _ eS _ _ _ e12 ⟨A13, c13, k13, by kernel_rfl, by kernel_rfl, h13⟩
  ·have hS := cond_F h4 hS
   refine xSk (xc [] ?_)
   have eS := (Option.some.inj hS).symm
   exact hN1 _ eS _ _ _ gR ⟨Afv, cfv, kfv, by kernel_rfl, by kernel_rfl, hfv⟩

def o94 (one : List UInt8) (isOne : Bool) (two : List UInt8) (isTwo : Bool) : Option ((List UInt8) × Int) :=
 (cond (((isOne && decide ((((one).length : Nat) : Int) > 400)) || (isTwo && decide ((((two).length : Nat) : Int) > 400)))) (some ((([] : List UInt8), (3 : Int)))) (bindO (o112 (one : List UInt8) (isOne) (1 : Int) (([(u8 0)] : List UInt8) : List UInt8)) fun y7 => (bindO (o112 (two : List UInt8) (isTwo) (2 : Int) (y7 : List UInt8)) fun y10 => (some (((y10 : List UInt8), (0 : Int)))))))
theorem c94 (g : Gh) (one : List UInt8) (p0 : OA) (v0 : Nat) (w0 : Bool) (two : List UInt8) (d0 : OA) (i0 : Nat) (j0 : Bool) (j2 : Arr g.r tyU8 p0 v0 one) (l0 : Arr g.r tyU8 d0 i0 two) {r : (List UInt8) × Int} (hS : o94 one w0 two j0 = some r) :
  Ctr Tryz.prog 94 [vs p0 one v0, vb w0, vs d0 two i0, vb j0] g [] (fun v ψ o => ∃ (z1 : OA) (f0 : Nat) (j1 : OB), v = Value.tuple #[vs z1 r.1 f0, vi r.2] ∧ o = [j1] ∧ Buf ψ tyU8 5 (.slice z1 (r.1).length f0) j1 r.1) := by
 unfold o94 at hS
 refine xFn Tryz.f94 (Tryz.f94.body.getD .skip) 37 (xSq (xRg (xb 2 [] [0, 1, 2, 3] (xRe (xW (xSq (xSq (xRg (xb 2 [] [0, 1, 2, 3, 13] ?_)))))))))
 refine wpr_grp 6 [(0, vs p0 one v0), (1, vb w0), (2, vs d0 two i0), (3, vb j0), (17, vb (w0 && decide ((((one).length : Nat) : Int) > 400)))] (fun hk1 => ?_) ?_
 ·refine wpq_split 13 (b := w0) (by kernel_rfl) (fun q1 => ?_) (fun q1 => ?_)
  ·refine xb 4 [] [0, 1, 2, 3, 17] ?_
   refine wpq_re 17 (v := vb (decide ((((one).length : Nat) : Int) > 400))) (Value.bool ((w0 && decide ((((one).length : Nat) : Int) > 400)))) (by kernel_rfl) (re_and1 q1) ?_
   exact wpq_sub _ (by kernel_rfl) hk1
  ·refine xb 4 [] [0, 1, 2, 3, 17] ?_
   refine wpq_re 17 (v := vb false) (Value.bool ((w0 && decide ((((one).length : Nat) : Int) > 400)))) (by kernel_rfl) (re_and0 q1) ?_
   exact wpq_sub _ (by kernel_rfl) hk1
 ·refine xb 1 [] [0, 1, 2, 3, 18] ?_
  refine wpr_grp 14 [(0, vs p0 one v0), (1, vb w0), (2, vs d0 two i0), (3, vb j0), (25, vb ((w0 && decide ((((one).length : Nat) : Int) > 400)) || (j0 && decide ((((two).length : Nat) : Int) > 400))))] (fun hk6 => ?_) ?_
  ·refine wpq_split 18 (b := (w0 && decide ((((one).length : Nat) : Int) > 400))) (by kernel_rfl) (fun q2 => ?_) (fun q2 => ?_)
   ·have q2l := (and_true_ q2).1
    refine xb 7 [] [0, 1, 2, 3, 25] (wpq_re 25 (v := vb true) (Value.bool (((w0 && decide ((((one).length : Nat) : Int) > 400)) || (j0 && decide ((((two).length : Nat) : Int) > 400))))) (by kernel_rfl) (re_or1 q2) ?_)
    exact wpq_sub _ (by kernel_rfl) hk6
   ·refine xb 2 [] [0, 1, 2, 3, 18, 20] ?_
    refine wpr_grp 13 [(0, vs p0 one v0), (1, vb w0), (2, vs d0 two i0), (3, vb j0), (18, vb false), (24, vb (j0 && decide ((((two).length : Nat) : Int) > 400)))] (fun hk8 => ?_) ?_
    ·refine wpq_split 20 (b := j0) (by kernel_rfl) (fun q3 => ?_) (fun q3 => ?_)
     ·refine xb 4 [] [0, 1, 2, 3, 18, 24] ?_
      refine wpq_re 24 (v := vb (decide ((((two).length : Nat) : Int) > 400))) (Value.bool ((j0 && decide ((((two).length : Nat) : Int) > 400)))) (by kernel_rfl) (re_and1 q3) ?_
      exact wpq_sub _ (by kernel_rfl) hk8
     ·refine xb 4 [] [0, 1, 2, 3, 18, 24] ?_
      refine wpq_re 24 (v := vb false) (Value.bool ((j0 && decide ((((two).length : Nat) : Int) > 400)))) (by kernel_rfl) (re_and0 q3) ?_
      exact wpq_sub _ (by kernel_rfl) hk8
    ·refine xb 1 [] [0, 1, 2, 3, 25] ?_
     refine wpq_re 25 (v := vb (j0 && decide ((((two).length : Nat) : Int) > 400))) (Value.bool (((w0 && decide ((((one).length : Nat) : Int) > 400)) || (j0 && decide ((((two).length : Nat) : Int) > 400))))) (by kernel_rfl) (re_or0 q2) ?_
     exact wpq_sub _ (by kernel_rfl) hk6
  ·refine xRe ?_
   refine xW ?_
   refine xCd (((w0 && decide ((((one).length : Nat) : Int) > 400)) || (j0 && decide ((((two).length : Nat) : Int) > 400)))) (fun h4 => ?_) (fun h4 => ?_)
   ·have hS := cond_T h4 hS
    refine xSq (xRg (xb 2 [] [8, 9] (xRe (xW ?_))))
    obtain rfl := Option.some.inj hS
    exact xRet [none] [8, 9] gR ⟨none, 0, none, by kernel_rfl, by kernel_rfl, Buf.nil⟩ (fun _ _ h => h)
   ·have hS := cond_F h4 hS
    refine xSk (xW (xc [0, 1, 2, 3] (xSq (xRg (xE (eBs (T := tyU8) (p := g.b) (et := 5) (xs := ([(u8 0)] : List UInt8)) (reps_cons (c := [vy 0]) (u8_rep (by omega)) reps_nil) (by simp)) ?_)))))
    rintro _ _ _ - ⟨A5, c5, k5, rfl, rfl, rfl, h5⟩
    refine xE eB ?_
    rintro _ _ _ - ⟨b6, rfl, rfl, rfl⟩
    refine xbo 1 [(2, 0)] [some ⟨b6, 28, [vs A5 ([(u8 0)] : List UInt8) c5]⟩, k5] [0, 1, 2, 3, 10] (xRe (xW (xSq (xRg (xb 2 [] [0, 1, 2, 3, 10, 11] (xRe (xW (xSq (xRg (xb 3 [] [2, 3, 10, 11, 28, 29, 30] ?_))))))))))
    obtain ⟨y7, hy7, hS⟩ := bindO_T hS
    refine xE (eC 2 (fun g' lr eb ln => c112 g' (one : List UInt8) p0 v0 (w0) (1 : Int) b6 (([(u8 0)] : List UInt8) : List UInt8) A5 c5 k5 (j2.mono lr) (by rw [eb]; exact h5) hy7)) ?_
    rintro _ g8 _ e9 ⟨_, rfl, v1, f1, l1, rfl, rfl, w2⟩
    refine xRe (xW (xc [2, 3, 10, 11] (xSq (xRg (xb 3 [] [10, 32, 33, 34] ?_)))))
    have l0 := l0.mono e9.r
    obtain ⟨y10, z2, hS⟩ := bindO_T hS
    refine xE (eC 2 (fun g' lr eb ln => c112 g' (two : List UInt8) d0 i0 (j0) (2 : Int) b6 (y7 : List UInt8) v1 f1 l1 (l0.mono lr) (by rw [eb]; exact w2) z2)) ?_
    rintro _ g11 _ e12 ⟨_, rfl, d1, i1, w1, rfl, rfl, t1⟩
    refine xRe (xW (xc [10] (xSq (xRg (xb 3 [(0, 0)] [8, 9] (xRe (xW ?_)))))))
    obtain rfl := Option.some.inj hS
    exact xRet [some 1] [8, 9] (e9.trans e12) ⟨d1, i1, w1, by kernel_rfl, by kernel_rfl, t1⟩ (fun _ _ h => h)

def o113 (in_ : List UInt8) : Option ((List UInt8) × Bool × (List UInt8) × Bool × Int) :=
 (cond ((((((in_).length : Nat) : Int) == 0) || decide (((List.getD in_ 0 0).toNat : Int) > 3))) (some ((([] : List UInt8), (false), ([] : List UInt8), (false), (4 : Int)))) (joinO (τ := (List UInt8) × (List UInt8) × (List UInt8)) (ρ := (List UInt8) × Bool × (List UInt8) × Bool × Int) (joinO (τ := (List UInt8) × (List UInt8)) (ρ := Ctl ((List UInt8) × (List UInt8) × (List UInt8)) ((List UInt8) × Bool × (List UInt8) × Bool × Int)) (cond (((landK .u8 (shrK .u8 ((List.getD in_ 0 0).toNat : Int) 0) 1) == 0)) (some (Ctl.go (((List.drop 1 in_) : List UInt8), ([] : List UInt8)))) (cond (decide (((((List.drop 1 in_)).length : Nat) : Int) < 2)) (some (Ctl.done (Ctl.done ((([] : List UInt8), (false), ([] : List UInt8), (false), (4 : Int)))))) (bindO (o98 ((List.drop 1 in_) : List UInt8) (2 : Int)) fun y43 => (cond ((decide (y43 > 400) || decide (y43 > (((((List.drop 1 in_)).length : Nat) : Int) - 2)))) (some (Ctl.done (Ctl.done ((([] : List UInt8), (false), ([] : List UInt8), (false), (4 : Int)))))) (grd (decide (-9223372036854775808 ≤ 2 + y43 ∧ 2 + y43 ≤ 9223372036854775807)) (grd (decide (2 ≤ (2 + y43) ∧ (2 + y43) ≤ ((((List.drop 1 in_)).length : Nat) : Int))) (grd (decide (-9223372036854775808 ≤ 2 + y43 ∧ 2 + y43 ≤ 9223372036854775807)) (grd (decide (0 ≤ (2 + y43) ∧ (2 + y43) ≤ ((((List.drop 1 in_)).length : Nat) : Int))) (letJ (o43 ((List.take (((2 + y43)).toNat - 2) (List.drop 2 (List.drop 1 in_))) : List UInt8)) fun y54 => (some (Ctl.go (((List.drop ((2 + y43)).toNat (List.drop 1 in_)) : List UInt8), (y54 : List UInt8))))))))))))) fun t15 => (joinO (τ := (List UInt8) × (List UInt8)) (ρ := Ctl ((List UInt8) × (List UInt8) × (List UInt8)) ((List UInt8) × Bool × (List UInt8) × Bool × Int)) (cond (((landK .u8 (shrK .u8 ((List.getD in_ 0 0).toNat : Int) 1) 1) == 0)) (some (Ctl.go (t15.1, ([] : List UInt8)))) (cond (decide ((((t15.1).length : Nat) : Int) < 2)) (some (Ctl.done (Ctl.done ((([] : List UInt8), (false), ([] : List UInt8), (false), (4 : Int)))))) (bindO (o98 t15.1 (2 : Int)) fun y25 => (cond ((decide (y25 > 400) || decide (y25 > ((((t15.1).length : Nat) : Int) - 2)))) (some (Ctl.done (Ctl.done ((([] : List UInt8), (false), ([] : List UInt8), (false), (4 : Int)))))) (grd (decide (-9223372036854775808 ≤ 2 + y25 ∧ 2 + y25 ≤ 9223372036854775807)) (grd (decide (2 ≤ (2 + y25) ∧ (2 + y25) ≤ (((t15.1).length : Nat) : Int))) (grd (decide (-9223372036854775808 ≤ 2 + y25 ∧ 2 + y25 ≤ 9223372036854775807)) (grd (decide (0 ≤ (2 + y25) ∧ (2 + y25) ≤ (((t15.1).length : Nat) : Int))) (letJ (o43 ((List.take (((2 + y25)).toNat - 2) (List.drop 2 t15.1)) : List UInt8)) fun y36 => (some (Ctl.go (((List.drop ((2 + y25)).toNat t15.1) : List UInt8), (y36 : List UInt8))))))))))))) fun t18 => (some (Ctl.go (t18.1, t15.2, t18.2))))) fun t7 => (cond (((((t7.1).length : Nat) : Int) != 0)) (some ((([] : List UInt8), (false), ([] : List UInt8), (false), (4 : Int)))) (some ((t7.2.1, (((landK .u8 ((List.getD in_ 0 0).toNat : Int) 1) == 1)), t7.2.2, (((landK .u8 ((List.getD in_ 0 0).toNat : Int) 2) == 2)), (0 : Int)))))))
theorem c113 (g : Gh) (in_ : List UInt8) (i0 : OA) (w0 : Nat) (d0 : Arr g.r tyU8 i0 w0 in_) {r : (List UInt8) × Bool × (List UInt8) × Bool × Int} (hS : o113 in_ = some r) :
  Ctr Tryz.prog 113 [vs i0 in_ w0] g [] (fun v ψ o => ∃ (i4 : OA) (f3 : Nat) (d4 : OB) (w4 : OA) (a3 : Nat) (t4 : OB), v = Value.tuple #[vs i4 r.1 f3, vb r.2.1, vs w4 r.2.2.1 a3, vb r.2.2.2.1, vi r.2.2.2.2] ∧ o = [d4, t4] ∧ Buf ψ tyU8 5 (.slice i4 (r.1).length f3) d4 r.1 ∧ Buf ψ tyU8 5 (.slice w4 (r.2.2.1).length a3) t4 r.2.2.1) := by
 unfold o113 at hS
 refine xFn Tryz.f113 (Tryz.f113.body.getD .skip) 75 ?_
 have a9 := d0.len
 refine xSq (xRg (xb 5 [] [0] (xRe (xW (xSq (xSq (xRg (xb 4 [] [0, 14] ?_))))))))
 refine wpr_grp 9 [(0, vs i0 in_ w0), (19, vb (((((in_).length : Nat) : Int) == 0) || decide (((List.getD in_ 0 0).toNat : Int) > 3)))] (fun hk3 => ?_) ?_
 ·refine wpq_split 14 (b := ((((in_).length : Nat) : Int) == 0)) (by kernel_rfl) (fun q1 => ?_) (fun q1 => ?_)
  ·have q1p : (((in_).length : Nat) : Int) = 0 := eq_of_beq q1
   refine xb 5 [] [0, 19] (wpq_re 19 (v := vb true) (Value.bool ((((((in_).length : Nat) : Int) == 0) || decide (((List.getD in_ 0 0).toNat : Int) > 3)))) (by kernel_rfl) (re_or1 q1) ?_)
   exact wpq_sub _ (by kernel_rfl) hk3
  ·have q1p : ¬ ((((in_).length : Nat) : Int) = 0) := ne_of_beq_false_ q1
   have i3 : 0 < (in_).length := by omega
   obtain ⟨ad2, cs2, hA2, hr2, hc2⟩ := d0.at_ (get_getD (d := 0) i3)
   have hr2 : cs2 = [vy ((List.getD in_ 0 0).toNat : Int)] := hr2
   subst hr2
   have nb2 := UInt8.toNat_lt (List.getD in_ 0 0)
   refine xb 1 [] [0, 14, 15] (xV (qIx 0 1 hA2 rfl i3) (xV (qLdP (Addr.add ad2 (0 * 1)) 0 hc2) (xb 2 [] [0, 19] (wpq_re 19 (v := vb (decide (((List.getD in_ 0 0).toNat : Int) > 3))) (Value.bool ((((((in_).length : Nat) : Int) == 0) || decide (((List.getD in_ 0 0).toNat : Int) > 3)))) (by kernel_rfl) (re_or0 q1) ?_))))
   exact wpq_sub _ (by kernel_rfl) hk3
 ·refine xRe ?_
  refine xW ?_
  refine xCd ((((((in_).length : Nat) : Int) == 0) || decide (((List.getD in_ 0 0).toNat : Int) > 3))) (fun h4 => ?_) (fun h4 => ?_)
  ·have hS := cond_T h4 hS
   refine xSq (xRg (xb 5 [] [2, 3, 4, 5, 6] (xRe (xW ?_))))
   obtain rfl := Option.some.inj hS
   exact xRet [none, none] [2, 3, 4, 5, 6] gR ⟨none, 0, none, none, 0, none, by kernel_rfl, by kernel_rfl, Buf.nil, Buf.nil⟩ (fun _ _ h => h)
  ·have hS := cond_F h4 hS
   have h4l := (or_false_ h4).1
   have h4r := (or_false_ h4).2
   have w12 : ¬ ((((in_).length : Nat) : Int) = 0) := ne_of_beq_false_ h4l
   have l11 := of_decide_eq_false h4r
   refine xSk (xW (xc [0] (xSq (xRg ?_))))
   have i9 := d0.cap
   have f5 : Arr g.r tyU8 (offA i0 w0 1 1) (w0 - 1) (List.drop 1 in_) := d0.cut_from 1 (by omega)
   have nf5 := f5.len
   have l6 : (in_).length - 1 = ((List.drop 1 in_)).length := by simp only [List.length_take, List.length_drop] <;> omega
   have p12 : ((((List.drop 1 in_)).length : Nat) : Int) = (((in_).length : Nat) : Int) - 1 := by omega
   refine xb 1 [] [0, 20] (xV (qSl (m := 1) (A := i0) (len := (in_).length) (c := w0) 1 (in_).length (some 1) none ((List.drop 1 in_)).length rfl rfl (by omega) (by omega) l6) (xb 1 [] [0, 7] (xRe (xW (xSq (xRg (xE eB ?_)))))))
   rintro _ _ _ - ⟨b6, rfl, rfl, rfl⟩
   refine xRe (xW (xSq (xSq (xRg (xb 1 [] [0, 7, 8, 22] (xRe (xW ?_)))))))
   refine xJoinO hS (fun g own sl t7 => ∃ (w3 : OA) (j3 : Nat) (l1 : OA) (w2 : Nat) (j2 : OB) (z2 : OA) (f1 : Nat) (d2 : OB), own = [some ⟨b6, 188, [vs l1 t7.2.1 w2, vs z2 t7.2.2 f1]⟩, j2, d2] ∧ sl = [(0, vs i0 in_ w0), (7, vs w3 t7.1 j3), (8, vp b6 0)] ∧ Arr g.r tyU8 w3 j3 t7.1 ∧ Buf g.b tyU8 5 (.slice l1 (t7.2.1).length w2) j2 t7.2.1 ∧ Buf g.b tyU8 5 (.slice z2 (t7.2.2).length f1) d2 t7.2.2) ?_ ?_
   ·rintro g8 _ _ t7 e9 ⟨w3, j3, l1, w2, j2, z2, f1, d2, rfl, rfl, f7, z4, j4⟩ hS
    have p10 := f7.len
    have w10 := z4.len
    have z10 := j4.len
    refine xW (xSq (xSq (xRg (xb 3 [] [0, 8, 60] (xRe (xW ?_))))))
    refine xCd (((((t7.1).length : Nat) : Int) != 0)) (fun h10 => ?_) (fun h10 => ?_)
    ·have hS := cond_T h10 hS
     have j7 : ¬ ((((t7.1).length : Nat) : Int) = 0) := ne_of_bne_ h10
     refine xSq (xRg (xb 5 [] [2, 3, 4, 5, 6] (xRe (xW ?_))))
     obtain rfl := Option.some.inj hS
     exact xRet [none, none] [2, 3, 4, 5, 6] e9 ⟨none, 0, none, none, 0, none, by kernel_rfl, by kernel_rfl, Buf.nil, Buf.nil⟩ (fun _ _ h => h)
    ·have hS := cond_F h10 hS
     have j7 : (((t7.1).length : Nat) : Int) = 0 := eq_of_bne_false_ h10
     refine xSk (xW (xc [0, 8] (xSq ?_)))
     refine xDr 0 [1, 4, 8, 11] [17, 18] [some ⟨b6, 188, [vs l1 t7.2.1 w2, vs z2 t7.2.2 f1]⟩] 19 (fun RG => ?_) (fun _ _ _ _ _ h => h)
     have d0 := d0.mono e9.r
     have i12 : 0 < (in_).length := by omega
     obtain ⟨l7, d8, i8, f2, v6⟩ := d0.at_ (get_getD (d := 0) i12)
     have f2 : d8 = [vy ((List.getD in_ 0 0).toNat : Int)] := f2
     subst f2
     have i11 := UInt8.toNat_lt (List.getD in_ 0 0)
     refine xt 16 [0, 1, 2] [(1, 0)] [some 0] [0, 8, 62, 63] RG pR (xTp 3 RG (fun _ => (qIx 0 1 i8 rfl i12)) (xTv 4 [some 0] RG pR (qLdP (Addr.add l7 (0 * 1)) 0 v6) ?_))
     have i14 : 0 < (in_).length := by omega
     obtain ⟨d7, w6, f6, z3, p7⟩ := d0.at_ (get_getD (d := 0) i14)
     have z3 : w6 = [vy ((List.getD in_ 0 0).toNat : Int)] := z3
     subst z3
     have f11 := UInt8.toNat_lt (List.getD in_ 0 0)
     refine xt 9 [5, 6, 7, 8, 9] [(8, 0)] [some 0] [62, 67, 69, 70] RG pR (xTp 10 RG (fun _ => (qIx 0 1 f6 rfl i14)) (xTv 11 [some 0] RG pR (qLdP (Addr.add d7 (0 * 1)) 0 p7) (xt 0 [12, 13, 14, 15, 16, 17, 18] [] [some 0] [2, 3, 4, 5, 6] RG pR (xAe (lds := [1, 4, 8, 11]) (xW ?_)))))
     obtain rfl := Option.some.inj hS
     exact xRet [some 1, some 2] [2, 3, 4, 5, 6] e9 ⟨l1, w2, j2, z2, f1, d2, by kernel_rfl, by kernel_rfl, z4, j4⟩ (fun _ _ h => h)
   ·intro uu7 hS hN7 hD7
    refine xBl 0 (xc [0, 7, 8, 22] (xUn 3 (xRd (xSq (xRg (xb 1 [] [0, 7, 8, 22, 23] (xRe (xW (xSq (xCt (xSk (xW (xc [0, 7, 8, 22] (xSq ?_))))))))))))))
    refine xJoinO hS (fun g own sl t15 => ∃ (p0 : OA) (j0 : Nat) (f0 : OA) (l0 : Nat) (w1 : OB), own = [some ⟨b6, 188, [vs f0 t15.2 l0, vS0]⟩, w1] ∧ sl = [(0, vs i0 in_ w0), (7, vs p0 t15.1 j0), (8, vp b6 0), (22, vi 0)] ∧ Arr g.r tyU8 p0 j0 t15.1 ∧ Buf g.b tyU8 5 (.slice f0 (t15.2).length l0) w1 t15.2) ?_ ?_
    ·rintro g16 _ _ t15 e17 ⟨p0, j0, f0, l0, w1, rfl, rfl, v0, i1⟩ hS
     have t9 := v0.len
     have l9 := i1.len
     refine xW (xRg (xb 2 [] [0, 7, 8, 22] (xRe (wpq_thenN (xc [0, 7, 8, 22] (xRd (xSq (xRg (xb 1 [] [0, 7, 8, 22, 23] (xRe (xW (xSq (xCt (xSk (xW (xc [0, 7, 8, 22] (xSq ?_)))))))))))))))))
     refine xJoinO hS (fun g own sl t18 => ∃ (j1 : OA) (d1 : Nat) (v1 : OA) (t1 : Nat) (z1 : OB), own = [some ⟨b6, 188, [vs f0 t15.2 l0, vs v1 t18.2 t1]⟩, w1, z1] ∧ sl = [(0, vs i0 in_ w0), (7, vs j1 t18.1 d1), (8, vp b6 0), (22, vi 1)] ∧ Arr g.r tyU8 j1 d1 t18.1 ∧ Buf g.b tyU8 5 (.slice v1 (t18.2).length t1) z1 t18.2) ?_ ?_
     ·rintro g19 _ _ t18 e20 ⟨j1, d1, v1, t1, z1, rfl, rfl, l3, v3⟩ hS
      have d9 := l3.len
      have p9 := v3.len
      refine xW (xRg (xb 2 [] [0, 7, 8, 22] (xRe (wpq_thenN (xc [0, 7, 8, 22] (xRd (xSq (xRg (xb 1 [] [0, 7, 8, 22, 23] (xRe (xW (xSq (xCf (xEx 0 (wpq_thenX (wpq_thenX (wpq_blockE ?_)))))))))))))))))
      have i1 := i1.mono e20.b
      refine xc [0, 7, 8] ?_
      have eS := (Option.some.inj hS).symm
      exact hN7 _ eS _ _ _ (e17.trans e20) ⟨j1, d1, f0, l0, w1, v1, t1, z1, by kernel_rfl, by kernel_rfl, l3, i1, v3⟩
     ·intro uu18 hS hN18 hD18
      refine xBl 1 (xSq (xRg (xb 2 [] [0, 7, 8, 9, 22] (xRe (xW (xSq (xSq (xRg ?_))))))))
      have d0 := d0.mono e17.r
      have i22 : 0 < (in_).length := by omega
      obtain ⟨t8, w8, z8, a2, t6⟩ := d0.at_ (get_getD (d := 0) i22)
      have a2 : w8 = [vy ((List.getD in_ 0 0).toNat : Int)] := a2
      subst a2
      have a11 := UInt8.toNat_lt (List.getD in_ 0 0)
      refine xb 1 [] [0, 7, 8, 9, 22, 25] (xV (qIx 0 1 z8 rfl i22) (xV (qLdP (Addr.add t8 (0 * 1)) 0 t6) (xb 4 [] [0, 7, 8, 9, 22, 31] (xRe (xW ?_)))))
      refine xCd (((landK .u8 (shrK .u8 ((List.getD in_ 0 0).toNat : Int) 1) 1) == 0)) (fun h23 => ?_) (fun h23 => ?_)
      ·have hS := cond_T h23 hS
       have a5 : (landK .u8 (shrK .u8 ((List.getD in_ 0 0).toNat : Int) 1) 1) = 0 := eq_of_beq h23
       refine xEx 1 (wpq_thenX (wpq_blockE (xSel [some 0, some 1, none] (xc [0, 7, 8, 22] ?_))))
       have eS := (Option.some.inj hS).symm
       exact hN18 _ eS _ _ _ gR ⟨p0, j0, none, 0, none, by kernel_rfl, by kernel_rfl, v0, Buf.nil⟩
      ·have hS := cond_F h23 hS
       have a5 : ¬ ((landK .u8 (shrK .u8 ((List.getD in_ 0 0).toNat : Int) 1) 1) = 0) := ne_of_beq_false_ h23
       refine xSk (xW (xc [0, 7, 8, 9, 22] (xSq (xSq (xRg (xb 3 [] [0, 7, 8, 9, 22, 34] (xRe (xW ?_))))))))
       refine xCd (decide ((((t15.1).length : Nat) : Int) < 2)) (fun h24 => ?_) (fun h24 => ?_)
       ·have hS := cond_T h24 hS
        have v8 := of_decide_eq_true h24
        refine xSq (xRg (xb 5 [] [2, 3, 4, 5, 6] (xRe (xW ?_))))
        have eS := (Option.some.inj hS).symm
        have eS := (hD18 _ eS).symm
        have eS := (hD7 _ eS).symm
        subst eS
        exact xRet [none, none] [2, 3, 4, 5, 6] e17 ⟨none, 0, none, none, 0, none, by kernel_rfl, by kernel_rfl, Buf.nil, Buf.nil⟩ (fun _ _ h => h)
       ·have hS := cond_F h24 hS
        have v8 := of_decide_eq_false h24
        refine xSk (xW (xc [0, 7, 8, 9, 22] (xSq (xRg (xb 1 [] [0, 7, 8, 9, 22, 35] ?_)))))
        obtain ⟨y25, v7, hS⟩ := bindO_T hS
        refine xE (eC 0 (fun g' lr eb ln => c98 g' t15.1 p0 j0 (2 : Int) (v0.mono lr) v7)) ?_
        rintro _ g26 _ e27 ⟨_, rfl, rfl, rfl⟩
        refine xb 1 [] [0, 7, 8, 9, 10, 22] (xRe (xW (xSq (xSq (xRg (xb 3 [] [0, 7, 8, 9, 10, 22, 39] ?_))))))
        refine wpr_grp 9 [(0, vs i0 in_ w0), (7, vs p0 t15.1 j0), (8, vp b6 0), (9, vi 1), (10, vi y25), (22, vi 1), (45, vb (decide (y25 > 400) || decide (y25 > ((((t15.1).length : Nat) : Int) - 2))))] (fun hk2 => ?_) ?_
        ·refine wpq_split 39 (b := decide (y25 > 400)) (by kernel_rfl) (fun q28 => ?_) (fun q28 => ?_)
         ·have l5 := of_decide_eq_true q28
          refine xb 6 [] [0, 7, 8, 9, 10, 22, 45] (wpq_re 45 (v := vb true) (Value.bool ((decide (y25 > 400) || decide (y25 > ((((t15.1).length : Nat) : Int) - 2))))) (by kernel_rfl) (re_or1 q28) ?_)
          exact wpq_sub _ (by kernel_rfl) hk2
         ·have l5 := of_decide_eq_false q28
          refine xb 3 [] [0, 7, 8, 9, 10, 22, 39, 40, 42] (xV (qSub .i64 ((((t15.1).length : Nat) : Int)) (2) (wr64 (by omega))) (xb 2 [] [0, 7, 8, 9, 10, 22, 45] (wpq_re 45 (v := vb (decide (y25 > ((((t15.1).length : Nat) : Int) - 2)))) (Value.bool ((decide (y25 > 400) || decide (y25 > ((((t15.1).length : Nat) : Int) - 2))))) (by kernel_rfl) (re_or0 q28) ?_)))
          exact wpq_sub _ (by kernel_rfl) hk2
        ·refine xRe ?_
         refine xW ?_
         refine xCd ((decide (y25 > 400) || decide (y25 > ((((t15.1).length : Nat) : Int) - 2)))) (fun h29 => ?_) (fun h29 => ?_)
         ·have hS := cond_T h29 hS
          refine xSq (xRg (xb 5 [] [2, 3, 4, 5, 6] (xRe (xW ?_))))
          have eS := (Option.some.inj hS).symm
          have eS := (hD18 _ eS).symm
          have eS := (hD7 _ eS).symm
          subst eS
          exact xRet [none, none] [2, 3, 4, 5, 6] (e17.trans e27) ⟨none, 0, none, none, 0, none, by kernel_rfl, by kernel_rfl, Buf.nil, Buf.nil⟩ (fun _ _ h => h)
         ·have hS := cond_F h29 hS
          have d6 := (or_false_ h29).1
          have p6 := (or_false_ h29).2
          have i10 := of_decide_eq_false d6
          have t10 := of_decide_eq_false p6
          refine xSk (xW (xc [0, 7, 8, 9, 10, 22] ?_))
          refine xDr 0 [] [11, 0, 1, 2, 3, 4, 6, 7, 8, 9, 10, 12] [] 13 (fun RG => ?_) (fun _ _ _ _ _ h => h)
          obtain ⟨q30, hS⟩ := grd_T hS
          have v11 := of_decide_eq_true q30
          refine xt 10 [0, 1, 2] [] [] [0, 7, 8, 10, 22, 46, 47, 48] RG pR (xTp 3 RG (fun _ => (qAdd .i64 (2) (y25) (wr64 (by omega)))) ?_)
          have v0 := v0.mono e27.r
          obtain ⟨q31, hS⟩ := grd_T hS
          have t12 := of_decide_eq_true q31
          have z9 := v0.cap
          have f32 : Arr g26.r tyU8 (offA p0 j0 2 1) (j0 - 2) (List.take (((2 + y25)).toNat - 2) (List.drop 2 t15.1)) := v0.cut 2 ((2 + y25)).toNat (by omega) (by omega)
          have t11 := f32.len
          have j5 : ((2 + y25)).toNat - 2 = ((List.take (((2 + y25)).toNat - 2) (List.drop 2 t15.1))).length := by simp only [List.length_take, List.length_drop] <;> omega
          have d10 : ((((List.take (((2 + y25)).toNat - 2) (List.drop 2 t15.1))).length : Nat) : Int) = (2 + y25) - 2 := by omega
          refine xTp 4 RG (fun _ => (qSl (m := 1) (A := p0) (len := (t15.1).length) (c := j0) 2 ((2 + y25)).toNat (some 2) (some (2 + y25)) ((List.take (((2 + y25)).toNat - 2) (List.drop 2 t15.1))).length rfl (show _ = _ by omega) (by omega) (by omega) j5)) ?_
          obtain ⟨q33, hS⟩ := grd_T hS
          have z11 := of_decide_eq_true q33
          refine xt 6 [6, 7] [] [] [0, 7, 8, 22, 46, 50, 52, 53] RG pR (xTp 8 RG (fun _ => (qAdd .i64 (2) (y25) (wr64 (by omega)))) ?_)
          obtain ⟨q34, hS⟩ := grd_T hS
          have j12 := of_decide_eq_true q34
          have a8 := v0.cap
          have f35 : Arr g26.r tyU8 (offA p0 j0 ((2 + y25)).toNat 1) (j0 - ((2 + y25)).toNat) (List.drop ((2 + y25)).toNat t15.1) := v0.cut_from ((2 + y25)).toNat (by omega)
          have w11 := f35.len
          have d5 : (t15.1).length - ((2 + y25)).toNat = ((List.drop ((2 + y25)).toNat t15.1)).length := by simp only [List.length_take, List.length_drop] <;> omega
          have f9 : ((((List.drop ((2 + y25)).toNat t15.1)).length : Nat) : Int) = (((t15.1).length : Nat) : Int) - (2 + y25) := by omega
          refine xTp 9 RG (fun _ => (qSl (m := 1) (A := p0) (len := (t15.1).length) (c := j0) ((2 + y25)).toNat (t15.1).length (some (2 + y25)) none ((List.drop ((2 + y25)).toNat t15.1)).length (show _ = _ by omega) rfl (by omega) (by omega) d5)) ?_
          obtain ⟨y36, a7, hS⟩ := letJ_T hS
          refine xO1 (lds := []) 5 (xIe (lds := []) pR (eC 0 (fun g' lr eb ln => c43 g' ((List.take (((2 + y25)).toNat - 2) (List.drop 2 t15.1)) : List UInt8) (offA p0 j0 2 1) (j0 - 2) (f32.mono lr) a7)) ?_)
          rintro _ g37 _ e38 ⟨_, rfl, a4, t5, f4, rfl, rfl, t3⟩
          refine kk [] ?_
          have j9 := t3.len
          refine xt 2 [10] [] [] [0, 7, 8, 22, 51, 55, 56] RG e38.r (xO1 (lds := []) 11 (xId (lds := []) e38.r (eStL b6 1 1) ?_))
          rintro _ _ _ - ⟨rfl, rfl⟩
          refine kf (xt 0 [12] [] [] [0, 7, 8, 22] RG e38.r (xAe (lds := []) (wpq_blockN ?_)))
          have f35 := f35.mono e38.r
          refine xSel (sm [1, 2, 0]) (xc [0, 7, 8, 22] ?_)
          have eS := (Option.some.inj hS).symm
          exact hN18 _ eS _ _ _ (e27.trans e38) ⟨(offA p0 j0 ((2 + y25)).toNat 1), (j0 - ((2 + y25)).toNat), a4, t5, f4, by kernel_rfl, by kernel_rfl, f35, t3⟩
    ·intro uu15 hS hN15 hD15
     refine xBl 1 (xSq (xRg (xb 2 [] [0, 7, 8, 9, 22] (xRe (xW (xSq (xSq (xRg ?_))))))))
     have i40 : 0 < (in_).length := by omega
     obtain ⟨v5, p8, z7, v2, a6⟩ := d0.at_ (get_getD (d := 0) i40)
     have v2 : p8 = [vy ((List.getD in_ 0 0).toNat : Int)] := v2
     subst v2
     have p11 := UInt8.toNat_lt (List.getD in_ 0 0)
     refine xb 1 [] [0, 7, 8, 9, 22, 25] (xV (qIx 0 1 z7 rfl i40) (xV (qLdP (Addr.add v5 (0 * 1)) 0 a6) (xb 4 [] [0, 7, 8, 9, 22, 31] (xRe (xW ?_)))))
     refine xCd (((landK .u8 (shrK .u8 ((List.getD in_ 0 0).toNat : Int) 0) 1) == 0)) (fun h41 => ?_) (fun h41 => ?_)
     ·have hS := cond_T h41 hS
      have j6 : (landK .u8 (shrK .u8 ((List.getD in_ 0 0).toNat : Int) 0) 1) = 0 := eq_of_beq h41
      refine xEx 1 (wpq_thenX (wpq_blockE (xSel [some 0, none] (xc [0, 7, 8, 22] ?_))))
      have eS := (Option.some.inj hS).symm
      exact hN15 _ eS _ _ _ gR ⟨(offA i0 w0 1 1), (w0 - 1), none, 0, none, by kernel_rfl, by kernel_rfl, f5, Buf.nil⟩
     ·have hS := cond_F h41 hS
      have j6 : ¬ ((landK .u8 (shrK .u8 ((List.getD in_ 0 0).toNat : Int) 0) 1) = 0) := ne_of_beq_false_ h41
      refine xSk (xW (xc [0, 7, 8, 9, 22] (xSq (xSq (xRg (xb 3 [] [0, 7, 8, 9, 22, 34] (xRe (xW ?_))))))))
      refine xCd (decide (((((List.drop 1 in_)).length : Nat) : Int) < 2)) (fun h42 => ?_) (fun h42 => ?_)
      ·have hS := cond_T h42 hS
       have i7 := of_decide_eq_true h42
       refine xSq (xRg (xb 5 [] [2, 3, 4, 5, 6] (xRe (xW ?_))))
       have eS := (Option.some.inj hS).symm
       have eS := (hD15 _ eS).symm
       have eS := (hD7 _ eS).symm
       subst eS
       exact xRet [none, none] [2, 3, 4, 5, 6] gR ⟨none, 0, none, none, 0, none, by kernel_rfl, by kernel_rfl, Buf.nil, Buf.nil⟩ (fun _ _ h => h)
      ·have hS := cond_F h42 hS
       have i7 := of_decide_eq_false h42
       refine xSk (xW (xc [0, 7, 8, 9, 22] (xSq (xRg (xb 1 [] [0, 7, 8, 9, 22, 35] ?_)))))
       obtain ⟨y43, i6, hS⟩ := bindO_T hS
       refine xE (eC 0 (fun g' lr eb ln => c98 g' ((List.drop 1 in_) : List UInt8) (offA i0 w0 1 1) (w0 - 1) (2 : Int) (f5.mono lr) i6)) ?_
       rintro _ g44 _ e45 ⟨_, rfl, rfl, rfl⟩
       refine xb 1 [] [0, 7, 8, 9, 10, 22] (xRe (xW (xSq (xSq (xRg (xb 3 [] [0, 7, 8, 9, 10, 22, 39] ?_))))))
       refine wpr_grp 9 [(0, vs i0 in_ w0), (7, vs (offA i0 w0 1 1) (List.drop 1 in_) (w0 - 1)), (8, vp b6 0), (9, vi 0), (10, vi y43), (22, vi 0), (45, vb (decide (y43 > 400) || decide (y43 > (((((List.drop 1 in_)).length : Nat) : Int) - 2))))] (fun hk2 => ?_) ?_
       ·refine wpq_split 39 (b := decide (y43 > 400)) (by kernel_rfl) (fun q46 => ?_) (fun q46 => ?_)
        ·have z6 := of_decide_eq_true q46
         refine xb 6 [] [0, 7, 8, 9, 10, 22, 45] (wpq_re 45 (v := vb true) (Value.bool ((decide (y43 > 400) || decide (y43 > (((((List.drop 1 in_)).length : Nat) : Int) - 2))))) (by kernel_rfl) (re_or1 q46) ?_)
         exact wpq_sub _ (by kernel_rfl) hk2
        ·have z6 := of_decide_eq_false q46
         refine xb 3 [] [0, 7, 8, 9, 10, 22, 39, 40, 42] (xV (qSub .i64 (((((List.drop 1 in_)).length : Nat) : Int)) (2) (wr64 (by omega))) (xb 2 [] [0, 7, 8, 9, 10, 22, 45] (wpq_re 45 (v := vb (decide (y43 > (((((List.drop 1 in_)).length : Nat) : Int) - 2)))) (Value.bool ((decide (y43 > 400) || decide (y43 > (((((List.drop 1 in_)).length : Nat) : Int) - 2))))) (by kernel_rfl) (re_or0 q46) ?_)))
         exact wpq_sub _ (by kernel_rfl) hk2
       ·refine xRe ?_
        refine xW ?_
        refine xCd ((decide (y43 > 400) || decide (y43 > (((((List.drop 1 in_)).length : Nat) : Int) - 2)))) (fun h47 => ?_) (fun h47 => ?_)
        ·have hS := cond_T h47 hS
         refine xSq (xRg (xb 5 [] [2, 3, 4, 5, 6] (xRe (xW ?_))))
         have eS := (Option.some.inj hS).symm
         have eS := (hD15 _ eS).symm
         have eS := (hD7 _ eS).symm
         subst eS
         exact xRet [none, none] [2, 3, 4, 5, 6] e45 ⟨none, 0, none, none, 0, none, by kernel_rfl, by kernel_rfl, Buf.nil, Buf.nil⟩ (fun _ _ h => h)
        ·have hS := cond_F h47 hS
         have l8 := (or_false_ h47).1
         have j8 := (or_false_ h47).2
         have j10 := of_decide_eq_false l8
         have l10 := of_decide_eq_false j8
         refine xSk (xW (xc [0, 7, 8, 9, 10, 22] ?_))
         refine xDr 0 [] [11, 0, 1, 2, 3, 4, 6, 7, 8, 9, 10, 12] [] 13 (fun RG => ?_) (fun _ _ _ _ _ h => h)
         obtain ⟨q48, hS⟩ := grd_T hS
         have d12 := of_decide_eq_true q48
         refine xt 10 [0, 1, 2] [] [] [0, 7, 8, 10, 22, 46, 47, 48] RG pR (xTp 3 RG (fun _ => (qAdd .i64 (2) (y43) (wr64 (by omega)))) ?_)
         have f5 := f5.mono e45.r
         obtain ⟨q49, hS⟩ := grd_T hS
         have j11 := of_decide_eq_true q49
         have f8 := f5.cap
         have f50 : Arr g44.r tyU8 (offA (offA i0 w0 1 1) (w0 - 1) 2 1) ((w0 - 1) - 2) (List.take (((2 + y43)).toNat - 2) (List.drop 2 (List.drop 1 in_))) := f5.cut 2 ((2 + y43)).toNat (by omega) (by omega)
         have z12 := f50.len
         have l4 : ((2 + y43)).toNat - 2 = ((List.take (((2 + y43)).toNat - 2) (List.drop 2 (List.drop 1 in_)))).length := by simp only [List.length_take, List.length_drop] <;> omega
         have f10 : ((((List.take (((2 + y43)).toNat - 2) (List.drop 2 (List.drop 1 in_)))).length : Nat) : Int) = (2 + y43) - 2 := by omega
         refine xTp 4 RG (fun _ => (qSl (m := 1) (A := (offA i0 w0 1 1)) (len := ((List.drop 1 in_)).length) (c := (w0 - 1)) 2 ((2 + y43)).toNat (some 2) (some (2 + y43)) ((List.take (((2 + y43)).toNat - 2) (List.drop 2 (List.drop 1 in_)))).length rfl (show _ = _ by omega) (by omega) (by omega) l4)) ?_
         obtain ⟨q51, hS⟩ := grd_T hS
         have a10 := of_decide_eq_true q51
         refine xt 6 [6, 7] [] [] [0, 7, 8, 22, 46, 50, 52, 53] RG pR (xTp 8 RG (fun _ => (qAdd .i64 (2) (y43) (wr64 (by omega)))) ?_)
         obtain ⟨q52, hS⟩ := grd_T hS
         have v12 := of_decide_eq_true q52
         have w9 := f5.cap
         have f53 : Arr g44.r tyU8 (offA (offA i0 w0 1 1) (w0 - 1) ((2 + y43)).toNat 1) ((w0 - 1) - ((2 + y43)).toNat) (List.drop ((2 + y43)).toNat (List.drop 1 in_)) := f5.cut_from ((2 + y43)).toNat (by omega)
         have d11 := f53.len
         have v4 : ((List.drop 1 in_)).length - ((2 + y43)).toNat = ((List.drop ((2 + y43)).toNat (List.drop 1 in_))).length := by simp only [List.length_take, List.length_drop] <;> omega
         have v10 : ((((List.drop ((2 + y43)).toNat (List.drop 1 in_))).length : Nat) : Int) = ((((List.drop 1 in_)).length : Nat) : Int) - (2 + y43) := by omega
         refine xTp 9 RG (fun _ => (qSl (m := 1) (A := (offA i0 w0 1 1)) (len := ((List.drop 1 in_)).length) (c := (w0 - 1)) ((2 + y43)).toNat ((List.drop 1 in_)).length (some (2 + y43)) none ((List.drop ((2 + y43)).toNat (List.drop 1 in_))).length (show _ = _ by omega) rfl (by omega) (by omega) v4)) ?_
         obtain ⟨y54, w7, hS⟩ := letJ_T hS
         refine xO1 (lds := []) 5 (xIe (lds := []) pR (eC 0 (fun g' lr eb ln => c43 g' ((List.take (((2 + y43)).toNat - 2) (List.drop 2 (List.drop 1 in_))) : List UInt8) (offA (offA i0 w0 1 1) (w0 - 1) 2 1) ((w0 - 1) - 2) (f50.mono lr) w7)) ?_)
         rintro _ g55 _ e56 ⟨_, rfl, i5, z5, w5, rfl, rfl, d3⟩
         refine kk [] ?_
         have v9 := d3.len
         refine xt 2 [10] [] [] [0, 7, 8, 22, 51, 55, 56] RG e56.r (xO1 (lds := []) 11 (xId (lds := []) e56.r (eStL b6 0 1) ?_))
         rintro _ _ _ - ⟨rfl, rfl⟩
         refine kf (xt 0 [12] [] [] [0, 7, 8, 22] RG e56.r (xAe (lds := []) (wpq_blockN ?_)))
         have f53 := f53.mono e56.r
         refine xSel [some 1, some 0] (xc [0, 7, 8, 22] ?_)
         have eS := (Option.some.inj hS).symm
         exact hN15 _ eS _ _ _ (e45.trans e56) ⟨(offA (offA i0 w0 1 1) (w0 - 1) ((2 + y43)).toNat 1), ((w0 - 1) - ((2 + y43)).toNat), i5, z5, w5, by kernel_rfl, by kernel_rfl, f53, d3⟩

def o95 (x : Sett) : Option ((List UInt8) × Int) :=
 (cond (decide (x.steps < 0)) (some ((([] : List UInt8), (1 : Int)))) (bindO (o113 x.in_) fun y3 => (cond ((y3.2.2.2.2 != 0)) (some ((([] : List UInt8), y3.2.2.2.2))) (letJ (τ := Nat) (cond (x.fresh) (1) (0)) fun t7 => (bindO (o111 ([] : List UInt8) x.steps (8 : Int)) fun y11 => (grd (decide (((y11).length + (([(u8 ((t7 : Nat) : Int))] : List UInt8)).length) * 1 ≤ 140737488355328)) (grd (decide ((((y11 ++ ([(u8 ((t7 : Nat) : Int))] : List UInt8))).length + (x.in_).length) * 1 ≤ 140737488355328)) (some (((((y11 ++ ([(u8 ((t7 : Nat) : Int))] : List UInt8)) ++ x.in_) : List UInt8), (0 : Int)))))))))))
theorem c95 (g : Gh) (x : Sett) (j0 : OA) (w0 : Nat) (l0 : Arr g.r tyU8 j0 w0 x.in_) {r : (List UInt8) × Int} (hS : o95 x = some r) :
  Ctr Tryz.prog 95 [(aSett x j0 w0)] g [] (fun v ψ o => ∃ (l1 : OA) (d1 : Nat) (f1 : OB), v = Value.tuple #[vs l1 r.1 d1, vi r.2] ∧ o = [f1] ∧ Buf ψ tyU8 5 (.slice l1 (r.1).length d1) f1 r.1) := by
 unfold o95 at hS
 refine xFn Tryz.f95 (Tryz.f95.body.getD .skip) 36 ?_
 have l4 := l0.len
 refine xSq (xRg (xE eB ?_))
 rintro _ _ _ - ⟨b1, rfl, rfl, rfl⟩
 refine xb 2 [] [1] (xRe (xW (xSq (xSq (xRg (xb 3 [(1, 0)] [1, 12] (xRe (xW ?_))))))))
 refine xCd (decide (x.steps < 0)) (fun h2 => ?_) (fun h2 => ?_)
 ·have hS := cond_T h2 hS
  have h2p := of_decide_eq_true h2
  refine xSq (xRg (xb 2 [] [2, 3] (xRe (xW ?_))))
  obtain rfl := Option.some.inj hS
  exact xRet [none] [2, 3] gR ⟨none, 0, none, by kernel_rfl, by kernel_rfl, Buf.nil⟩ (fun _ _ h => h)
 ·have hS := cond_F h2 hS
  have h2p := of_decide_eq_false h2
  refine xSk (xW (xc [1] (xSq (xSq (xRg (xb 2 [(1, 0)] [1, 15] ?_))))))
  obtain ⟨y3, hy3, hS⟩ := bindO_T hS
  refine xE (eC 0 (fun g' lr eb ln => c113 g' x.in_ j0 w0 (l0.mono lr) hy3)) ?_
  rintro _ g4 _ e5 ⟨_, rfl, p6, w6, a6, z6, d6, j6, rfl, rfl, f3, w4⟩
  have z5 := f3.len
  have w5 := w4.len
  refine xb 11 [] [1, 8] (xRe (xW (xSq (xRg (xb 2 [] [1, 8, 23] (xRe (xW ?_)))))))
  refine xCd ((y3.2.2.2.2 != 0)) (fun h6 => ?_) (fun h6 => ?_)
  ·have hS := cond_T h6 hS
   have h6p : ¬ (y3.2.2.2.2 = 0) := ne_of_bne_ h6
   refine xSq (xRg (xb 3 [] [2, 3] (xRe (xW ?_))))
   obtain rfl := Option.some.inj hS
   exact xRet [none] [2, 3] e5 ⟨none, 0, none, by kernel_rfl, by kernel_rfl, Buf.nil⟩ (fun _ _ h => h)
  ·have hS := cond_F h6 hS
   have h6p : y3.2.2.2.2 = 0 := eq_of_bne_false_ h6
   refine xSk (xW (xc [1] (xSq (xRg (xb 1 [] [1, 9] (xRe (xW (xSq (xSq (xRg (xb 2 [(1, 2)] [1, 9, 26] (xRe (xW ?_)))))))))))))
   refine xLetJ hS (fun g own sl t7 => own = [some ⟨b1, 92, (cSett x j0 w0)⟩] ∧ sl = [(1, vp b1 0), (9, vy (t7 : Int))] ∧ (0 ≤ t7 ∧ t7 ≤ 1)) ?_ ?_
   ·rintro g8 _ _ t7 e9 ⟨rfl, rfl, ⟨t5, i5⟩⟩ hS
    refine xW (xSq ?_)
    refine xDr 0 [1, 7] [9, 10] [some ⟨b1, 92, (cSett x j0 w0)⟩] 11 (fun RG => ?_) (fun _ _ _ _ _ h => h)
    refine xt 6 [0, 1, 3, 6, 7] [(1, 0), (7, 0)] [some 0] [28, 30, 34] RG pR ?_
    obtain ⟨y11, j2, hS⟩ := bindO_T hS
    refine wpa_meet (fun g own sl => ∃ (p0 : OA) (v0 : Nat) (d0 : OB) (A14 : OA) (c14 : Nat) (k14 : OB), own = [k14, d0, some ⟨b1, 92, (cSett x j0 w0)⟩] ∧ sl = [(29, vs p0 y11 v0), (31, vs A14 ([(u8 (t7 : Int))] : List UInt8) c14), (34, vs j0 x.in_ w0)] ∧ Buf g.b tyU8 5 (.slice p0 (y11).length v0) d0 y11 ∧ Buf g.b tyU8 5 (.slice A14 (([(u8 (t7 : Int))] : List UInt8)).length c14) k14 ([(u8 (t7 : Int))] : List UInt8)) 4 [true, true, true, true, true, false, true, true, false, false, false] ?_ (fun z2 => ?_)
    ·rintro j1 _ _ f0 ⟨p0, v0, d0, A14, c14, k14, rfl, rfl, i0, h14⟩
     have w1 := i0.len
     have i6 := h14.len
     obtain ⟨j5, f2, a2⟩ := h14.srcO (g := j1)
     obtain ⟨l3, hS⟩ := grd_T hS
     have l5 := of_decide_eq_true l3
     refine xO1 (lds := [1, 7]) 5 (xIe (lds := [1, 7]) f0.r (eApp (T := tyU8) (p := j1.b) (et := 5) (bytes := 1) (xs := (y11 : List UInt8)) (ys := (([(u8 (t7 : Int))] : List UInt8) : List UInt8)) 1 i0 rfl (fun w hs => a2 0 w _ hs (by kernel_rfl)) f2 (by first | omega | (simp only [List.length_cons, List.length_nil] at *; omega)) (by first | omega | (simp only [List.length_cons, List.length_nil] at *; omega))) ?_)
     rintro _ _ _ - ⟨v6, f6, t6, rfl, rfl, rfl, w2⟩
     refine kk [some 2] ?_
     have a5 := w2.len
     have d5 : ((y11 ++ ([(u8 (t7 : Int))] : List UInt8)) : List UInt8).length = (y11).length + (([(u8 (t7 : Int))] : List UInt8)).length := List.length_append
     have l0 := l0.mono (e5.trans (e9.trans f0)).r
     obtain ⟨v5, w3, v2⟩ := l0.srcR
     obtain ⟨j3, hS⟩ := grd_T hS
     have f4 := of_decide_eq_true j3
     refine xO1 (lds := [1, 7]) 8 (xIe (lds := [1, 7]) f0.r (eApp (T := tyU8) (p := j1.b) (et := 5) (bytes := 1) (xs := ((y11 ++ ([(u8 (t7 : Int))] : List UInt8)) : List UInt8)) (ys := x.in_) 1 w2 rfl (fun w hs => v2 w _ hs) (flatU8.reps w3) (by first | omega | (simp only [List.length_cons, List.length_nil] at *; omega)) (by first | omega | (simp only [List.length_cons, List.length_nil] at *; omega))) ?_)
     rintro _ _ _ - ⟨a3, d3, d4, rfl, rfl, rfl, t1⟩
     refine kk [some 2] ?_
     have a4 := t1.len
     have f5 : (((y11 ++ ([(u8 (t7 : Int))] : List UInt8)) ++ x.in_) : List UInt8).length = ((y11 ++ ([(u8 (t7 : Int))] : List UInt8))).length + (x.in_).length := List.length_append
     refine xt 0 [9, 10] [] [some 2] [2, 3] RG f0.r (xAe (lds := [1, 7]) (xW ?_))
     obtain rfl := Option.some.inj hS
     exact xRet [some 1] [2, 3] (e5.trans (e9.trans f0)) ⟨a3, d3, d4, by kernel_rfl, by kernel_rfl, t1⟩ (fun _ _ h => h)
    ·refine xO2 (lds := [1, 7]) 2 4 ?_ ?_
     ·refine xSel [none, some 0] ?_
      refine xIe (lds := [1, 7]) pR (eC 1 (fun g' lr eb ln => c111 g' ([] : List UInt8) none 0 none x.steps (8 : Int) Buf.nil j2)) ?_
      rintro _ v3 _ v1 ⟨_, rfl, p0, v0, d0, rfl, rfl, i0⟩
      refine kk [some 1] ?_
      have w1 := i0.len
      refine xO1 (lds := [1, 7]) 4 (xIe (lds := [1, 7]) v1.r (eBs (T := tyU8) (p := v3.b) (et := 5) (xs := ([(u8 (t7 : Int))] : List UInt8)) (reps_cons (c := [vy (t7 : Int)]) (u8_rep (by omega)) reps_nil) (by simp)) ?_)
      rintro _ _ _ - ⟨i4, t3, t4, rfl, rfl, rfl, v4⟩
      refine kk [some 2] (xc [29, 31, 34] ?_)
      exact z2 _ _ _ v1 ⟨p0, v0, d0, i4, t3, t4, by kernel_rfl, by kernel_rfl, i0, v4⟩
     ·refine xIe (lds := [1, 7]) pR (eBs (T := tyU8) (p := g8.b) (et := 5) (xs := ([(u8 (t7 : Int))] : List UInt8)) (reps_cons (c := [vy (t7 : Int)]) (u8_rep (by omega)) reps_nil) (by simp)) ?_
      rintro _ _ _ - ⟨z3, j4, z4, rfl, rfl, rfl, i1⟩
      refine kk [some 1] (xSel [none, some 0, some 1] (xO1 (lds := [1, 7]) 2 (xIe (lds := [1, 7]) pR (eC 1 (fun g' lr eb ln => c111 g' ([] : List UInt8) none 0 none x.steps (8 : Int) Buf.nil j2)) ?_)))
      rintro _ l6 _ d2 ⟨_, rfl, p0, v0, d0, rfl, rfl, i0⟩
      refine kk [some 2] ?_
      have w1 := i0.len
      refine xSel (sm [1, 0, 2]) (xc [29, 31, 34] ?_)
      have i1 := i1.mono d2.b
      exact z2 _ _ _ d2 ⟨p0, v0, d0, z3, j4, z4, by kernel_rfl, by kernel_rfl, i0, i1⟩
   ·intro uu7 hS hN7
    refine xCd (x.fresh) (fun z1 => ?_) (fun z1 => ?_)
    ·have hS := cond_T z1 hS
     refine xRg (xb 1 [] [1, 9] (xRe (xSel [some 2] (xc [1, 9] ?_))))
     have eS := hS.symm
     exact hN7 _ eS _ _ _ gR ⟨by kernel_rfl, by kernel_rfl, okI⟩
    ·have hS := cond_F z1 hS
     refine xSk (xSel [some 2] (xc [1, 9] ?_))
     have eS := hS.symm
     exact hN7 _ eS _ _ _ gR ⟨by kernel_rfl, by kernel_rfl, okI⟩

end Go.Proofs.YtnidomdebhekiaaGreat
