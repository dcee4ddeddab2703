/-
Walks, printed by wip/gen, with half of their indentation. Conditions: each theorem's own.
-/
import Derived.Test.YtnidomdebhekiaaGreatC1
namespace Go.Proofs.YtnidomdebhekiaaGreat
set_option linter.unusedVariables false
set_option linter.unusedSimpArgs false
open Go.RowKit
set_option maxRecDepth 100000
def o87 (number : Int) (role : Int) (steps : Int) (alone : Int) (heard : Bool) (other : Int) (theirs : Int) : Int :=
 (cond ((role == 2)) (cond (((heard && (other == 2)) && (decide (theirs > steps) || ((theirs == steps) && (number == 2))))) ((1 : Int)) ((2 : Int))) (cond ((role == 3)) (cond (((!heard) || ((other != 2) && (other != 3)))) ((2 : Int)) (cond ((other == 2)) (cond ((theirs == steps)) ((3 : Int)) ((1 : Int))) (cond (decide (theirs > steps)) ((1 : Int)) (cond ((decide (theirs < steps) || (number == 1))) ((2 : Int)) ((3 : Int)))))) (cond ((((!heard) && decide (alone ≥ 3)) || (((heard && (other != 2)) && (other != 3)) && (number == 1)))) ((2 : Int)) ((1 : Int)))))
theorem c87 (g : Gh) (number : Int) (role : Int) (steps : Int) (alone : Int) (heard : Bool) (other : Int) (w0 : Int) {r : Int} (hS : o87 number role steps alone heard other w0 = r) :
  Ctr Tryz.prog 87 [vi number, vy role, vi steps, vi alone, vb heard, vy other, vi w0] g [] (fun v ψ o => v = vy r ∧ o = []) := by
 unfold o87 at hS
 refine xFn Tryz.f87 (Tryz.f87.body.getD .skip) 89 (xSq (xRg (xb 1 [] [0, 1, 2, 3, 4, 5, 6] (xRe (xW (xSq (xSq (xRg (xb 1 [] [0, 2, 3, 4, 5, 6, 15] (xRe (xW (xBl 0 (xSq (xRg (xb 2 [] [0, 2, 3, 4, 5, 6, 15, 16] (xRe (xW ?_)))))))))))))))))
 refine xCd ((role == 2)) (fun h1 => ?_) (fun h1 => ?_)
 ·have hS := cond_T h1 hS
  have h1p : role = 2 := eq_of_beq h1
  refine xSq (xSq (xRg (xb 2 [] [0, 2, 5, 6, 19] ?_)))
  refine wpr_grp 5 [(0, vi number), (2, vi steps), (6, vi w0), (22, vb (heard && (other == 2)))] (fun hk1 => ?_) ?_
  ·refine wpq_split 19 (b := heard) (by kernel_rfl) (fun q2 => ?_) (fun q2 => ?_)
   ·refine xb 3 [] [0, 2, 6, 22] ?_
    refine wpq_re 22 (v := vb (other == 2)) (Value.bool ((heard && (other == 2)))) (by kernel_rfl) (re_and1 q2) ?_
    exact wpq_sub _ (by kernel_rfl) hk1
   ·refine xb 3 [] [0, 2, 6, 22] ?_
    refine wpq_re 22 (v := vb false) (Value.bool ((heard && (other == 2)))) (by kernel_rfl) (re_and0 q2) ?_
    exact wpq_sub _ (by kernel_rfl) hk1
  ·refine xb 1 [] [0, 2, 6, 23] ?_
   refine wpr_grp 19 [(36, vb ((heard && (other == 2)) && (decide (w0 > steps) || ((w0 == steps) && (number == 2)))))] (fun hk5 => ?_) ?_
   ·refine wpq_split 23 (b := (heard && (other == 2))) (by kernel_rfl) (fun q3 => ?_) (fun q3 => ?_)
    ·have q3l := (and_true_ q3).1
     have q3r := (and_true_ q3).2
     have v2 : other = 2 := eq_of_beq q3r
     refine xb 4 [] [0, 2, 6, 23, 27] ?_
     refine wpr_grp 18 [(23, vb true), (35, vb (decide (w0 > steps) || ((w0 == steps) && (number == 2))))] (fun hk9 => ?_) ?_
     ·refine wpq_split 27 (b := decide (w0 > steps)) (by kernel_rfl) (fun q4 => ?_) (fun q4 => ?_)
      ·have q4p := of_decide_eq_true q4
       refine xb 8 [] [23, 35] (wpq_re 35 (v := vb true) (Value.bool ((decide (w0 > steps) || ((w0 == steps) && (number == 2))))) (by kernel_rfl) (re_or1 q4) ?_)
       exact wpq_sub _ (by kernel_rfl) hk9
      ·have q4p := of_decide_eq_false q4
       refine xb 4 [] [0, 23, 27, 31] ?_
       refine wpr_grp 17 [(23, vb true), (27, vb false), (34, vb ((w0 == steps) && (number == 2)))] (fun i0 => ?_) ?_
       ·refine wpq_split 31 (b := (w0 == steps)) (by kernel_rfl) (fun q5 => ?_) (fun q5 => ?_)
        ·have q5p : w0 = steps := eq_of_beq q5
         refine xb 3 [] [23, 27, 34] (wpq_re 34 (v := vb (number == 2)) (Value.bool (((w0 == steps) && (number == 2)))) (by kernel_rfl) (re_and1 q5) ?_)
         exact wpq_sub _ (by kernel_rfl) i0
        ·have q5p : ¬ (w0 = steps) := ne_of_beq_false_ q5
         refine xb 3 [] [23, 27, 34] (wpq_re 34 (v := vb false) (Value.bool (((w0 == steps) && (number == 2)))) (by kernel_rfl) (re_and0 q5) ?_)
         exact wpq_sub _ (by kernel_rfl) i0
       ·refine xb 1 [] [23, 35] ?_
        refine wpq_re 35 (v := vb ((w0 == steps) && (number == 2))) (Value.bool ((decide (w0 > steps) || ((w0 == steps) && (number == 2))))) (by kernel_rfl) (re_or0 q4) ?_
        exact wpq_sub _ (by kernel_rfl) hk9
     ·refine xb 1 [] [36] ?_
      refine wpq_re 36 (v := vb (decide (w0 > steps) || ((w0 == steps) && (number == 2)))) (Value.bool (((heard && (other == 2)) && (decide (w0 > steps) || ((w0 == steps) && (number == 2)))))) (by kernel_rfl) (re_and1 q3) ?_
      exact wpq_sub _ (by kernel_rfl) hk5
    ·refine xb 13 [] [36] ?_
     refine wpq_re 36 (v := vb false) (Value.bool (((heard && (other == 2)) && (decide (w0 > steps) || ((w0 == steps) && (number == 2)))))) (by kernel_rfl) (re_and0 q3) ?_
     exact wpq_sub _ (by kernel_rfl) hk5
   ·refine xRe ?_
    refine xW ?_
    refine xCd (((heard && (other == 2)) && (decide (w0 > steps) || ((w0 == steps) && (number == 2))))) (fun h6 => ?_) (fun h6 => ?_)
    ·have hS := cond_T h6 hS
     have h6l := (and_true_ h6).1
     have d1 := (and_true_ h6l).2
     have z2 : other = 2 := eq_of_beq d1
     refine xSq (xRg (xb 1 [] [14] (xRe (xW ?_))))
     have eS := hS.symm
     subst eS
     exact xRet [] [14] gR ⟨by kernel_rfl, by kernel_rfl⟩ (fun _ _ h => h)
    ·have hS := cond_F h6 hS
     refine xSk (xW (xc [] (xSq (xRg (xb 1 [] [14] (xRe (xW ?_)))))))
     have eS := hS.symm
     subst eS
     exact xRet [] [14] gR ⟨by kernel_rfl, by kernel_rfl⟩ (fun _ _ h => h)
 ·have hS := cond_F h1 hS
  have h1p : ¬ (role = 2) := ne_of_beq_false_ h1
  refine xSq (xRg (xb 2 [] [0, 2, 3, 4, 5, 6, 37] (xRe (xW ?_))))
  refine xCd ((role == 3)) (fun h7 => ?_) (fun h7 => ?_)
  ·have hS := cond_T h7 hS
   have h7p : role = 3 := eq_of_beq h7
   refine xSq (xBl 1 (xSq (xRg (xb 3 [] [0, 2, 5, 6, 42] ?_))))
   refine wpr_grp 10 [(0, vi number), (2, vi steps), (5, vy other), (6, vi w0), (49, vb ((!heard) || ((other != 2) && (other != 3))))] (fun hk2 => ?_) ?_
   ·refine wpq_split 42 (b := (!heard)) (by kernel_rfl) (fun q8 => ?_) (fun q8 => ?_)
    ·have q8n := not_eq_true_ q8
     refine xb 7 [] [0, 2, 5, 6, 49] (wpq_re 49 (v := vb true) (Value.bool (((!heard) || ((other != 2) && (other != 3))))) (by kernel_rfl) (re_or1 q8) ?_)
     exact wpq_sub _ (by kernel_rfl) hk2
    ·have q8n := not_eq_false_ q8
     refine xb 3 [] [0, 2, 5, 6, 42, 45] ?_
     refine wpr_grp 9 [(0, vi number), (2, vi steps), (5, vy other), (6, vi w0), (42, vb false), (48, vb ((other != 2) && (other != 3)))] (fun hk5 => ?_) ?_
     ·refine wpq_split 45 (b := (other != 2)) (by kernel_rfl) (fun q9 => ?_) (fun q9 => ?_)
      ·have q9p : ¬ (other = 2) := ne_of_bne_ q9
       refine xb 3 [] [0, 2, 5, 6, 42, 48] (wpq_re 48 (v := vb (other != 3)) (Value.bool (((other != 2) && (other != 3)))) (by kernel_rfl) (re_and1 q9) ?_)
       exact wpq_sub _ (by kernel_rfl) hk5
      ·have q9p : other = 2 := eq_of_bne_false_ q9
       refine xb 3 [] [0, 2, 5, 6, 42, 48] (wpq_re 48 (v := vb false) (Value.bool (((other != 2) && (other != 3)))) (by kernel_rfl) (re_and0 q9) ?_)
       exact wpq_sub _ (by kernel_rfl) hk5
     ·refine xb 1 [] [0, 2, 5, 6, 49] ?_
      refine wpq_re 49 (v := vb ((other != 2) && (other != 3))) (Value.bool (((!heard) || ((other != 2) && (other != 3))))) (by kernel_rfl) (re_or0 q8) ?_
      exact wpq_sub _ (by kernel_rfl) hk2
   ·refine xb 1 [] [0, 2, 5, 6, 39] ?_
    refine xRe (xW ?_)
    refine xCd (((!heard) || ((other != 2) && (other != 3)))) (fun h10 => ?_) (fun h10 => ?_)
    ·have hS := cond_T h10 hS
     refine xSq (xRg (xb 1 [] [14] (xRe (xW ?_))))
     have eS := hS.symm
     subst eS
     exact xRet [] [14] gR ⟨by kernel_rfl, by kernel_rfl⟩ (fun _ _ h => h)
    ·have hS := cond_F h10 hS
     refine xSq (xRg (xb 3 [] [0, 2, 6, 50] (xRe (xW ?_))))
     refine xCd ((other == 2)) (fun h11 => ?_) (fun h11 => ?_)
     ·have hS := cond_T h11 hS
      have v0 : other = 2 := eq_of_beq h11
      refine xSq (xSq (xRg (xb 3 [] [55] (xRe (xW ?_)))))
      refine xCd ((w0 == steps)) (fun h12 => ?_) (fun h12 => ?_)
      ·have hS := cond_T h12 hS
       have i1 : w0 = steps := eq_of_beq h12
       refine xSq (xRg (xb 1 [] [14] (xRe (xW ?_))))
       have eS := hS.symm
       subst eS
       exact xRet [] [14] gR ⟨by kernel_rfl, by kernel_rfl⟩ (fun _ _ h => h)
      ·have hS := cond_F h12 hS
       have i1 : ¬ (w0 = steps) := ne_of_beq_false_ h12
       refine xSk (xW (xc [] (xSq (xRg (xb 1 [] [14] (xRe (xW ?_)))))))
       have eS := hS.symm
       subst eS
       exact xRet [] [14] gR ⟨by kernel_rfl, by kernel_rfl⟩ (fun _ _ h => h)
     ·have hS := cond_F h11 hS
      have v0 : ¬ (other = 2) := ne_of_beq_false_ h11
      refine xSq (xRg (xb 4 [] [0, 2, 6, 56] (xRe (xW ?_))))
      refine xCd (decide (w0 > steps)) (fun h13 => ?_) (fun h13 => ?_)
      ·have hS := cond_T h13 hS
       refine xSq (xRg (xb 1 [] [14] (xRe (xW ?_))))
       have eS := hS.symm
       subst eS
       exact xRet [] [14] gR ⟨by kernel_rfl, by kernel_rfl⟩ (fun _ _ h => h)
      ·have hS := cond_F h13 hS
       refine xSq (xRg (xb 4 [] [0, 64] ?_))
       refine wpr_grp 7 [(67, vb (decide (w0 < steps) || (number == 1)))] (fun hk3 => ?_) ?_
       ·refine wpq_split 64 (b := decide (w0 < steps)) (by kernel_rfl) (fun q14 => ?_) (fun q14 => ?_)
        ·have t1 := of_decide_eq_true q14
         refine xb 3 [] [67] (wpq_re 67 (v := vb true) (Value.bool ((decide (w0 < steps) || (number == 1)))) (by kernel_rfl) (re_or1 q14) ?_)
         exact wpq_sub _ (by kernel_rfl) hk3
        ·have t1 := of_decide_eq_false q14
         refine xb 3 [] [67] (wpq_re 67 (v := vb (number == 1)) (Value.bool ((decide (w0 < steps) || (number == 1)))) (by kernel_rfl) (re_or0 q14) ?_)
         exact wpq_sub _ (by kernel_rfl) hk3
       ·refine xb 1 [] [60] ?_
        refine xRe (xW ?_)
        refine xCd ((decide (w0 < steps) || (number == 1))) (fun h15 => ?_) (fun h15 => ?_)
        ·have hS := cond_T h15 hS
         refine xSq (xRg (xb 1 [] [14] (xRe (xW ?_))))
         have eS := hS.symm
         subst eS
         exact xRet [] [14] gR ⟨by kernel_rfl, by kernel_rfl⟩ (fun _ _ h => h)
        ·have hS := cond_F h15 hS
         have j1 := (or_false_ h15).2
         have f1 : ¬ (number = 1) := ne_of_beq_false_ j1
         refine xSk (wpq_blockN (xW (xc [] (xSq (xRg (xb 1 [] [14] (xRe (xW ?_))))))))
         have eS := hS.symm
         subst eS
         exact xRet [] [14] gR ⟨by kernel_rfl, by kernel_rfl⟩ (fun _ _ h => h)
  ·have hS := cond_F h7 hS
   have h7p : ¬ (role = 3) := ne_of_beq_false_ h7
   refine xSk (wpq_blockN (xW (xc [0, 3, 4, 5] (xSq (xSq (xRg (xb 3 [] [0, 3, 4, 5, 70] ?_)))))))
   refine wpr_grp 6 [(0, vi number), (4, vb heard), (5, vy other), (73, vb ((!heard) && decide (alone ≥ 3)))] (fun hk2 => ?_) ?_
   ·refine wpq_split 70 (b := (!heard)) (by kernel_rfl) (fun q16 => ?_) (fun q16 => ?_)
    ·have l0 := not_eq_true_ q16
     refine xb 3 [] [0, 4, 5, 73] (wpq_re 73 (v := vb (decide (alone ≥ 3))) (Value.bool (((!heard) && decide (alone ≥ 3)))) (by kernel_rfl) (re_and1 q16) ?_)
     exact wpq_sub _ (by kernel_rfl) hk2
    ·have l0 := not_eq_false_ q16
     refine xb 3 [] [0, 4, 5, 73] (wpq_re 73 (v := vb false) (Value.bool (((!heard) && decide (alone ≥ 3)))) (by kernel_rfl) (re_and0 q16) ?_)
     exact wpq_sub _ (by kernel_rfl) hk2
   ·refine xb 1 [] [0, 4, 5, 74] ?_
    refine wpr_grp 21 [(88, vb (((!heard) && decide (alone ≥ 3)) || (((heard && (other != 2)) && (other != 3)) && (number == 1))))] (fun hk6 => ?_) ?_
    ·refine wpq_split 74 (b := ((!heard) && decide (alone ≥ 3))) (by kernel_rfl) (fun q17 => ?_) (fun q17 => ?_)
     ·have d2 := (and_true_ q17).1
      refine xb 14 [] [88] (wpq_re 88 (v := vb true) (Value.bool ((((!heard) && decide (alone ≥ 3)) || (((heard && (other != 2)) && (other != 3)) && (number == 1))))) (by kernel_rfl) (re_or1 q17) ?_)
      exact wpq_sub _ (by kernel_rfl) hk6
     ·refine xb 2 [] [0, 5, 74, 76] ?_
      refine wpr_grp 12 [(0, vi number), (5, vy other), (74, vb false), (79, vb (heard && (other != 2)))] (fun hk8 => ?_) ?_
      ·refine wpq_split 76 (b := heard) (by kernel_rfl) (fun q18 => ?_) (fun q18 => ?_)
       ·refine xb 3 [] [0, 5, 74, 79] ?_
        refine wpq_re 79 (v := vb (other != 2)) (Value.bool ((heard && (other != 2)))) (by kernel_rfl) (re_and1 q18) ?_
        exact wpq_sub _ (by kernel_rfl) hk8
       ·refine xb 3 [] [0, 5, 74, 79] ?_
        refine wpq_re 79 (v := vb false) (Value.bool ((heard && (other != 2)))) (by kernel_rfl) (re_and0 q18) ?_
        exact wpq_sub _ (by kernel_rfl) hk8
      ·refine xb 1 [] [0, 5, 74, 80] ?_
       refine wpr_grp 16 [(0, vi number), (74, vb false), (83, vb ((heard && (other != 2)) && (other != 3)))] (fun j0 => ?_) ?_
       ·refine wpq_split 80 (b := (heard && (other != 2))) (by kernel_rfl) (fun q19 => ?_) (fun q19 => ?_)
        ·have j2 := (and_true_ q19).1
         have z1 := (and_true_ q19).2
         have w2 : ¬ (other = 2) := ne_of_bne_ z1
         refine xb 3 [] [0, 74, 83] (wpq_re 83 (v := vb (other != 3)) (Value.bool (((heard && (other != 2)) && (other != 3)))) (by kernel_rfl) (re_and1 q19) ?_)
         exact wpq_sub _ (by kernel_rfl) j0
        ·refine xb 3 [] [0, 74, 83] ?_
         refine wpq_re 83 (v := vb false) (Value.bool (((heard && (other != 2)) && (other != 3)))) (by kernel_rfl) (re_and0 q19) ?_
         exact wpq_sub _ (by kernel_rfl) j0
       ·refine xb 1 [] [0, 74, 84] ?_
        refine wpr_grp 20 [(74, vb false), (87, vb (((heard && (other != 2)) && (other != 3)) && (number == 1)))] (fun p0 => ?_) ?_
        ·refine wpq_split 84 (b := ((heard && (other != 2)) && (other != 3))) (by kernel_rfl) (fun q20 => ?_) (fun q20 => ?_)
         ·have f0 := (and_true_ q20).1
          have w1 := (and_true_ q20).2
          have d0 := (and_true_ f0).2
          have v1 : ¬ (other = 2) := ne_of_bne_ d0
          have l1 : ¬ (other = 3) := ne_of_bne_ w1
          refine xb 3 [] [74, 87] (wpq_re 87 (v := vb (number == 1)) (Value.bool ((((heard && (other != 2)) && (other != 3)) && (number == 1)))) (by kernel_rfl) (re_and1 q20) ?_)
          exact wpq_sub _ (by kernel_rfl) p0
         ·refine xb 3 [] [74, 87] ?_
          refine wpq_re 87 (v := vb false) (Value.bool ((((heard && (other != 2)) && (other != 3)) && (number == 1)))) (by kernel_rfl) (re_and0 q20) ?_
          exact wpq_sub _ (by kernel_rfl) p0
        ·refine xb 1 [] [88] ?_
         refine wpq_re 88 (v := vb (((heard && (other != 2)) && (other != 3)) && (number == 1))) (Value.bool ((((!heard) && decide (alone ≥ 3)) || (((heard && (other != 2)) && (other != 3)) && (number == 1))))) (by kernel_rfl) (re_or0 q17) ?_
         exact wpq_sub _ (by kernel_rfl) hk6
    ·refine xRe ?_
     refine xW ?_
     refine xCd ((((!heard) && decide (alone ≥ 3)) || (((heard && (other != 2)) && (other != 3)) && (number == 1)))) (fun h21 => ?_) (fun h21 => ?_)
     ·have hS := cond_T h21 hS
      refine xSq (xRg (xb 1 [] [14] (xRe (xW ?_))))
      have eS := hS.symm
      subst eS
      exact xRet [] [14] gR ⟨by kernel_rfl, by kernel_rfl⟩ (fun _ _ h => h)
     ·have hS := cond_F h21 hS
      refine xSk (xW (xc [] (xSq (xRg (xb 1 [] [14] (xRe (xW ?_)))))))
      have eS := hS.symm
      subst eS
      exact xRet [] [14] gR ⟨by kernel_rfl, by kernel_rfl⟩ (fun _ _ h => h)

def o88 (n : Node) : Node :=
 (({ n with role := 1, steps := 0 }))
theorem c88 (g : Gh) (b_n : Nat) (n : Node) (f0 : OA) (l0 : Nat) (w0 : OA) (j0 : Nat) (p0 : OA) (i0 : Nat) (v1 : Arr g.b tyU8 f0 l0 n.input) (d1 : Arr g.b tyU8 w0 j0 n.heard.input) (t1 : Arr g.b tyU8 p0 i0 n.set_.in_) {r : Node} (hS : o88 n = r) :
  Ctr Tryz.prog 88 [vp b_n 0] g [some ⟨b_n, 126, (cNode n f0 l0 w0 j0 p0 i0)⟩] (fun v ψ o => ∃ (j1 : OA) (i1 : Nat) (d0 : OA) (v0 : Nat) (z1 : OA) (w1 : Nat), v = Value.tuple #[] ∧ o = [some ⟨b_n, 126, (cNode r j1 i1 d0 v0 z1 w1)⟩] ∧ Arr ψ tyU8 j1 i1 r.input ∧ Arr ψ tyU8 d0 v0 r.heard.input ∧ Arr ψ tyU8 z1 w1 r.set_.in_) := by
 unfold o88 at hS
 refine xFn Tryz.f88 (Tryz.f88.body.getD .skip) 8 (xRg (xbo 8 [(4, 0), (7, 0)] [some ⟨b_n, 126, (cNode ({ n with role := 1, steps := 0 }) f0 l0 w0 j0 p0 i0)⟩] [] (xRe ?_)))
 have eS := hS.symm
 subst eS
 exact xFin [some 0] [] gR ⟨f0, l0, w0, j0, p0, i0, by kernel_rfl, by kernel_rfl, v1, d1, t1⟩

def o51 (n : Node) (f : Frame) (came : Bool) : Option (Node × Heard × Bool × Int) :=
 (letJ (o81 n (1 : Int)) fun y3 => (cond ((y3 != 0)) (some ((n, (⟨0, 0, (⟨0, 0⟩ : Want), ([] : List UInt8)⟩ : Heard), (false), (y3 : Int)))) (letJ (o85 n f (came) (1 : Int)) fun y7 => (bindO (τ := Heard × Bool) (cond (y7) (bindO (o86 f.payload) fun y40 => (some ((y40.1, (y40.2 == 0))))) (some ((n.heard, n.is_)))) fun t10 => (letJ (τ := Int × Heard) (cond (t10.2) ((0, t10.1)) (((IntKind.i64.wrap (n.alone + 1)), ((⟨0, 0, (⟨0, 0⟩ : Want), ([] : List UInt8)⟩ : Heard) : Heard)))) fun t13 => (letJ (o87 n.number n.role n.steps t13.1 (t10.2) t13.2.role t13.2.steps) fun y16 => (letJ (τ := Node) (cond ((y16 == 1)) (letJ (o88 ({ n with role := y16, alone := t13.1, next_ := 2, heard := t13.2, is_ := t10.2 })) fun y35 => ((y35 : Node))) ((({ n with role := y16, alone := t13.1, next_ := 2, heard := t13.2, is_ := t10.2 }) : Node))) fun t19 => (letJ (τ := Int) (cond (((n.role == 1) && (t19.role == 2))) (0) (t19.steps)) fun t23 => (letJ (o43 t19.heard.input) fun y27 => (some ((({ t19 with steps := t23, fresh := ((n.role == 1) && (t19.role == 2)) }), ({ t19.heard with input := y27 }), (t19.is_), (0 : Int)))))))))))))
theorem c51 (g : Gh) (b_n : Nat) (n : Node) (v0 : OA) (d0 : Nat) (f0 : OA) (w1 : Nat) (p0 : OA) (i0 : Nat) (f : Frame) (w2 : OA) (f1 : Nat) (came : Bool) (l1 : Arr g.b tyU8 v0 d0 n.input) (l0 : Arr g.b tyU8 f0 w1 n.heard.input) (j1 : Arr g.b tyU8 p0 i0 n.set_.in_) (a2 : Arr g.r tyU8 w2 f1 f.payload) {r : Node × Heard × Bool × Int} (hS : o51 n f came = some r) :
  Ctr Tryz.prog 51 [vp b_n 0, (aFrame f w2 f1), vb came] g [some ⟨b_n, 126, (cNode n v0 d0 f0 w1 p0 i0)⟩] (fun v ψ o => ∃ (t4 : OA) (i4 : Nat) (d3 : OA) (t3 : Nat) (f3 : OA) (l3 : Nat) (j4 : OA) (d4 : Nat), v = Value.tuple #[(aHeard r.2.1 j4 d4), vb r.2.2.1, vi r.2.2.2] ∧ o = [some ⟨b_n, 126, (cNode r.1 t4 i4 d3 t3 f3 l3)⟩] ∧ Arr ψ tyU8 t4 i4 r.1.input ∧ Arr ψ tyU8 d3 t3 r.1.heard.input ∧ Arr ψ tyU8 f3 l3 r.1.set_.in_ ∧ Arr ψ tyU8 j4 d4 r.2.1.input) := by
 unfold o51 at hS
 refine xFn Tryz.f51 (Tryz.f51.body.getD .skip) 134 (xSq (xRg (xE eB ?_)))
 rintro _ _ _ - ⟨b1, rfl, rfl, rfl⟩
 refine xE eB ?_
 rintro _ _ _ - ⟨b2, rfl, rfl, rfl⟩
 refine xb 2 [] [0, 2, 4, 6] (xRe (xW (xSq (xSq (xRg (xb 1 [] [0, 2, 4, 6, 14] ?_))))))
 obtain ⟨y3, hy3, hS⟩ := letJ_T hS
 refine xE (eC 0 (fun g' lr eb ln => c81 g' ⟨b_n, 0, none⟩ n v0 d0 f0 w1 p0 i0 (1 : Int) (cells_lent' 2 b_n 0 (cNode n v0 d0 f0 w1 p0 i0) ln) ((l1.mono g.br).mono lr) ((l0.mono g.br).mono lr) ((j1.mono g.br).mono lr) hy3)) ?_
 rintro _ g4 _ e5 ⟨_, rfl, rfl, rfl⟩
 refine xb 1 [] [0, 2, 4, 6, 9] (xRe (xW (xSq (xRg (xb 2 [] [0, 2, 4, 6, 9, 17] (xRe (xW ?_)))))))
 refine xCd ((y3 != 0)) (fun h6 => ?_) (fun h6 => ?_)
 ·have hS := cond_T h6 hS
  have h6p : ¬ (y3 = 0) := ne_of_bne_ h6
  refine xSq (xRg (xbo 5 [(2, 0)] [some ⟨b2, 122, (cHeard (⟨0, 0, (⟨0, 0⟩ : Want), ([] : List UInt8)⟩ : Heard) none 0)⟩, some ⟨b1, 49, (cFrame f w2 f1)⟩, some ⟨b_n, 126, (cNode n v0 d0 f0 w1 p0 i0)⟩] [6, 7, 8] (xRe (xW ?_))))
  have l1 := l1.mono e5.b
  have l0 := l0.mono e5.b
  have j1 := j1.mono e5.b
  obtain rfl := Option.some.inj hS
  exact xRetC [some 2] [(6, 0)] e5 ⟨v0, d0, f0, w1, p0, i0, none, 0, by kernel_rfl, by kernel_rfl, l1, l0, j1, Arr.nil⟩ (fun _ _ h => h)
 ·have hS := cond_F h6 hS
  have h6p : y3 = 0 := eq_of_bne_false_ h6
  refine xSk (xW (xc [0, 2, 4, 6] (xSq (xSq (xRg (xb 3 [(1, 1)] [0, 4, 6, 20, 21, 22] ?_))))))
  have l1 := l1.mono e5.b
  have l0 := l0.mono e5.b
  have j1 := j1.mono e5.b
  have a2 := a2.mono e5.r
  obtain ⟨y7, hy7, hS⟩ := letJ_T hS
  refine xE (eC 0 (fun g' lr eb ln => c85 g' ⟨b_n, 0, none⟩ n v0 d0 f0 w1 p0 i0 f w2 f1 (came) (1 : Int) (cells_lent' 2 b_n 0 (cNode n v0 d0 f0 w1 p0 i0) ln) ((l1.mono g4.br).mono lr) ((l0.mono g4.br).mono lr) ((j1.mono g4.br).mono lr) (a2.mono lr) hy7)) ?_
  rintro _ g8 _ e9 ⟨_, rfl, rfl, rfl⟩
  refine xRe (xW (xc [0, 4, 6, 23] ?_))
  refine xBindO hS (fun g own sl t10 => ∃ (f2 : OA) (z2 : Nat), own = [some ⟨b2, 122, (cHeard (⟨0, 0, (⟨0, 0⟩ : Want), ([] : List UInt8)⟩ : Heard) none 0)⟩, some ⟨b_n, 126, (cNode ({ n with heard := t10.1, is_ := t10.2 }) v0 d0 f2 z2 p0 i0)⟩] ∧ sl = [(0, vp b_n 0), (6, vp b2 0)] ∧ Arr g.b tyU8 f2 z2 t10.1.input) ?_ ?_
  ·rintro g11 _ _ t10 e12 ⟨f2, z2, rfl, rfl, j5⟩ hS
   refine xW (xSq (xRg (xbo 4 [(3, 1)] [some ⟨b2, 122, (cHeard (⟨0, 0, (⟨0, 0⟩ : Want), ([] : List UInt8)⟩ : Heard) none 0)⟩, some ⟨b_n, 126, (cNode ({ n with next_ := 2, heard := t10.1, is_ := t10.2 }) v0 d0 f2 z2 p0 i0)⟩] [0, 6] (xRe (xW (xSq (xSq (xRg (xb 4 [(3, 1)] [0, 6, 45] (xRe (xW ?_)))))))))))
   refine xLetJ hS (fun g own sl t13 => ∃ (j2 : OA) (v2 : Nat), own = [some ⟨b2, 122, (cHeard (⟨0, 0, (⟨0, 0⟩ : Want), ([] : List UInt8)⟩ : Heard) none 0)⟩, some ⟨b_n, 126, (cNode ({ n with alone := t13.1, next_ := 2, heard := t13.2, is_ := t10.2 }) v0 d0 j2 v2 p0 i0)⟩] ∧ sl = [(0, vp b_n 0), (6, vp b2 0)] ∧ Arr g.b tyU8 j2 v2 t13.2.input) ?_ ?_
   ·rintro g14 _ _ t13 e15 ⟨j2, v2, rfl, rfl, d2⟩ hS
    refine xW (xSq (xRg (xb 5 [(3, 1)] [0, 6, 12] (xRe (xW (xSq ?_))))))
    refine xDr 0 [4, 9, 13, 17, 22, 27] [31, 29, 30] [some ⟨b2, 122, (cHeard (⟨0, 0, (⟨0, 0⟩ : Want), ([] : List UInt8)⟩ : Heard) none 0)⟩, some ⟨b_n, 126, (cNode ({ n with alone := t13.1, next_ := 2, heard := t13.2, is_ := t10.2 }) v0 d0 j2 v2 p0 i0)⟩] 32 (fun RG => ?_) (fun _ _ _ _ _ h => h)
    refine xt 4 [0, 1, 2, 3, 4, 5, 6, 7, 8, 9, 10, 11, 12, 13, 14, 15, 16, 17, 18, 19, 20, 21, 22, 23, 24, 25, 26, 27] [(4, 1), (9, 1), (13, 1), (17, 1), (22, 1), (27, 1)] [some 0, some 1] [0, 6, 12, 64, 68, 69, 73, 77, 81, 86, 91] RG pR ?_
    obtain ⟨y16, a5, hS⟩ := letJ_T hS
    refine xO1 (lds := [4, 9, 13, 17, 22, 27]) 28 (xIe (lds := [4, 9, 13, 17, 22, 27]) pR (eC 0 (fun g' lr eb ln => c87 g' n.number n.role n.steps t13.1 (t10.2) t13.2.role t13.2.steps a5)) ?_)
    rintro _ g17 _ e18 ⟨_, rfl, rfl, rfl⟩
    refine kk [some 0, some 1] (xt 1 [29, 30] [] [some 0, some 1] [0, 6, 12, 92, 94] RG e18.r (xO1 (lds := [4, 9, 13, 17, 22, 27]) 31 (xId (lds := [4, 9, 13, 17, 22, 27]) e18.r (eStL b_n 1 1) ?_)))
    rintro _ _ _ - ⟨rfl, rfl⟩
    refine kf (xAe (lds := [4, 9, 13, 17, 22, 27]) (xW (xc [0, 6, 12] (xSq (xSq (xRg (xb 5 [(3, 1)] [0, 6, 12, 99] (xRe (xW ?_)))))))))
    refine xLetJ hS (fun g own sl t19 => ∃ (d1 : OA) (t1 : Nat) (w0 : OA) (j0 : Nat) (z1 : OA) (i1 : Nat), own = [some ⟨b_n, 126, (cNode t19 d1 t1 w0 j0 z1 i1)⟩, some ⟨b2, 122, (cHeard (⟨0, 0, (⟨0, 0⟩ : Want), ([] : List UInt8)⟩ : Heard) none 0)⟩] ∧ sl = [(0, vp b_n 0), (6, vp b2 0), (12, vy n.role)] ∧ Arr g.b tyU8 d1 t1 t19.input ∧ Arr g.b tyU8 w0 j0 t19.heard.input ∧ Arr g.b tyU8 z1 i1 t19.set_.in_) ?_ ?_
    ·rintro g20 _ _ t19 e21 ⟨d1, t1, w0, j0, z1, i1, rfl, rfl, v3, v1, w3⟩ hS
     refine xW (xSq (xRg (xb 4 [] [0, 6, 102, 105] ?_)))
     refine wpr_grp 10 [(0, vp b_n 0), (6, vp b2 0), (102, vp b_n 0), (111, vb ((n.role == 1) && (t19.role == 2)))] (fun hk3 => ?_) ?_
     ·refine wpq_split 105 (b := (n.role == 1)) (by kernel_rfl) (fun q22 => ?_) (fun q22 => ?_)
      ·have j6 : n.role = 1 := eq_of_beq q22
       refine xb 6 [(7, 0)] [0, 6, 102, 111] (wpq_re 111 (v := vb (t19.role == 2)) (Value.bool (((n.role == 1) && (t19.role == 2)))) (by kernel_rfl) (re_and1 q22) ?_)
       exact wpq_sub _ (by kernel_rfl) hk3
      ·have j6 : ¬ (n.role = 1) := ne_of_beq_false_ q22
       refine xb 6 [] [0, 6, 102, 111] (wpq_re 111 (v := vb false) (Value.bool (((n.role == 1) && (t19.role == 2)))) (by kernel_rfl) (re_and0 q22) ?_)
       exact wpq_sub _ (by kernel_rfl) hk3
     ·refine xbo 3 [(12, 0)] [some ⟨b_n, 126, (cNode ({ t19 with fresh := ((n.role == 1) && (t19.role == 2)) }) d1 t1 w0 j0 z1 i1)⟩, some ⟨b2, 122, (cHeard (⟨0, 0, (⟨0, 0⟩ : Want), ([] : List UInt8)⟩ : Heard) none 0)⟩] [0, 6] ?_
      refine xRe (xW (xSq (xSq (xRg (xb 4 [(3, 0)] [0, 6, 117] (xRe (xW ?_)))))))
      refine xLetJ hS (fun g own sl t23 => own = [some ⟨b_n, 126, (cNode ({ t19 with steps := t23, fresh := ((n.role == 1) && (t19.role == 2)) }) d1 t1 w0 j0 z1 i1)⟩, some ⟨b2, 122, (cHeard (⟨0, 0, (⟨0, 0⟩ : Want), ([] : List UInt8)⟩ : Heard) none 0)⟩] ∧ sl = [(0, vp b_n 0), (6, vp b2 0)]) ?_ ?_
      ·rintro g24 _ _ t23 e25 ⟨rfl, rfl⟩ hS
       refine xW (xSq (xRg (xb 4 [(3, 0)] [0, 6, 124] (xE eB ?_))))
       rintro _ _ _ - ⟨b26, rfl, rfl, rfl⟩
       refine xbo 1 [(5, 0)] [some ⟨b26, 122, (cHeard t19.heard w0 j0)⟩, some ⟨b_n, 126, (cNode ({ t19 with steps := t23, fresh := ((n.role == 1) && (t19.role == 2)) }) d1 t1 w0 j0 z1 i1)⟩, some ⟨b2, 122, (cHeard (⟨0, 0, (⟨0, 0⟩ : Want), ([] : List UInt8)⟩ : Heard) none 0)⟩] [0, 6, 13] (xRe (xW (xSq (xRg (xb 2 [(1, 0)] [0, 6, 13, 126] ?_)))))
       have v1 := v1.mono e25.b
       obtain ⟨y27, f5, hS⟩ := letJ_T hS
       refine xE (eC 0 (fun g' lr eb ln => c43 g' t19.heard.input w0 j0 ((v1.mono g24.br).mono lr) f5)) ?_
       rintro _ g28 _ e29 ⟨_, rfl, d5, t5, v5, rfl, rfl, l5⟩
       refine xbo 2 [(4, 1)] [v5, some ⟨b26, 122, (cHeard ({ t19.heard with input := y27 }) d5 t5)⟩, some ⟨b_n, 126, (cNode ({ t19 with steps := t23, fresh := ((n.role == 1) && (t19.role == 2)) }) d1 t1 w0 j0 z1 i1)⟩, some ⟨b2, 122, (cHeard (⟨0, 0, (⟨0, 0⟩ : Want), ([] : List UInt8)⟩ : Heard) none 0)⟩] [0, 6, 13] (xRe (xW (xSq ?_)))
       refine xDr 0 [0, 4] [6, 7] [some ⟨b26, 122, (cHeard ({ t19.heard with input := y27 }) d5 t5)⟩, some ⟨b_n, 126, (cNode ({ t19 with steps := t23, fresh := ((n.role == 1) && (t19.role == 2)) }) d1 t1 w0 j0 z1 i1)⟩] 8 (fun RG => ?_) (fun _ _ _ _ _ h => h)
       refine xt 3 [0, 1, 2, 3, 4] [(0, 0), (4, 1)] [some 1, some 2] [6, 129, 133] RG pR (xO1 (lds := [0, 4]) 5 (xId (lds := [0, 4]) pR (eStL b2 0 3) ?_))
       rintro _ _ _ - ⟨rfl, rfl⟩
       refine kk [some 1, some 2] (xt 0 [6, 7] [] [some 1, some 2] [6, 7, 8] RG pR (xAe (lds := [0, 4]) (xW ?_)))
       refine wpq_freeze 0 (by kernel_rfl) l5 (fun g30 e31 f32 => ?_)
       have v3 := v3.mono (e25.trans (e29.trans e31)).b
       have v1 := v1.mono (e29.trans e31).b
       have w3 := w3.mono (e25.trans (e29.trans e31)).b
       obtain rfl := Option.some.inj hS
       exact xRetC [some 2] [(6, 3)] (e5.trans (e9.trans (e12.trans (e15.trans (e18.trans (e21.trans (e25.trans (e29.trans e31)))))))) ⟨d1, t1, w0, j0, z1, i1, d5, t5, by kernel_rfl, by kernel_rfl, v3, v1, w3, f32⟩ (fun _ _ h => h)
      ·intro uu23 hS hN23
       refine xCd (((n.role == 1) && (t19.role == 2))) (fun h33 => ?_) (fun h33 => ?_)
       ·have hS := cond_T h33 hS
        have w6 := (and_true_ h33).1
        have z6 := (and_true_ h33).2
        have t6 : n.role = 1 := eq_of_beq w6
        have v6 : t19.role = 2 := eq_of_beq z6
        refine xRg (xbo 4 [(3, 0)] [some ⟨b_n, 126, (cNode ({ t19 with steps := 0, fresh := ((n.role == 1) && (t19.role == 2)) }) d1 t1 w0 j0 z1 i1)⟩, some ⟨b2, 122, (cHeard (⟨0, 0, (⟨0, 0⟩ : Want), ([] : List UInt8)⟩ : Heard) none 0)⟩] [0, 6] (xRe (xc [0, 6] ?_)))
        have eS := hS.symm
        exact hN23 _ eS _ _ _ gR ⟨by kernel_rfl, by kernel_rfl⟩
       ·have hS := cond_F h33 hS
        refine xSk (xc [0, 6] ?_)
        have eS := hS.symm
        exact hN23 _ eS _ _ _ gR ⟨by kernel_rfl, by kernel_rfl⟩
    ·intro uu19 hS hN19
     refine xCd ((y16 == 1)) (fun h34 => ?_) (fun h34 => ?_)
     ·have hS := cond_T h34 hS
      have i6 : y16 = 1 := eq_of_beq h34
      refine xRg (xb 1 [] [0, 6, 12, 100] (xSel [some 1, some 0] ?_))
      have l1 := l1.mono (e9.trans (e12.trans (e15.trans e18))).b
      have d2 := d2.mono e18.b
      have j1 := j1.mono (e9.trans (e12.trans (e15.trans e18))).b
      obtain ⟨y35, d6, hS⟩ := letJ_T hS
      refine xE (eC 1 (fun g' lr eb ln => c88 g' b_n ({ n with role := y16, alone := t13.1, next_ := 2, heard := t13.2, is_ := t10.2 }) v0 d0 j2 v2 p0 i0 (by rw [eb]; exact l1) (by rw [eb]; exact d2) (by rw [eb]; exact j1) d6)) ?_
      rintro _ g36 _ e37 ⟨_, rfl, z5, a4, z4, w4, f4, v4, rfl, rfl, i5, a3, l4⟩
      refine xRe (xc [0, 6, 12] ?_)
      have eS := hS.symm
      exact hN19 _ eS _ _ _ e37 ⟨z5, a4, z4, w4, f4, v4, by kernel_rfl, by kernel_rfl, i5, a3, l4⟩
     ·have hS := cond_F h34 hS
      have i6 : ¬ (y16 = 1) := ne_of_beq_false_ h34
      refine xSk ?_
      have l1 := l1.mono (e9.trans (e12.trans (e15.trans e18))).b
      have d2 := d2.mono e18.b
      have j1 := j1.mono (e9.trans (e12.trans (e15.trans e18))).b
      refine xSel [some 1, some 0] (xc [0, 6, 12] ?_)
      have eS := hS.symm
      exact hN19 _ eS _ _ _ gR ⟨v0, d0, j2, v2, p0, i0, by kernel_rfl, by kernel_rfl, l1, d2, j1⟩
   ·intro uu13 hS hN13
    refine xCd (t10.2) (fun h38 => ?_) (fun h38 => ?_)
    ·have hS := cond_T h38 hS
     refine xRg (xbo 4 [(3, 1)] [some ⟨b2, 122, (cHeard (⟨0, 0, (⟨0, 0⟩ : Want), ([] : List UInt8)⟩ : Heard) none 0)⟩, some ⟨b_n, 126, (cNode ({ n with alone := 0, next_ := 2, heard := t10.1, is_ := t10.2 }) v0 d0 f2 z2 p0 i0)⟩] [0, 6] (xRe (xc [0, 6] ?_)))
     have eS := hS.symm
     exact hN13 _ eS _ _ _ gR ⟨f2, z2, by kernel_rfl, by kernel_rfl, j5⟩
    ·have hS := cond_F h38 hS
     refine xSq (xRg (xbo 5 [(4, 1)] [some ⟨b2, 122, (cHeard (⟨0, 0, (⟨0, 0⟩ : Want), ([] : List UInt8)⟩ : Heard) none 0)⟩, some ⟨b_n, 126, (cNode ({ n with next_ := 2, heard := (⟨0, 0, (⟨0, 0⟩ : Want), ([] : List UInt8)⟩ : Heard), is_ := t10.2 }) v0 d0 none 0 p0 i0)⟩] [0, 6] (xRe (xW (xRg (xbo 8 [(3, 1), (7, 1)] [some ⟨b2, 122, (cHeard (⟨0, 0, (⟨0, 0⟩ : Want), ([] : List UInt8)⟩ : Heard) none 0)⟩, some ⟨b_n, 126, (cNode ({ n with alone := (IntKind.i64.wrap (n.alone + 1)), next_ := 2, heard := (⟨0, 0, (⟨0, 0⟩ : Want), ([] : List UInt8)⟩ : Heard), is_ := t10.2 }) v0 d0 none 0 p0 i0)⟩] [0, 6] (xRe (xc [0, 6] ?_))))))))
     have eS := hS.symm
     exact hN13 _ eS _ _ _ gR ⟨none, 0, by kernel_rfl, by kernel_rfl, Arr.nil⟩
  ·intro uu10 hS hN10
   refine xCd (y7) (fun h39 => ?_) (fun h39 => ?_)
   ·have hS := cond_T h39 hS
    refine xSq (xRg (xb 2 [(1, 1)] [0, 6, 26] ?_))
    have a2 := a2.mono e9.r
    obtain ⟨y40, p6, hS⟩ := bindO_T hS
    refine xE (eC 0 (fun g' lr eb ln => c86 g' f.payload w2 f1 (a2.mono lr) p6)) ?_
    rintro _ g41 _ e42 ⟨_, rfl, z3, j3, rfl, rfl, w5⟩
    refine xb 3 [] [0, 6, 28, 29] (xE eB ?_)
    rintro _ _ _ - ⟨b43, rfl, rfl, rfl⟩
    refine xbo 2 [(7, 0)] [some ⟨b43, 122, (cHeard y40.1 z3 j3)⟩, some ⟨b2, 122, (cHeard (⟨0, 0, (⟨0, 0⟩ : Want), ([] : List UInt8)⟩ : Heard) none 0)⟩, some ⟨b1, 49, (cFrame f w2 f1)⟩, some ⟨b_n, 126, (cNode n v0 d0 f0 w1 p0 i0)⟩] [0, 6, 10, 11] (xRe (xW (xRg (xbo 11 [(2, 0), (7, 3), (10, 3)] [some ⟨b43, 122, (cHeard y40.1 z3 j3)⟩, some ⟨b2, 122, (cHeard (⟨0, 0, (⟨0, 0⟩ : Want), ([] : List UInt8)⟩ : Heard) none 0)⟩, some ⟨b1, 49, (cFrame f w2 f1)⟩, some ⟨b_n, 126, (cNode ({ n with heard := y40.1, is_ := (y40.2 == 0) }) v0 d0 z3 j3 p0 i0)⟩] [0, 6] (xRe (xSel [some 1, some 3] (xc [0, 6] ?_)))))))
    have eS := (Option.some.inj hS).symm
    exact hN10 _ eS _ _ _ e42 ⟨z3, j3, by kernel_rfl, by kernel_rfl, w5⟩
   ·have hS := cond_F h39 hS
    refine xSk ?_
    have l0 := l0.mono e9.b
    refine xSel [some 0, some 2] (xc [0, 6] ?_)
    have eS := (Option.some.inj hS).symm
    exact hN10 _ eS _ _ _ gR ⟨f0, w1, by kernel_rfl, by kernel_rfl, l0⟩

def o89 (s : Sender) : Sender :=
 ((⟨([] : List Piece)⟩ : Sender))
theorem c89 (g : Gh) (b_s : Nat) (s : Sender) (i0 : OA) (p0 : Nat) (d0 : Arr g.b tyPiece i0 p0 s.pieces) {r : Sender} (hS : o89 s = r) :
  Ctr Tryz.prog 89 [vp b_s 0] g [some ⟨b_s, 130, [vs i0 s.pieces p0]⟩] (fun v ψ o => ∃ (j0 : OA) (w0 : Nat), v = Value.tuple #[] ∧ o = [some ⟨b_s, 130, [vs j0 r.pieces w0]⟩] ∧ Arr ψ tyPiece j0 w0 r.pieces) := by
 unfold o89 at hS
 refine xFn Tryz.f89 (Tryz.f89.body.getD .skip) 7 (xSq (xRg (xb 2 [] [0, 3] (xRe (xW (xCt (xRg (xbo 4 [(3, 0)] [some ⟨b_s, 130, [vS0]⟩] [] (xRe ?_)))))))))
 have eS := hS.symm
 subst eS
 exact xFin [some 0] [] gR ⟨none, 0, by kernel_rfl, by kernel_rfl, Arr.nil⟩

def o90 (c : Coll) : Coll :=
 ((⟨0, 0, ([] : List (List UInt8)), ([] : List Sett)⟩ : Coll))
theorem c90 (g : Gh) (b_c : Nat) (c : Coll) (z1 : OA) (w1 : Nat) (w0 : OB) (i1 : OA) (j1 : Nat) (d0 : OB) (d1 : Buf g.b (tyArr tyU8) 28 (.slice z1 (c.parts).length w1) w0 c.parts) (t1 : Buf g.b tySett 92 (.slice i1 (c.sets).length j1) d0 c.sets) {r : Coll} (hS : o90 c = r) :
  Ctr Tryz.prog 90 [vp b_c 0] g [some ⟨b_c, 132, (cColl c z1 w1 i1 j1)⟩, w0, d0] (fun v ψ o => ∃ (i0 : OA) (p0 : Nat) (j0 : OB) (v0 : OA) (l0 : Nat) (f0 : OB), v = Value.tuple #[] ∧ o = [some ⟨b_c, 132, (cColl r i0 p0 v0 l0)⟩, j0, f0] ∧ Buf ψ (tyArr tyU8) 28 (.slice i0 (r.parts).length p0) j0 r.parts ∧ Buf ψ tySett 92 (.slice v0 (r.sets).length l0) f0 r.sets) := by
 unfold o90 at hS
 refine xFn Tryz.f90 (Tryz.f90.body.getD .skip) 7 (xSq (xRg (xb 2 [] [0, 3] (xRe (xW (xCt (xRg (xbo 4 [(3, 0)] [some ⟨b_c, 132, (cColl Z4 none 0 none 0)⟩, w0, d0] [] (xRe ?_)))))))))
 have eS := hS.symm
 subst eS
 exact xFin [some 0, none, none] [] gR ⟨none, 0, none, none, 0, none, by kernel_rfl, by kernel_rfl, Buf.nil, Buf.nil⟩

def o52 (c : Comp) : Comp :=
 (letJ (o89 c.sender) fun y1 => (letJ (o90 c.collector) fun y4 => ((⟨c.number, c.node, y1, y4, c.next_, c.cycle, (c.asked), c.want⟩ : Comp))))
theorem c52 (g : Gh) (b_c : Nat) (c : Comp) (i4 : Nat) (l3 : OA) (a3 : Nat) (i0 : OA) (w0 : Nat) (v1 : OA) (t1 : Nat) (d3 : Nat) (f1 : OA) (l1 : Nat) (p0 : Nat) (v0 : OA) (l0 : Nat) (f0 : OB) (j1 : OA) (z1 : Nat) (w1 : OB) (f3 : Arr g.b tyU8 l3 a3 c.node.input) (j0 : Arr g.b tyU8 i0 w0 c.node.heard.input) (d1 : Arr g.b tyU8 v1 t1 c.node.set_.in_) (d4 : Arr g.b tyPiece f1 l1 c.sender.pieces) (d0 : Buf g.b (tyArr tyU8) 28 (.slice v0 (c.collector.parts).length l0) f0 c.collector.parts) (i1 : Buf g.b tySett 92 (.slice j1 (c.collector.sets).length z1) w1 c.collector.sets) {r : Comp} (hS : o52 c = r) :
  Ctr Tryz.prog 52 [vp b_c 0] g [some ⟨b_c, 77, [vi c.number, vp i4 0, vp d3 0, vp p0 0, vi c.next_, vi c.cycle, vb c.asked, vi c.want.base, vi c.want.have_]⟩, some ⟨i4, 126, (cNode c.node l3 a3 i0 w0 v1 t1)⟩, some ⟨d3, 130, [vs f1 c.sender.pieces l1]⟩, some ⟨p0, 132, (cColl c.collector v0 l0 j1 z1)⟩, f0, w1] (fun v ψ o => ∃ (w4 : OA) (z4 : Nat) (z2 : OA) (w2 : Nat) (z3 : OA) (t3 : Nat) (v3 : OA) (j3 : Nat) (d2 : OA) (v2 : Nat) (j2 : OB) (a2 : OA) (w3 : Nat) (f2 : OB), v = Value.tuple #[] ∧ o = [some ⟨b_c, 77, [vi r.number, vp i4 0, vp d3 0, vp p0 0, vi r.next_, vi r.cycle, vb r.asked, vi r.want.base, vi r.want.have_]⟩, some ⟨i4, 126, (cNode r.node w4 z4 z2 w2 z3 t3)⟩, some ⟨d3, 130, [vs v3 r.sender.pieces j3]⟩, some ⟨p0, 132, (cColl r.collector d2 v2 a2 w3)⟩, j2, f2] ∧ Arr ψ tyU8 w4 z4 r.node.input ∧ Arr ψ tyU8 z2 w2 r.node.heard.input ∧ Arr ψ tyU8 z3 t3 r.node.set_.in_ ∧ Arr ψ tyPiece v3 j3 r.sender.pieces ∧ Buf ψ (tyArr tyU8) 28 (.slice d2 (r.collector.parts).length v2) j2 r.collector.parts ∧ Buf ψ tySett 92 (.slice a2 (r.collector.sets).length w3) f2 r.collector.sets) := by
 unfold o52 at hS
 refine xFn Tryz.f52 (Tryz.f52.body.getD .skip) 12 (xSq (xRg (xb 4 [(3, 0)] [0, 5] (xSel (sm [2, 0, 1, 3, 4, 5]) ?_))))
 obtain ⟨y1, hy1, hS⟩ := letJ_T hS
 refine xE (eC 1 (fun g' lr eb ln => c89 g' d3 c.sender f1 l1 (by rw [eb]; exact d4) hy1)) ?_
 rintro _ g2 _ e3 ⟨_, rfl, t4, v4, rfl, rfl, j4⟩
 refine xRe (xW (xc [0] (xRg (xb 4 [(3, 1)] [10] (xSel (sm [3, 4, 5, 0, 1, 2]) ?_)))))
 have d0 := d0.mono e3.b
 have i1 := i1.mono e3.b
 obtain ⟨y4, hy4, hS⟩ := letJ_T hS
 refine xE (eC 3 (fun g' lr eb ln => c90 g' p0 c.collector v0 l0 f0 j1 z1 w1 (by rw [eb]; exact d0) (by rw [eb]; exact i1) hy4)) ?_
 rintro _ g5 _ e6 ⟨_, rfl, w5, l4, a4, z5, i5, d5, rfl, rfl, f4, j5⟩
 refine xRe ?_
 have f3 := f3.mono (e3.trans e6).b
 have j0 := j0.mono (e3.trans e6).b
 have d1 := d1.mono (e3.trans e6).b
 have j4 := j4.mono e6.b
 have eS := hS.symm
 subst eS
 exact xFin (sm [4, 5, 3, 0, 1, 2]) [] (e3.trans e6) ⟨l3, a3, i0, w0, v1, t1, t4, v4, w5, l4, a4, z5, i5, d5, by kernel_rfl, by kernel_rfl, f3, j0, d1, j4, f4, j5⟩

def o22 (c : Comp) (f : Frame) (came : Bool) : Option (Comp × Int) :=
 (letJ (o45 (⟨c.number, c.node, c.sender, c.collector, c.next_, c.cycle, (c.asked), c.want⟩ : Comp) (1 : Int)) fun y2 => (cond ((y2.2 != 0)) (some (((⟨y2.1.number, y2.1.node, y2.1.sender, y2.1.collector, y2.1.next_, y2.1.cycle, (y2.1.asked), y2.1.want⟩ : Comp), y2.2))) (letJ (o10 y2.1.node) fun y6 => (bindO (o51 y2.1.node f (came)) fun y10 => (cond ((y10.2.2.2 != 0)) (some (((⟨y2.1.number, y10.1, y2.1.sender, y2.1.collector, y2.1.next_, y2.1.cycle, (y2.1.asked), y2.1.want⟩ : Comp), y10.2.2.2))) (letJ (o10 y10.1) fun y213 => (letJ (τ := Int × Int × Int × Bool × Int × Int × Node × (List Piece) × Coll) (cond ((y213 != y6)) (letJ (o52 (⟨y2.1.number, y10.1, y2.1.sender, y2.1.collector, (2 : Int), y2.1.cycle, (y2.1.asked), y2.1.want⟩ : Comp)) fun y222 => ((y222.number, y222.next_, y222.cycle, y222.asked, y222.want.base, y222.want.have_, y222.node, y222.sender.pieces, y222.collector))) ((y2.1.number, 2, y2.1.cycle, y2.1.asked, y2.1.want.base, y2.1.want.have_, y10.1, y2.1.sender.pieces, y2.1.collector))) fun t216 => (some (((⟨t216.1, t216.2.2.2.2.2.2.1, (⟨t216.2.2.2.2.2.2.2.1⟩ : Sender), t216.2.2.2.2.2.2.2.2, t216.2.1, t216.2.2.1, ((((y213 == 2) && y10.2.2.1) && (y10.2.1.role == 1))), y10.2.1.want⟩ : Comp), (0 : Int)))))))))))
theorem c22 (g : Gh) (b_c : Nat) (c : Comp) (z2 : Nat) (i8 : OA) (j8 : Nat) (a4 : OA) (f4 : Nat) (t6 : OA) (d6 : Nat) (d2 : Nat) (p6 : OA) (i6 : Nat) (w1 : Nat) (i5 : OA) (d5 : Nat) (t5 : OB) (w6 : OA) (a5 : Nat) (f5 : OB) (f : Frame) (l4 : OA) (v4 : Nat) (came : Bool) (i11 : Arr g.b tyU8 i8 j8 c.node.input) (j10 : Arr g.b tyU8 a4 f4 c.node.heard.input) (z11 : Arr g.b tyU8 t6 d6 c.node.set_.in_) (w11 : Arr g.b tyPiece p6 i6 c.sender.pieces) (p10 : Buf g.b (tyArr tyU8) 28 (.slice i5 (c.collector.parts).length d5) t5 c.collector.parts) (v10 : Buf g.b tySett 92 (.slice w6 (c.collector.sets).length a5) f5 c.collector.sets) (l5 : Arr g.r tyU8 l4 v4 f.payload) {r : Comp × Int} (hS : o22 c f came = some r) :
  Ctr Tryz.prog 22 [vp b_c 0, (aFrame f l4 v4), vb came] g [some ⟨b_c, 77, [vi c.number, vp z2 0, vp d2 0, vp w1 0, vi c.next_, vi c.cycle, vb c.asked, vi c.want.base, vi c.want.have_]⟩, some ⟨z2, 126, (cNode c.node i8 j8 a4 f4 t6 d6)⟩, some ⟨d2, 130, [vs p6 c.sender.pieces i6]⟩, some ⟨w1, 132, (cColl c.collector i5 d5 w6 a5)⟩, t5, f5] (fun v ψ o => ∃ (f8 : OA) (l8 : Nat) (l6 : OA) (f6 : Nat) (f7 : OA) (w8 : Nat) (z8 : OA) (a7 : Nat) (j7 : OA) (w7 : Nat) (a6 : OB) (i7 : OA) (p7 : Nat) (d7 : OB), v = vi r.2 ∧ o = [some ⟨b_c, 77, [vi r.1.number, vp z2 0, vp d2 0, vp w1 0, vi r.1.next_, vi r.1.cycle, vb r.1.asked, vi r.1.want.base, vi r.1.want.have_]⟩, some ⟨z2, 126, (cNode r.1.node f8 l8 l6 f6 f7 w8)⟩, some ⟨d2, 130, [vs z8 r.1.sender.pieces a7]⟩, some ⟨w1, 132, (cColl r.1.collector j7 w7 i7 p7)⟩, a6, d7] ∧ Arr ψ tyU8 f8 l8 r.1.node.input ∧ Arr ψ tyU8 l6 f6 r.1.node.heard.input ∧ Arr ψ tyU8 f7 w8 r.1.node.set_.in_ ∧ Arr ψ tyPiece z8 a7 r.1.sender.pieces ∧ Buf ψ (tyArr tyU8) 28 (.slice j7 (r.1.collector.parts).length w7) a6 r.1.collector.parts ∧ Buf ψ tySett 92 (.slice i7 (r.1.collector.sets).length p7) d7 r.1.collector.sets) := by
 unfold o22 at hS
 refine xFn Tryz.f22 (Tryz.f22.body.getD .skip) 68 (xSq (xRg (xE eB ?_)))
 rintro _ _ _ - ⟨b1, rfl, rfl, rfl⟩
 refine xb 1 [] [0, 2, 4] (xRe (xW (xSq (xSq (xRg (xb 1 [] [0, 2, 4, 13] (xSel (sm [1, 2, 3, 4, 5, 6, 0]) ?_)))))))
 obtain ⟨y2, hy2, hS⟩ := letJ_T hS
 refine xE (eC 6 (fun g' lr eb ln => c45 g' b_c (⟨c.number, c.node, c.sender, c.collector, c.next_, c.cycle, (c.asked), c.want⟩ : Comp) z2 i8 j8 a4 f4 t6 d6 d2 p6 i6 w1 i5 d5 t5 w6 a5 f5 (1 : Int) (by rw [eb]; exact i11) (by rw [eb]; exact j10) (by rw [eb]; exact z11) (by rw [eb]; exact w11) (by rw [eb]; exact p10) (by rw [eb]; exact v10) hy2)) ?_
 rintro _ g3 _ e4 ⟨_, rfl, i4, z4, j3, d3, f3, l3, v2, j2, t1, d1, a2, w2, f1, z3, rfl, rfl, w3, z1, i1, v0, p0, d0⟩
 refine xb 1 [] [0, 2, 4, 7] (xRe (xW (xSq (xRg (xb 2 [] [0, 2, 4, 7, 16] (xRe (xW ?_)))))))
 refine xCd ((y2.2 != 0)) (fun h5 => ?_) (fun h5 => ?_)
 ·have hS := cond_T h5 hS
  have h5p : ¬ (y2.2 = 0) := ne_of_bne_ h5
  refine xSq (xRg (xb 2 [] [6] (xRe (xW ?_))))
  obtain rfl := Option.some.inj hS
  exact xRet (sm [0, 1, 2, 3, 4, 5]) [6] e4 ⟨i4, z4, j3, d3, f3, l3, v2, j2, t1, d1, a2, w2, f1, z3, by kernel_rfl, by kernel_rfl, w3, z1, i1, v0, p0, d0⟩ (fun _ _ h => h)
 ·have hS := cond_F h5 hS
  have h5p : y2.2 = 0 := eq_of_bne_false_ h5
  refine xSk (xW (xc [0, 2, 4] (xSq (xRg (xb 4 [(3, 0)] [0, 2, 4, 21] ?_)))))
  obtain ⟨y6, hy6, hS⟩ := letJ_T hS
  refine xE (eC 0 (fun g' lr eb ln => c10 g' ⟨z2, 0, none⟩ y2.1.node i4 z4 j3 d3 f3 l3 (cells_lent' 1 z2 0 (cNode y2.1.node i4 z4 j3 d3 f3 l3) ln) ((w3.mono g3.br).mono lr) ((z1.mono g3.br).mono lr) ((i1.mono g3.br).mono lr) hy6)) ?_
  rintro _ g7 _ e8 ⟨_, rfl, rfl, rfl⟩
  refine xb 1 [] [0, 2, 4, 8] (xRe (xW (xSq ?_)))
  refine xDr 0 [3, 4] [12, 13, 14] [some ⟨b_c, 77, [vi y2.1.number, vp z2 0, vp d2 0, vp w1 0, vi y2.1.next_, vi y2.1.cycle, vb y2.1.asked, vi y2.1.want.base, vi y2.1.want.have_]⟩, some ⟨d2, 130, [vs v2 y2.1.sender.pieces j2]⟩, some ⟨w1, 132, (cColl y2.1.collector t1 d1 w2 f1)⟩, some ⟨b1, 49, (cFrame f l4 v4)⟩] 15 (fun RG => ?_) (fun _ _ _ _ _ h => h)
  refine xt 9 [0, 1, 2, 3, 4, 5] [(3, 0), (4, 3)] (sm [0, 2, 3, 6]) [0, 8, 27, 28, 29] RG pR ?_
  obtain ⟨y10, i12, hS⟩ := bindO_T hS
  refine wpa_meet (fun g own sl => ∃ (l1 : OA) (v1 : Nat) (j0 : OA) (w0 : Nat) (f0 : OA) (l0 : Nat) (v3 : OA) (t3 : Nat) (b13 : Nat), own = [some ⟨b13, 122, (cHeard y10.2.1 v3 t3)⟩, some ⟨z2, 126, (cNode y10.1 l1 v1 j0 w0 f0 l0)⟩, some ⟨b_c, 77, [vi y2.1.number, vp z2 0, vp d2 0, vp w1 0, vi y2.1.next_, vi y2.1.cycle, vb y2.1.asked, vi y2.1.want.base, vi y2.1.want.have_]⟩, some ⟨d2, 130, [vs v2 y2.1.sender.pieces j2]⟩, some ⟨w1, 132, (cColl y2.1.collector t1 d1 w2 f1)⟩, a2, z3, some ⟨b1, 49, (cFrame f l4 v4)⟩] ∧ sl = [(0, vp b_c 0), (8, vy y6), (9, vp b13 0), (10, vb y10.2.2.1), (33, vi y10.2.2.2)] ∧ Arr g.b tyU8 v3 t3 y10.2.1.input ∧ Arr g.b tyU8 l1 v1 y10.1.input ∧ Arr g.b tyU8 j0 w0 y10.1.heard.input ∧ Arr g.b tyU8 f0 l0 y10.1.set_.in_) 1 [true, true, true, true, true, true, true, true, true, true, true, true, true, true, false] ?_ (fun hD9 => ?_)
  ·rintro j12 _ _ p8 ⟨l1, v1, j0, w0, f0, l0, v3, t3, b13, rfl, rfl, l7, f2, i0, j1⟩
   refine xt 0 [14] [] (sm [2, 3, 4, 7]) [0, 8, 9, 10, 11] RG p8.r (xAe (lds := [3, 4]) (xW (xSq (xSq (xRg (xb 2 [] [0, 8, 9, 10, 11, 35] (xRe (xW ?_))))))))
   refine xCd ((y10.2.2.2 != 0)) (fun t11 => ?_) (fun t11 => ?_)
   ·have hS := cond_T t11 hS
    have l12 : ¬ (y10.2.2.2 = 0) := ne_of_bne_ t11
    refine xSq (xRg (xb 2 [] [6] (xRe (xW ?_))))
    have v0 := v0.mono (e8.trans p8).b
    have p0 := p0.mono (e8.trans p8).b
    have d0 := d0.mono (e8.trans p8).b
    obtain rfl := Option.some.inj hS
    exact xRet (sm [2, 1, 3, 4, 5, 6]) [6] (e4.trans (e8.trans p8)) ⟨l1, v1, j0, w0, f0, l0, v2, j2, t1, d1, a2, w2, f1, z3, by kernel_rfl, by kernel_rfl, f2, i0, j1, v0, p0, d0⟩ (fun _ _ h => h)
   ·have hS := cond_F t11 hS
    have l12 : y10.2.2.2 = 0 := eq_of_bne_false_ t11
    refine xSk (xW (xc [0, 8, 9, 10] (xSq (xRg (xbo 4 [(3, 2)] [some ⟨b13, 122, (cHeard y10.2.1 v3 t3)⟩, some ⟨z2, 126, (cNode y10.1 l1 v1 j0 w0 f0 l0)⟩, some ⟨b_c, 77, [vi y2.1.number, vp z2 0, vp d2 0, vp w1 0, vi 2, vi y2.1.cycle, vb y2.1.asked, vi y2.1.want.base, vi y2.1.want.have_]⟩, some ⟨d2, 130, [vs v2 y2.1.sender.pieces j2]⟩, some ⟨w1, 132, (cColl y2.1.collector t1 d1 w2 f1)⟩, a2, z3, some ⟨b1, 49, (cFrame f l4 v4)⟩] [0, 8, 9, 10] (xRe (xW (xSq (xRg (xb 4 [(3, 2)] [0, 8, 9, 10, 43] ?_))))))))))
    obtain ⟨v6, z13, hS⟩ := letJ_T hS
    refine xE (eC 0 (fun g' lr eb ln => c10 g' ⟨z2, 0, none⟩ y10.1 l1 v1 j0 w0 f0 l0 (cells_lent' 1 z2 0 (cNode y10.1 l1 v1 j0 w0 f0 l0) ln) ((f2.mono j12.br).mono lr) ((i0.mono j12.br).mono lr) ((j1.mono j12.br).mono lr) z13)) ?_
    rintro _ t13 _ t7 ⟨_, rfl, rfl, rfl⟩
    refine xb 1 [] [0, 8, 9, 10, 12] (xRe (xW (xSq (xSq (xRg (xb 3 [] [0, 9, 10, 12, 47] (xRe (xW ?_))))))))
    refine xLetJ hS (fun g own sl t4 => ∃ (z5 : OA) (v5 : Nat) (a3 : OA) (w4 : Nat) (j4 : OA) (d4 : Nat) (d10 : OA) (i10 : Nat) (w5 : OA) (j5 : Nat) (z7 : OB) (z6 : OA) (j6 : Nat) (v7 : OB), own = [some ⟨b_c, 77, [vi t4.1, vp z2 0, vp d2 0, vp w1 0, vi t4.2.1, vi t4.2.2.1, vb t4.2.2.2.1, vi t4.2.2.2.2.1, vi t4.2.2.2.2.2.1]⟩, some ⟨z2, 126, (cNode t4.2.2.2.2.2.2.1 z5 v5 a3 w4 j4 d4)⟩, some ⟨d2, 130, [vs d10 t4.2.2.2.2.2.2.2.1 i10]⟩, some ⟨w1, 132, (cColl t4.2.2.2.2.2.2.2.2 w5 j5 z6 j6)⟩, some ⟨b13, 122, (cHeard y10.2.1 v3 t3)⟩, z7, v7] ∧ sl = [(0, vp b_c 0), (9, vp b13 0), (10, vb y10.2.2.1), (12, vy v6)] ∧ Arr g.b tyU8 z5 v5 t4.2.2.2.2.2.2.1.input ∧ Arr g.b tyU8 a3 w4 t4.2.2.2.2.2.2.1.heard.input ∧ Arr g.b tyU8 j4 d4 t4.2.2.2.2.2.2.1.set_.in_ ∧ Arr g.b tyPiece d10 i10 t4.2.2.2.2.2.2.2.1 ∧ Buf g.b (tyArr tyU8) 28 (.slice w5 (t4.2.2.2.2.2.2.2.2.parts).length j5) z7 t4.2.2.2.2.2.2.2.2.parts ∧ Buf g.b tySett 92 (.slice z6 (t4.2.2.2.2.2.2.2.2.sets).length j6) v7 t4.2.2.2.2.2.2.2.2.sets) ?_ ?_
    ·rintro a13 _ _ t4 j13 ⟨z5, v5, a3, w4, j4, d4, d10, i10, w5, j5, z7, z6, j6, v7, rfl, rfl, p11, t10, j11, p12, d11, a11⟩ hS
     refine xW (xSq ?_)
     refine xDr 0 [9, 13] [19, 17, 18] [some ⟨z2, 126, (cNode t4.2.2.2.2.2.2.1 z5 v5 a3 w4 j4 d4)⟩, some ⟨d2, 130, [vs d10 t4.2.2.2.2.2.2.2.1 i10]⟩, some ⟨w1, 132, (cColl t4.2.2.2.2.2.2.2.2 w5 j5 z6 j6)⟩, some ⟨b13, 122, (cHeard y10.2.1 v3 t3)⟩] 20 (fun RG => ?_) (fun _ _ _ _ _ h => h)
     refine xt 15 [0, 1, 2, 3, 4] [] (sm [1, 2, 3, 4]) [9, 10, 50, 51, 54] RG pR ?_
     refine wpa_grp 13 [true, true, true, true, true, true, true, false, false, false, false, false, false, false, false, false, false, false, false, false] [(9, vp b13 0), (50, vp b_c 0), (51, vp b_c 0), (56, vb ((v6 == 2) && y10.2.2.1))] (fun hk4 => ?_) ?_
     ·refine wpq_split 54 (b := (v6 == 2)) (by kernel_rfl) (fun f11 => ?_) (fun f11 => ?_)
      ·have v12 : v6 = 2 := eq_of_beq f11
       refine xt 13 [5, 6] [] (sm [1, 2, 3, 4]) [9, 50, 51, 56] RG pR (wpq_re 56 (v := vb y10.2.2.1) (Value.bool (((v6 == 2) && y10.2.2.1))) (by kernel_rfl) (re_and1 f11) ?_)
       exact wpq_sub _ (by kernel_rfl) hk4
      ·have v12 : ¬ (v6 = 2) := ne_of_beq_false_ f11
       refine xt 13 [5, 6] [] (sm [1, 2, 3, 4]) [9, 50, 51, 56] RG pR (wpq_re 56 (v := vb false) (Value.bool (((v6 == 2) && y10.2.2.1))) (by kernel_rfl) (re_and0 f11) ?_)
       exact wpq_sub _ (by kernel_rfl) hk4
     ·refine xt 12 [7] [] (sm [1, 2, 3, 4]) [9, 50, 51, 57] RG pR ?_
      refine wpa_grp 8 [true, true, true, true, true, true, true, true, true, true, true, true, false, false, false, false, false, false, false, false] [(9, vp b13 0), (50, vp b_c 0), (51, vp b_c 0), (61, vb (((v6 == 2) && y10.2.2.1) && (y10.2.1.role == 1)))] (fun hk7 => ?_) ?_
      ·refine wpq_split 57 (b := ((v6 == 2) && y10.2.2.1)) (by kernel_rfl) (fun z12 => ?_) (fun z12 => ?_)
       ·have w13 := (and_true_ z12).1
        have p13 : v6 = 2 := eq_of_beq w13
        refine xt 8 [8, 9, 10, 11] [(9, 3)] (sm [1, 2, 3, 4]) [9, 50, 51, 61] RG pR (wpq_re 61 (v := vb (y10.2.1.role == 1)) (Value.bool ((((v6 == 2) && y10.2.2.1) && (y10.2.1.role == 1)))) (by kernel_rfl) (re_and1 z12) ?_)
        exact wpq_sub _ (by kernel_rfl) hk7
       ·refine xt 8 [8, 9, 10, 11] [] (sm [1, 2, 3, 4]) [9, 50, 51, 61] RG pR ?_
        refine wpq_re 61 (v := vb false) (Value.bool ((((v6 == 2) && y10.2.2.1) && (y10.2.1.role == 1)))) (by kernel_rfl) (re_and0 z12) ?_
        exact wpq_sub _ (by kernel_rfl) hk7
      ·refine xt 4 [12, 13, 14, 15] [(13, 3)] (sm [1, 2, 3, 4]) [51, 61, 63, 65] RG pR ?_
       refine xO1 (lds := [9, 13]) 16 (xId (lds := [9, 13]) pR (eStL b_c 6 0) ?_)
       rintro _ _ _ - ⟨rfl, rfl⟩
       refine kk (sm [1, 2, 3, 4]) (xt 1 [17, 18] [] (sm [1, 2, 3, 4]) [63, 67] RG pR (xO1 (lds := [9, 13]) 19 (xId (lds := [9, 13]) pR (eStL b_c 7 0) ?_)))
       rintro _ _ _ - ⟨rfl, rfl⟩
       refine kf (xAe (lds := [9, 13]) (xW (xc [] (xSq (xRg (xb 1 [] [6] (xRe (xW ?_))))))))
       obtain rfl := Option.some.inj hS
       exact xRet (sm [0, 1, 2, 3, 5, 6]) [6] (e4.trans (e8.trans (p8.trans (t7.trans j13)))) ⟨z5, v5, a3, w4, j4, d4, d10, i10, w5, j5, z7, z6, j6, v7, by kernel_rfl, by kernel_rfl, p11, t10, j11, p12, d11, a11⟩ (fun _ _ h => h)
    ·intro uu216 hS hN216
     refine xCd ((v6 != y6)) (fun l11 => ?_) (fun l11 => ?_)
     ·have hS := cond_T l11 hS
      have f12 : ¬ (v6 = y6) := ne_of_bne_ l11
      refine xRg (xb 1 [] [0, 9, 10, 12, 48] (xSel (sm [2, 1, 3, 4, 5, 6, 0, 7]) ?_))
      have f2 := f2.mono t7.b
      have i0 := i0.mono t7.b
      have j1 := j1.mono t7.b
      have v0 := v0.mono (e8.trans (p8.trans t7)).b
      have p0 := p0.mono (e8.trans (p8.trans t7)).b
      have d0 := d0.mono (e8.trans (p8.trans t7)).b
      obtain ⟨l13, a12, hS⟩ := letJ_T hS
      refine xE (eC 6 (fun g' lr eb ln => c52 g' b_c (⟨y2.1.number, y10.1, y2.1.sender, y2.1.collector, (2 : Int), y2.1.cycle, (y2.1.asked), y2.1.want⟩ : Comp) z2 l1 v1 j0 w0 f0 l0 d2 v2 j2 w1 t1 d1 a2 w2 f1 z3 (by rw [eb]; exact f2) (by rw [eb]; exact i0) (by rw [eb]; exact j1) (by rw [eb]; exact v0) (by rw [eb]; exact p0) (by rw [eb]; exact d0) a12)) ?_
      rintro _ v13 _ i13 ⟨_, rfl, a10, f10, t8, v8, l9, f9, a9, w10, j9, a8, w9, p9, t9, i9, rfl, rfl, l10, d8, v9, z10, z9, d9⟩
      refine xRe (xSel (sm [0, 1, 2, 3, 6, 4, 5]) (xc [0, 9, 10, 12] ?_))
      have eS := hS.symm
      exact hN216 _ eS _ _ _ i13 ⟨a10, f10, t8, v8, l9, f9, a9, w10, j9, a8, w9, p9, t9, i9, by kernel_rfl, by kernel_rfl, l10, d8, v9, z10, z9, d9⟩
     ·have hS := cond_F l11 hS
      have f12 : v6 = y6 := eq_of_bne_false_ l11
      refine xSk ?_
      have f2 := f2.mono t7.b
      have i0 := i0.mono t7.b
      have j1 := j1.mono t7.b
      have v0 := v0.mono (e8.trans (p8.trans t7)).b
      have p0 := p0.mono (e8.trans (p8.trans t7)).b
      have d0 := d0.mono (e8.trans (p8.trans t7)).b
      refine xSel (sm [2, 1, 3, 4, 0, 5, 6]) (xc [0, 9, 10, 12] ?_)
      have eS := hS.symm
      exact hN216 _ eS _ _ _ gR ⟨l1, v1, j0, w0, f0, l0, v2, j2, t1, d1, a2, w2, f1, z3, by kernel_rfl, by kernel_rfl, f2, i0, j1, v0, p0, d0⟩
  ·refine xO2 (lds := [3, 4]) 6 11 ?_ ?_
   ·refine xSel (sm [1, 0, 2, 3, 4, 5, 6]) ?_
    have w3 := w3.mono e8.b
    have z1 := z1.mono e8.b
    have i1 := i1.mono e8.b
    have l5 := l5.mono (e4.trans e8).r
    refine xIe (lds := [3, 4]) pR (eC 1 (fun g' lr eb ln => c51 g' z2 y2.1.node i4 z4 j3 d3 f3 l3 f l4 v4 (came) (by rw [eb]; exact w3) (by rw [eb]; exact z1) (by rw [eb]; exact i1) (l5.mono lr) i12)) ?_
    rintro _ f13 _ v11 ⟨_, rfl, l1, v1, j0, w0, f0, l0, v3, t3, rfl, rfl, f2, i0, j1, l7⟩
    refine kk (sm [1, 2, 3, 6]) (xt 4 [7, 8, 9, 10] [] (sm [1, 2, 3, 6]) [0, 8, 31, 32, 33] RG v11.r (xO1 (lds := [3, 4]) 11 (xIe (lds := [3, 4]) v11.r eB ?_)))
    rintro _ _ _ - ⟨d12, rfl, rfl, rfl⟩
    refine kk (sm [2, 3, 4, 7]) (xO1 (lds := [3, 4]) 12 (xId (lds := [3, 4]) v11.r (eStL d12 0 0) ?_))
    rintro _ _ _ - ⟨rfl, rfl⟩
    refine kf (xt 1 [13] [] (sm [2, 3, 4, 7]) [0, 8, 9, 10, 33] RG v11.r (xc [0, 8, 9, 10, 33] ?_))
    exact hD9 _ _ _ v11 ⟨l1, v1, j0, w0, f0, l0, v3, t3, d12, by kernel_rfl, by kernel_rfl, l7, f2, i0, j1⟩
   ·refine xIe (lds := [3, 4]) pR eB ?_
    rintro _ _ _ - ⟨t12, rfl, rfl, rfl⟩
    refine kk (sm [1, 3, 4, 7]) (xSel (sm [2, 0, 1, 3, 4, 5, 6, 7]) ?_)
    have w3 := w3.mono e8.b
    have z1 := z1.mono e8.b
    have i1 := i1.mono e8.b
    have l5 := l5.mono (e4.trans e8).r
    refine xO1 (lds := [3, 4]) 6 (xIe (lds := [3, 4]) pR (eC 1 (fun g' lr eb ln => c51 g' z2 y2.1.node i4 z4 j3 d3 f3 l3 f l4 v4 (came) (by rw [eb]; exact w3) (by rw [eb]; exact z1) (by rw [eb]; exact i1) (l5.mono lr) i12)) ?_)
    rintro _ d13 _ w12 ⟨_, rfl, l1, v1, j0, w0, f0, l0, v3, t3, rfl, rfl, f2, i0, j1, l7⟩
    refine kk (sm [2, 3, 4, 7]) (xt 3 [7, 8, 9, 10] [] (sm [2, 3, 4, 7]) [0, 8, 9, 31, 32, 33] RG w12.r (xO1 (lds := [3, 4]) 12 (xId (lds := [3, 4]) w12.r (eStL t12 0 1) ?_)))
    rintro _ _ _ - ⟨rfl, rfl⟩
    refine kf (xt 1 [13] [] (sm [2, 3, 4, 7]) [0, 8, 9, 10, 33] RG w12.r (xSel (sm [1, 0, 2, 3, 4, 5, 6, 7]) (xc [0, 8, 9, 10, 33] ?_)))
    exact hD9 _ _ _ w12 ⟨l1, v1, j0, w0, f0, l0, v3, t3, t12, by kernel_rfl, by kernel_rfl, l7, f2, i0, j1⟩

def o60 (n : RNode) (f : Frame) (came : Bool) (label : Int) : Bool :=
 (((((came && (f.label == label)) && (f.from_ == (IntKind.u8.wrap (IntKind.i64.wrap (3 - n.number))))) && (f.cycle == n.cycle))))
theorem c60 (g : Gh) (n : RNode) (v0 : OA) (d0 : Nat) (w0 : OA) (j0 : Nat) (f : Frame) (p0 : OA) (i0 : Nat) (came : Bool) (label : Int) (j1 : Arr g.r tyU8 v0 d0 n.input) (l0 : Arr g.r tyU8 w0 j0 n.heard.input) (w1 : Arr g.r tyU8 p0 i0 f.payload) {r : Bool} (hS : o60 n f came label = r) :
  Ctr Tryz.prog 60 [(aRNode n v0 d0 w0 j0), (aFrame f p0 i0), vb came, vy label] g [] (fun v ψ o => v = vb r ∧ o = []) := by
 unfold o60 at hS
 refine xFn Tryz.f60 (Tryz.f60.body.getD .skip) 32 (xSq (xRg (xE eB ?_)))
 rintro _ _ _ - ⟨b1, rfl, rfl, rfl⟩
 refine xE eB ?_
 rintro _ _ _ - ⟨b2, rfl, rfl, rfl⟩
 refine xb 1 [] [2, 3, 4, 5] (xRe (xW (xSq (xRg (xb 2 [] [3, 4, 5, 10] ?_)))))
 refine wpr_grp 7 [(4, vp b1 0), (5, vp b2 0), (15, vb (came && (f.label == label)))] (fun hk1 => ?_) ?_
 ·refine wpq_split 10 (b := came) (by kernel_rfl) (fun q3 => ?_) (fun q3 => ?_)
  ·refine xb 5 [(3, 0)] [4, 5, 15] ?_
   refine wpq_re 15 (v := vb (f.label == label)) (Value.bool ((came && (f.label == label)))) (by kernel_rfl) (re_and1 q3) ?_
   exact wpq_sub _ (by kernel_rfl) hk1
  ·refine xb 5 [] [4, 5, 15] ?_
   refine wpq_re 15 (v := vb false) (Value.bool ((came && (f.label == label)))) (by kernel_rfl) (re_and0 q3) ?_
   exact wpq_sub _ (by kernel_rfl) hk1
 ·refine xb 1 [] [4, 5, 16] ?_
  refine wpr_grp 16 [(4, vp b1 0), (5, vp b2 0), (24, vb ((came && (f.label == label)) && (f.from_ == (IntKind.u8.wrap (IntKind.i64.wrap (3 - n.number))))))] (fun hk7 => ?_) ?_
  ·refine wpq_split 16 (b := (came && (f.label == label))) (by kernel_rfl) (fun q4 => ?_) (fun q4 => ?_)
   ·have q4l := (and_true_ q4).1
    have q4r := (and_true_ q4).2
    have d1 : f.label = label := eq_of_beq q4r
    refine xb 8 [(9, 0), (11, 1)] [4, 5, 24] (wpq_re 24 (v := vb (f.from_ == (IntKind.u8.wrap (IntKind.i64.wrap (3 - n.number))))) (Value.bool (((came && (f.label == label)) && (f.from_ == (IntKind.u8.wrap (IntKind.i64.wrap (3 - n.number))))))) (by kernel_rfl) (re_and1 q4) ?_)
    exact wpq_sub _ (by kernel_rfl) hk7
   ·refine xb 8 [] [4, 5, 24] ?_
    refine wpq_re 24 (v := vb false) (Value.bool (((came && (f.label == label)) && (f.from_ == (IntKind.u8.wrap (IntKind.i64.wrap (3 - n.number))))))) (by kernel_rfl) (re_and0 q4) ?_
    exact wpq_sub _ (by kernel_rfl) hk7
  ·refine xb 1 [] [4, 5, 25] ?_
   refine wpr_grp 23 [(31, vb (((came && (f.label == label)) && (f.from_ == (IntKind.u8.wrap (IntKind.i64.wrap (3 - n.number))))) && (f.cycle == n.cycle)))] (fun f0 => ?_) ?_
   ·refine wpq_split 25 (b := ((came && (f.label == label)) && (f.from_ == (IntKind.u8.wrap (IntKind.i64.wrap (3 - n.number)))))) (by kernel_rfl) (fun q5 => ?_) (fun q5 => ?_)
    ·have q5l := (and_true_ q5).1
     have q5r := (and_true_ q5).2
     have z1 := (and_true_ q5l).2
     have i1 : f.label = label := eq_of_beq z1
     have t1 : f.from_ = (IntKind.u8.wrap (IntKind.i64.wrap (3 - n.number))) := eq_of_beq q5r
     refine xb 6 [(18, 0), (20, 1)] [31] (wpq_re 31 (v := vb (f.cycle == n.cycle)) (Value.bool ((((came && (f.label == label)) && (f.from_ == (IntKind.u8.wrap (IntKind.i64.wrap (3 - n.number))))) && (f.cycle == n.cycle)))) (by kernel_rfl) (re_and1 q5) ?_)
     exact wpq_sub _ (by kernel_rfl) f0
    ·refine xb 6 [] [31] ?_
     refine wpq_re 31 (v := vb false) (Value.bool ((((came && (f.label == label)) && (f.from_ == (IntKind.u8.wrap (IntKind.i64.wrap (3 - n.number))))) && (f.cycle == n.cycle)))) (by kernel_rfl) (re_and0 q5) ?_
     exact wpq_sub _ (by kernel_rfl) f0
   ·refine xb 1 [] [8] ?_
    refine xRe (xW ?_)
    have eS := hS.symm
    subst eS
    exact xRet [] [8] gR ⟨by kernel_rfl, by kernel_rfl⟩ (fun _ _ h => h)

def o99_L0 (p : List UInt8) (s6 : Int × Nat) : Option (Ctl (Int × Nat) (Int)) :=
 (cond (decide ((s6.2 : Int) < (((p).length : Nat) : Int))) (grd (decide (0 ≤ (IntKind.i64.wrap (8 * (s6.2 : Int))))) (grd (decide ((s6.2 : Int) + 1 ≤ 9223372036854775807)) (some (Ctl.go ((lorK .u64 s6.1 (shlK .u64 ((List.getD p s6.2 0).toNat : Int) (IntKind.i64.wrap (8 * (s6.2 : Int))))), (s6.2 + 1)))))) (some (Ctl.done (s6.1))))
def o99 (p : List UInt8) : Option (Int) :=
 (bindO (τ := Int) (loopO (σ := Int × Nat) (ρ := Int) fuelN (o99_L0 p) (0, 0)) fun t1 => (some (((IntKind.i64.wrap t1) : Int))))
theorem c99 (g : Gh) (p : List UInt8) (Ap : OA) (cp : Nat) (fp : Arr g.r tyU8 Ap cp p) {r : Int} (hS : o99 p = some r) :
  Ctr Tryz.prog 99 [vs Ap p cp] g [] (fun v ψ o => v = vi r ∧ o = []) := by
 unfold o99 at hS
 refine xFn Tryz.f99 (Tryz.f99.body.getD .skip) 23 ?_
 have nfp := fp.len
 refine xSq (xRg (xb 1 [] [0] (xRe (xW (xSq (xRg (xb 1 [] [0, 3] (xRe (xW (xSq (xSq (xRg (xb 3 [] [3, 6, 7, 8] (xRe (xW ?_)))))))))))))))
 refine xBindO hS (fun g own sl t1 => own = [] ∧ sl = [(3, Value.int .u64 t1)]) ?_ ?_
 ·rintro g2 _ _ t1 e3 ⟨rfl, rfl⟩ hS
  refine xW (xSq (xRg ?_))
  have z7 := i64_in_ t1
  refine xb 3 [] [2] (xRe (xW ?_))
  obtain rfl := Option.some.inj hS
  exact xRet [] [2] e3 ⟨by kernel_rfl, by kernel_rfl⟩ (fun _ _ h => h)
 ·intro uu1 hS hN1
  refine xBl 0 (xc [3, 6, 7, 8] (xLo hS (fun g own sl s6 => own = [] ∧ sl = [(3, Value.int .u64 s6.1), (6, vs Ap p cp), (7, vi (((p).length : Nat) : Int)), (8, vi (s6.2 : Int))]) ⟨by kernel_rfl, by kernel_rfl⟩ ?_))
  rintro g7 _ _ s6 uu6 e8 ⟨rfl, rfl⟩ hS Qr6 hN6 hD6
  unfold o99_L0 at hS
  refine xSq (xRg (xb 1 [] [3, 6, 7, 8, 9] (xRe (xW (xSq ?_)))))
  refine xCd (decide ((s6.2 : Int) < (((p).length : Nat) : Int))) (fun h9 => ?_) (fun h9 => ?_)
  ·have hS := cond_T h9 hS
   have h9p := of_decide_eq_true h9
   refine xSk (xW (xc [3, 6, 7, 8] (xSq (xBl 1 (xSq (xRg ?_))))))
   have fp := fp.mono e8.r
   have i11 : s6.2 < (p).length := by omega
   obtain ⟨j0, d0, p0, w0, i0⟩ := fp.at_ (get_getD (d := 0) i11)
   have w0 : d0 = [vy ((List.getD p s6.2 0).toNat : Int)] := w0
   subst w0
   have l0 := UInt8.toNat_lt (List.getD p s6.2 0)
   refine xb 1 [] [3, 6, 7, 8, 10] (xV (qIx s6.2 1 p0 rfl i11) (xV (qLdP (Addr.add j0 (s6.2 * 1)) 0 i0) (xb 2 [] [3, 4, 5, 6, 7, 8] (xRe (xW (xRg (xb 2 [] [3, 4, 6, 7, 8, 13, 14] (xV (qConv .u8 .u64 (((List.getD p s6.2 0).toNat : Int)) (((List.getD p s6.2 0).toNat : Int)) (wr_u64 (by omega))) ?_))))))))
   have z13 := i64_in_ (8 * (s6.2 : Int))
   obtain ⟨q12, hS⟩ := grd_T hS
   have f0 := of_decide_eq_true q12
   refine xb 2 [] [3, 6, 7, 8, 13, 15, 17] (xV (qShl .u64 .i64 (((List.getD p s6.2 0).toNat : Int)) ((IntKind.i64.wrap (8 * (s6.2 : Int)))) (by omega)) (xb 2 [] [3, 6, 7, 8] (xRe (wpq_blockN (xW (xRg ?_))))))
   obtain ⟨q13, hS⟩ := grd_T hS
   have v0 := of_decide_eq_true q13
   refine xV (qAdd .i64 ((s6.2 : Int)) (1) (wr64 (by omega))) (xb 1 [] [3, 6, 7, 8] (xRe (wpq_thenN (xc [3, 6, 7, 8] ?_))))
   have eS := (Option.some.inj hS).symm
   exact hN6 _ eS _ _ _ gR ⟨by kernel_rfl, by kernel_rfl⟩
  ·have hS := cond_F h9 hS
   have h9p := of_decide_eq_false h9
   refine xEx 0 (wpq_thenX (wpq_thenX (wpq_blockE (xc [3] ?_))))
   have eS := (Option.some.inj hS).symm
   have eS := (hD6 _ eS).symm
   exact hN1 _ eS _ _ _ e8 ⟨by kernel_rfl, by kernel_rfl⟩

def o91 (p : List UInt8) : Option (Heard × Int) :=
 (bindO (τ := Bool) (cond ((((decide ((((p).length : Nat) : Int) < 19) || decide ((((p).length : Nat) : Int) > 419)) || decide (((List.getD p 0 0).toNat : Int) < 1)) || decide (((List.getD p 0 0).toNat : Int) > 3))) (some (true)) (bindO (o99 ((List.take (9 - 1) (List.drop 1 p)) : List UInt8)) fun y470 => (some (decide (y470 < 0))))) fun t9 => (bindO (τ := Bool) (cond (t9) (some (true)) (grd (decide (17 ≤ (((p).length : Nat) : Int))) (bindO (o99 ((List.take (17 - 9) (List.drop 9 p)) : List UInt8)) fun y465 => (some (decide (y465 < 0)))))) fun t12 => (cond (t12) (some (((⟨0, 0, (⟨0, 0⟩ : Want), ([] : List UInt8)⟩ : Heard), (4 : Int)))) (grd (decide (17 ≤ (((p).length : Nat) : Int))) (grd (decide (19 ≤ (((p).length : Nat) : Int))) (bindO (o99 ((List.take (17 - 9) (List.drop 9 p)) : List UInt8)) fun y21 => (bindO (o99 ((List.take (19 - 17) (List.drop 17 p)) : List UInt8)) fun y24 => (grd (decide (0 < (p).length)) (grd (decide (9 ≤ (((p).length : Nat) : Int))) (grd (decide (19 ≤ (((p).length : Nat) : Int))) (bindO (o99 ((List.take (9 - 1) (List.drop 1 p)) : List UInt8)) fun y230 => (some (((⟨((List.getD p 0 0).toNat : Int), y230, (⟨y21, y24⟩ : Want), (List.drop 19 p)⟩ : Heard), (0 : Int)))))))))))))))
theorem c91 (g : Gh) (p : List UInt8) (Ap : OA) (cp : Nat) (fp : Arr g.r tyU8 Ap cp p) {r : Heard × Int} (hS : o91 p = some r) :
  Ctr Tryz.prog 91 [vs Ap p cp] g [] (fun v ψ o => ∃ (j0 : OA) (i0 : Nat), v = Value.tuple #[(aHeard r.1 j0 i0), vi r.2] ∧ o = [] ∧ Arr ψ tyU8 j0 i0 r.1.input) := by
 unfold o91 at hS
 refine xFn Tryz.f91 (Tryz.f91.body.getD .skip) 57 ?_
 have nfp := fp.len
 refine xSq (xRg (xE eB ?_))
 rintro _ _ _ - ⟨b1, rfl, rfl, rfl⟩
 refine xb 1 [] [0, 2] (xRe (xW (xSq (xSq (xRg (xb 4 [] [0, 2, 8] ?_))))))
 refine wpr_grp 8 [(0, vs Ap p cp), (2, vp b1 0), (12, vb (decide ((((p).length : Nat) : Int) < 19) || decide ((((p).length : Nat) : Int) > 419)))] (fun hk3 => ?_) ?_
 ·refine wpq_split 8 (b := decide ((((p).length : Nat) : Int) < 19)) (by kernel_rfl) (fun q2 => ?_) (fun q2 => ?_)
  ·have q2p := of_decide_eq_true q2
   refine xb 4 [] [0, 2, 12] (wpq_re 12 (v := vb true) (Value.bool ((decide ((((p).length : Nat) : Int) < 19) || decide ((((p).length : Nat) : Int) > 419)))) (by kernel_rfl) (re_or1 q2) ?_)
   exact wpq_sub _ (by kernel_rfl) hk3
  ·have q2p := of_decide_eq_false q2
   refine xb 4 [] [0, 2, 12] (wpq_re 12 (v := vb (decide ((((p).length : Nat) : Int) > 419))) (Value.bool ((decide ((((p).length : Nat) : Int) < 19) || decide ((((p).length : Nat) : Int) > 419)))) (by kernel_rfl) (re_or0 q2) ?_)
   exact wpq_sub _ (by kernel_rfl) hk3
 ·refine xb 1 [] [0, 2, 13] ?_
  refine wpr_grp 14 [(0, vs Ap p cp), (2, vp b1 0), (18, vb ((decide ((((p).length : Nat) : Int) < 19) || decide ((((p).length : Nat) : Int) > 419)) || decide (((List.getD p 0 0).toNat : Int) < 1)))] (fun hk8 => ?_) ?_
  ·refine wpq_split 13 (b := (decide ((((p).length : Nat) : Int) < 19) || decide ((((p).length : Nat) : Int) > 419))) (by kernel_rfl) (fun q3 => ?_) (fun q3 => ?_)
   ·refine xb 5 [] [0, 2, 18] ?_
    refine wpq_re 18 (v := vb true) (Value.bool (((decide ((((p).length : Nat) : Int) < 19) || decide ((((p).length : Nat) : Int) > 419)) || decide (((List.getD p 0 0).toNat : Int) < 1)))) (by kernel_rfl) (re_or1 q3) ?_
    exact wpq_sub _ (by kernel_rfl) hk8
   ·have q3l := (or_false_ q3).1
    have q3r := (or_false_ q3).2
    have f12 := of_decide_eq_false q3l
    have v11 := of_decide_eq_false q3r
    have i5 : 0 < (p).length := by omega
    obtain ⟨ad4, cs4, hA4, hr4, hc4⟩ := fp.at_ (get_getD (d := 0) i5)
    have hr4 : cs4 = [vy ((List.getD p 0 0).toNat : Int)] := hr4
    subst hr4
    have nb4 := UInt8.toNat_lt (List.getD p 0 0)
    refine xb 1 [] [0, 2, 13, 14] (xV (qIx 0 1 hA4 rfl i5) (xV (qLdP (Addr.add ad4 (0 * 1)) 0 hc4) (xb 2 [] [0, 2, 18] (wpq_re 18 (v := vb (decide (((List.getD p 0 0).toNat : Int) < 1))) (Value.bool (((decide ((((p).length : Nat) : Int) < 19) || decide ((((p).length : Nat) : Int) > 419)) || decide (((List.getD p 0 0).toNat : Int) < 1)))) (by kernel_rfl) (re_or0 q3) ?_))))
    exact wpq_sub _ (by kernel_rfl) hk8
  ·refine xb 1 [] [0, 2, 19] ?_
   refine wpr_grp 20 [(0, vs Ap p cp), (2, vp b1 0), (24, vb (((decide ((((p).length : Nat) : Int) < 19) || decide ((((p).length : Nat) : Int) > 419)) || decide (((List.getD p 0 0).toNat : Int) < 1)) || decide (((List.getD p 0 0).toNat : Int) > 3)))] (fun v4 => ?_) ?_
   ·refine wpq_split 19 (b := ((decide ((((p).length : Nat) : Int) < 19) || decide ((((p).length : Nat) : Int) > 419)) || decide (((List.getD p 0 0).toNat : Int) < 1))) (by kernel_rfl) (fun q6 => ?_) (fun q6 => ?_)
    ·refine xb 5 [] [0, 2, 24] ?_
     refine wpq_re 24 (v := vb true) (Value.bool ((((decide ((((p).length : Nat) : Int) < 19) || decide ((((p).length : Nat) : Int) > 419)) || decide (((List.getD p 0 0).toNat : Int) < 1)) || decide (((List.getD p 0 0).toNat : Int) > 3)))) (by kernel_rfl) (re_or1 q6) ?_
     exact wpq_sub _ (by kernel_rfl) v4
    ·have q6l := (or_false_ q6).1
     have q6r := (or_false_ q6).2
     have f8 := (or_false_ q6l).1
     have d6 := (or_false_ q6l).2
     have w10 := of_decide_eq_false f8
     have p10 := of_decide_eq_false d6
     have l12 := of_decide_eq_false q6r
     have i8 : 0 < (p).length := by omega
     obtain ⟨ad7, cs7, hA7, hr7, hc7⟩ := fp.at_ (get_getD (d := 0) i8)
     have hr7 : cs7 = [vy ((List.getD p 0 0).toNat : Int)] := hr7
     subst hr7
     have nb7 := UInt8.toNat_lt (List.getD p 0 0)
     refine xb 1 [] [0, 2, 19, 20] (xV (qIx 0 1 hA7 rfl i8) (xV (qLdP (Addr.add ad7 (0 * 1)) 0 hc7) (xb 2 [] [0, 2, 24] (wpq_re 24 (v := vb (decide (((List.getD p 0 0).toNat : Int) > 3))) (Value.bool ((((decide ((((p).length : Nat) : Int) < 19) || decide ((((p).length : Nat) : Int) > 419)) || decide (((List.getD p 0 0).toNat : Int) < 1)) || decide (((List.getD p 0 0).toNat : Int) > 3)))) (by kernel_rfl) (re_or0 q6) ?_))))
     exact wpq_sub _ (by kernel_rfl) v4
   ·refine xb 1 [] [0, 2, 25] ?_
    refine xGJo hS 26 (fun g own sl t9 => own = [some ⟨b1, 32, (cHeard (⟨0, 0, (⟨0, 0⟩ : Want), ([] : List UInt8)⟩ : Heard) none 0)⟩] ∧ sl = [(0, vs Ap p cp), (2, vp b1 0), (30, vb t9)]) ?_ ?_
    ·rintro g10 _ _ t9 e11 ⟨rfl, rfl⟩ hS
     refine xb 1 [] [0, 2, 31] ?_
     refine xGJo hS 32 (fun g own sl t12 => own = [some ⟨b1, 32, (cHeard (⟨0, 0, (⟨0, 0⟩ : Want), ([] : List UInt8)⟩ : Heard) none 0)⟩] ∧ sl = [(0, vs Ap p cp), (2, vp b1 0), (36, vb t12)]) ?_ ?_
     ·rintro g13 _ _ t12 e14 ⟨rfl, rfl⟩ hS
      refine xRe (xW ?_)
      refine xCd (t12) (fun h15 => ?_) (fun h15 => ?_)
      ·have hS := cond_T h15 hS
       refine xSq (xRg (xbo 3 [(1, 0)] [some ⟨b1, 32, (cHeard (⟨0, 0, (⟨0, 0⟩ : Want), ([] : List UInt8)⟩ : Heard) none 0)⟩] [2, 3] (xRe (xW ?_))))
       obtain rfl := Option.some.inj hS
       exact xRetC [] [(2, 0)] (e11.trans e14) ⟨none, 0, by kernel_rfl, by kernel_rfl, Arr.nil⟩ (fun _ _ h => h)
      ·have hS := cond_F h15 hS
       refine xSk (xW (xc [0, 2] (xSq ?_)))
       refine xDr 0 [] [8, 0, 1, 3, 4, 6] [some ⟨b1, 32, (cHeard (⟨0, 0, (⟨0, 0⟩ : Want), ([] : List UInt8)⟩ : Heard) none 0)⟩] 9 (fun RG => ?_) (fun _ _ _ _ _ h => h)
       have fp := fp.mono (e11.trans e14).r
       obtain ⟨q16, hS⟩ := grd_T hS
       have i11 := of_decide_eq_true q16
       have z9 := fp.cap
       have f17 : Arr g13.r tyU8 (offA Ap cp 9 1) (cp - 9) (List.take (17 - 9) (List.drop 9 p)) := fp.cut 9 17 (by omega) (by omega)
       have j11 := f17.len
       have z6 : 17 - 9 = ((List.take (17 - 9) (List.drop 9 p))).length := by simp only [List.length_take, List.length_drop] <;> omega
       have a10 : ((((List.take (17 - 9) (List.drop 9 p))).length : Nat) : Int) = 17 - 9 := by omega
       refine xt 8 [0] [] [some 0] [0, 2, 38] RG pR (xTp 1 RG (fun _ => (qSl (m := 1) (A := Ap) (len := (p).length) (c := cp) 9 17 (some 9) (some 17) ((List.take (17 - 9) (List.drop 9 p))).length rfl rfl (by omega) (by omega) z6)) ?_)
       obtain ⟨q18, hS⟩ := grd_T hS
       have t11 := of_decide_eq_true q18
       have j9 := fp.cap
       have f19 : Arr g13.r tyU8 (offA Ap cp 17 1) (cp - 17) (List.take (19 - 17) (List.drop 17 p)) := fp.cut 17 19 (by omega) (by omega)
       have p11 := f19.len
       have a5 : 19 - 17 = ((List.take (19 - 17) (List.drop 17 p))).length := by simp only [List.length_take, List.length_drop] <;> omega
       have z10 : ((((List.take (19 - 17) (List.drop 17 p))).length : Nat) : Int) = 19 - 17 := by omega
       refine xt 6 [3] [] [some 0] [0, 2, 39, 41] RG pR (xTp 4 RG (fun _ => (qSl (m := 1) (A := Ap) (len := (p).length) (c := cp) 17 19 (some 17) (some 19) ((List.take (19 - 17) (List.drop 17 p))).length rfl rfl (by omega) (by omega) a5)) ?_)
       obtain ⟨y21, w5, hS⟩ := bindO_T hS
       obtain ⟨y24, i1, hS⟩ := bindO_T hS
       refine wpa_meet (fun g own sl => ∃ (b27 : Nat), own = [some ⟨b27, 30, [vi 0, vi 0]⟩, some ⟨b1, 32, (cHeard (⟨0, 0, (⟨0, 0⟩ : Want), ([] : List UInt8)⟩ : Heard) none 0)⟩] ∧ sl = [(0, vs Ap p cp), (2, vp b1 0), (4, vp b27 0), (44, Value.agg #[vi y21, vi y24])]) 1 [true, true, true, true, true, true, true, true, false] ?_ (fun v1 => ?_)
       ·rintro t1 _ _ w2 ⟨b27, rfl, rfl⟩
        refine xO1 (lds := []) 8 (xId (lds := []) w2.r (eStL b27 0 0) ?_)
        rintro _ _ _ - ⟨rfl, rfl⟩
        refine kf (xAe (lds := []) (xW (xc [0, 2, 4] (xSq ?_))))
        refine xDr 0 [2, 6] [12, 11, 13] [some ⟨b27, 30, [vi y21, vi y24]⟩] 14 (fun RG => ?_) (fun _ _ _ _ _ h => h)
        have fp := fp.mono w2.r
        obtain ⟨a8, hS⟩ := grd_T hS
        have v2 := of_decide_eq_true a8
        obtain ⟨t5, j6, l5, f0, j5⟩ := fp.at_ (get_getD (d := 0) v2)
        have f0 : j6 = [vy ((List.getD p 0 0).toNat : Int)] := f0
        subst f0
        have f9 := UInt8.toNat_lt (List.getD p 0 0)
        refine xt 13 [0] [] [some 0] [0, 2, 4, 45] RG pR (xTp 1 RG (fun _ => (qIx 0 1 l5 rfl v2)) (xTv 2 [some 0] RG pR (qLdP (Addr.add t5 (0 * 1)) 0 j5) ?_))
        obtain ⟨d8, hS⟩ := grd_T hS
        have v10 := of_decide_eq_true d8
        have l8 := fp.cap
        have z2 : Arr t1.r tyU8 (offA Ap cp 1 1) (cp - 1) (List.take (9 - 1) (List.drop 1 p)) := fp.cut 1 9 (by omega) (by omega)
        have z11 := z2.len
        have z4 : 9 - 1 = ((List.take (9 - 1) (List.drop 1 p))).length := by simp only [List.length_take, List.length_drop] <;> omega
        have v9 : ((((List.take (9 - 1) (List.drop 1 p))).length : Nat) : Int) = 9 - 1 := by omega
        refine xt 10 [3] [] [some 0] [0, 2, 4, 47, 48] RG pR (xTp 4 RG (fun _ => (qSl (m := 1) (A := Ap) (len := (p).length) (c := cp) 1 9 (some 1) (some 9) ((List.take (9 - 1) (List.drop 1 p))).length rfl rfl (by omega) (by omega) z4)) ?_)
        obtain ⟨i7, hS⟩ := grd_T hS
        have f10 := of_decide_eq_true i7
        have p6 := fp.cap
        have v0 : Arr t1.r tyU8 (offA Ap cp 19 1) (cp - 19) (List.drop 19 p) := fp.cut_from 19 (by omega)
        have j10 := v0.len
        have l4 : (p).length - 19 = ((List.drop 19 p)).length := by simp only [List.length_take, List.length_drop] <;> omega
        have d9 : ((((List.drop 19 p)).length : Nat) : Int) = (((p).length : Nat) : Int) - 19 := by omega
        refine xt 7 [6, 8] [(6, 0)] [some 0] [2, 47, 49, 51, 53] RG pR (xTp 9 RG (fun _ => (qSl (m := 1) (A := Ap) (len := (p).length) (c := cp) 19 (p).length (some 19) none ((List.drop 19 p)).length rfl rfl (by omega) (by omega) l4)) ?_)
        obtain ⟨w7, a2, hS⟩ := bindO_T hS
        refine wpa_meet (fun g own sl => ∃ (d2 : OA) (l1 : Nat) (j2 : OB), own = [j2, some ⟨b27, 30, [vi y21, vi y24]⟩, some ⟨b1, 32, (cHeard (⟨0, 0, (⟨0, 0⟩ : Want), ([] : List UInt8)⟩ : Heard) none 0)⟩] ∧ sl = [(2, vp b1 0), (47, vy ((List.getD p 0 0).toNat : Int)), (50, vi w7), (51, Value.agg #[vi y21, vi y24]), (52, vs d2 ([] : List UInt8) l1), (54, vs (offA Ap cp 19 1) (List.drop 19 p) (cp - 19))] ∧ Buf g.b tyU8 5 (.slice d2 (([] : List UInt8)).length l1) j2 ([] : List UInt8)) 4 [true, true, true, true, true, true, true, true, true, true, false, false, false, false] ?_ (fun f2 => ?_)
        ·rintro f3 _ _ p0 ⟨d2, l1, j2, rfl, rfl, w4⟩
         have t10 := w4.len
         have v0 := v0.mono p0.r
         obtain ⟨w11, f5, v5⟩ := v0.srcR
         refine xO1 (lds := [2, 6]) 10 (xIe (lds := [2, 6]) p0.r (eApp (T := tyU8) (p := f3.b) (et := 5) (bytes := 1) (xs := ([] : List UInt8)) (ys := ((List.drop 19 p) : List UInt8)) 0 w4 rfl (fun w hs => v5 w _ hs) (flatU8.reps f5) (by first | omega | (simp only [List.length_cons, List.length_nil] at *; omega)) (by first | omega | (simp only [List.length_cons, List.length_nil] at *; omega))) ?_)
         rintro _ _ _ - ⟨a3, d3, a7, rfl, rfl, rfl, l0⟩
         refine kk [some 1] ?_
         have l0 : Buf f3.b tyU8 5 (.slice a3 (((List.drop 19 p) : List UInt8)).length d3) a7 ((List.drop 19 p) : List UInt8) := l0
         have d10 := l0.len
         refine xt 2 [11] [] [some 1] [2, 56] RG p0.r (xO1 (lds := [2, 6]) 12 (xId (lds := [2, 6]) p0.r (eStL b1 0 2) ?_))
         rintro _ _ _ - ⟨rfl, rfl⟩
         refine kf (xt 0 [13] [] [some 1] [2, 3] RG p0.r (xAe (lds := [2, 6]) (xW ?_)))
         refine wpq_freeze 0 (by kernel_rfl) l0 (fun j12 i6 p7 => ?_)
         obtain rfl := Option.some.inj hS
         exact xRetC [] [(2, 2)] (e11.trans (e14.trans (w2.trans (p0.trans i6)))) ⟨a3, d3, by kernel_rfl, by kernel_rfl, p7⟩ (fun _ _ h => h)
        ·refine xO2 (lds := [2, 6]) 5 7 ?_ ?_
         ·refine xIe (lds := [2, 6]) pR (eC 0 (fun g' lr eb ln => c99 g' ((List.take (9 - 1) (List.drop 1 p)) : List UInt8) (offA Ap cp 1 1) (cp - 1) (z2.mono lr) a2)) ?_
          rintro _ l7 _ d4 ⟨_, rfl, rfl, rfl⟩
          refine kk [some 0] (xO1 (lds := [2, 6]) 7 (xIe (lds := [2, 6]) d4.r (eBs (T := tyU8) (p := l7.b) (et := 5) (xs := ([] : List UInt8)) reps_nil (by simp)) ?_))
          rintro _ _ _ - ⟨z8, t7, t6, rfl, rfl, rfl, l6⟩
          refine kk [some 1] (xc [2, 47, 50, 51, 52, 54] ?_)
          exact f2 _ _ _ d4 ⟨z8, t7, t6, by kernel_rfl, by kernel_rfl, l6⟩
         ·refine xIe (lds := [2, 6]) pR (eBs (T := tyU8) (p := t1.b) (et := 5) (xs := ([] : List UInt8)) reps_nil (by simp)) ?_
          rintro _ _ _ - ⟨j7, t8, a6, rfl, rfl, rfl, d1⟩
          refine kk [some 1] (xO1 (lds := [2, 6]) 5 (xIe (lds := [2, 6]) pR (eC 0 (fun g' lr eb ln => c99 g' ((List.take (9 - 1) (List.drop 1 p)) : List UInt8) (offA Ap cp 1 1) (cp - 1) (z2.mono lr) a2)) ?_))
          rintro _ l11 _ v3 ⟨_, rfl, rfl, rfl⟩
          refine kk [some 1] (xc [2, 47, 50, 51, 52, 54] ?_)
          have d1 := d1.mono v3.b
          exact f2 _ _ _ v3 ⟨j7, t8, a6, by kernel_rfl, by kernel_rfl, d1⟩
       ·refine xO2 (lds := []) 2 7 ?_ ?_
        ·refine xIe (lds := []) pR (eC 0 (fun g' lr eb ln => c99 g' ((List.take (17 - 9) (List.drop 9 p)) : List UInt8) (offA Ap cp 9 1) (cp - 9) (f17.mono lr) w5)) ?_
         rintro _ d12 _ w0 ⟨_, rfl, rfl, rfl⟩
         refine kk [some 0] ?_
         refine xO2 (lds := []) 5 7 ?_ ?_
         ·have f19 := f19.mono w0.r
          refine xIe (lds := []) w0.r (eC 0 (fun g' lr eb ln => c99 g' ((List.take (19 - 17) (List.drop 17 p)) : List UInt8) (offA Ap cp 17 1) (cp - 17) (f19.mono lr) i1)) ?_
          rintro _ p12 _ j1 ⟨_, rfl, rfl, rfl⟩
          refine kk [some 0] (xt 2 [6] [] [some 0] [0, 2, 44] RG (w0.trans j1).r (xO1 (lds := []) 7 (xIe (lds := []) (w0.trans j1).r eB ?_)))
          rintro _ _ _ - ⟨p8, rfl, rfl, rfl⟩
          refine kk [some 1] (xc [0, 2, 4, 44] ?_)
          exact v1 _ _ _ (w0.trans j1) ⟨p8, by kernel_rfl, by kernel_rfl⟩
         ·refine xIe (lds := []) w0.r eB ?_
          rintro _ _ _ - ⟨z7, rfl, rfl, rfl⟩
          refine kk [some 1] ?_
          have f19 := f19.mono w0.r
          refine xO1 (lds := []) 5 (xIe (lds := []) w0.r (eC 0 (fun g' lr eb ln => c99 g' ((List.take (19 - 17) (List.drop 17 p)) : List UInt8) (offA Ap cp 17 1) (cp - 17) (f19.mono lr) i1)) ?_)
          rintro _ w12 _ j4 ⟨_, rfl, rfl, rfl⟩
          refine kk [some 1] (xt 1 [6] [] [some 1] [0, 2, 4, 44] RG (w0.trans j4).r (xc [0, 2, 4, 44] ?_))
          exact v1 _ _ _ (w0.trans j4) ⟨z7, by kernel_rfl, by kernel_rfl⟩
        ·refine xIe (lds := []) pR eB ?_
         rintro _ _ _ - ⟨w8, rfl, rfl, rfl⟩
         refine kk [some 1] (xO1 (lds := []) 2 (xIe (lds := []) pR (eC 0 (fun g' lr eb ln => c99 g' ((List.take (17 - 9) (List.drop 9 p)) : List UInt8) (offA Ap cp 9 1) (cp - 9) (f17.mono lr) w5)) ?_))
         rintro _ d11 _ w1 ⟨_, rfl, rfl, rfl⟩
         refine kk [some 1] ?_
         have f19 := f19.mono w1.r
         refine xO1 (lds := []) 5 (xIe (lds := []) w1.r (eC 0 (fun g' lr eb ln => c99 g' ((List.take (19 - 17) (List.drop 17 p)) : List UInt8) (offA Ap cp 17 1) (cp - 17) (f19.mono lr) i1)) ?_)
         rintro _ f11 _ t4 ⟨_, rfl, rfl, rfl⟩
         refine kk [some 1] (xt 1 [6] [] [some 1] [0, 2, 4, 44] RG (w1.trans t4).r (xc [0, 2, 4, 44] ?_))
         exact v1 _ _ _ (w1.trans t4) ⟨w8, by kernel_rfl, by kernel_rfl⟩
     ·intro uu12 hS hN12
      refine wpq_split 31 (b := t9) (by kernel_rfl) (fun f1 => ?_) (fun f1 => ?_)
      ·have hS := cond_T f1 hS
       refine xb 5 [] [0, 2, 36] (xc [0, 2, 36] ?_)
       exact hN12 _ (Option.some.inj hS).symm _ _ _ gR ⟨by kernel_rfl, by kernel_rfl⟩
      ·have hS := cond_F f1 hS
       have fp := fp.mono e11.r
       obtain ⟨v8, hS⟩ := grd_T hS
       have l10 := of_decide_eq_true v8
       have f7 := fp.cap
       have t3 : Arr g10.r tyU8 (offA Ap cp 9 1) (cp - 9) (List.take (17 - 9) (List.drop 9 p)) := fp.cut 9 17 (by omega) (by omega)
       have a9 := t3.len
       have i4 : 17 - 9 = ((List.take (17 - 9) (List.drop 9 p))).length := by simp only [List.length_take, List.length_drop] <;> omega
       have p9 : ((((List.take (17 - 9) (List.drop 9 p))).length : Nat) : Int) = 17 - 9 := by omega
       refine xb 1 [] [0, 2, 31, 32] (xV (qSl (m := 1) (A := Ap) (len := (p).length) (c := cp) 9 17 (some 9) (some 17) ((List.take (17 - 9) (List.drop 9 p))).length rfl rfl (by omega) (by omega) i4) ?_)
       obtain ⟨z12, z5, hS⟩ := bindO_T hS
       refine xE (eC 0 (fun g' lr eb ln => c99 g' ((List.take (17 - 9) (List.drop 9 p)) : List UInt8) (offA Ap cp 9 1) (cp - 9) (t3.mono lr) z5)) ?_
       rintro _ i12 _ d7 ⟨_, rfl, rfl, rfl⟩
       refine xb 2 [] [0, 2, 36] (xc [0, 2, 36] ?_)
       exact hN12 _ (Option.some.inj hS).symm _ _ _ d7 ⟨by kernel_rfl, by kernel_rfl⟩
    ·intro uu9 hS hN9
     refine wpq_split 25 (b := (((decide ((((p).length : Nat) : Int) < 19) || decide ((((p).length : Nat) : Int) > 419)) || decide (((List.getD p 0 0).toNat : Int) < 1)) || decide (((List.getD p 0 0).toNat : Int) > 3))) (by kernel_rfl) (fun d0 => ?_) (fun d0 => ?_)
     ·have hS := cond_T d0 hS
      refine xb 5 [] [0, 2, 30] (xc [0, 2, 30] ?_)
      exact hN9 _ (Option.some.inj hS).symm _ _ _ gR ⟨by kernel_rfl, by kernel_rfl⟩
     ·have hS := cond_F d0 hS
      have w3 := (or_false_ d0).1
      have w6 := (or_false_ d0).2
      have z1 := (or_false_ w3).1
      have l3 := (or_false_ w3).2
      have z3 := (or_false_ z1).1
      have j3 := (or_false_ z1).2
      have v6 := of_decide_eq_false z3
      have f6 := of_decide_eq_false j3
      have w9 := of_decide_eq_false l3
      have l9 := of_decide_eq_false w6
      have j8 := fp.cap
      have f4 : Arr g.r tyU8 (offA Ap cp 1 1) (cp - 1) (List.take (9 - 1) (List.drop 1 p)) := fp.cut 1 9 (by omega) (by omega)
      have i10 := f4.len
      have a4 : 9 - 1 = ((List.take (9 - 1) (List.drop 1 p))).length := by simp only [List.length_take, List.length_drop] <;> omega
      have i9 : ((((List.take (9 - 1) (List.drop 1 p))).length : Nat) : Int) = 9 - 1 := by omega
      refine xb 1 [] [0, 2, 25, 26] (xV (qSl (m := 1) (A := Ap) (len := (p).length) (c := cp) 1 9 (some 1) (some 9) ((List.take (9 - 1) (List.drop 1 p))).length rfl rfl (by omega) (by omega) a4) ?_)
      obtain ⟨a11, d5, hS⟩ := bindO_T hS
      refine xE (eC 0 (fun g' lr eb ln => c99 g' ((List.take (9 - 1) (List.drop 1 p)) : List UInt8) (offA Ap cp 1 1) (cp - 1) (f4.mono lr) d5)) ?_
      rintro _ v12 _ v7 ⟨_, rfl, rfl, rfl⟩
      refine xb 2 [] [0, 2, 30] (xc [0, 2, 30] ?_)
      exact hN9 _ (Option.some.inj hS).symm _ _ _ v7 ⟨by kernel_rfl, by kernel_rfl⟩

end Go.Proofs.YtnidomdebhekiaaGreat
