/-
Walks, printed by wip/gen, with half of their indentation. Conditions: each theorem's own.
-/
import Derived.Test.YtnidomdebhekiaaGreatC4
namespace Go.Proofs.YtnidomdebhekiaaGreat
set_option linter.unusedVariables false
set_option linter.unusedSimpArgs false
open Go.RowKit
set_option maxRecDepth 100000
def o56 (n : Node) (f : Frame) (came : Bool) : Option (Node × Sett × Bool × Int) :=
 (letJ (o81 n (3 : Int)) fun y3 => (cond ((y3 != 0)) (some ((n, (⟨0, 0, false, ([] : List UInt8)⟩ : Sett), (false), (y3 : Int)))) (bindO (τ := Node) (cond ((n.role == 2)) (some ((({ n with next_ := 4, has := true }) : Node))) (bindO (τ := Node) (cond ((n.role == 3)) (letJ (o85 ({ n with next_ := 4 }) f (came) (2 : Int)) fun y23 => (bindO (τ := Sett × Bool) (cond (y23) (bindO (o57 n.cycle f.payload) fun y38 => (letJ (τ := Sett × Bool) (cond ((((y38.2 == 0) && (!y38.1.fresh)) && (y38.1.steps == n.steps))) ((y38.1, true)) ((n.set_, n.has))) fun t242 => (some ((t242.1, t242.2))))) (some ((n.set_, n.has)))) fun t26 => (letJ (τ := Node) (cond ((!t26.2)) (letJ (o88 ({ n with next_ := 4, set_ := t26.1, has := t26.2 })) fun y33 => ((y33 : Node))) ((({ n with next_ := 4, set_ := t26.1, has := t26.2 }) : Node))) fun t29 => (some ((t29 : Node)))))) (some ((({ n with next_ := 4 }) : Node)))) fun t19 => (some ((t19 : Node))))) fun t7 => (cond ((!t7.has)) (some ((t7, (⟨0, 0, false, ([] : List UInt8)⟩ : Sett), (false), (0 : Int)))) (letJ (o43 t7.set_.in_) fun y12 => (some ((({ t7 with steps := (IntKind.i64.wrap (t7.steps + 1)) }), ({ t7.set_ with in_ := y12 }), (true), (0 : Int)))))))))
theorem c56 (g : Gh) (b_n : Nat) (n : Node) (i1 : OA) (j1 : Nat) (w0 : OA) (j0 : Nat) (v0 : OA) (d0 : Nat) (f : Frame) (v1 : OA) (t1 : Nat) (came : Bool) (d1 : Arr g.b tyU8 i1 j1 n.input) (i0 : Arr g.b tyU8 w0 j0 n.heard.input) (p0 : Arr g.b tyU8 v0 d0 n.set_.in_) (j2 : Arr g.r tyU8 v1 t1 f.payload) {r : Node × Sett × Bool × Int} (hS : o56 n f came = some r) :
  Ctr Tryz.prog 56 [vp b_n 0, (aFrame f v1 t1), vb came] g [some ⟨b_n, 126, (cNode n i1 j1 w0 j0 v0 d0)⟩] (fun v ψ o => ∃ (l5 : OA) (v5 : Nat) (f4 : OA) (l4 : Nat) (w5 : OA) (a4 : Nat) (l6 : OA) (v6 : Nat), v = Value.tuple #[(aSett r.2.1 l6 v6), vb r.2.2.1, vi r.2.2.2] ∧ o = [some ⟨b_n, 126, (cNode r.1 l5 v5 f4 l4 w5 a4)⟩] ∧ Arr ψ tyU8 l5 v5 r.1.input ∧ Arr ψ tyU8 f4 l4 r.1.heard.input ∧ Arr ψ tyU8 w5 a4 r.1.set_.in_ ∧ Arr ψ tyU8 l6 v6 r.2.1.in_) := by
 unfold o56 at hS
 refine xFn Tryz.f56 (Tryz.f56.body.getD .skip) 99 (xSq (xRg (xE eB ?_)))
 rintro _ _ _ - ⟨b1, rfl, rfl, rfl⟩
 refine xE eB ?_
 rintro _ _ _ - ⟨b2, rfl, rfl, rfl⟩
 refine xb 2 [] [0, 2, 4, 6] (xRe (xW (xSq (xSq (xRg (xb 1 [] [0, 2, 4, 6, 13] ?_))))))
 obtain ⟨y3, hy3, hS⟩ := letJ_T hS
 refine xE (eC 0 (fun g' lr eb ln => c81 g' ⟨b_n, 0, none⟩ n i1 j1 w0 j0 v0 d0 (3 : Int) (cells_lent' 2 b_n 0 (cNode n i1 j1 w0 j0 v0 d0) ln) ((d1.mono g.br).mono lr) ((i0.mono g.br).mono lr) ((p0.mono g.br).mono lr) hy3)) ?_
 rintro _ g4 _ e5 ⟨_, rfl, rfl, rfl⟩
 refine xb 1 [] [0, 2, 4, 6, 9] (xRe (xW (xSq (xRg (xb 2 [] [0, 2, 4, 6, 9, 16] (xRe (xW ?_)))))))
 refine xCd ((y3 != 0)) (fun h6 => ?_) (fun h6 => ?_)
 ·have hS := cond_T h6 hS
  have h6p : ¬ (y3 = 0) := ne_of_bne_ h6
  refine xSq (xRg (xbo 5 [(2, 0)] [some ⟨b2, 92, (cSett Z2 none 0)⟩, some ⟨b1, 49, (cFrame f v1 t1)⟩, some ⟨b_n, 126, (cNode n i1 j1 w0 j0 v0 d0)⟩] [6, 7, 8] (xRe (xW ?_))))
  have d1 := d1.mono e5.b
  have i0 := i0.mono e5.b
  have p0 := p0.mono e5.b
  obtain rfl := Option.some.inj hS
  exact xRetC [some 2] [(6, 0)] e5 ⟨i1, j1, w0, j0, v0, d0, none, 0, by kernel_rfl, by kernel_rfl, d1, i0, p0, Arr.nil⟩ (fun _ _ h => h)
 ·have hS := cond_F h6 hS
  have h6p : y3 = 0 := eq_of_bne_false_ h6
  refine xSk (xW (xc [0, 2, 4, 6] (xSq (xRg (xbo 4 [(3, 2)] [some ⟨b2, 92, (cSett Z2 none 0)⟩, some ⟨b1, 49, (cFrame f v1 t1)⟩, some ⟨b_n, 126, (cNode ({ n with next_ := 4 }) i1 j1 w0 j0 v0 d0)⟩] [0, 2, 4, 6] (xRe (xW (xSq (xSq (xRg (xb 4 [(3, 2)] [0, 2, 4, 6, 25] (xRe (xW (xBl 0 (xSq (xRg (xb 2 [] [0, 2, 4, 6, 25, 26] (xRe (xW ?_)))))))))))))))))))
  refine xBindO hS (fun g own sl t7 => ∃ (f1 : OA) (l1 : Nat) (l0 : OA) (f0 : Nat) (z1 : OA) (w1 : Nat), own = [some ⟨b2, 92, (cSett Z2 none 0)⟩, some ⟨b_n, 126, (cNode t7 f1 l1 l0 f0 z1 w1)⟩] ∧ sl = [(0, vp b_n 0), (6, vp b2 0)] ∧ Arr g.b tyU8 f1 l1 t7.input ∧ Arr g.b tyU8 l0 f0 t7.heard.input ∧ Arr g.b tyU8 z1 w1 t7.set_.in_) ?_ ?_
  ·rintro g8 _ _ t7 e9 ⟨f1, l1, l0, f0, z1, w1, rfl, rfl, d4, w3, z3⟩ hS
   refine wpq_blockN (xW (xSq (xSq (xRg (xb 5 [(3, 1)] [0, 6, 81] (xRe (xW ?_)))))))
   refine xCd ((!t7.has)) (fun h10 => ?_) (fun h10 => ?_)
   ·have hS := cond_T h10 hS
    refine xSq (xRg (xbo 4 [(1, 0)] [some ⟨b2, 92, (cSett Z2 none 0)⟩, some ⟨b_n, 126, (cNode t7 f1 l1 l0 f0 z1 w1)⟩] [6, 7, 8] (xRe (xW ?_))))
    obtain rfl := Option.some.inj hS
    exact xRetC [some 1] [(6, 0)] (e5.trans e9) ⟨f1, l1, l0, f0, z1, w1, none, 0, by kernel_rfl, by kernel_rfl, d4, w3, z3, Arr.nil⟩ (fun _ _ h => h)
   ·have hS := cond_F h10 hS
    refine xSk (xW (xc [0, 6] (xSq (xRg (xbo 8 [(3, 1), (7, 1)] [some ⟨b2, 92, (cSett Z2 none 0)⟩, some ⟨b_n, 126, (cNode ({ t7 with steps := (IntKind.i64.wrap (t7.steps + 1)) }) f1 l1 l0 f0 z1 w1)⟩] [0, 6] (xRe (xW (xSq (xRg (xb 4 [(3, 1)] [6, 93] (xE eB ?_)))))))))))
    rintro _ _ _ - ⟨b11, rfl, rfl, rfl⟩
    refine xbo 1 [(5, 0)] [some ⟨b11, 92, (cSett t7.set_ z1 w1)⟩, some ⟨b2, 92, (cSett Z2 none 0)⟩, some ⟨b_n, 126, (cNode ({ t7 with steps := (IntKind.i64.wrap (t7.steps + 1)) }) f1 l1 l0 f0 z1 w1)⟩] [6, 12] (xRe (xW (xSq (xRg (xb 2 [(1, 0)] [6, 12, 95] ?_)))))
    obtain ⟨y12, i9, hS⟩ := letJ_T hS
    refine xE (eC 0 (fun g' lr eb ln => c43 g' t7.set_.in_ z1 w1 ((z3.mono g8.br).mono lr) i9)) ?_
    rintro _ g13 _ e14 ⟨_, rfl, p6, d6, w8, rfl, rfl, a8⟩
    refine xbo 2 [(4, 1)] [w8, some ⟨b11, 92, (cSett ({ t7.set_ with in_ := y12 }) p6 d6)⟩, some ⟨b2, 92, (cSett Z2 none 0)⟩, some ⟨b_n, 126, (cNode ({ t7 with steps := (IntKind.i64.wrap (t7.steps + 1)) }) f1 l1 l0 f0 z1 w1)⟩] [6, 12] (xRe (xW (xSq (xRg (xbo 4 [(0, 1), (1, 2)] [w8, some ⟨b11, 92, (cSett ({ t7.set_ with in_ := y12 }) p6 d6)⟩, some ⟨b2, 92, (cSett ({ t7.set_ with in_ := y12 }) p6 d6)⟩, some ⟨b_n, 126, (cNode ({ t7 with steps := (IntKind.i64.wrap (t7.steps + 1)) }) f1 l1 l0 f0 z1 w1)⟩] [6, 7, 8] (xRe (xW ?_)))))))
    refine wpq_freeze 0 (by kernel_rfl) a8 (fun g15 e16 f17 => ?_)
    have d4 := d4.mono (e14.trans e16).b
    have w3 := w3.mono (e14.trans e16).b
    have z3 := z3.mono (e14.trans e16).b
    obtain rfl := Option.some.inj hS
    exact xRetC [some 3] [(6, 2)] (e5.trans (e9.trans (e14.trans e16))) ⟨f1, l1, l0, f0, z1, w1, p6, d6, by kernel_rfl, by kernel_rfl, d4, w3, z3, f17⟩ (fun _ _ h => h)
  ·intro uu7 hS hN7
   refine xCd ((n.role == 2)) (fun h18 => ?_) (fun h18 => ?_)
   ·have hS := cond_T h18 hS
    have w9 : n.role = 2 := eq_of_beq h18
    refine xRg (xbo 4 [(3, 2)] [some ⟨b2, 92, (cSett Z2 none 0)⟩, some ⟨b1, 49, (cFrame f v1 t1)⟩, some ⟨b_n, 126, (cNode ({ n with next_ := 4, has := true }) i1 j1 w0 j0 v0 d0)⟩] [0, 6] (xRe ?_))
    have d1 := d1.mono e5.b
    have i0 := i0.mono e5.b
    have p0 := p0.mono e5.b
    refine xSel [some 0, some 2] (xc [0, 6] ?_)
    have eS := (Option.some.inj hS).symm
    exact hN7 _ eS _ _ _ gR ⟨i1, j1, w0, j0, v0, d0, by kernel_rfl, by kernel_rfl, d1, i0, p0⟩
   ·have hS := cond_F h18 hS
    have w9 : ¬ (n.role = 2) := ne_of_beq_false_ h18
    refine xSq (xRg (xb 2 [] [0, 2, 4, 6, 31] (xRe (xW ?_))))
    refine xBindO hS (fun g own sl t19 => ∃ (f3 : OA) (l3 : Nat) (f2 : OA) (a2 : Nat) (t3 : OA) (v3 : Nat), own = [some ⟨b_n, 126, (cNode t19 f3 l3 f2 a2 t3 v3)⟩, some ⟨b2, 92, (cSett Z2 none 0)⟩] ∧ sl = [(0, vp b_n 0), (6, vp b2 0)] ∧ Arr g.b tyU8 f3 l3 t19.input ∧ Arr g.b tyU8 f2 a2 t19.heard.input ∧ Arr g.b tyU8 t3 v3 t19.set_.in_) ?_ ?_
    ·rintro g20 _ _ t19 e21 ⟨f3, l3, f2, a2, t3, v3, rfl, rfl, j7, t5, j6⟩ hS
     refine xSel [some 1, some 0] (xc [0, 6] ?_)
     have eS := (Option.some.inj hS).symm
     exact hN7 _ eS _ _ _ e21 ⟨f3, l3, f2, a2, t3, v3, by kernel_rfl, by kernel_rfl, j7, t5, j6⟩
    ·intro uu19 hS hN19
     refine xCd ((n.role == 3)) (fun h22 => ?_) (fun h22 => ?_)
     ·have hS := cond_T h22 hS
      have p9 : n.role = 3 := eq_of_beq h22
      refine xSq (xSq (xRg (xb 3 [(1, 1)] [0, 4, 6, 33, 34, 35] ?_)))
      have d1 := d1.mono e5.b
      have i0 := i0.mono e5.b
      have p0 := p0.mono e5.b
      have j2 := j2.mono e5.r
      obtain ⟨y23, j9, hS⟩ := letJ_T hS
      refine xE (eC 0 (fun g' lr eb ln => c85 g' ⟨b_n, 0, none⟩ ({ n with next_ := 4 }) i1 j1 w0 j0 v0 d0 f v1 t1 (came) (2 : Int) (cells_lent' 2 b_n 0 (cNode ({ n with next_ := 4 }) i1 j1 w0 j0 v0 d0) ln) ((d1.mono g4.br).mono lr) ((i0.mono g4.br).mono lr) ((p0.mono g4.br).mono lr) (j2.mono lr) j9)) ?_
      rintro _ g24 _ e25 ⟨_, rfl, rfl, rfl⟩
      refine xRe (xW (xc [0, 4, 6, 36] ?_))
      refine xBindO hS (fun g own sl t26 => ∃ (j4 : OA) (z4 : Nat), own = [some ⟨b2, 92, (cSett Z2 none 0)⟩, some ⟨b_n, 126, (cNode ({ n with next_ := 4, set_ := t26.1, has := t26.2 }) i1 j1 w0 j0 j4 z4)⟩] ∧ sl = [(0, vp b_n 0), (6, vp b2 0)] ∧ Arr g.b tyU8 j4 z4 t26.1.in_) ?_ ?_
      ·rintro g27 _ _ t26 e28 ⟨j4, z4, rfl, rfl, i6⟩ hS
       refine xW (xSq (xRg (xb 5 [(3, 1)] [0, 6, 74] (xRe (xW ?_)))))
       refine xLetJ hS (fun g own sl t29 => ∃ (w4 : OA) (a3 : Nat) (v2 : OA) (d2 : Nat) (d3 : OA) (j3 : Nat), own = [some ⟨b_n, 126, (cNode t29 w4 a3 v2 d2 d3 j3)⟩, some ⟨b2, 92, (cSett Z2 none 0)⟩] ∧ sl = [(0, vp b_n 0), (6, vp b2 0)] ∧ Arr g.b tyU8 w4 a3 t29.input ∧ Arr g.b tyU8 v2 d2 t29.heard.input ∧ Arr g.b tyU8 d3 j3 t29.set_.in_) ?_ ?_
       ·rintro g30 _ _ t29 e31 ⟨w4, a3, v2, d2, d3, j3, rfl, rfl, i7, z5, w6⟩ hS
        refine xc [0, 6] ?_
        have eS := (Option.some.inj hS).symm
        exact hN19 _ eS _ _ _ (e25.trans (e28.trans e31)) ⟨w4, a3, v2, d2, d3, j3, by kernel_rfl, by kernel_rfl, i7, z5, w6⟩
       ·intro uu29 hS hN29
        refine xCd ((!t26.2)) (fun h32 => ?_) (fun h32 => ?_)
        ·have hS := cond_T h32 hS
         refine xRg (xb 1 [] [0, 6, 75] (xSel [some 1, some 0] ?_))
         have d1 := d1.mono (e25.trans e28).b
         have i0 := i0.mono (e25.trans e28).b
         obtain ⟨y33, d9, hS⟩ := letJ_T hS
         refine xE (eC 1 (fun g' lr eb ln => c88 g' b_n ({ n with next_ := 4, set_ := t26.1, has := t26.2 }) i1 j1 w0 j0 j4 z4 (by rw [eb]; exact d1) (by rw [eb]; exact i0) (by rw [eb]; exact i6) d9)) ?_
         rintro _ g34 _ e35 ⟨_, rfl, a6, z7, j5, i5, f5, a5, rfl, rfl, w7, d5, z6⟩
         refine xRe (xc [0, 6] ?_)
         have eS := hS.symm
         exact hN29 _ eS _ _ _ e35 ⟨a6, z7, j5, i5, f5, a5, by kernel_rfl, by kernel_rfl, w7, d5, z6⟩
        ·have hS := cond_F h32 hS
         refine xSk ?_
         have d1 := d1.mono (e25.trans e28).b
         have i0 := i0.mono (e25.trans e28).b
         refine xSel [some 1, some 0] (xc [0, 6] ?_)
         have eS := hS.symm
         exact hN29 _ eS _ _ _ gR ⟨i1, j1, w0, j0, j4, z4, by kernel_rfl, by kernel_rfl, d1, i0, i6⟩
      ·intro uu26 hS hN26
       refine xCd (y23) (fun h36 => ?_) (fun h36 => ?_)
       ·have hS := cond_T h36 hS
        refine xSq ?_
        refine xDr 0 [3, 5] [11, 12] [some ⟨b2, 92, (cSett Z2 none 0)⟩, some ⟨b1, 49, (cFrame f v1 t1)⟩, some ⟨b_n, 126, (cNode ({ n with next_ := 4 }) i1 j1 w0 j0 v0 d0)⟩] 13 (fun RG => ?_) (fun _ _ _ _ _ h => h)
        refine xt 7 [0, 1, 2, 3, 4, 5] [(3, 2), (5, 1)] (sm [0, 1, 2]) [0, 6, 41, 43] RG pR ?_
        obtain ⟨y38, p8, hS⟩ := bindO_T hS
        refine wpa_meet (fun g own sl => ∃ (w2 : OA) (z2 : Nat) (b41 : Nat), own = [some ⟨b41, 92, (cSett y38.1 w2 z2)⟩, some ⟨b2, 92, (cSett Z2 none 0)⟩, some ⟨b1, 49, (cFrame f v1 t1)⟩, some ⟨b_n, 126, (cNode ({ n with next_ := 4 }) i1 j1 w0 j0 v0 d0)⟩] ∧ sl = [(0, vp b_n 0), (6, vp b2 0), (10, vp b41 0), (46, vi y38.2)] ∧ Arr g.b tyU8 w2 z2 y38.1.in_) 1 [true, true, true, true, true, true, true, true, true, true, true, true, false] ?_ (fun j8 => ?_)
        ·rintro z10 _ _ f7 ⟨w2, z2, b41, rfl, rfl, i4⟩
         refine xt 0 [12] [] (sm [1, 2, 3]) [0, 6, 10, 11] RG f7.r (xAe (lds := [3, 5]) (xW (xSq ?_)))
         refine xDr 0 [4, 9, 13] [] [some ⟨b41, 92, (cSett y38.1 w2 z2)⟩, some ⟨b2, 92, (cSett Z2 none 0)⟩, some ⟨b1, 49, (cFrame f v1 t1)⟩, some ⟨b_n, 126, (cNode ({ n with next_ := 4 }) i1 j1 w0 j0 v0 d0)⟩] 16 (fun RG => ?_) (fun _ _ _ _ _ h => h)
         refine xt 13 [0, 1, 2] [] (sm [0, 1, 2, 3]) [0, 6, 10, 49] RG pR ?_
         refine wpa_grp 9 [true, true, true, true, true, true, true, false, false, false, false, false, false, false, false, false] [(0, vp b_n 0), (6, vp b2 0), (10, vp b41 0), (53, vb ((y38.2 == 0) && (!y38.1.fresh)))] (fun hk2 => ?_) ?_
         ·refine wpq_split 49 (b := (y38.2 == 0)) (by kernel_rfl) (fun f6 => ?_) (fun f6 => ?_)
          ·have v8 : y38.2 = 0 := eq_of_beq f6
           refine xt 9 [3, 4, 5, 6] [(4, 0)] (sm [0, 1, 2, 3]) [0, 6, 10, 53] RG pR (wpq_re 53 (v := vb (!y38.1.fresh)) (Value.bool (((y38.2 == 0) && (!y38.1.fresh)))) (by kernel_rfl) (re_and1 f6) ?_)
           exact wpq_sub _ (by kernel_rfl) hk2
          ·have v8 : ¬ (y38.2 = 0) := ne_of_beq_false_ f6
           refine xt 9 [3, 4, 5, 6] [] (sm [0, 1, 2, 3]) [0, 6, 10, 53] RG pR (wpq_re 53 (v := vb false) (Value.bool (((y38.2 == 0) && (!y38.1.fresh)))) (by kernel_rfl) (re_and0 f6) ?_)
           exact wpq_sub _ (by kernel_rfl) hk2
         ·refine xt 8 [7] [] (sm [0, 1, 2, 3]) [0, 6, 10, 54] RG pR ?_
          refine wpa_grp 0 [true, true, true, true, true, true, true, true, true, true, true, true, true, true, true, true] [(0, vp b_n 0), (6, vp b2 0), (10, vp b41 0), (62, vb (((y38.2 == 0) && (!y38.1.fresh)) && (y38.1.steps == n.steps)))] (fun hk7 => ?_) ?_
          ·refine wpq_split 54 (b := ((y38.2 == 0) && (!y38.1.fresh))) (by kernel_rfl) (fun l7 => ?_) (fun l7 => ?_)
           ·have t8 := (and_true_ l7).1
            have l9 : y38.2 = 0 := eq_of_beq t8
            refine xt 0 [8, 9, 10, 11, 12, 13, 14, 15] [(9, 0), (13, 3)] (sm [0, 1, 2, 3]) [0, 6, 10, 62] RG pR (wpq_re 62 (v := vb (y38.1.steps == n.steps)) (Value.bool ((((y38.2 == 0) && (!y38.1.fresh)) && (y38.1.steps == n.steps)))) (by kernel_rfl) (re_and1 l7) ?_)
            exact wpq_sub _ (by kernel_rfl) hk7
           ·refine xt 0 [8, 9, 10, 11, 12, 13, 14, 15] [] (sm [0, 1, 2, 3]) [0, 6, 10, 62] RG pR ?_
            refine wpq_re 62 (v := vb false) (Value.bool ((((y38.2 == 0) && (!y38.1.fresh)) && (y38.1.steps == n.steps)))) (by kernel_rfl) (re_and0 l7) ?_
            exact wpq_sub _ (by kernel_rfl) hk7
          ·refine xAe (lds := [4, 9, 13]) ?_
           refine xW ?_
           refine xLetJ hS (fun g own sl v7 => ∃ (v4 : OA) (t4 : Nat), own = [some ⟨b2, 92, (cSett Z2 none 0)⟩, some ⟨b_n, 126, (cNode ({ n with next_ := 4, set_ := v7.1, has := v7.2 }) i1 j1 w0 j0 v4 t4)⟩] ∧ sl = [(0, vp b_n 0), (6, vp b2 0)] ∧ Arr g.b tyU8 v4 t4 v7.1.in_) ?_ ?_
           ·rintro w10 _ _ v7 z9 ⟨v4, t4, rfl, rfl, d7⟩ hS
            refine xc [0, 6] ?_
            have eS := (Option.some.inj hS).symm
            exact hN26 _ eS _ _ _ (f7.trans z9) ⟨v4, t4, by kernel_rfl, by kernel_rfl, d7⟩
           ·intro uu242 hS hN242
            refine xCd ((((y38.2 == 0) && (!y38.1.fresh)) && (y38.1.steps == n.steps))) (fun t6 => ?_) (fun t6 => ?_)
            ·have hS := cond_T t6 hS
             have f8 := (and_true_ t6).1
             have l8 := (and_true_ t6).2
             have i8 := (and_true_ f8).1
             have t9 : y38.2 = 0 := eq_of_beq i8
             have v9 : y38.1.steps = n.steps := eq_of_beq l8
             refine xRg (xbo 9 [(2, 0), (5, 3), (8, 3)] [some ⟨b41, 92, (cSett y38.1 w2 z2)⟩, some ⟨b2, 92, (cSett Z2 none 0)⟩, some ⟨b1, 49, (cFrame f v1 t1)⟩, some ⟨b_n, 126, (cNode ({ n with next_ := 4, set_ := y38.1, has := true }) i1 j1 w0 j0 w2 z2)⟩] [0, 6] (xRe (xSel [some 1, some 3] (xc [0, 6] ?_))))
             have eS := hS.symm
             exact hN242 _ eS _ _ _ gR ⟨w2, z2, by kernel_rfl, by kernel_rfl, i4⟩
            ·have hS := cond_F t6 hS
             refine xSk ?_
             have p0 := p0.mono (e25.trans f7).b
             refine xSel [some 1, some 3] (xc [0, 6] ?_)
             have eS := hS.symm
             exact hN242 _ eS _ _ _ gR ⟨v0, d0, by kernel_rfl, by kernel_rfl, p0⟩
        ·refine xO2 (lds := [3, 5]) 6 10 ?_ ?_
         ·have j2 := j2.mono e25.r
          refine xIe (lds := [3, 5]) pR (eC 0 (fun g' lr eb ln => c57 g' n.cycle f.payload v1 t1 (j2.mono lr) p8)) ?_
          rintro _ f9 _ p7 ⟨_, rfl, w2, z2, rfl, rfl, i4⟩
          refine kk (sm [0, 1, 2]) (xt 3 [7, 8, 9] [] (sm [0, 1, 2]) [0, 6, 45, 46] RG p7.r (xO1 (lds := [3, 5]) 10 (xIe (lds := [3, 5]) p7.r eB ?_)))
          rintro _ _ _ - ⟨d8, rfl, rfl, rfl⟩
          refine kk (sm [1, 2, 3]) (xO1 (lds := [3, 5]) 11 (xId (lds := [3, 5]) p7.r (eStL d8 0 0) ?_))
          rintro _ _ _ - ⟨rfl, rfl⟩
          refine kf (xc [0, 6, 10, 46] ?_)
          exact j8 _ _ _ p7 ⟨w2, z2, d8, by kernel_rfl, by kernel_rfl, i4⟩
         ·refine xIe (lds := [3, 5]) pR eB ?_
          rintro _ _ _ - ⟨z8, rfl, rfl, rfl⟩
          refine kk (sm [1, 2, 3]) ?_
          have j2 := j2.mono e25.r
          refine xO1 (lds := [3, 5]) 6 (xIe (lds := [3, 5]) pR (eC 0 (fun g' lr eb ln => c57 g' n.cycle f.payload v1 t1 (j2.mono lr) p8)) ?_)
          rintro _ a9 _ a7 ⟨_, rfl, w2, z2, rfl, rfl, i4⟩
          refine kk (sm [1, 2, 3]) (xt 2 [7, 8, 9] [] (sm [1, 2, 3]) [0, 6, 10, 45, 46] RG a7.r (xO1 (lds := [3, 5]) 11 (xId (lds := [3, 5]) a7.r (eStL z8 0 0) ?_)))
          rintro _ _ _ - ⟨rfl, rfl⟩
          refine kf (xc [0, 6, 10, 46] ?_)
          exact j8 _ _ _ a7 ⟨w2, z2, z8, by kernel_rfl, by kernel_rfl, i4⟩
       ·have hS := cond_F h36 hS
        refine xSk ?_
        have p0 := p0.mono e25.b
        refine xSel [some 0, some 2] (xc [0, 6] ?_)
        have eS := (Option.some.inj hS).symm
        exact hN26 _ eS _ _ _ gR ⟨v0, d0, by kernel_rfl, by kernel_rfl, p0⟩
     ·have hS := cond_F h22 hS
      have p9 : ¬ (n.role = 3) := ne_of_beq_false_ h22
      refine xSk ?_
      have d1 := d1.mono e5.b
      have i0 := i0.mono e5.b
      have p0 := p0.mono e5.b
      refine xSel [some 2, some 0] (xc [0, 6] ?_)
      have eS := (Option.some.inj hS).symm
      exact hN19 _ eS _ _ _ gR ⟨i1, j1, w0, j0, v0, d0, by kernel_rfl, by kernel_rfl, d1, i0, p0⟩

def o58 (c : Coll) (x : Sett) (came : Bool) : Option (Coll) :=
 (cond (((((c.parts).length : Nat) : Int) == 0)) (some (c)) (cond (((((!came) || (x.steps != (IntKind.i64.wrap (c.base + (((c.sets).length : Nat) : Int))))) || x.fresh) || decide ((((c.sets).length : Nat) : Int) ≥ (((c.parts).length : Nat) : Int)))) (letJ (o90 c) fun y7 => (some (y7))) (letJ (o43 x.in_) fun y10 => (grd (decide (((c.sets).length + (([({ x with in_ := y10 })] : List Sett)).length) * 48 ≤ 140737488355328)) (some (({ c with sets := (c.sets ++ ([({ x with in_ := y10 })] : List Sett)) })))))))
theorem c58 (g : Gh) (b_c : Nat) (c : Coll) (w0 : OA) (j0 : Nat) (p0 : OB) (d0 : OA) (i0 : Nat) (f0 : OB) (x : Sett) (j1 : OA) (z1 : Nat) (came : Bool) (v0 : Buf g.b (tyArr tyU8) 28 (.slice w0 (c.parts).length j0) p0 c.parts) (l0 : Buf g.b tySett 92 (.slice d0 (c.sets).length i0) f0 c.sets) (j3 : Arr g.r tyU8 j1 z1 x.in_) {r : Coll} (hS : o58 c x came = some r) :
  Ctr Tryz.prog 58 [vp b_c 0, (aSett x j1 z1), vb came] g [some ⟨b_c, 132, (cColl c w0 j0 d0 i0)⟩, p0, f0] (fun v ψ o => ∃ (t1 : OA) (i1 : Nat) (w1 : OB) (v1 : OA) (l1 : Nat) (f1 : OB), v = Value.tuple #[] ∧ o = [some ⟨b_c, 132, (cColl r t1 i1 v1 l1)⟩, w1, f1] ∧ Buf ψ (tyArr tyU8) 28 (.slice t1 (r.parts).length i1) w1 r.parts ∧ Buf ψ tySett 92 (.slice v1 (r.sets).length l1) f1 r.sets) := by
 unfold o58 at hS
 refine xFn Tryz.f58 (Tryz.f58.body.getD .skip) 66 ?_
 have a4 := j3.len
 refine xSq (xRg (xE eB ?_))
 rintro _ _ _ - ⟨b1, rfl, rfl, rfl⟩
 refine xRe (xW (xc [0, 2, 4] (xSq (xSq (xRg (xb 10 [(6, 1)] [0, 2, 4, 15] (xRe (xW ?_))))))))
 refine xCd (((((c.parts).length : Nat) : Int) == 0)) (fun h2 => ?_) (fun h2 => ?_)
 ·have hS := cond_T h2 hS
  have h2p : (((c.parts).length : Nat) : Int) = 0 := eq_of_beq h2
  obtain rfl := Option.some.inj hS
  exact xRet (sm [1, 2, 3]) [] gR ⟨w0, j0, p0, d0, i0, f0, by kernel_rfl, by kernel_rfl, v0, l0⟩ (fun _ _ h => h)
 ·have hS := cond_F h2 hS
  have h2p : ¬ ((((c.parts).length : Nat) : Int) = 0) := ne_of_beq_false_ h2
  refine xSk (xW (xc [0, 2, 4] (xSq (xSq ?_))))
  refine xDr 0 [4, 8, 12, 19, 25, 30] [] [some ⟨b1, 92, (cSett x j1 z1)⟩, some ⟨b_c, 132, (cColl c w0 j0 d0 i0)⟩] 34 (fun RG => ?_) (fun _ _ _ _ _ h => h)
  refine xt 31 [0, 1, 2] [] [some 0, some 1] [0, 4, 18] RG pR ?_
  refine wpa_grp 17 [true, true, true, true, true, true, true, true, true, true, true, true, true, true, true, true, true, false, false, false, false, false, false, false, false, false, false, false, false, false, false, false, false, false] [(0, vp b_c 0), (4, vp b1 0), (32, vb ((!came) || (x.steps != (IntKind.i64.wrap (c.base + (((c.sets).length : Nat) : Int))))))] (fun hk2 => ?_) ?_
  ·refine wpq_split 18 (b := (!came)) (by kernel_rfl) (fun q3 => ?_) (fun q3 => ?_)
   ·have q3n := not_eq_true_ q3
    refine xt 17 [3, 4, 5, 6, 7, 8, 9, 10, 11, 12, 13, 14, 15, 16] [] [some 0, some 1] [0, 4, 32] RG pR (wpq_re 32 (v := vb true) (Value.bool (((!came) || (x.steps != (IntKind.i64.wrap (c.base + (((c.sets).length : Nat) : Int))))))) (by kernel_rfl) (re_or1 q3) ?_)
    exact wpq_sub _ (by kernel_rfl) hk2
   ·have q3n := not_eq_false_ q3
    have z2 := i64_in_ (c.base + (((c.sets).length : Nat) : Int))
    refine xt 17 [3, 4, 5, 6, 7, 8, 9, 10, 11, 12, 13, 14, 15, 16] [(4, 0), (8, 1), (12, 1)] [some 0, some 1] [0, 4, 32] RG pR (wpq_re 32 (v := vb (x.steps != (IntKind.i64.wrap (c.base + (((c.sets).length : Nat) : Int))))) (Value.bool (((!came) || (x.steps != (IntKind.i64.wrap (c.base + (((c.sets).length : Nat) : Int))))))) (by kernel_rfl) (re_or0 q3) ?_)
    exact wpq_sub _ (by kernel_rfl) hk2
  ·refine xt 16 [17] [] [some 0, some 1] [0, 4, 33] RG pR ?_
   refine wpa_grp 13 [true, true, true, true, true, true, true, true, true, true, true, true, true, true, true, true, true, true, true, true, true, false, false, false, false, false, false, false, false, false, false, false, false, false] [(0, vp b_c 0), (4, vp b1 0), (36, vb (((!came) || (x.steps != (IntKind.i64.wrap (c.base + (((c.sets).length : Nat) : Int))))) || x.fresh))] (fun f3 => ?_) ?_
   ·refine wpq_split 33 (b := ((!came) || (x.steps != (IntKind.i64.wrap (c.base + (((c.sets).length : Nat) : Int)))))) (by kernel_rfl) (fun q4 => ?_) (fun q4 => ?_)
    ·refine xt 13 [18, 19, 20] [] [some 0, some 1] [0, 4, 36] RG pR ?_
     refine wpq_re 36 (v := vb true) (Value.bool ((((!came) || (x.steps != (IntKind.i64.wrap (c.base + (((c.sets).length : Nat) : Int))))) || x.fresh))) (by kernel_rfl) (re_or1 q4) ?_
     exact wpq_sub _ (by kernel_rfl) f3
    ·have q4l := (or_false_ q4).1
     have q4r := (or_false_ q4).2
     have a5 := not_eq_false_ q4l
     have v5 : x.steps = (IntKind.i64.wrap (c.base + (((c.sets).length : Nat) : Int))) := eq_of_bne_false_ q4r
     refine xt 13 [18, 19, 20] [(19, 0)] [some 0, some 1] [0, 4, 36] RG pR (wpq_re 36 (v := vb x.fresh) (Value.bool ((((!came) || (x.steps != (IntKind.i64.wrap (c.base + (((c.sets).length : Nat) : Int))))) || x.fresh))) (by kernel_rfl) (re_or0 q4) ?_)
     exact wpq_sub _ (by kernel_rfl) f3
   ·refine xt 12 [21] [] [some 0, some 1] [0, 4, 37] RG pR ?_
    refine wpa_grp 0 [true, true, true, true, true, true, true, true, true, true, true, true, true, true, true, true, true, true, true, true, true, true, true, true, true, true, true, true, true, true, true, true, true, true] [(0, vp b_c 0), (4, vp b1 0), (49, vb ((((!came) || (x.steps != (IntKind.i64.wrap (c.base + (((c.sets).length : Nat) : Int))))) || x.fresh) || decide ((((c.sets).length : Nat) : Int) ≥ (((c.parts).length : Nat) : Int))))] (fun l3 => ?_) ?_
    ·refine wpq_split 37 (b := (((!came) || (x.steps != (IntKind.i64.wrap (c.base + (((c.sets).length : Nat) : Int))))) || x.fresh)) (by kernel_rfl) (fun q5 => ?_) (fun q5 => ?_)
     ·refine xt 0 [22, 23, 24, 25, 26, 27, 28, 29, 30, 31, 32, 33] [] [some 0, some 1] [0, 4, 49] RG pR ?_
      refine wpq_re 49 (v := vb true) (Value.bool (((((!came) || (x.steps != (IntKind.i64.wrap (c.base + (((c.sets).length : Nat) : Int))))) || x.fresh) || decide ((((c.sets).length : Nat) : Int) ≥ (((c.parts).length : Nat) : Int))))) (by kernel_rfl) (re_or1 q5) ?_
      exact wpq_sub _ (by kernel_rfl) l3
     ·have q5l := (or_false_ q5).1
      have q5r := (or_false_ q5).2
      have f4 := (or_false_ q5l).1
      have l4 := (or_false_ q5l).2
      have i5 := not_eq_false_ f4
      have d5 : x.steps = (IntKind.i64.wrap (c.base + (((c.sets).length : Nat) : Int))) := eq_of_bne_false_ l4
      refine xt 0 [22, 23, 24, 25, 26, 27, 28, 29, 30, 31, 32, 33] [(25, 1), (30, 1)] [some 0, some 1] [0, 4, 49] RG pR (wpq_re 49 (v := vb (decide ((((c.sets).length : Nat) : Int) ≥ (((c.parts).length : Nat) : Int)))) (Value.bool (((((!came) || (x.steps != (IntKind.i64.wrap (c.base + (((c.sets).length : Nat) : Int))))) || x.fresh) || decide ((((c.sets).length : Nat) : Int) ≥ (((c.parts).length : Nat) : Int))))) (by kernel_rfl) (re_or0 q5) ?_)
      exact wpq_sub _ (by kernel_rfl) l3
    ·refine xAe (lds := [4, 8, 12, 19, 25, 30]) ?_
     refine xW ?_
     refine xCd (((((!came) || (x.steps != (IntKind.i64.wrap (c.base + (((c.sets).length : Nat) : Int))))) || x.fresh) || decide ((((c.sets).length : Nat) : Int) ≥ (((c.parts).length : Nat) : Int)))) (fun h6 => ?_) (fun h6 => ?_)
     ·have hS := cond_T h6 hS
      refine xSq (xRg (xb 1 [] [50] (xSel (sm [1, 2, 3, 0]) ?_)))
      obtain ⟨y7, hy7, hS⟩ := letJ_T hS
      refine xE (eC 3 (fun g' lr eb ln => c90 g' b_c c w0 j0 p0 d0 i0 f0 (by rw [eb]; exact v0) (by rw [eb]; exact l0) hy7)) ?_
      rintro _ g8 _ e9 ⟨_, rfl, v2, a2, f2, d3, z3, w3, rfl, rfl, d1, w2⟩
      have a3 := d1.len
      have j4 := w2.len
      refine xRe (xW (xc [] ?_))
      obtain rfl := Option.some.inj hS
      exact xRet (sm [0, 1, 2]) [] e9 ⟨v2, a2, f2, d3, z3, w3, by kernel_rfl, by kernel_rfl, d1, w2⟩ (fun _ _ h => h)
     ·have hS := cond_F h6 hS
      have h6l := (or_false_ h6).1
      have h6r := (or_false_ h6).2
      have v3 := (or_false_ h6l).1
      have z6 := (or_false_ h6l).2
      have w4 := (or_false_ v3).1
      have i4 := (or_false_ v3).2
      have j5 := not_eq_false_ w4
      have w5 : x.steps = (IntKind.i64.wrap (c.base + (((c.sets).length : Nat) : Int))) := eq_of_bne_false_ i4
      have w6 := of_decide_eq_false h6r
      refine xSk (xW (xc [0, 4] (xSq (xRg (xb 2 [(1, 0)] [0, 4, 53] ?_)))))
      obtain ⟨y10, d4, hS⟩ := letJ_T hS
      refine xE (eC 0 (fun g' lr eb ln => c43 g' x.in_ j1 z1 (j3.mono lr) d4)) ?_
      rintro _ g11 _ e12 ⟨_, rfl, d2, j2, z4, rfl, rfl, t3⟩
      have z5 := t3.len
      refine xbo 2 [(4, 1)] [z4, some ⟨b1, 92, (cSett ({ x with in_ := y10 }) d2 j2)⟩, some ⟨b_c, 132, (cColl c w0 j0 d0 i0)⟩, p0, f0] [0, 4] (xRe (xW ?_))
      refine xDr 0 [4, 5] [10, 8, 9] [some ⟨b1, 92, (cSett ({ x with in_ := y10 }) d2 j2)⟩, some ⟨b_c, 132, (cColl c w0 j0 d0 i0)⟩] 11 (fun RG => ?_) (fun _ _ _ _ _ h => h)
      refine xt 5 [0, 1, 2, 3, 4, 5] [(4, 1), (5, 0)] [some 1, some 2] [56, 60, 61] RG pR ?_
      refine wpq_freeze 0 (by kernel_rfl) t3 (fun g13 e14 f15 => ?_)
      refine xO1 (lds := [4, 5]) 6 (xIe (lds := [4, 5]) e14.r (eBs (T := tySett) (p := g13.b) (et := 92) (xs := ([({ x with in_ := y10 })] : List Sett)) (reps_cons (c := [vi x.steps, vi x.cycle, vb x.fresh, vs d2 y10 j2]) (show tySett.rep _ _ ({ x with in_ := y10 }) from ⟨d2, j2, rfl, f15⟩) reps_nil) (by simp)) ?_)
      rintro _ _ _ - ⟨A16, c16, k16, rfl, rfl, rfl, h16⟩
      refine kk [some 2, some 3] ?_
      have l0 := l0.mono (e12.trans e14).b
      obtain ⟨t5, v4, t4⟩ := h16.srcO (g := g13)
      obtain ⟨q18, hS⟩ := grd_T hS
      have f5 := of_decide_eq_true q18
      refine xO1 (lds := [4, 5]) 7 (xIe (lds := [4, 5]) e14.r (eApp (T := tySett) (p := g13.b) (et := 92) (bytes := 48) (xs := c.sets) (ys := (([({ x with in_ := y10 })] : List Sett) : List Sett)) 5 l0 rfl (fun w hs => t4 0 w _ hs (by kernel_rfl)) v4 (by first | omega | (simp only [List.length_cons, List.length_nil] at *; omega)) (by first | omega | (simp only [List.length_cons, List.length_nil] at *; omega))) ?_)
      rintro _ _ _ - ⟨A17, c17, k17, rfl, rfl, rfl, h17⟩
      refine kk [some 2, some 3] ?_
      have j6 := h17.len
      have l5 : ((c.sets ++ ([({ x with in_ := y10 })] : List Sett)) : List Sett).length = (c.sets).length + (([({ x with in_ := y10 })] : List Sett)).length := List.length_append
      refine xt 1 [8, 9] [] [some 2, some 3] [63, 65] RG e14.r (xO1 (lds := [4, 5]) 10 (xId (lds := [4, 5]) e14.r (eStL b_c 3 3) ?_))
      rintro _ _ _ - ⟨rfl, rfl⟩
      refine kf (xAe (lds := [4, 5]) ?_)
      have v0 := v0.mono (e12.trans e14).b
      obtain rfl := Option.some.inj hS
      exact xFin (sm [3, 4, 5]) [] (e12.trans e14) ⟨w0, j0, p0, A17, c17, k17, by kernel_rfl, by kernel_rfl, v0, h17⟩

def o26 (c : Comp) (f : Frame) (came : Bool) : Option (Comp × Sett × Bool × Int) :=
 (letJ (o45 (⟨c.number, c.node, c.sender, c.collector, c.next_, c.cycle, (c.asked), c.want⟩ : Comp) (3 : Int)) fun y3 => (cond ((y3.2 != 0)) (some (((⟨y3.1.number, y3.1.node, y3.1.sender, y3.1.collector, y3.1.next_, y3.1.cycle, (y3.1.asked), y3.1.want⟩ : Comp), (⟨0, 0, false, ([] : List UInt8)⟩ : Sett), (false), y3.2))) (letJ (o46 (⟨y3.1.number, y3.1.node, y3.1.sender, y3.1.collector, (4 : Int), y3.1.cycle, (y3.1.asked), y3.1.want⟩ : Comp)) fun y7 => (bindO (o56 y7.1.node f (came)) fun y11 => (letJ (o46 (⟨y7.1.number, y11.1, y7.1.sender, y7.1.collector, y7.1.next_, y7.1.cycle, (y7.1.asked), y7.1.want⟩ : Comp)) fun y213 => (bindO (τ := Coll × Int × Int × Int × Bool × Int × Int × Node × (List Piece)) (cond (y213.2) (letJ (τ := Int × Int × Int × Bool × Int × Int × Node × (List Piece) × Coll) (cond ((!y7.2)) (letJ (o52 (⟨y213.1.number, y213.1.node, y213.1.sender, y213.1.collector, y213.1.next_, y213.1.cycle, (y213.1.asked), y213.1.want⟩ : Comp)) fun y442 => ((y442.number, y442.next_, y442.cycle, y442.asked, y442.want.base, y442.want.have_, y442.node, y442.sender.pieces, y442.collector))) ((y213.1.number, y213.1.next_, y213.1.cycle, y213.1.asked, y213.1.want.base, y213.1.want.have_, y213.1.node, y213.1.sender.pieces, y213.1.collector))) fun t220 => (bindO (o57 t220.2.2.1 f.payload) fun y224 => (bindO (o58 t220.2.2.2.2.2.2.2.2 y224.1 (((((came && (f.label == 2)) && (f.from_ == (IntKind.u8.wrap (IntKind.i64.wrap (3 - t220.1))))) && (f.cycle == t220.2.2.1)) && (y224.2 == 0)))) fun y430 => (some (((y430 : Coll), t220.1, t220.2.1, t220.2.2.1, t220.2.2.2.1, t220.2.2.2.2.1, t220.2.2.2.2.2.1, t220.2.2.2.2.2.2.1, t220.2.2.2.2.2.2.2.1)))))) (some ((y213.1.collector, y213.1.number, y213.1.next_, y213.1.cycle, y213.1.asked, y213.1.want.base, y213.1.want.have_, y213.1.node, y213.1.sender.pieces)))) fun t216 => (some (((⟨t216.2.1, t216.2.2.2.2.2.2.2.1, (⟨t216.2.2.2.2.2.2.2.2⟩ : Sender), t216.1, t216.2.2.1, t216.2.2.2.1, (t216.2.2.2.2.1), (⟨t216.2.2.2.2.2.1, t216.2.2.2.2.2.2.1⟩ : Want)⟩ : Comp), y11.2.1, (y11.2.2.1), y11.2.2.2)))))))))
theorem c26 (g : Gh) (b_c : Nat) (c : Comp) (p0 : Nat) (i13 : OA) (j13 : Nat) (d7 : OA) (j7 : Nat) (p10 : OA) (i10 : Nat) (i0 : Nat) (j10 : OA) (z10 : Nat) (w0 : Nat) (i8 : OA) (d8 : Nat) (w9 : OB) (t9 : OA) (d9 : Nat) (z9 : OB) (f : Frame) (l0 : OA) (f0 : Nat) (came : Bool) (j17 : Arr g.b tyU8 i13 j13 c.node.input) (a15 : Arr g.b tyU8 d7 j7 c.node.heard.input) (a16 : Arr g.b tyU8 p10 i10 c.node.set_.in_) (f16 : Arr g.b tyPiece j10 z10 c.sender.pieces) (j16 : Buf g.b (tyArr tyU8) 28 (.slice i8 (c.collector.parts).length d8) w9 c.collector.parts) (t16 : Buf g.b tySett 92 (.slice t9 (c.collector.sets).length d9) z9 c.collector.sets) (v1 : Arr g.r tyU8 l0 f0 f.payload) {r : Comp × Sett × Bool × Int} (hS : o26 c f came = some r) :
  Ctr Tryz.prog 26 [vp b_c 0, (aFrame f l0 f0), vb came] g [some ⟨b_c, 77, [vi c.number, vp p0 0, vp i0 0, vp w0 0, vi c.next_, vi c.cycle, vb c.asked, vi c.want.base, vi c.want.have_]⟩, some ⟨p0, 126, (cNode c.node i13 j13 d7 j7 p10 i10)⟩, some ⟨i0, 130, [vs j10 c.sender.pieces z10]⟩, some ⟨w0, 132, (cColl c.collector i8 d8 t9 d9)⟩, w9, z9] (fun v ψ o => ∃ (i14 : OA) (a13 : Nat) (t10 : OA) (f10 : Nat) (f12 : OA) (w13 : Nat) (p12 : OA) (j12 : Nat) (p11 : OA) (j11 : Nat) (t11 : OB) (w12 : OA) (l11 : Nat) (z12 : OB) (t17 : OA) (z18 : Nat), v = Value.tuple #[(aSett r.2.1 t17 z18), vb r.2.2.1, vi r.2.2.2] ∧ o = [some ⟨b_c, 77, [vi r.1.number, vp p0 0, vp i0 0, vp w0 0, vi r.1.next_, vi r.1.cycle, vb r.1.asked, vi r.1.want.base, vi r.1.want.have_]⟩, some ⟨p0, 126, (cNode r.1.node i14 a13 t10 f10 f12 w13)⟩, some ⟨i0, 130, [vs p12 r.1.sender.pieces j12]⟩, some ⟨w0, 132, (cColl r.1.collector p11 j11 w12 l11)⟩, t11, z12] ∧ Arr ψ tyU8 i14 a13 r.1.node.input ∧ Arr ψ tyU8 t10 f10 r.1.node.heard.input ∧ Arr ψ tyU8 f12 w13 r.1.node.set_.in_ ∧ Arr ψ tyPiece p12 j12 r.1.sender.pieces ∧ Buf ψ (tyArr tyU8) 28 (.slice p11 (r.1.collector.parts).length j11) t11 r.1.collector.parts ∧ Buf ψ tySett 92 (.slice w12 (r.1.collector.sets).length l11) z12 r.1.collector.sets ∧ Arr ψ tyU8 t17 z18 r.2.1.in_) := by
 unfold o26 at hS
 refine xFn Tryz.f26 (Tryz.f26.body.getD .skip) 95 (xSq (xRg (xE eB ?_)))
 rintro _ _ _ - ⟨b1, rfl, rfl, rfl⟩
 refine xE eB ?_
 rintro _ _ _ - ⟨b2, rfl, rfl, rfl⟩
 refine xb 2 [] [0, 2, 4, 6] (xRe (xW (xSq (xSq (xRg (xb 1 [] [0, 2, 4, 6, 17] (xSel (sm [2, 3, 4, 5, 6, 7, 0, 1]) ?_)))))))
 obtain ⟨y3, hy3, hS⟩ := letJ_T hS
 refine xE (eC 6 (fun g' lr eb ln => c45 g' b_c (⟨c.number, c.node, c.sender, c.collector, c.next_, c.cycle, (c.asked), c.want⟩ : Comp) p0 i13 j13 d7 j7 p10 i10 i0 j10 z10 w0 i8 d8 w9 t9 d9 z9 (3 : Int) (by rw [eb]; exact j17) (by rw [eb]; exact a15) (by rw [eb]; exact a16) (by rw [eb]; exact f16) (by rw [eb]; exact j16) (by rw [eb]; exact t16) hy3)) ?_
 rintro _ g4 _ e5 ⟨_, rfl, v7, l7, z3, w3, z5, f4, w5, a4, d3, t3, v3, z4, j4, i4, rfl, rfl, w14, v10, l12, a12, w11, f11⟩
 refine xb 1 [] [0, 2, 4, 6, 9] (xRe (xW (xSq (xRg (xb 2 [] [0, 2, 4, 6, 9, 20] (xRe (xW ?_)))))))
 refine xCd ((y3.2 != 0)) (fun h6 => ?_) (fun h6 => ?_)
 ·have hS := cond_T h6 hS
  have h6p : ¬ (y3.2 = 0) := ne_of_bne_ h6
  refine xSq (xRg (xbo 5 [(2, 6)] [some ⟨b_c, 77, [vi y3.1.number, vp p0 0, vp i0 0, vp w0 0, vi y3.1.next_, vi y3.1.cycle, vb y3.1.asked, vi y3.1.want.base, vi y3.1.want.have_]⟩, some ⟨p0, 126, (cNode y3.1.node v7 l7 z3 w3 z5 f4)⟩, some ⟨i0, 130, [vs w5 y3.1.sender.pieces a4]⟩, some ⟨w0, 132, (cColl y3.1.collector d3 t3 z4 j4)⟩, v3, i4, some ⟨b2, 92, (cSett Z2 none 0)⟩, some ⟨b1, 49, (cFrame f l0 f0)⟩] [6, 7, 8] (xRe (xW ?_))))
  obtain rfl := Option.some.inj hS
  exact xRetC (sm [0, 1, 2, 3, 4, 5]) [(6, 6)] e5 ⟨v7, l7, z3, w3, z5, f4, w5, a4, d3, t3, v3, z4, j4, i4, none, 0, by kernel_rfl, by kernel_rfl, w14, v10, l12, a12, w11, f11, Arr.nil⟩ (fun _ _ h => h)
 ·have hS := cond_F h6 hS
  have h6p : y3.2 = 0 := eq_of_bne_false_ h6
  refine xSk (xW (xc [0, 2, 4, 6] (xSq (xRg (xbo 4 [(3, 0)] [some ⟨b_c, 77, [vi y3.1.number, vp p0 0, vp i0 0, vp w0 0, vi 4, vi y3.1.cycle, vb y3.1.asked, vi y3.1.want.base, vi y3.1.want.have_]⟩, some ⟨p0, 126, (cNode y3.1.node v7 l7 z3 w3 z5 f4)⟩, some ⟨i0, 130, [vs w5 y3.1.sender.pieces a4]⟩, some ⟨w0, 132, (cColl y3.1.collector d3 t3 z4 j4)⟩, v3, i4, some ⟨b2, 92, (cSett Z2 none 0)⟩, some ⟨b1, 49, (cFrame f l0 f0)⟩] [0, 2, 4, 6] (xRe (xW (xSq (xRg (xb 1 [] [0, 2, 4, 6, 26] ?_))))))))))
  obtain ⟨y7, hy7, hS⟩ := letJ_T hS
  refine xE (eC 6 (fun g' lr eb ln => c46 g' b_c (⟨y3.1.number, y3.1.node, y3.1.sender, y3.1.collector, (4 : Int), y3.1.cycle, (y3.1.asked), y3.1.want⟩ : Comp) p0 v7 l7 z3 w3 z5 f4 i0 w5 a4 w0 d3 t3 v3 z4 j4 i4 (by rw [eb]; exact w14) (by rw [eb]; exact v10) (by rw [eb]; exact l12) (by rw [eb]; exact a12) (by rw [eb]; exact w11) (by rw [eb]; exact f11) hy7)) ?_
  rintro _ g8 _ e9 ⟨_, rfl, j14, f13, d10, l10, v12, i12, j8, f8, d6, t6, z11, i7, p7, a11, rfl, rfl, z14, a10, t12, z8, w7, t7⟩
  refine xb 1 [] [0, 2, 4, 6, 10] (xRe (xW (xSq ?_)))
  refine xDr 0 [3, 4] [12, 13, 14] [some ⟨b_c, 77, [vi y7.1.number, vp p0 0, vp i0 0, vp w0 0, vi y7.1.next_, vi y7.1.cycle, vb y7.1.asked, vi y7.1.want.base, vi y7.1.want.have_]⟩, some ⟨i0, 130, [vs j8 y7.1.sender.pieces f8]⟩, some ⟨w0, 132, (cColl y7.1.collector d6 t6 i7 p7)⟩, some ⟨b2, 92, (cSett Z2 none 0)⟩, some ⟨b1, 49, (cFrame f l0 f0)⟩] 15 (fun RG => ?_) (fun _ _ _ _ _ h => h)
  refine xt 9 [0, 1, 2, 3, 4, 5] [(3, 0), (4, 4)] (sm [0, 2, 3, 6, 7]) [0, 2, 4, 6, 10, 32, 33, 34] RG pR ?_
  obtain ⟨y11, t20, hS⟩ := bindO_T hS
  refine wpa_meet (fun g own sl => ∃ (l3 : OA) (f3 : Nat) (j1 : OA) (z1 : Nat) (l1 : OA) (f1 : Nat) (i1 : OA) (w1 : Nat) (b14 : Nat), own = [some ⟨b14, 92, (cSett y11.2.1 i1 w1)⟩, some ⟨p0, 126, (cNode y11.1 l3 f3 j1 z1 l1 f1)⟩, some ⟨b_c, 77, [vi y7.1.number, vp p0 0, vp i0 0, vp w0 0, vi y7.1.next_, vi y7.1.cycle, vb y7.1.asked, vi y7.1.want.base, vi y7.1.want.have_]⟩, some ⟨i0, 130, [vs j8 y7.1.sender.pieces f8]⟩, some ⟨w0, 132, (cColl y7.1.collector d6 t6 i7 p7)⟩, z11, a11, some ⟨b2, 92, (cSett Z2 none 0)⟩, some ⟨b1, 49, (cFrame f l0 f0)⟩] ∧ sl = [(0, vp b_c 0), (2, vb came), (4, vp b1 0), (6, vp b2 0), (10, vb y7.2), (11, vp b14 0), (12, vb y11.2.2.1), (38, vi y11.2.2.2)] ∧ Arr g.b tyU8 i1 w1 y11.2.1.in_ ∧ Arr g.b tyU8 l3 f3 y11.1.input ∧ Arr g.b tyU8 j1 z1 y11.1.heard.input ∧ Arr g.b tyU8 l1 f1 y11.1.set_.in_) 1 [true, true, true, true, true, true, true, true, true, true, true, true, true, true, false] ?_ (fun a20 => ?_)
  ·rintro d23 _ _ w17 ⟨l3, f3, j1, z1, l1, f1, i1, w1, b14, rfl, rfl, t8, v9, j3, z6⟩
   refine xt 0 [14] [] (sm [2, 3, 4, 7, 8]) [0, 2, 4, 6, 10, 11, 12, 13] RG w17.r (xAe (lds := [3, 4]) (xW (xSq (xSq (xRg (xb 1 [] [0, 2, 4, 6, 10, 11, 12, 13, 39] (xSel (sm [2, 1, 3, 4, 5, 6, 0, 7, 8]) ?_)))))))
   have z8 := z8.mono w17.b
   have w7 := w7.mono w17.b
   have t7 := t7.mono w17.b
   obtain ⟨f15, v21, hS⟩ := letJ_T hS
   refine xE (eC 6 (fun g' lr eb ln => c46 g' b_c (⟨y7.1.number, y11.1, y7.1.sender, y7.1.collector, y7.1.next_, y7.1.cycle, (y7.1.asked), y7.1.want⟩ : Comp) p0 l3 f3 j1 z1 l1 f1 i0 j8 f8 w0 d6 t6 z11 i7 p7 a11 (by rw [eb]; exact v9) (by rw [eb]; exact j3) (by rw [eb]; exact z6) (by rw [eb]; exact z8) (by rw [eb]; exact w7) (by rw [eb]; exact t7) v21)) ?_
   rintro _ f22 _ w19 ⟨_, rfl, p9, j9, d4, t4, a6, p6, z7, v6, l5, v5, t5, w6, j6, a5, rfl, rfl, i9, v4, f6, l6, f5, i6⟩
   refine xRe (xW (xc [0, 2, 4, 6, 10, 11, 12, 13, 40] ?_))
   refine xBindO hS (fun g own sl w2 => ∃ (p8 : OA) (v8 : Nat) (a7 : OB) (l9 : OA) (w10 : Nat) (a9 : OB) (w8 : OA) (f7 : Nat) (a2 : OA) (d2 : Nat) (l4 : OA) (j5 : Nat) (p16 : OA) (i16 : Nat), own = [some ⟨w0, 132, (cColl w2.1 p8 v8 l9 w10)⟩, some ⟨b_c, 77, [vi w2.2.1, vp p0 0, vp i0 0, vp w0 0, vi w2.2.2.1, vi w2.2.2.2.1, vb w2.2.2.2.2.1, vi w2.2.2.2.2.2.1, vi w2.2.2.2.2.2.2.1]⟩, some ⟨p0, 126, (cNode w2.2.2.2.2.2.2.2.1 w8 f7 a2 d2 l4 j5)⟩, some ⟨i0, 130, [vs p16 w2.2.2.2.2.2.2.2.2 i16]⟩, some ⟨b14, 92, (cSett y11.2.1 i1 w1)⟩, some ⟨b2, 92, (cSett Z2 none 0)⟩, a7, a9] ∧ sl = [(6, vp b2 0), (11, vp b14 0), (12, vb y11.2.2.1), (13, vi y11.2.2.2)] ∧ Buf g.b (tyArr tyU8) 28 (.slice p8 (w2.1.parts).length v8) a7 w2.1.parts ∧ Buf g.b tySett 92 (.slice l9 (w2.1.sets).length w10) a9 w2.1.sets ∧ Arr g.b tyU8 w8 f7 w2.2.2.2.2.2.2.2.1.input ∧ Arr g.b tyU8 a2 d2 w2.2.2.2.2.2.2.2.1.heard.input ∧ Arr g.b tyU8 l4 j5 w2.2.2.2.2.2.2.2.1.set_.in_ ∧ Arr g.b tyPiece p16 i16 w2.2.2.2.2.2.2.2.2) ?_ ?_
   ·rintro l23 _ _ w2 j21 ⟨p8, v8, a7, l9, w10, a9, w8, f7, a2, d2, l4, j5, p16, i16, rfl, rfl, p18, a18, d18, z16, z17, z21⟩ hS
    refine xW (xSq (xRg (xbo 6 [(0, 4), (3, 5)] [some ⟨w0, 132, (cColl w2.1 p8 v8 l9 w10)⟩, some ⟨b_c, 77, [vi w2.2.1, vp p0 0, vp i0 0, vp w0 0, vi w2.2.2.1, vi w2.2.2.2.1, vb w2.2.2.2.2.1, vi w2.2.2.2.2.2.1, vi w2.2.2.2.2.2.2.1]⟩, some ⟨p0, 126, (cNode w2.2.2.2.2.2.2.2.1 w8 f7 a2 d2 l4 j5)⟩, some ⟨i0, 130, [vs p16 w2.2.2.2.2.2.2.2.2 i16]⟩, some ⟨b14, 92, (cSett y11.2.1 i1 w1)⟩, some ⟨b2, 92, (cSett y11.2.1 i1 w1)⟩, a7, a9] [6, 7, 8] (xRe (xW ?_)))))
    have t8 := t8.mono (w19.trans j21).b
    obtain rfl := Option.some.inj hS
    exact xRetC (sm [1, 2, 3, 0, 6, 7]) [(6, 5)] (e5.trans (e9.trans (w17.trans (w19.trans j21)))) ⟨w8, f7, a2, d2, l4, j5, p16, i16, p8, v8, a7, l9, w10, a9, i1, w1, by kernel_rfl, by kernel_rfl, d18, z16, z17, z21, p18, a18, t8⟩ (fun _ _ h => h)
   ·intro uu216 hS hN216
    refine xCd (f15.2) (fun i19 => ?_) (fun i19 => ?_)
    ·have hS := cond_T i19 hS
     refine xSq (xSq (xRg (xb 2 [] [0, 2, 4, 6, 11, 12, 13, 42] (xRe (xW ?_)))))
     refine xLetJ hS (fun g own sl j0 => ∃ (f2 : OA) (v2 : Nat) (d0 : OA) (v0 : Nat) (d1 : OA) (t1 : Nat) (d12 : OA) (z13 : Nat) (a3 : OA) (w4 : Nat) (a8 : OB) (i5 : OA) (d5 : Nat) (f9 : OB), own = [some ⟨b_c, 77, [vi j0.1, vp p0 0, vp i0 0, vp w0 0, vi j0.2.1, vi j0.2.2.1, vb j0.2.2.2.1, vi j0.2.2.2.2.1, vi j0.2.2.2.2.2.1]⟩, some ⟨p0, 126, (cNode j0.2.2.2.2.2.2.1 f2 v2 d0 v0 d1 t1)⟩, some ⟨i0, 130, [vs d12 j0.2.2.2.2.2.2.2.1 z13]⟩, some ⟨w0, 132, (cColl j0.2.2.2.2.2.2.2.2 a3 w4 i5 d5)⟩, some ⟨b14, 92, (cSett y11.2.1 i1 w1)⟩, some ⟨b2, 92, (cSett Z2 none 0)⟩, some ⟨b1, 49, (cFrame f l0 f0)⟩, a8, f9] ∧ sl = [(0, vp b_c 0), (2, vb came), (4, vp b1 0), (6, vp b2 0), (11, vp b14 0), (12, vb y11.2.2.1), (13, vi y11.2.2.2)] ∧ Arr g.b tyU8 f2 v2 j0.2.2.2.2.2.2.1.input ∧ Arr g.b tyU8 d0 v0 j0.2.2.2.2.2.2.1.heard.input ∧ Arr g.b tyU8 d1 t1 j0.2.2.2.2.2.2.1.set_.in_ ∧ Arr g.b tyPiece d12 z13 j0.2.2.2.2.2.2.2.1 ∧ Buf g.b (tyArr tyU8) 28 (.slice a3 (j0.2.2.2.2.2.2.2.2.parts).length w4) a8 j0.2.2.2.2.2.2.2.2.parts ∧ Buf g.b tySett 92 (.slice i5 (j0.2.2.2.2.2.2.2.2.sets).length d5) f9 j0.2.2.2.2.2.2.2.2.sets) ?_ ?_
     ·rintro z23 _ _ j0 t19 ⟨f2, v2, d0, v0, d1, t1, d12, z13, a3, w4, a8, i5, d5, f9, rfl, rfl, p13, l8, i11, j18, d13, v14⟩ hS
      refine xW (xSq ?_)
      refine xDr 0 [3, 5] [11, 12] [some ⟨b_c, 77, [vi j0.1, vp p0 0, vp i0 0, vp w0 0, vi j0.2.1, vi j0.2.2.1, vb j0.2.2.2.1, vi j0.2.2.2.2.1, vi j0.2.2.2.2.2.1]⟩, some ⟨p0, 126, (cNode j0.2.2.2.2.2.2.1 f2 v2 d0 v0 d1 t1)⟩, some ⟨i0, 130, [vs d12 j0.2.2.2.2.2.2.2.1 z13]⟩, some ⟨w0, 132, (cColl j0.2.2.2.2.2.2.2.2 a3 w4 i5 d5)⟩, some ⟨b14, 92, (cSett y11.2.1 i1 w1)⟩, some ⟨b2, 92, (cSett Z2 none 0)⟩, some ⟨b1, 49, (cFrame f l0 f0)⟩] 13 (fun RG => ?_) (fun _ _ _ _ _ h => h)
      refine xt 7 [0, 1, 2, 3, 4, 5] [(3, 0), (5, 6)] (sm [0, 1, 2, 3, 4, 5, 6]) [0, 2, 4, 6, 11, 12, 13, 49, 51] RG pR ?_
      obtain ⟨v11, f19, hS⟩ := bindO_T hS
      refine wpa_meet (fun g own sl => ∃ (j2 : OA) (z2 : Nat) (l15 : Nat), own = [some ⟨l15, 92, (cSett v11.1 j2 z2)⟩, some ⟨b_c, 77, [vi j0.1, vp p0 0, vp i0 0, vp w0 0, vi j0.2.1, vi j0.2.2.1, vb j0.2.2.2.1, vi j0.2.2.2.2.1, vi j0.2.2.2.2.2.1]⟩, some ⟨p0, 126, (cNode j0.2.2.2.2.2.2.1 f2 v2 d0 v0 d1 t1)⟩, some ⟨i0, 130, [vs d12 j0.2.2.2.2.2.2.2.1 z13]⟩, some ⟨w0, 132, (cColl j0.2.2.2.2.2.2.2.2 a3 w4 i5 d5)⟩, some ⟨b14, 92, (cSett y11.2.1 i1 w1)⟩, some ⟨b2, 92, (cSett Z2 none 0)⟩, some ⟨b1, 49, (cFrame f l0 f0)⟩, a8, f9] ∧ sl = [(0, vp b_c 0), (2, vb came), (4, vp b1 0), (6, vp b2 0), (11, vp b14 0), (12, vb y11.2.2.1), (13, vi y11.2.2.2), (14, vp l15 0), (54, vi v11.2)] ∧ Arr g.b tyU8 j2 z2 v11.1.in_) 1 [true, true, true, true, true, true, true, true, true, true, true, true, false] ?_ (fun a19 => ?_)
      ·rintro z22 _ _ w16 ⟨j2, z2, l15, rfl, rfl, d11⟩
       refine xt 0 [12] [] (sm [1, 2, 3, 4, 5, 6, 7]) [0, 2, 4, 6, 11, 12, 13, 14, 15] RG w16.r (xAe (lds := [3, 5]) (xW (xSq ?_)))
       refine xDr 0 [3, 8, 12, 19, 23] [30] [some ⟨l15, 92, (cSett v11.1 j2 z2)⟩, some ⟨b_c, 77, [vi j0.1, vp p0 0, vp i0 0, vp w0 0, vi j0.2.1, vi j0.2.2.1, vb j0.2.2.2.1, vi j0.2.2.2.2.1, vi j0.2.2.2.2.2.1]⟩, some ⟨p0, 126, (cNode j0.2.2.2.2.2.2.1 f2 v2 d0 v0 d1 t1)⟩, some ⟨i0, 130, [vs d12 j0.2.2.2.2.2.2.2.1 z13]⟩, some ⟨w0, 132, (cColl j0.2.2.2.2.2.2.2.2 a3 w4 i5 d5)⟩, some ⟨b14, 92, (cSett y11.2.1 i1 w1)⟩, some ⟨b2, 92, (cSett Z2 none 0)⟩, some ⟨b1, 49, (cFrame f l0 f0)⟩] 31 (fun RG => ?_) (fun _ _ _ _ _ h => h)
       refine xt 29 [0, 1] [] (sm [0, 1, 2, 3, 4, 5, 6, 7]) [0, 4, 6, 11, 12, 13, 14, 15, 56] RG pR ?_
       refine wpa_grp 25 [true, true, true, true, true, true, false, false, false, false, false, false, false, false, false, false, false, false, false, false, false, false, false, false, false, false, false, false, false, false, false] [(0, vp b_c 0), (4, vp b1 0), (6, vp b2 0), (11, vp b14 0), (12, vb y11.2.2.1), (13, vi y11.2.2.2), (14, vp l15 0), (15, vi v11.2), (60, vb (came && (f.label == 2)))] (fun hk1 => ?_) ?_
       ·refine wpq_split 56 (b := came) (by kernel_rfl) (fun p19 => ?_) (fun p19 => ?_)
        ·refine xt 25 [2, 3, 4, 5] [(3, 7)] (sm [0, 1, 2, 3, 4, 5, 6, 7]) [0, 4, 6, 11, 12, 13, 14, 15, 60] RG pR ?_
         refine wpq_re 60 (v := vb (f.label == 2)) (Value.bool ((came && (f.label == 2)))) (by kernel_rfl) (re_and1 p19) ?_
         exact wpq_sub _ (by kernel_rfl) hk1
        ·refine xt 25 [2, 3, 4, 5] [] (sm [0, 1, 2, 3, 4, 5, 6, 7]) [0, 4, 6, 11, 12, 13, 14, 15, 60] RG pR ?_
         refine wpq_re 60 (v := vb false) (Value.bool ((came && (f.label == 2)))) (by kernel_rfl) (re_and0 p19) ?_
         exact wpq_sub _ (by kernel_rfl) hk1
       ·refine xt 24 [6] [] (sm [0, 1, 2, 3, 4, 5, 6, 7]) [0, 4, 6, 11, 12, 13, 14, 15, 61] RG pR ?_
        refine wpa_grp 14 [true, true, true, true, true, true, true, true, true, true, true, true, true, true, true, true, true, false, false, false, false, false, false, false, false, false, false, false, false, false, false] [(0, vp b_c 0), (4, vp b1 0), (6, vp b2 0), (11, vp b14 0), (12, vb y11.2.2.1), (13, vi y11.2.2.2), (14, vp l15 0), (15, vi v11.2), (71, vb ((came && (f.label == 2)) && (f.from_ == (IntKind.u8.wrap (IntKind.i64.wrap (3 - j0.1))))))] (fun hk6 => ?_) ?_
        ·refine wpq_split 61 (b := (came && (f.label == 2))) (by kernel_rfl) (fun v17 => ?_) (fun v17 => ?_)
         ·have v22 := (and_true_ v17).1
          have d21 := (and_true_ v17).2
          have d22 : f.label = 2 := eq_of_beq d21
          refine xt 14 [7, 8, 9, 10, 11, 12, 13, 14, 15, 16] [(8, 7), (12, 1)] (sm [0, 1, 2, 3, 4, 5, 6, 7]) [0, 4, 6, 11, 12, 13, 14, 15, 71] RG pR (wpq_re 71 (v := vb (f.from_ == (IntKind.u8.wrap (IntKind.i64.wrap (3 - j0.1))))) (Value.bool (((came && (f.label == 2)) && (f.from_ == (IntKind.u8.wrap (IntKind.i64.wrap (3 - j0.1))))))) (by kernel_rfl) (re_and1 v17) ?_)
          exact wpq_sub _ (by kernel_rfl) hk6
         ·refine xt 14 [7, 8, 9, 10, 11, 12, 13, 14, 15, 16] [] (sm [0, 1, 2, 3, 4, 5, 6, 7]) [0, 4, 6, 11, 12, 13, 14, 15, 71] RG pR ?_
          refine wpq_re 71 (v := vb false) (Value.bool (((came && (f.label == 2)) && (f.from_ == (IntKind.u8.wrap (IntKind.i64.wrap (3 - j0.1))))))) (by kernel_rfl) (re_and0 v17) ?_
          exact wpq_sub _ (by kernel_rfl) hk6
        ·refine xt 13 [17] [] (sm [0, 1, 2, 3, 4, 5, 6, 7]) [0, 4, 6, 11, 12, 13, 14, 15, 72] RG pR ?_
         refine wpa_grp 5 [true, true, true, true, true, true, true, true, true, true, true, true, true, true, true, true, true, true, true, true, true, true, true, true, true, true, false, false, false, false, false] [(0, vp b_c 0), (6, vp b2 0), (11, vp b14 0), (12, vb y11.2.2.1), (13, vi y11.2.2.2), (14, vp l15 0), (15, vi v11.2), (80, vb (((came && (f.label == 2)) && (f.from_ == (IntKind.u8.wrap (IntKind.i64.wrap (3 - j0.1))))) && (f.cycle == j0.2.2.1)))] (fun v20 => ?_) ?_
         ·refine wpq_split 72 (b := ((came && (f.label == 2)) && (f.from_ == (IntKind.u8.wrap (IntKind.i64.wrap (3 - j0.1)))))) (by kernel_rfl) (fun d17 => ?_) (fun d17 => ?_)
          ·have f21 := (and_true_ d17).1
           have p21 := (and_true_ d17).2
           have z20 := (and_true_ f21).2
           have j22 : f.label = 2 := eq_of_beq z20
           have t22 : f.from_ = (IntKind.u8.wrap (IntKind.i64.wrap (3 - j0.1))) := eq_of_beq p21
           refine xt 5 [18, 19, 20, 21, 22, 23, 24, 25] [(19, 7), (23, 1)] (sm [0, 1, 2, 3, 4, 5, 6, 7]) [0, 6, 11, 12, 13, 14, 15, 80] RG pR (wpq_re 80 (v := vb (f.cycle == j0.2.2.1)) (Value.bool ((((came && (f.label == 2)) && (f.from_ == (IntKind.u8.wrap (IntKind.i64.wrap (3 - j0.1))))) && (f.cycle == j0.2.2.1)))) (by kernel_rfl) (re_and1 d17) ?_)
           exact wpq_sub _ (by kernel_rfl) v20
          ·refine xt 5 [18, 19, 20, 21, 22, 23, 24, 25] [] (sm [0, 1, 2, 3, 4, 5, 6, 7]) [0, 6, 11, 12, 13, 14, 15, 80] RG pR ?_
           refine wpq_re 80 (v := vb false) (Value.bool ((((came && (f.label == 2)) && (f.from_ == (IntKind.u8.wrap (IntKind.i64.wrap (3 - j0.1))))) && (f.cycle == j0.2.2.1)))) (by kernel_rfl) (re_and0 d17) ?_
           exact wpq_sub _ (by kernel_rfl) v20
         ·refine xt 4 [26] [] (sm [0, 1, 2, 3, 4, 5, 6, 7]) [0, 6, 11, 12, 13, 14, 15, 81] RG pR ?_
          refine wpa_grp 1 [true, true, true, true, true, true, true, true, true, true, true, true, true, true, true, true, true, true, true, true, true, true, true, true, true, true, true, true, true, true, false] [(0, vp b_c 0), (6, vp b2 0), (11, vp b14 0), (12, vb y11.2.2.1), (13, vi y11.2.2.2), (14, vp l15 0), (84, vb ((((came && (f.label == 2)) && (f.from_ == (IntKind.u8.wrap (IntKind.i64.wrap (3 - j0.1))))) && (f.cycle == j0.2.2.1)) && (v11.2 == 0)))] (fun p20 => ?_) ?_
          ·refine wpq_split 81 (b := (((came && (f.label == 2)) && (f.from_ == (IntKind.u8.wrap (IntKind.i64.wrap (3 - j0.1))))) && (f.cycle == j0.2.2.1))) (by kernel_rfl) (fun p17 => ?_) (fun p17 => ?_)
           ·have l19 := (and_true_ p17).1
            have l21 := (and_true_ p17).2
            have j20 := (and_true_ l19).1
            have f20 := (and_true_ l19).2
            have w20 := (and_true_ j20).2
            have w22 : f.label = 2 := eq_of_beq w20
            have i22 : f.from_ = (IntKind.u8.wrap (IntKind.i64.wrap (3 - j0.1))) := eq_of_beq f20
            have p22 : f.cycle = j0.2.2.1 := eq_of_beq l21
            refine xt 1 [27, 28, 29] [] (sm [0, 1, 2, 3, 4, 5, 6, 7]) [0, 6, 11, 12, 13, 14, 84] RG pR (wpq_re 84 (v := vb (v11.2 == 0)) (Value.bool (((((came && (f.label == 2)) && (f.from_ == (IntKind.u8.wrap (IntKind.i64.wrap (3 - j0.1))))) && (f.cycle == j0.2.2.1)) && (v11.2 == 0)))) (by kernel_rfl) (re_and1 p17) ?_)
            exact wpq_sub _ (by kernel_rfl) p20
           ·refine xt 1 [27, 28, 29] [] (sm [0, 1, 2, 3, 4, 5, 6, 7]) [0, 6, 11, 12, 13, 14, 84] RG pR ?_
            refine wpq_re 84 (v := vb false) (Value.bool (((((came && (f.label == 2)) && (f.from_ == (IntKind.u8.wrap (IntKind.i64.wrap (3 - j0.1))))) && (f.cycle == j0.2.2.1)) && (v11.2 == 0)))) (by kernel_rfl) (re_and0 p17) ?_
            exact wpq_sub _ (by kernel_rfl) p20
          ·refine xt 0 [30] [] (sm [0, 1, 2, 3, 4, 5, 6, 7]) [0, 6, 11, 12, 13, 14, 16] RG pR ?_
           refine xAe (lds := [3, 8, 12, 19, 23]) (xW ?_)
           refine xDr 0 [3, 4] [] [some ⟨l15, 92, (cSett v11.1 j2 z2)⟩, some ⟨b_c, 77, [vi j0.1, vp p0 0, vp i0 0, vp w0 0, vi j0.2.1, vi j0.2.2.1, vb j0.2.2.2.1, vi j0.2.2.2.2.1, vi j0.2.2.2.2.2.1]⟩, some ⟨p0, 126, (cNode j0.2.2.2.2.2.2.1 f2 v2 d0 v0 d1 t1)⟩, some ⟨i0, 130, [vs d12 j0.2.2.2.2.2.2.2.1 z13]⟩, some ⟨b14, 92, (cSett y11.2.1 i1 w1)⟩, some ⟨b2, 92, (cSett Z2 none 0)⟩, some ⟨b1, 49, (cFrame f l0 f0)⟩] 7 (fun RG => ?_) (fun _ _ _ _ _ h => h)
           refine xt 1 [0, 1, 2, 3, 4, 5] [(3, 1), (4, 0)] (sm [0, 1, 2, 3, 5, 6, 7]) [6, 11, 12, 13, 88, 89, 90] RG pR (xSel (sm [4, 8, 9, 0, 1, 2, 3, 5, 6, 7]) ?_)
           have d13 := d13.mono w16.b
           have v14 := v14.mono w16.b
           obtain ⟨w23, i21, hS⟩ := bindO_T hS
           refine xO1 (lds := [3, 4]) 6 (xIe (lds := [3, 4]) pR (eC 3 (fun g' lr eb ln => c58 g' w0 j0.2.2.2.2.2.2.2.2 a3 w4 a8 i5 d5 f9 v11.1 j2 z2 (((((came && (f.label == 2)) && (f.from_ == (IntKind.u8.wrap (IntKind.i64.wrap (3 - j0.1))))) && (f.cycle == j0.2.2.1)) && (v11.2 == 0))) (by rw [eb]; exact d13) (by rw [eb]; exact v14) ((d11.mono z22.br).mono lr) i21)) ?_)
           rintro _ t23 _ i18 ⟨_, rfl, l17, w18, f17, f18, l18, t18, rfl, rfl, a17, v18⟩
           refine kk (sm [3, 4, 5, 6, 7, 8, 9]) (xAe (lds := [3, 4]) ?_)
           have p13 := p13.mono (w16.trans i18).b
           have l8 := l8.mono (w16.trans i18).b
           have i11 := i11.mono (w16.trans i18).b
           have j18 := j18.mono (w16.trans i18).b
           refine xSel (sm [0, 4, 5, 6, 7, 8, 1, 2]) (xc [6, 11, 12, 13] ?_)
           have eS := (Option.some.inj hS).symm
           exact hN216 _ eS _ _ _ (t19.trans (w16.trans i18)) ⟨l17, w18, f17, f18, l18, t18, f2, v2, d0, v0, d1, t1, d12, z13, by kernel_rfl, by kernel_rfl, a17, v18, p13, l8, i11, j18⟩
      ·refine xO2 (lds := [3, 5]) 6 10 ?_ ?_
       ·have v1 := v1.mono (e5.trans (e9.trans (w17.trans (w19.trans t19)))).r
        refine xIe (lds := [3, 5]) pR (eC 0 (fun g' lr eb ln => c57 g' j0.2.2.1 f.payload l0 f0 (v1.mono lr) f19)) ?_
        rintro _ a22 _ j19 ⟨_, rfl, j2, z2, rfl, rfl, d11⟩
        refine kk (sm [0, 1, 2, 3, 4, 5, 6]) (xt 3 [7, 8, 9] [] (sm [0, 1, 2, 3, 4, 5, 6]) [0, 2, 4, 6, 11, 12, 13, 53, 54] RG j19.r (xO1 (lds := [3, 5]) 10 (xIe (lds := [3, 5]) j19.r eB ?_)))
        rintro _ _ _ - ⟨w21, rfl, rfl, rfl⟩
        refine kk (sm [1, 2, 3, 4, 5, 6, 7]) (xO1 (lds := [3, 5]) 11 (xId (lds := [3, 5]) j19.r (eStL w21 0 0) ?_))
        rintro _ _ _ - ⟨rfl, rfl⟩
        refine kf (xc [0, 2, 4, 6, 11, 12, 13, 14, 54] ?_)
        exact a19 _ _ _ j19 ⟨j2, z2, w21, by kernel_rfl, by kernel_rfl, d11⟩
       ·refine xIe (lds := [3, 5]) pR eB ?_
        rintro _ _ _ - ⟨d20, rfl, rfl, rfl⟩
        refine kk (sm [1, 2, 3, 4, 5, 6, 7]) ?_
        have v1 := v1.mono (e5.trans (e9.trans (w17.trans (w19.trans t19)))).r
        refine xO1 (lds := [3, 5]) 6 (xIe (lds := [3, 5]) pR (eC 0 (fun g' lr eb ln => c57 g' j0.2.2.1 f.payload l0 f0 (v1.mono lr) f19)) ?_)
        rintro _ l22 _ d19 ⟨_, rfl, j2, z2, rfl, rfl, d11⟩
        refine kk (sm [1, 2, 3, 4, 5, 6, 7]) (xt 2 [7, 8, 9] [] (sm [1, 2, 3, 4, 5, 6, 7]) [0, 2, 4, 6, 11, 12, 13, 14, 53, 54] RG d19.r (xO1 (lds := [3, 5]) 11 (xId (lds := [3, 5]) d19.r (eStL d20 0 0) ?_)))
        rintro _ _ _ - ⟨rfl, rfl⟩
        refine kf (xc [0, 2, 4, 6, 11, 12, 13, 14, 54] ?_)
        exact a19 _ _ _ d19 ⟨j2, z2, d20, by kernel_rfl, by kernel_rfl, d11⟩
     ·intro uu220 hS hN220
      refine xCd ((!y7.2)) (fun v19 => ?_) (fun v19 => ?_)
      ·have hS := cond_T v19 hS
       refine xRg (xb 1 [] [0, 2, 4, 6, 11, 12, 13, 43] ?_)
       obtain ⟨p23, t21, hS⟩ := letJ_T hS
       refine xE (eC 6 (fun g' lr eb ln => c52 g' b_c (⟨f15.1.number, f15.1.node, f15.1.sender, f15.1.collector, f15.1.next_, f15.1.cycle, (f15.1.asked), f15.1.want⟩ : Comp) p0 p9 j9 d4 t4 a6 p6 i0 z7 v6 w0 l5 v5 t5 w6 j6 a5 (by rw [eb]; exact i9) (by rw [eb]; exact v4) (by rw [eb]; exact f6) (by rw [eb]; exact l6) (by rw [eb]; exact f5) (by rw [eb]; exact i6) t21)) ?_
       rintro _ v23 _ a21 ⟨_, rfl, d16, l16, t13, v13, j15, t15, p15, v15, l14, t14, p14, w15, a14, z15, rfl, rfl, v16, l13, i15, d15, d14, f14⟩
       refine xRe (xSel (sm [0, 1, 2, 3, 6, 7, 8, 4, 5]) (xc [0, 2, 4, 6, 11, 12, 13] ?_))
       have eS := hS.symm
       exact hN220 _ eS _ _ _ a21 ⟨d16, l16, t13, v13, j15, t15, p15, v15, l14, t14, p14, w15, a14, z15, by kernel_rfl, by kernel_rfl, v16, l13, i15, d15, d14, f14⟩
      ·have hS := cond_F v19 hS
       refine xSk (xSel (sm [0, 1, 2, 3, 6, 7, 8, 4, 5]) (xc [0, 2, 4, 6, 11, 12, 13] ?_))
       have eS := hS.symm
       exact hN220 _ eS _ _ _ gR ⟨p9, j9, d4, t4, a6, p6, z7, v6, l5, v5, t5, w6, j6, a5, by kernel_rfl, by kernel_rfl, i9, v4, f6, l6, f5, i6⟩
    ·have hS := cond_F i19 hS
     refine xSk (xSel (sm [3, 0, 1, 2, 6, 7, 4, 5]) (xc [6, 11, 12, 13] ?_))
     have eS := (Option.some.inj hS).symm
     exact hN216 _ eS _ _ _ gR ⟨l5, v5, t5, w6, j6, a5, p9, j9, d4, t4, a6, p6, z7, v6, by kernel_rfl, by kernel_rfl, f5, i6, i9, v4, f6, l6⟩
  ·refine xO2 (lds := [3, 4]) 6 11 ?_ ?_
   ·refine xSel (sm [1, 0, 2, 3, 4, 5, 6, 7]) ?_
    have v1 := v1.mono (e5.trans e9).r
    refine xIe (lds := [3, 4]) pR (eC 1 (fun g' lr eb ln => c56 g' p0 y7.1.node j14 f13 d10 l10 v12 i12 f l0 f0 (came) (by rw [eb]; exact z14) (by rw [eb]; exact a10) (by rw [eb]; exact t12) (v1.mono lr) t20)) ?_
    rintro _ i23 _ i17 ⟨_, rfl, l3, f3, j1, z1, l1, f1, i1, w1, rfl, rfl, v9, j3, z6, t8⟩
    refine kk (sm [1, 2, 3, 6, 7]) (xt 4 [7, 8, 9, 10] [] (sm [1, 2, 3, 6, 7]) [0, 2, 4, 6, 10, 36, 37, 38] RG i17.r (xO1 (lds := [3, 4]) 11 (xIe (lds := [3, 4]) i17.r eB ?_)))
    rintro _ _ _ - ⟨l20, rfl, rfl, rfl⟩
    refine kk (sm [2, 3, 4, 7, 8]) (xO1 (lds := [3, 4]) 12 (xId (lds := [3, 4]) i17.r (eStL l20 0 0) ?_))
    rintro _ _ _ - ⟨rfl, rfl⟩
    refine kf (xt 1 [13] [] (sm [2, 3, 4, 7, 8]) [0, 2, 4, 6, 10, 11, 12, 38] RG i17.r (xc [0, 2, 4, 6, 10, 11, 12, 38] ?_))
    exact a20 _ _ _ i17 ⟨l3, f3, j1, z1, l1, f1, i1, w1, l20, by kernel_rfl, by kernel_rfl, t8, v9, j3, z6⟩
   ·refine xIe (lds := [3, 4]) pR eB ?_
    rintro _ _ _ - ⟨i20, rfl, rfl, rfl⟩
    refine kk (sm [1, 3, 4, 7, 8]) (xSel (sm [2, 0, 1, 3, 4, 5, 6, 7, 8]) ?_)
    have v1 := v1.mono (e5.trans e9).r
    refine xO1 (lds := [3, 4]) 6 (xIe (lds := [3, 4]) pR (eC 1 (fun g' lr eb ln => c56 g' p0 y7.1.node j14 f13 d10 l10 v12 i12 f l0 f0 (came) (by rw [eb]; exact z14) (by rw [eb]; exact a10) (by rw [eb]; exact t12) (v1.mono lr) t20)) ?_)
    rintro _ j23 _ z19 ⟨_, rfl, l3, f3, j1, z1, l1, f1, i1, w1, rfl, rfl, v9, j3, z6, t8⟩
    refine kk (sm [2, 3, 4, 7, 8]) (xt 3 [7, 8, 9, 10] [] (sm [2, 3, 4, 7, 8]) [0, 2, 4, 6, 10, 11, 36, 37, 38] RG z19.r (xO1 (lds := [3, 4]) 12 (xId (lds := [3, 4]) z19.r (eStL i20 0 1) ?_)))
    rintro _ _ _ - ⟨rfl, rfl⟩
    refine kf (xt 1 [13] [] (sm [2, 3, 4, 7, 8]) [0, 2, 4, 6, 10, 11, 12, 38] RG z19.r (xSel (sm [1, 0, 2, 3, 4, 5, 6, 7, 8]) (xc [0, 2, 4, 6, 10, 11, 12, 38] ?_)))
    exact a20 _ _ _ z19 ⟨l3, f3, j1, z1, l1, f1, i1, w1, i20, by kernel_rfl, by kernel_rfl, t8, v9, j3, z6⟩

def o61 (cycle : Int) (p : List UInt8) : Option (Sett × Int) :=
 (bindO (τ := Bool) (cond (decide ((((p).length : Nat) : Int) < 9)) (some (true)) (bindO (o99 ((List.take 8 p) : List UInt8)) fun y241 => (some (decide (y241 < 0))))) fun t2 => (bindO (τ := Bool) (cond (t2) (some (true)) (grd (decide (8 < (p).length)) (some (decide (((List.getD p 8 0).toNat : Int) > 1))))) fun t5 => (cond (t5) (some (((⟨0, 0, false, ([] : List UInt8)⟩ : Sett), (4 : Int)))) (grd (decide (9 ≤ (((p).length : Nat) : Int))) (bindO (o100 ((List.drop 9 p) : List UInt8)) fun y11 => (cond ((y11.2.2.2.2 != 0)) (some (((⟨0, 0, false, ([] : List UInt8)⟩ : Sett), (4 : Int)))) (grd (decide (8 ≤ (((p).length : Nat) : Int))) (grd (decide (8 < (p).length)) (grd (decide (9 ≤ (((p).length : Nat) : Int))) (bindO (o99 ((List.take 8 p) : List UInt8)) fun y22 => (some (((⟨y22, cycle, (((List.getD p 8 0).toNat : Int) == 1), (List.drop 9 p)⟩ : Sett), (0 : Int))))))))))))))
theorem c61 (g : Gh) (cycle : Int) (p : List UInt8) (Ap : OA) (cp : Nat) (fp : Arr g.b tyU8 Ap cp p) {r : Sett × Int} (hS : o61 cycle p = some r) :
  Ctr Tryz.prog 61 [vi cycle, vs Ap p cp] g [] (fun v ψ o => ∃ (p0 : OA) (i0 : Nat), v = Value.tuple #[(aSett r.1 p0 i0), vi r.2] ∧ o = [] ∧ Arr ψ tyU8 p0 i0 r.1.in_) := by
 unfold o61 at hS
 refine xFn Tryz.f61 (Tryz.f61.body.getD .skip) 52 ?_
 have nfp := fp.len
 refine xSq (xRg (xE eB ?_))
 rintro _ _ _ - ⟨b1, rfl, rfl, rfl⟩
 refine xb 1 [] [0, 1, 4] (xRe (xW (xSq (xSq (xRg (xb 4 [] [0, 1, 4, 14] ?_))))))
 refine xGJo hS 9 (fun g own sl t2 => own = [some ⟨b1, 95, (cSett Z2 none 0)⟩] ∧ sl = [(0, vi cycle), (1, vs Ap p cp), (4, vp b1 0), (19, vb t2)]) ?_ ?_
 ·rintro g3 _ _ t2 e4 ⟨rfl, rfl⟩ hS
  refine xb 1 [] [0, 1, 4, 20] ?_
  refine xGJo hS 15 (fun g own sl t5 => own = [some ⟨b1, 95, (cSett Z2 none 0)⟩] ∧ sl = [(0, vi cycle), (1, vs Ap p cp), (4, vp b1 0), (25, vb t5)]) ?_ ?_
  ·rintro g6 _ _ t5 e7 ⟨rfl, rfl⟩ hS
   refine xRe (xW ?_)
   refine xCd (t5) (fun h8 => ?_) (fun h8 => ?_)
   ·have hS := cond_T h8 hS
    refine xSq (xRg (xbo 3 [(1, 0)] [some ⟨b1, 95, (cSett Z2 none 0)⟩] [4, 5] (xRe (xW ?_))))
    obtain rfl := Option.some.inj hS
    exact xRetC [] [(4, 0)] (e4.trans e7) ⟨none, 0, by kernel_rfl, by kernel_rfl, Arr.nil⟩ (fun _ _ h => h)
   ·have hS := cond_F h8 hS
    refine xSk (xW (xc [0, 1, 4] (xSq (xRg ?_))))
    have fp := fp.mono (e4.trans e7).b
    obtain ⟨q9, hS⟩ := grd_T hS
    have q9p := of_decide_eq_true q9
    have p6 := fp.cap
    have f10 : Arr g6.b tyU8 (offA Ap cp 9 1) (cp - 9) (List.drop 9 p) := fp.cut_from 9 (by omega)
    have t8 := f10.len
    have z3 : (p).length - 9 = ((List.drop 9 p)).length := by simp only [List.length_take, List.length_drop] <;> omega
    have a6 : ((((List.drop 9 p)).length : Nat) : Int) = (((p).length : Nat) : Int) - 9 := by omega
    refine xb 1 [] [0, 1, 4, 28] (xV (qSl (m := 1) (A := Ap) (len := (p).length) (c := cp) 9 (p).length (some 9) none ((List.drop 9 p)).length rfl rfl (by omega) (by omega) z3) ?_)
    obtain ⟨y11, a5, hS⟩ := bindO_T hS
    refine xE (eC 0 (fun g' lr eb ln => c100 g' ((List.drop 9 p) : List UInt8) (offA Ap cp 9 1) (cp - 9) (by rw [eb]; exact f10) a5)) ?_
    rintro _ g12 _ e13 ⟨_, rfl, f6, l7, j1, i7, d7, i1, rfl, rfl, d3, a3⟩
    have v6 := d3.len
    have t6 := a3.len
    refine xb 11 [] [0, 1, 4, 10] (xRe (xW (xSq (xSq (xRg (xb 2 [] [0, 1, 4, 37] (xRe (xW ?_))))))))
    refine xCd ((y11.2.2.2.2 != 0)) (fun h14 => ?_) (fun h14 => ?_)
    ·have hS := cond_T h14 hS
     have w6 : ¬ (y11.2.2.2.2 = 0) := ne_of_bne_ h14
     refine xSq (xRg (xbo 3 [(1, 2)] [j1, i1, some ⟨b1, 95, (cSett Z2 none 0)⟩] [4, 5] (xRe (xW ?_))))
     obtain rfl := Option.some.inj hS
     exact xRetC [] [(4, 2)] (e4.trans (e7.trans e13)) ⟨none, 0, by kernel_rfl, by kernel_rfl, Arr.nil⟩ (fun _ _ h => h)
    ·have hS := cond_F h14 hS
     have w6 : y11.2.2.2.2 = 0 := eq_of_bne_false_ h14
     refine xSk (xW (xc [0, 1, 4] (xSq ?_)))
     refine xDr 0 [6] [13, 7, 14] [] 15 (fun RG => ?_) (fun _ _ _ _ _ h => h)
     have fp := fp.mono e13.b
     obtain ⟨q15, hS⟩ := grd_T hS
     have a7 := of_decide_eq_true q15
     have d6 := fp.cap
     have f16 : Arr g12.b tyU8 (offA Ap cp 0 1) (cp - 0) (List.take 8 p) := fp.cut_to 8 (by omega)
     have f7 := f16.len
     have f2 : 8 - 0 = ((List.take 8 p)).length := by simp only [List.length_take, List.length_drop] <;> omega
     have t7 : ((((List.take 8 p)).length : Nat) : Int) = 8 - 0 := by omega
     refine xt 14 [0] [] [] [0, 1, 4, 39] RG pR (xTp 1 RG (fun _ => (qSl (m := 1) (A := Ap) (len := (p).length) (c := cp) 0 8 none (some 8) ((List.take 8 p)).length rfl rfl (by omega) (by omega) f2)) ?_)
     obtain ⟨q18, hS⟩ := grd_T hS
     have t1 := of_decide_eq_true q18
     obtain ⟨l5, j5, f5, l0, z6⟩ := fp.at_ (get_getD (d := 0) t1)
     have l0 : j5 = [vy ((List.getD p 8 0).toNat : Int)] := l0
     subst l0
     have j8 := UInt8.toNat_lt (List.getD p 8 0)
     refine xt 11 [3, 4] [] [] [1, 4, 40, 42, 43] RG pR (xTp 5 RG (fun _ => (qIx 8 1 f5 rfl t1)) (xTv 6 [] RG pR (qLdP (Addr.add l5 (8 * 1)) 0 (z6.mono g12.br)) ?_))
     obtain ⟨q19, hS⟩ := grd_T hS
     have i8 := of_decide_eq_true q19
     have i6 := fp.cap
     have f20 : Arr g12.b tyU8 (offA Ap cp 9 1) (cp - 9) (List.drop 9 p) := fp.cut_from 9 (by omega)
     have v8 := f20.len
     have f3 : (p).length - 9 = ((List.drop 9 p)).length := by simp only [List.length_take, List.length_drop] <;> omega
     have p7 : ((((List.drop 9 p)).length : Nat) : Int) = (((p).length : Nat) : Int) - 9 := by omega
     refine xt 7 [7, 9] [] [] [4, 40, 42, 46, 48] RG pR (xTp 10 RG (fun _ => (qSl (m := 1) (A := Ap) (len := (p).length) (c := cp) 9 (p).length (some 9) none ((List.drop 9 p)).length rfl rfl (by omega) (by omega) f3)) ?_)
     obtain ⟨y22, w2, hS⟩ := bindO_T hS
     refine wpa_meet (fun g own sl => ∃ (A25 : OA) (c25 : Nat) (k25 : OB), own = [k25, j1, i1, some ⟨b1, 95, (cSett Z2 none 0)⟩] ∧ sl = [(4, vp b1 0), (41, vi y22), (42, vi cycle), (46, vb (((List.getD p 8 0).toNat : Int) == 1)), (47, vs A25 ([] : List UInt8) c25), (49, vs (offA Ap cp 9 1) (List.drop 9 p) (cp - 9))] ∧ Buf g.b tyU8 5 (.slice A25 (([] : List UInt8)).length c25) k25 ([] : List UInt8)) 4 [true, true, true, true, true, true, true, true, true, true, true, false, false, false, false] ?_ (fun v1 => ?_)
     ·rintro j2 _ _ w0 ⟨A25, c25, k25, rfl, rfl, h25⟩
      have p8 := h25.len
      have f20 := f20.mono w0.b
      obtain ⟨w7, l3, w3⟩ := f20.srcB
      refine xO1 (lds := [6]) 11 (xIe (lds := [6]) w0.r (eApp (T := tyU8) (p := j2.b) (et := 5) (bytes := 1) (xs := ([] : List UInt8)) (ys := ((List.drop 9 p) : List UInt8)) 0 h25 rfl (fun w hs => w3 w _ hs) l3 (by first | omega | (simp only [List.length_cons, List.length_nil] at *; omega)) (by first | omega | (simp only [List.length_cons, List.length_nil] at *; omega))) ?_)
      rintro _ _ _ - ⟨d1, l1, v4, rfl, rfl, rfl, d0⟩
      refine kk [] ?_
      have d0 : Buf j2.b tyU8 5 (.slice d1 (((List.drop 9 p) : List UInt8)).length l1) v4 ((List.drop 9 p) : List UInt8) := d0
      have z7 := d0.len
      refine xt 2 [12] [] [] [4, 51] RG w0.r (xO1 (lds := [6]) 13 (xId (lds := [6]) w0.r (eStL b1 0 3) ?_))
      rintro _ _ _ - ⟨rfl, rfl⟩
      refine kf (xt 0 [14] [] [] [4, 5] RG w0.r (xAe (lds := [6]) (xW ?_)))
      refine wpq_freeze 0 (by kernel_rfl) d0 (fun l8 i4 i5 => ?_)
      obtain rfl := Option.some.inj hS
      exact xRetC [] [(4, 3)] (e4.trans (e7.trans (e13.trans (w0.trans i4)))) ⟨d1, l1, by kernel_rfl, by kernel_rfl, i5⟩ (fun _ _ h => h)
     ·refine xO2 (lds := [6]) 2 8 ?_ ?_
      ·refine xIe (lds := [6]) pR (eC 0 (fun g' lr eb ln => c99 g' ((List.take 8 p) : List UInt8) (offA Ap cp 0 1) (cp - 0) ((f16.mono g12.br).mono lr) w2)) ?_
       rintro _ v5 _ d2 ⟨_, rfl, rfl, rfl⟩
       refine kk [] (xO1 (lds := [6]) 8 (xIe (lds := [6]) d2.r (eBs (T := tyU8) (p := v5.b) (et := 5) (xs := ([] : List UInt8)) reps_nil (by simp)) ?_))
       rintro _ _ _ - ⟨d4, f4, w5, rfl, rfl, rfl, j6⟩
       refine kk [] (xc [4, 41, 42, 46, 47, 49] ?_)
       exact v1 _ _ _ d2 ⟨d4, f4, w5, by kernel_rfl, by kernel_rfl, j6⟩
      ·refine xIe (lds := [6]) pR (eBs (T := tyU8) (p := g12.b) (et := 5) (xs := ([] : List UInt8)) reps_nil (by simp)) ?_
       rintro _ _ _ - ⟨t4, a4, l4, rfl, rfl, rfl, f0⟩
       refine kk [] (xO1 (lds := [6]) 2 (xIe (lds := [6]) pR (eC 0 (fun g' lr eb ln => c99 g' ((List.take 8 p) : List UInt8) (offA Ap cp 0 1) (cp - 0) ((f16.mono g12.br).mono lr) w2)) ?_))
       rintro _ w8 _ v2 ⟨_, rfl, rfl, rfl⟩
       refine kk [] (xc [4, 41, 42, 46, 47, 49] ?_)
       have f0 := f0.mono v2.b
       exact v1 _ _ _ v2 ⟨t4, a4, l4, by kernel_rfl, by kernel_rfl, f0⟩
  ·intro uu5 hS hN5
   refine wpq_split 20 (b := t2) (by kernel_rfl) (fun w1 => ?_) (fun w1 => ?_)
   ·have hS := cond_T w1 hS
    refine xb 5 [] [0, 1, 4, 25] (xc [0, 1, 4, 25] ?_)
    exact hN5 _ (Option.some.inj hS).symm _ _ _ gR ⟨by kernel_rfl, by kernel_rfl⟩
   ·have hS := cond_F w1 hS
    have fp := fp.mono e4.b
    obtain ⟨j4, hS⟩ := grd_T hS
    have z1 := of_decide_eq_true j4
    obtain ⟨j3, a2, w4, v0, t3⟩ := fp.at_ (get_getD (d := 0) z1)
    have v0 : a2 = [vy ((List.getD p 8 0).toNat : Int)] := v0
    subst v0
    have j7 := UInt8.toNat_lt (List.getD p 8 0)
    refine xb 1 [] [0, 1, 4, 20, 21] (xV (qIx 8 1 w4 rfl z1) (xV (qLdP (Addr.add j3 (8 * 1)) 0 (t3.mono g3.br)) (xb 2 [] [0, 1, 4, 25] (xc [0, 1, 4, 25] ?_))))
    exact hN5 _ (Option.some.inj hS).symm _ _ _ gR ⟨by kernel_rfl, by kernel_rfl⟩
 ·intro uu2 hS hN2
  refine wpq_split 14 (b := decide ((((p).length : Nat) : Int) < 9)) (by kernel_rfl) (fun j0 => ?_) (fun j0 => ?_)
  ·have hS := cond_T j0 hS
   have z4 := of_decide_eq_true j0
   refine xb 5 [] [0, 1, 4, 19] (xc [0, 1, 4, 19] ?_)
   exact hN2 _ (Option.some.inj hS).symm _ _ _ gR ⟨by kernel_rfl, by kernel_rfl⟩
  ·have hS := cond_F j0 hS
   have z4 := of_decide_eq_false j0
   have z5 := fp.cap
   have z2 : Arr g.b tyU8 (offA Ap cp 0 1) (cp - 0) (List.take 8 p) := fp.cut_to 8 (by omega)
   have v7 := z2.len
   have f1 : 8 - 0 = ((List.take 8 p)).length := by simp only [List.length_take, List.length_drop] <;> omega
   have l6 : ((((List.take 8 p)).length : Nat) : Int) = 8 - 0 := by omega
   refine xb 1 [] [0, 1, 4, 14, 15] (xV (qSl (m := 1) (A := Ap) (len := (p).length) (c := cp) 0 8 none (some 8) ((List.take 8 p)).length rfl rfl (by omega) (by omega) f1) ?_)
   obtain ⟨z8, v3, hS⟩ := bindO_T hS
   refine xE (eC 0 (fun g' lr eb ln => c99 g' ((List.take 8 p) : List UInt8) (offA Ap cp 0 1) (cp - 0) ((z2.mono g.br).mono lr) v3)) ?_
   rintro _ d8 _ d5 ⟨_, rfl, rfl, rfl⟩
   refine xb 2 [] [0, 1, 4, 19] (xc [0, 1, 4, 19] ?_)
   exact hN2 _ (Option.some.inj hS).symm _ _ _ d5 ⟨by kernel_rfl, by kernel_rfl⟩

def o59 (n : RNode) (f : Frame) (came : Bool) : Option (RNode × Sett × Bool × Int) :=
 (cond ((n.stage != 3)) (some ((n, (⟨0, 0, false, ([] : List UInt8)⟩ : Sett), (false), (8 : Int)))) (cond ((n.role == 1)) (some ((({ n with stage := 4 }), (⟨0, 0, false, ([] : List UInt8)⟩ : Sett), (false), (0 : Int)))) (bindO (o97 ({ n with stage := 4 })) fun y7 => (joinO (τ := Sett) (ρ := RNode × Sett × Bool × Int) (cond ((n.role == 3)) (letJ (o60 ({ n with stage := 4 }) f (came) (2 : Int)) fun y15 => (bindO (τ := Int × Sett) (cond (y15) (bindO (o61 n.cycle f.payload) fun y25 => (some ((y25.2, y25.1)))) (some ((4, (y7 : Sett))))) fun t18 => (cond ((((t18.1 != 0) || t18.2.fresh) || (t18.2.steps != n.steps))) (some (Ctl.done ((({ n with role := 1, steps := 0, stage := 4 }), (⟨0, 0, false, ([] : List UInt8)⟩ : Sett), (false), (0 : Int))))) (some (Ctl.go t18.2))))) (some (Ctl.go (y7 : Sett)))) fun t11 => (some ((({ n with steps := (IntKind.i64.wrap (n.steps + 1)), stage := 4, stepped := true }), t11, (true), (0 : Int))))))))
theorem c59 (g : Gh) (n : RNode) (p0 : OA) (i0 : Nat) (w0 : OA) (j0 : Nat) (f : Frame) (f0 : OA) (l0 : Nat) (came : Bool) (v0 : Arr g.b tyU8 p0 i0 n.input) (d0 : Arr g.b tyU8 w0 j0 n.heard.input) (j1 : Arr g.b tyU8 f0 l0 f.payload) {r : RNode × Sett × Bool × Int} (hS : o59 n f came = some r) :
  Ctr Tryz.prog 59 [(aRNode n p0 i0 w0 j0), (aFrame f f0 l0), vb came] g [] (fun v ψ o => ∃ (z2 : OA) (j2 : Nat) (t1 : OA) (v1 : Nat) (a2 : OA) (f2 : Nat), v = Value.tuple #[(aRNode r.1 z2 j2 t1 v1), (aSett r.2.1 a2 f2), vb r.2.2.1, vi r.2.2.2] ∧ o = [] ∧ Arr ψ tyU8 z2 j2 r.1.input ∧ Arr ψ tyU8 t1 v1 r.1.heard.input ∧ Arr ψ tyU8 a2 f2 r.2.1.in_) := by
 unfold o59 at hS
 refine xFn Tryz.f59 (Tryz.f59.body.getD .skip) 64 (xSq (xRg (xE eB ?_)))
 rintro _ _ _ - ⟨b1, rfl, rfl, rfl⟩
 refine xE eB ?_
 rintro _ _ _ - ⟨b2, rfl, rfl, rfl⟩
 refine xE eB ?_
 rintro _ _ _ - ⟨b3, rfl, rfl, rfl⟩
 refine xE eB ?_
 rintro _ _ _ - ⟨b4, rfl, rfl, rfl⟩
 refine xb 2 [] [2, 3, 4, 6, 7] (xRe (xW (xSq (xSq (xRg (xb 3 [(1, 3)] [2, 3, 4, 6, 7, 14] (xRe (xW ?_))))))))
 refine xCd ((n.stage != 3)) (fun h5 => ?_) (fun h5 => ?_)
 ·have hS := cond_T h5 hS
  have h5p : ¬ (n.stage = 3) := ne_of_bne_ h5
  refine xSq (xRg (xbo 6 [(0, 3), (2, 1), (3, 0)] [some ⟨b4, 95, (cSett Z2 none 0)⟩, some ⟨b3, 36, (cRNode n p0 i0 w0 j0)⟩, some ⟨b2, 49, (cFrame f f0 l0)⟩, some ⟨b1, 36, (cRNode n p0 i0 w0 j0)⟩] [6, 7, 8, 9] (xRe (xW ?_))))
  obtain rfl := Option.some.inj hS
  exact xRetC [] [(6, 1), (7, 0)] gR ⟨p0, i0, w0, j0, none, 0, by kernel_rfl, by kernel_rfl, v0, d0, Arr.nil⟩ (fun _ _ h => h)
 ·have hS := cond_F h5 hS
  have h5p : n.stage = 3 := eq_of_bne_false_ h5
  refine xSk (xW (xc [2, 3, 4, 6, 7] (xSq (xRg (xbo 2 [(1, 3)] [some ⟨b4, 95, (cSett Z2 none 0)⟩, some ⟨b3, 36, (cRNode (⟨0, 0, 0, 0, 0, 0, ([] : List UInt8), false, false, (⟨0, 0, (⟨0, 0⟩ : Want), ([] : List UInt8)⟩ : Heard), false, Z0⟩ : RNode) none 0 none 0)⟩, some ⟨b2, 49, (cFrame f f0 l0)⟩, some ⟨b1, 36, (cRNode ({ n with stage := 4 }) p0 i0 w0 j0)⟩] [2, 3, 4, 6, 7] (xRe (xW (xSq (xSq (xRg (xb 3 [(1, 3)] [2, 3, 4, 6, 7, 20] (xRe (xW ?_)))))))))))))
  refine xCd ((n.role == 1)) (fun h6 => ?_) (fun h6 => ?_)
  ·have hS := cond_T h6 hS
   have h6p : n.role = 1 := eq_of_beq h6
   refine xSq (xRg (xbo 6 [(0, 3), (2, 1), (3, 0)] [some ⟨b4, 95, (cSett Z2 none 0)⟩, some ⟨b3, 36, (cRNode ({ n with stage := 4 }) p0 i0 w0 j0)⟩, some ⟨b2, 49, (cFrame f f0 l0)⟩, some ⟨b1, 36, (cRNode ({ n with stage := 4 }) p0 i0 w0 j0)⟩] [6, 7, 8, 9] (xRe (xW ?_))))
   obtain rfl := Option.some.inj hS
   exact xRetC [] [(6, 1), (7, 0)] gR ⟨p0, i0, w0, j0, none, 0, by kernel_rfl, by kernel_rfl, v0, d0, Arr.nil⟩ (fun _ _ h => h)
  ·have hS := cond_F h6 hS
   have h6p : ¬ (n.role = 1) := ne_of_beq_false_ h6
   refine xSk (xW (xc [2, 3, 4, 6, 7] (xSq (xRg (xb 1 [(0, 3)] [2, 3, 4, 6, 7, 23] ?_)))))
   obtain ⟨y7, hy7, hS⟩ := bindO_T hS
   refine xE (eC 0 (fun g' lr eb ln => c97 g' ({ n with stage := 4 }) p0 i0 w0 j0 ((v0.mono g.br).mono lr) ((d0.mono g.br).mono lr) hy7)) ?_
   rintro _ g8 _ e9 ⟨_, rfl, w2, f1, rfl, rfl, l1⟩
   refine xE eB ?_
   rintro _ _ _ - ⟨b10, rfl, rfl, rfl⟩
   refine xbo 1 [(3, 0)] [some ⟨b10, 95, (cSett y7 w2 f1)⟩, some ⟨b4, 95, (cSett Z2 none 0)⟩, some ⟨b3, 36, (cRNode (⟨0, 0, 0, 0, 0, 0, ([] : List UInt8), false, false, (⟨0, 0, (⟨0, 0⟩ : Want), ([] : List UInt8)⟩ : Heard), false, Z0⟩ : RNode) none 0 none 0)⟩, some ⟨b2, 49, (cFrame f f0 l0)⟩, some ⟨b1, 36, (cRNode ({ n with stage := 4 }) p0 i0 w0 j0)⟩] [2, 3, 4, 6, 7, 10] (xRe (xW (xSq (xSq (xRg (xb 3 [(1, 4)] [2, 3, 4, 6, 7, 10, 27] (xRe (xW ?_))))))))
   refine xJoinO hS (fun g own sl t11 => ∃ (w1 : OA) (z1 : Nat), own = [some ⟨b10, 95, (cSett t11 w1 z1)⟩, some ⟨b4, 95, (cSett Z2 none 0)⟩, some ⟨b3, 36, (cRNode (⟨0, 0, 0, 0, 0, 0, ([] : List UInt8), false, false, (⟨0, 0, (⟨0, 0⟩ : Want), ([] : List UInt8)⟩ : Heard), false, Z0⟩ : RNode) none 0 none 0)⟩, some ⟨b1, 36, (cRNode ({ n with stage := 4 }) p0 i0 w0 j0)⟩] ∧ sl = [(3, vp b1 0), (6, vp b3 0), (7, vp b4 0), (10, vp b10 0)] ∧ Arr g.b tyU8 w1 z1 t11.in_) ?_ ?_
   ·rintro g12 _ _ t11 e13 ⟨w1, z1, rfl, rfl, w3⟩ hS
    refine xW (xSq (xRg (xbo 5 [(1, 3), (4, 3)] [some ⟨b10, 95, (cSett t11 w1 z1)⟩, some ⟨b4, 95, (cSett Z2 none 0)⟩, some ⟨b3, 36, (cRNode (⟨0, 0, 0, 0, 0, 0, ([] : List UInt8), false, false, (⟨0, 0, (⟨0, 0⟩ : Want), ([] : List UInt8)⟩ : Heard), false, Z0⟩ : RNode) none 0 none 0)⟩, some ⟨b1, 36, (cRNode ({ n with steps := (IntKind.i64.wrap (n.steps + 1)), stage := 4 }) p0 i0 w0 j0)⟩] [3, 6, 7, 10] (xRe (xW (xSq (xRg (xbo 2 [(1, 3)] [some ⟨b10, 95, (cSett t11 w1 z1)⟩, some ⟨b4, 95, (cSett Z2 none 0)⟩, some ⟨b3, 36, (cRNode (⟨0, 0, 0, 0, 0, 0, ([] : List UInt8), false, false, (⟨0, 0, (⟨0, 0⟩ : Want), ([] : List UInt8)⟩ : Heard), false, Z0⟩ : RNode) none 0 none 0)⟩, some ⟨b1, 36, (cRNode ({ n with steps := (IntKind.i64.wrap (n.steps + 1)), stage := 4, stepped := true }) p0 i0 w0 j0)⟩] [3, 6, 7, 10] (xRe (xW (xSq ?_)))))))))))
    refine xDr 0 [0, 1] [3, 4, 5] [some ⟨b10, 95, (cSett t11 w1 z1)⟩, some ⟨b1, 36, (cRNode ({ n with steps := (IntKind.i64.wrap (n.steps + 1)), stage := 4, stepped := true }) p0 i0 w0 j0)⟩] 6 (fun RG => ?_) (fun _ _ _ _ _ h => h)
    refine xt 4 [0, 1] [(0, 1), (1, 0)] [some 0, some 3] [6, 7, 62, 63] RG pR (xO1 (lds := [0, 1]) 2 (xId (lds := [0, 1]) pR (eStL b3 0 2) ?_))
    rintro _ _ _ - ⟨rfl, rfl⟩
    refine kk [some 0, some 3] (xO1 (lds := [0, 1]) 3 (xId (lds := [0, 1]) pR (eStL b4 0 1) ?_))
    rintro _ _ _ - ⟨rfl, rfl⟩
    refine kf (xt 0 [4, 5] [] [some 0, some 3] [6, 7, 8, 9] RG pR (xAe (lds := [0, 1]) (xW ?_)))
    have v0 := v0.mono (e9.trans e13).b
    have d0 := d0.mono (e9.trans e13).b
    obtain rfl := Option.some.inj hS
    exact xRetC [] [(6, 2), (7, 1)] (e9.trans e13) ⟨p0, i0, w0, j0, w1, z1, by kernel_rfl, by kernel_rfl, v0, d0, w3⟩ (fun _ _ h => h)
   ·intro uu11 hS hN11 hD11
    refine xCd ((n.role == 3)) (fun h14 => ?_) (fun h14 => ?_)
    ·have hS := cond_T h14 hS
     have a3 : n.role = 3 := eq_of_beq h14
     refine xSq (xRg (xb 1 [] [2, 3, 4, 6, 7, 10, 11] (xRe (xW (xSq (xSq (xRg (xb 3 [(0, 4), (1, 3)] [3, 4, 6, 7, 10, 11, 28, 29, 30] ?_))))))))
     have v0 := v0.mono e9.b
     have d0 := d0.mono e9.b
     have j1 := j1.mono e9.b
     obtain ⟨y15, w4, hS⟩ := letJ_T hS
     refine xE (eC 0 (fun g' lr eb ln => c60 g' ({ n with stage := 4 }) p0 i0 w0 j0 f f0 l0 (came) (2 : Int) ((v0.mono g8.br).mono lr) ((d0.mono g8.br).mono lr) ((j1.mono g8.br).mono lr) w4)) ?_
     rintro _ g16 _ e17 ⟨_, rfl, rfl, rfl⟩
     refine xRe (xW (xc [3, 4, 6, 7, 10, 11, 31] ?_))
     refine xBindO hS (fun g own sl t18 => ∃ (d1 : OA) (i1 : Nat), own = [some ⟨b10, 95, (cSett t18.2 d1 i1)⟩, some ⟨b4, 95, (cSett Z2 none 0)⟩, some ⟨b3, 36, (cRNode (⟨0, 0, 0, 0, 0, 0, ([] : List UInt8), false, false, (⟨0, 0, (⟨0, 0⟩ : Want), ([] : List UInt8)⟩ : Heard), false, Z0⟩ : RNode) none 0 none 0)⟩, some ⟨b1, 36, (cRNode ({ n with stage := 4 }) p0 i0 w0 j0)⟩] ∧ sl = [(3, vp b1 0), (6, vp b3 0), (7, vp b4 0), (10, vp b10 0), (11, vi t18.1)] ∧ Arr g.b tyU8 d1 i1 t18.2.in_) ?_ ?_
     ·rintro g19 _ _ t18 e20 ⟨d1, i1, rfl, rfl, z3⟩ hS
      refine xW (xSq (xRg (xb 3 [] [3, 6, 7, 10, 42] ?_)))
      refine wpr_grp 6 [(3, vp b1 0), (6, vp b3 0), (7, vp b4 0), (10, vp b10 0), (45, vb ((t18.1 != 0) || t18.2.fresh))] (fun hk2 => ?_) ?_
      ·refine wpq_split 42 (b := (t18.1 != 0)) (by kernel_rfl) (fun q21 => ?_) (fun q21 => ?_)
       ·have v3 : ¬ (t18.1 = 0) := ne_of_bne_ q21
        refine xb 3 [] [3, 6, 7, 10, 45] (wpq_re 45 (v := vb true) (Value.bool (((t18.1 != 0) || t18.2.fresh))) (by kernel_rfl) (re_or1 q21) ?_)
        exact wpq_sub _ (by kernel_rfl) hk2
       ·have v3 : t18.1 = 0 := eq_of_bne_false_ q21
        refine xb 3 [(4, 0)] [3, 6, 7, 10, 45] (wpq_re 45 (v := vb t18.2.fresh) (Value.bool (((t18.1 != 0) || t18.2.fresh))) (by kernel_rfl) (re_or0 q21) ?_)
        exact wpq_sub _ (by kernel_rfl) hk2
      ·refine xb 1 [] [3, 6, 7, 10, 46] ?_
       refine wpr_grp 13 [(3, vp b1 0), (6, vp b3 0), (7, vp b4 0), (10, vp b10 0), (52, vb (((t18.1 != 0) || t18.2.fresh) || (t18.2.steps != n.steps)))] (fun hk6 => ?_) ?_
       ·refine wpq_split 46 (b := ((t18.1 != 0) || t18.2.fresh)) (by kernel_rfl) (fun q22 => ?_) (fun q22 => ?_)
        ·refine xb 6 [] [3, 6, 7, 10, 52] ?_
         refine wpq_re 52 (v := vb true) (Value.bool ((((t18.1 != 0) || t18.2.fresh) || (t18.2.steps != n.steps)))) (by kernel_rfl) (re_or1 q22) ?_
         exact wpq_sub _ (by kernel_rfl) hk6
        ·have z4 := (or_false_ q22).1
         have i4 : t18.1 = 0 := eq_of_bne_false_ z4
         refine xb 6 [(8, 0), (10, 3)] [3, 6, 7, 10, 52] (wpq_re 52 (v := vb (t18.2.steps != n.steps)) (Value.bool ((((t18.1 != 0) || t18.2.fresh) || (t18.2.steps != n.steps)))) (by kernel_rfl) (re_or0 q22) ?_)
         exact wpq_sub _ (by kernel_rfl) hk6
       ·refine xRe ?_
        refine xW ?_
        refine xCd ((((t18.1 != 0) || t18.2.fresh) || (t18.2.steps != n.steps))) (fun h23 => ?_) (fun h23 => ?_)
        ·have hS := cond_T h23 hS
         refine xSq (xRg (xbo 4 [(1, 3), (3, 3)] [some ⟨b10, 95, (cSett t18.2 d1 i1)⟩, some ⟨b4, 95, (cSett Z2 none 0)⟩, some ⟨b3, 36, (cRNode (⟨0, 0, 0, 0, 0, 0, ([] : List UInt8), false, false, (⟨0, 0, (⟨0, 0⟩ : Want), ([] : List UInt8)⟩ : Heard), false, Z0⟩ : RNode) none 0 none 0)⟩, some ⟨b1, 36, (cRNode ({ n with role := 1, steps := 0, stage := 4 }) p0 i0 w0 j0)⟩] [3, 6, 7] (xRe (xW (xSq (xRg (xbo 6 [(0, 3), (2, 2), (3, 1)] [some ⟨b10, 95, (cSett t18.2 d1 i1)⟩, some ⟨b4, 95, (cSett Z2 none 0)⟩, some ⟨b3, 36, (cRNode ({ n with role := 1, steps := 0, stage := 4 }) p0 i0 w0 j0)⟩, some ⟨b1, 36, (cRNode ({ n with role := 1, steps := 0, stage := 4 }) p0 i0 w0 j0)⟩] [6, 7, 8, 9] (xRe (xW ?_)))))))))
         have v0 := v0.mono (e17.trans e20).b
         have d0 := d0.mono (e17.trans e20).b
         have eS := (Option.some.inj hS).symm
         have eS := (hD11 _ eS).symm
         subst eS
         exact xRetC [] [(6, 2), (7, 1)] (e9.trans (e17.trans e20)) ⟨p0, i0, w0, j0, none, 0, by kernel_rfl, by kernel_rfl, v0, d0, Arr.nil⟩ (fun _ _ h => h)
        ·have hS := cond_F h23 hS
         have t3 := (or_false_ h23).1
         have l3 := (or_false_ h23).2
         have d3 := (or_false_ t3).1
         have j4 : t18.1 = 0 := eq_of_bne_false_ d3
         have d4 : t18.2.steps = n.steps := eq_of_bne_false_ l3
         refine xSk (xc [3, 6, 7, 10] ?_)
         have eS := (Option.some.inj hS).symm
         exact hN11 _ eS _ _ _ (e17.trans e20) ⟨d1, i1, by kernel_rfl, by kernel_rfl, z3⟩
     ·intro uu18 hS hN18
      refine xCd (y15) (fun h24 => ?_) (fun h24 => ?_)
      ·have hS := cond_T h24 hS
       refine xRg (xb 4 [(1, 4), (3, 3)] [3, 6, 7, 10, 11, 34, 36] ?_)
       have j1 := j1.mono e17.b
       obtain ⟨y25, f3, hS⟩ := bindO_T hS
       refine xE (eC 0 (fun g' lr eb ln => c61 g' n.cycle f.payload f0 l0 (by rw [eb]; exact j1) f3)) ?_
       rintro _ g26 _ e27 ⟨_, rfl, v2, d2, rfl, rfl, j3⟩
       refine xbo 5 [(8, 0)] [some ⟨b10, 95, (cSett y25.1 v2 d2)⟩, some ⟨b4, 95, (cSett Z2 none 0)⟩, some ⟨b3, 36, (cRNode (⟨0, 0, 0, 0, 0, 0, ([] : List UInt8), false, false, (⟨0, 0, (⟨0, 0⟩ : Want), ([] : List UInt8)⟩ : Heard), false, Z0⟩ : RNode) none 0 none 0)⟩, some ⟨b2, 49, (cFrame f f0 l0)⟩, some ⟨b1, 36, (cRNode ({ n with stage := 4 }) p0 i0 w0 j0)⟩] [3, 6, 7, 10, 11] (xRe (xSel (sm [0, 1, 2, 4]) (xc [3, 6, 7, 10, 11] ?_)))
       have eS := (Option.some.inj hS).symm
       exact hN18 _ eS _ _ _ e27 ⟨v2, d2, by kernel_rfl, by kernel_rfl, j3⟩
      ·have hS := cond_F h24 hS
       refine xSk ?_
       have l1 := l1.mono e17.b
       refine xSel (sm [0, 1, 2, 4]) (xc [3, 6, 7, 10, 11] ?_)
       have eS := (Option.some.inj hS).symm
       exact hN18 _ eS _ _ _ gR ⟨w2, f1, by kernel_rfl, by kernel_rfl, l1⟩
    ·have hS := cond_F h14 hS
     have a3 : ¬ (n.role = 3) := ne_of_beq_false_ h14
     refine xSk (xSel (sm [0, 1, 2, 4]) (xc [3, 6, 7, 10] ?_))
     have eS := (Option.some.inj hS).symm
     exact hN11 _ eS _ _ _ gR ⟨w2, f1, by kernel_rfl, by kernel_rfl, l1⟩

end Go.Proofs.YtnidomdebhekiaaGreat
