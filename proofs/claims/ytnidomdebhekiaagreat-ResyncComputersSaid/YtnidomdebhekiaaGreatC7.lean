/-
Walks, printed by wip/gen, with half of their indentation. Conditions: each theorem's own.
-/
import Derived.Test.YtnidomdebhekiaaGreatC6
namespace Go.Proofs.YtnidomdebhekiaaGreat
set_option linter.unusedVariables false
set_option linter.unusedSimpArgs false
open Go.RowKit
set_option maxRecDepth 100000
def o65 (n : Node) (f : Frame) (came : Bool) : Option (Node × Int × Int) :=
 (letJ (o81 n (5 : Int)) fun y2 => (cond ((y2 != 0)) (some ((n, (0 : Int), (y2 : Int)))) (cond ((!n.has)) (some ((({ n with next_ := 0 }), (2 : Int), (0 : Int)))) (bindO (o103 f.payload) fun y7 => (letJ (o85 ({ n with next_ := 0 }) f (came) (3 : Int)) fun y11 => (cond ((!(y11 && (y7.2 == 0)))) (some ((({ n with next_ := 0 }), (3 : Int), (0 : Int)))) (letJ (τ := Bool) (cond ((n.role == 3)) (true) (letJ (o93 ({ n with next_ := 0 })) fun y22 => y22)) fun t16 => (cond ((t16 && ((y7.1.steps == n.told.steps) && ((y7.1.targets.lateral == n.told.targets.lateral) && ((y7.1.targets.vertical == n.told.targets.vertical) && ((y7.1.targets.phase == n.told.targets.phase) && ((y7.1.targets.bank == n.told.targets.bank) && ((y7.1.targets.speed == n.told.targets.speed) && ((y7.1.targets.alt == n.told.targets.alt) && (y7.1.targets.vs == n.told.targets.vs)))))))))) (some ((({ n with next_ := 0 }), (4 : Int), (0 : Int)))) (some ((({ n with next_ := 0 }), (2 : Int), (0 : Int))))))))))))
theorem c65 (g : Gh) (b_n : Nat) (n : Node) (w1 : OA) (f0 : Nat) (i0 : OA) (p0 : Nat) (v0 : OA) (d0 : Nat) (f : Frame) (j1 : OA) (z1 : Nat) (came : Bool) (l0 : Arr g.b tyU8 w1 f0 n.input) (w0 : Arr g.b tyU8 i0 p0 n.heard.input) (j0 : Arr g.b tyU8 v0 d0 n.set_.in_) (i1 : Arr g.r tyU8 j1 z1 f.payload) {r : Node × Int × Int} (hS : o65 n f came = some r) :
  Ctr Tryz.prog 65 [vp b_n 0, (aFrame f j1 z1), vb came] g [some ⟨b_n, 126, (cNode n w1 f0 i0 p0 v0 d0)⟩] (fun v ψ o => ∃ (z2 : OA) (w2 : Nat) (d1 : OA) (t1 : Nat) (l1 : OA) (v1 : Nat), v = Value.tuple #[vy r.2.1, vi r.2.2] ∧ o = [some ⟨b_n, 126, (cNode r.1 z2 w2 d1 t1 l1 v1)⟩] ∧ Arr ψ tyU8 z2 w2 r.1.input ∧ Arr ψ tyU8 d1 t1 r.1.heard.input ∧ Arr ψ tyU8 l1 v1 r.1.set_.in_) := by
 unfold o65 at hS
 refine xFn Tryz.f65 (Tryz.f65.body.getD .skip) 60 (xSq (xRg (xE eB ?_)))
 rintro _ _ _ - ⟨b1, rfl, rfl, rfl⟩
 refine xb 2 [] [0, 2, 4] (xRe (xW (xSq (xSq (xRg (xb 1 [] [0, 2, 4, 12] ?_))))))
 obtain ⟨y2, hy2, hS⟩ := letJ_T hS
 refine xE (eC 0 (fun g' lr eb ln => c81 g' ⟨b_n, 0, none⟩ n w1 f0 i0 p0 v0 d0 (5 : Int) (cells_lent' 1 b_n 0 (cNode n w1 f0 i0 p0 v0 d0) ln) ((l0.mono g.br).mono lr) ((w0.mono g.br).mono lr) ((j0.mono g.br).mono lr) hy2)) ?_
 rintro _ g3 _ e4 ⟨_, rfl, rfl, rfl⟩
 refine xb 1 [] [0, 2, 4, 8] (xRe (xW (xSq (xRg (xb 2 [] [0, 2, 4, 8, 15] (xRe (xW ?_)))))))
 refine xCd ((y2 != 0)) (fun h5 => ?_) (fun h5 => ?_)
 ·have hS := cond_T h5 hS
  have h5p : ¬ (y2 = 0) := ne_of_bne_ h5
  refine xSq (xRg (xb 3 [] [6, 7] (xRe (xW ?_))))
  have l0 := l0.mono e4.b
  have w0 := w0.mono e4.b
  have j0 := j0.mono e4.b
  obtain rfl := Option.some.inj hS
  exact xRet [some 1] [6, 7] e4 ⟨w1, f0, i0, p0, v0, d0, by kernel_rfl, by kernel_rfl, l0, w0, j0⟩ (fun _ _ h => h)
 ·have hS := cond_F h5 hS
  have h5p : y2 = 0 := eq_of_bne_false_ h5
  refine xSk (xW (xc [0, 2, 4] (xSq (xRg (xbo 4 [(3, 1)] [some ⟨b1, 49, (cFrame f j1 z1)⟩, some ⟨b_n, 126, (cNode ({ n with next_ := 0 }) w1 f0 i0 p0 v0 d0)⟩] [0, 2, 4] (xRe (xW (xSq (xSq (xRg (xb 5 [(3, 1)] [0, 2, 4, 24] (xRe (xW ?_)))))))))))))
  refine xCd ((!n.has)) (fun h6 => ?_) (fun h6 => ?_)
  ·have hS := cond_T h6 hS
   refine xSq (xRg (xb 2 [] [6, 7] (xRe (xW ?_))))
   have l0 := l0.mono e4.b
   have w0 := w0.mono e4.b
   have j0 := j0.mono e4.b
   obtain rfl := Option.some.inj hS
   exact xRet [some 1] [6, 7] e4 ⟨w1, f0, i0, p0, v0, d0, by kernel_rfl, by kernel_rfl, l0, w0, j0⟩ (fun _ _ h => h)
  ·have hS := cond_F h6 hS
   refine xSk (xW (xc [0, 2, 4] (xSq (xRg (xb 2 [(1, 0)] [0, 2, 4, 27] ?_)))))
   have i1 := i1.mono e4.r
   obtain ⟨y7, hy7, hS⟩ := bindO_T hS
   refine xE (eC 0 (fun g' lr eb ln => c103 g' f.payload j1 z1 (i1.mono lr) hy7)) ?_
   rintro _ g8 _ e9 ⟨_, rfl, rfl, rfl⟩
   refine xb 3 [] [0, 2, 4, 29, 30] (xE eB ?_)
   rintro _ _ _ - ⟨b10, rfl, rfl, rfl⟩
   refine xbo 2 [(7, 0)] [some ⟨b10, 124, (cResult y7.1)⟩, some ⟨b1, 49, (cFrame f j1 z1)⟩, some ⟨b_n, 126, (cNode ({ n with next_ := 0 }) w1 f0 i0 p0 v0 d0)⟩] [0, 2, 4, 9, 10] (xRe (xW (xSq (xRg (xb 3 [(1, 1)] [0, 9, 10, 31, 32, 33] ?_)))))
   have l0 := l0.mono (e4.trans e9).b
   have w0 := w0.mono (e4.trans e9).b
   have j0 := j0.mono (e4.trans e9).b
   have i1 := i1.mono e9.r
   obtain ⟨y11, w5, hS⟩ := letJ_T hS
   refine xE (eC 0 (fun g' lr eb ln => c85 g' ⟨b_n, 0, none⟩ ({ n with next_ := 0 }) w1 f0 i0 p0 v0 d0 f j1 z1 (came) (3 : Int) (cells_lent' 2 b_n 0 (cNode ({ n with next_ := 0 }) w1 f0 i0 p0 v0 d0) ln) ((l0.mono g8.br).mono lr) ((w0.mono g8.br).mono lr) ((j0.mono g8.br).mono lr) (i1.mono lr) w5)) ?_
   rintro _ g12 _ e13 ⟨_, rfl, rfl, rfl⟩
   refine xb 1 [] [0, 9, 10, 35] ?_
   refine wpr_grp 8 [(0, vp b_n 0), (9, vp b10 0), (38, vb (y11 && (y7.2 == 0)))] (fun hk4 => ?_) ?_
   ·refine wpq_split 35 (b := y11) (by kernel_rfl) (fun q14 => ?_) (fun q14 => ?_)
    ·refine xb 3 [] [0, 9, 38] ?_
     refine wpq_re 38 (v := vb (y7.2 == 0)) (Value.bool ((y11 && (y7.2 == 0)))) (by kernel_rfl) (re_and1 q14) ?_
     exact wpq_sub _ (by kernel_rfl) hk4
    ·refine xb 3 [] [0, 9, 38] ?_
     refine wpq_re 38 (v := vb false) (Value.bool ((y11 && (y7.2 == 0)))) (by kernel_rfl) (re_and0 q14) ?_
     exact wpq_sub _ (by kernel_rfl) hk4
   ·refine xb 1 [] [0, 9, 11] ?_
    refine xRe (xW (xSq (xBl 0 (xSq (xRg (xb 3 [] [0, 9, 39] (xRe (xW ?_))))))))
    refine xCd ((!(y11 && (y7.2 == 0)))) (fun h15 => ?_) (fun h15 => ?_)
    ·have hS := cond_T h15 hS
     refine xSq (xRg (xb 2 [] [6, 7] (xRe (xW ?_))))
     have l0 := l0.mono e13.b
     have w0 := w0.mono e13.b
     have j0 := j0.mono e13.b
     obtain rfl := Option.some.inj hS
     exact xRet [some 2] [6, 7] (e4.trans (e9.trans e13)) ⟨w1, f0, i0, p0, v0, d0, by kernel_rfl, by kernel_rfl, l0, w0, j0⟩ (fun _ _ h => h)
    ·have hS := cond_F h15 hS
     have v4 := not_eq_false_ h15
     have i4 := (and_true_ v4).2
     have j5 : y7.2 = 0 := eq_of_beq i4
     refine xSq ?_
     refine xDr 0 [3, 10, 14] [] [some ⟨b10, 124, (cResult y7.1)⟩, some ⟨b1, 49, (cFrame f j1 z1)⟩, some ⟨b_n, 126, (cNode ({ n with next_ := 0 }) w1 f0 i0 p0 v0 d0)⟩] 18 (fun RG => ?_) (fun _ _ _ _ _ h => h)
     refine xt 12 [0, 1, 2, 3, 4, 5] [(3, 2)] (sm [0, 1, 2]) [0, 9, 48] RG pR ?_
     refine xGJlA hS 9 [true, true, true, true, true, true, true, true, true, false, false, false, false, false, false, false, false, false] (fun g own sl t16 => own = [some ⟨b10, 124, (cResult y7.1)⟩, some ⟨b1, 49, (cFrame f j1 z1)⟩, some ⟨b_n, 126, (cNode ({ n with next_ := 0 }) w1 f0 i0 p0 v0 d0)⟩] ∧ sl = [(0, vp b_n 0), (9, vp b10 0), (51, vb t16)]) ?_ ?_
     ·rintro g17 _ _ t16 e18 ⟨rfl, rfl⟩ hS
      refine xt 8 [9] [] (sm [0, 1, 2]) [0, 9, 52] RG e18.r ?_
      refine wpa_grp 1 [true, true, true, true, true, true, true, true, true, true, true, true, true, true, true, true, true, false] [(59, vb (t16 && ((y7.1.steps == n.told.steps) && ((y7.1.targets.lateral == n.told.targets.lateral) && ((y7.1.targets.vertical == n.told.targets.vertical) && ((y7.1.targets.phase == n.told.targets.phase) && ((y7.1.targets.bank == n.told.targets.bank) && ((y7.1.targets.speed == n.told.targets.speed) && ((y7.1.targets.alt == n.told.targets.alt) && (y7.1.targets.vs == n.told.targets.vs))))))))))] (fun hk9 => ?_) ?_
      ·refine wpq_split 52 (b := t16) (by kernel_rfl) (fun q19 => ?_) (fun q19 => ?_)
       ·refine xt 3 [10, 11, 12, 13, 14] [(10, 0), (14, 2)] (sm [0, 1, 2]) [52, 53, 57] RG e18.r ?_
        refine xTp 15 RG (fun _ => (qEqA (((y7.1.steps == n.told.steps) && ((y7.1.targets.lateral == n.told.targets.lateral) && ((y7.1.targets.vertical == n.told.targets.vertical) && ((y7.1.targets.phase == n.told.targets.phase) && ((y7.1.targets.bank == n.told.targets.bank) && ((y7.1.targets.speed == n.told.targets.speed) && ((y7.1.targets.alt == n.told.targets.alt) && (y7.1.targets.vs == n.told.targets.vs))))))))))) (xt 1 [16] [] (sm [0, 1, 2]) [59] RG e18.r (wpq_re 59 (v := vb ((y7.1.steps == n.told.steps) && ((y7.1.targets.lateral == n.told.targets.lateral) && ((y7.1.targets.vertical == n.told.targets.vertical) && ((y7.1.targets.phase == n.told.targets.phase) && ((y7.1.targets.bank == n.told.targets.bank) && ((y7.1.targets.speed == n.told.targets.speed) && ((y7.1.targets.alt == n.told.targets.alt) && (y7.1.targets.vs == n.told.targets.vs))))))))) (Value.bool ((t16 && ((y7.1.steps == n.told.steps) && ((y7.1.targets.lateral == n.told.targets.lateral) && ((y7.1.targets.vertical == n.told.targets.vertical) && ((y7.1.targets.phase == n.told.targets.phase) && ((y7.1.targets.bank == n.told.targets.bank) && ((y7.1.targets.speed == n.told.targets.speed) && ((y7.1.targets.alt == n.told.targets.alt) && (y7.1.targets.vs == n.told.targets.vs))))))))))) (by kernel_rfl) (re_and1 q19) ?_))
        exact wpq_sub _ (by kernel_rfl) hk9
       ·refine xt 1 [10, 11, 12, 13, 14, 15, 16] [] (sm [0, 1, 2]) [59] RG e18.r ?_
        refine wpq_re 59 (v := vb false) (Value.bool ((t16 && ((y7.1.steps == n.told.steps) && ((y7.1.targets.lateral == n.told.targets.lateral) && ((y7.1.targets.vertical == n.told.targets.vertical) && ((y7.1.targets.phase == n.told.targets.phase) && ((y7.1.targets.bank == n.told.targets.bank) && ((y7.1.targets.speed == n.told.targets.speed) && ((y7.1.targets.alt == n.told.targets.alt) && (y7.1.targets.vs == n.told.targets.vs))))))))))) (by kernel_rfl) (re_and0 q19) ?_
        exact wpq_sub _ (by kernel_rfl) hk9
      ·refine xt 0 [17] [] (sm [0, 1, 2]) [42] RG e18.r ?_
       refine xAe (lds := [3, 10, 14]) (xW ?_)
       refine xCd ((t16 && ((y7.1.steps == n.told.steps) && ((y7.1.targets.lateral == n.told.targets.lateral) && ((y7.1.targets.vertical == n.told.targets.vertical) && ((y7.1.targets.phase == n.told.targets.phase) && ((y7.1.targets.bank == n.told.targets.bank) && ((y7.1.targets.speed == n.told.targets.speed) && ((y7.1.targets.alt == n.told.targets.alt) && (y7.1.targets.vs == n.told.targets.vs)))))))))) (fun h20 => ?_) (fun h20 => ?_)
       ·have hS := cond_T h20 hS
        have a3 := (and_true_ h20).2
        have j4 := (and_true_ a3).1
        have t3 := (and_true_ a3).2
        have i5 : y7.1.steps = n.told.steps := eq_of_beq j4
        have f3 := (and_true_ t3).1
        have z3 := (and_true_ t3).2
        have z5 : y7.1.targets.lateral = n.told.targets.lateral := eq_of_beq f3
        have v3 := (and_true_ z3).1
        have a2 := (and_true_ z3).2
        have a4 : y7.1.targets.vertical = n.told.targets.vertical := eq_of_beq v3
        have d3 := (and_true_ a2).1
        have d2 := (and_true_ a2).2
        have t4 : y7.1.targets.phase = n.told.targets.phase := eq_of_beq d3
        have j3 := (and_true_ d2).1
        have j2 := (and_true_ d2).2
        have d4 : y7.1.targets.bank = n.told.targets.bank := eq_of_beq j3
        have w3 := (and_true_ j2).1
        have f1 := (and_true_ j2).2
        have z4 : y7.1.targets.speed = n.told.targets.speed := eq_of_beq w3
        have v2 := (and_true_ f1).1
        have f2 := (and_true_ f1).2
        have w4 : y7.1.targets.alt = n.told.targets.alt := eq_of_beq v2
        have l3 : y7.1.targets.vs = n.told.targets.vs := eq_of_beq f2
        refine xSq (xRg (xb 2 [] [6, 7] (xRe (xW ?_))))
        have l0 := l0.mono (e13.trans e18).b
        have w0 := w0.mono (e13.trans e18).b
        have j0 := j0.mono (e13.trans e18).b
        obtain rfl := Option.some.inj hS
        exact xRet [some 2] [6, 7] (e4.trans (e9.trans (e13.trans e18))) ⟨w1, f0, i0, p0, v0, d0, by kernel_rfl, by kernel_rfl, l0, w0, j0⟩ (fun _ _ h => h)
       ·have hS := cond_F h20 hS
        refine xSk (wpq_blockN (xW (xc [] (xSq (xRg (xb 2 [] [6, 7] (xRe (xW ?_))))))))
        have l0 := l0.mono (e13.trans e18).b
        have w0 := w0.mono (e13.trans e18).b
        have j0 := j0.mono (e13.trans e18).b
        obtain rfl := Option.some.inj hS
        exact xRet [some 2] [6, 7] (e4.trans (e9.trans (e13.trans e18))) ⟨w1, f0, i0, p0, v0, d0, by kernel_rfl, by kernel_rfl, l0, w0, j0⟩ (fun _ _ h => h)
     ·intro uu16 hS hN16
      refine wpq_split 48 (b := (n.role == 3)) (by kernel_rfl) (fun q21 => ?_) (fun q21 => ?_)
      ·have hS := cond_T q21 hS
       have l4 : n.role = 3 := eq_of_beq q21
       refine xt 11 [6] [] (sm [0, 1, 2]) [0, 9, 48, 49] RG pR (xO1 (lds := [3, 10, 14]) 7 (xIb (lds := [3, 10, 14]) [] (xt 9 [8] [] (sm [0, 1, 2]) [0, 9, 51] RG pR (xc [0, 9, 51] ?_))))
       exact hN16 _ hS.symm _ _ _ gR ⟨by kernel_rfl, by kernel_rfl⟩
      ·have hS := cond_F q21 hS
       have l4 : ¬ (n.role = 3) := ne_of_beq_false_ q21
       refine xt 11 [6] [] (sm [0, 1, 2]) [0, 9, 48, 49] RG pR ?_
       have l0 := l0.mono e13.b
       have w0 := w0.mono e13.b
       have j0 := j0.mono e13.b
       obtain ⟨y22, f4, hS⟩ := letJ_T hS
       refine xO1 (lds := [3, 10, 14]) 7 (xIe (lds := [3, 10, 14]) pR (eC 0 (fun g' lr eb ln => c93 g' ⟨b_n, 0, none⟩ ({ n with next_ := 0 }) w1 f0 i0 p0 v0 d0 (cells_lent' 2 b_n 0 (cNode ({ n with next_ := 0 }) w1 f0 i0 p0 v0 d0) ln) ((l0.mono g12.br).mono lr) ((w0.mono g12.br).mono lr) ((j0.mono g12.br).mono lr) f4)) ?_)
       rintro _ g23 _ e24 ⟨_, rfl, rfl, rfl⟩
       refine kk (sm [0, 1, 2]) (xt 9 [8] [] (sm [0, 1, 2]) [0, 9, 51] RG e24.r (xc [0, 9, 51] ?_))
       exact hN16 _ hS.symm _ _ _ e24 ⟨by kernel_rfl, by kernel_rfl⟩

def o32 (c : Comp) (f : Frame) (came : Bool) : Option (Comp × Int × Int) :=
 (letJ (o45 (⟨c.number, c.node, c.sender, c.collector, c.next_, c.cycle, (c.asked), c.want⟩ : Comp) (5 : Int)) fun y2 => (cond ((y2.2 != 0)) (some (((⟨y2.1.number, y2.1.node, y2.1.sender, y2.1.collector, y2.1.next_, y2.1.cycle, (y2.1.asked), y2.1.want⟩ : Comp), (0 : Int), y2.2))) (bindO (o65 y2.1.node f (came)) fun y6 => (some (((⟨y2.1.number, y6.1, y2.1.sender, y2.1.collector, (6 : Int), y2.1.cycle, (y2.1.asked), y2.1.want⟩ : Comp), y6.2.1, y6.2.2))))))
theorem c32 (g : Gh) (b_c : Nat) (c : Comp) (f2 : Nat) (t5 : OA) (v5 : Nat) (f1 : OA) (v1 : Nat) (d3 : OA) (j3 : Nat) (w1 : Nat) (v3 : OA) (t3 : Nat) (w0 : Nat) (j2 : OA) (d2 : Nat) (v2 : OB) (z3 : OA) (w3 : Nat) (a2 : OB) (f : Frame) (v4 : OA) (w4 : Nat) (came : Bool) (f6 : Arr g.b tyU8 t5 v5 c.node.input) (z6 : Arr g.b tyU8 f1 v1 c.node.heard.input) (d6 : Arr g.b tyU8 d3 j3 c.node.set_.in_) (p6 : Arr g.b tyPiece v3 t3 c.sender.pieces) (j6 : Buf g.b (tyArr tyU8) 28 (.slice j2 (c.collector.parts).length d2) v2 c.collector.parts) (i6 : Buf g.b tySett 92 (.slice z3 (c.collector.sets).length w3) a2 c.collector.sets) (w6 : Arr g.r tyU8 v4 w4 f.payload) {r : Comp × Int × Int} (hS : o32 c f came = some r) :
  Ctr Tryz.prog 32 [vp b_c 0, (aFrame f v4 w4), vb came] g [some ⟨b_c, 77, [vi c.number, vp f2 0, vp w1 0, vp w0 0, vi c.next_, vi c.cycle, vb c.asked, vi c.want.base, vi c.want.have_]⟩, some ⟨f2, 126, (cNode c.node t5 v5 f1 v1 d3 j3)⟩, some ⟨w1, 130, [vs v3 c.sender.pieces t3]⟩, some ⟨w0, 132, (cColl c.collector j2 d2 z3 w3)⟩, v2, a2] (fun v ψ o => ∃ (l5 : OA) (f5 : Nat) (a3 : OA) (l3 : Nat) (w5 : OA) (i5 : Nat) (d5 : OA) (z5 : Nat) (d4 : OA) (t4 : Nat) (i4 : OB) (f4 : OA) (a4 : Nat) (l4 : OB), v = Value.tuple #[vy r.2.1, vi r.2.2] ∧ o = [some ⟨b_c, 77, [vi r.1.number, vp f2 0, vp w1 0, vp w0 0, vi r.1.next_, vi r.1.cycle, vb r.1.asked, vi r.1.want.base, vi r.1.want.have_]⟩, some ⟨f2, 126, (cNode r.1.node l5 f5 a3 l3 w5 i5)⟩, some ⟨w1, 130, [vs d5 r.1.sender.pieces z5]⟩, some ⟨w0, 132, (cColl r.1.collector d4 t4 f4 a4)⟩, i4, l4] ∧ Arr ψ tyU8 l5 f5 r.1.node.input ∧ Arr ψ tyU8 a3 l3 r.1.node.heard.input ∧ Arr ψ tyU8 w5 i5 r.1.node.set_.in_ ∧ Arr ψ tyPiece d5 z5 r.1.sender.pieces ∧ Buf ψ (tyArr tyU8) 28 (.slice d4 (r.1.collector.parts).length t4) i4 r.1.collector.parts ∧ Buf ψ tySett 92 (.slice f4 (r.1.collector.sets).length a4) l4 r.1.collector.sets) := by
 unfold o32 at hS
 refine xFn Tryz.f32 (Tryz.f32.body.getD .skip) 26 (xSq (xRg (xE eB ?_)))
 rintro _ _ _ - ⟨b1, rfl, rfl, rfl⟩
 refine xb 2 [] [0, 2, 4] (xRe (xW (xSq (xSq (xRg (xb 1 [] [0, 2, 4, 9] (xSel (sm [1, 2, 3, 4, 5, 6, 0]) ?_)))))))
 obtain ⟨y2, hy2, hS⟩ := letJ_T hS
 refine xE (eC 6 (fun g' lr eb ln => c45 g' b_c (⟨c.number, c.node, c.sender, c.collector, c.next_, c.cycle, (c.asked), c.want⟩ : Comp) f2 t5 v5 f1 v1 d3 j3 w1 v3 t3 w0 j2 d2 v2 z3 w3 a2 (5 : Int) (by rw [eb]; exact f6) (by rw [eb]; exact z6) (by rw [eb]; exact d6) (by rw [eb]; exact p6) (by rw [eb]; exact j6) (by rw [eb]; exact i6) hy2)) ?_
 rintro _ g3 _ e4 ⟨_, rfl, j4, z4, i1, d1, z2, w2, j1, f0, j0, p0, t1, v0, d0, l1, rfl, rfl, a5, f3, j5, z1, i0, l0⟩
 refine xb 1 [] [0, 2, 4, 8] (xRe (xW (xSq (xRg (xb 2 [] [0, 2, 4, 8, 12] (xRe (xW ?_)))))))
 refine xCd ((y2.2 != 0)) (fun h5 => ?_) (fun h5 => ?_)
 ·have hS := cond_T h5 hS
  have h5p : ¬ (y2.2 = 0) := ne_of_bne_ h5
  refine xSq (xRg (xb 3 [] [6, 7] (xRe (xW ?_))))
  obtain rfl := Option.some.inj hS
  exact xRet (sm [0, 1, 2, 3, 4, 5]) [6, 7] e4 ⟨j4, z4, i1, d1, z2, w2, j1, f0, j0, p0, t1, v0, d0, l1, by kernel_rfl, by kernel_rfl, a5, f3, j5, z1, i0, l0⟩ (fun _ _ h => h)
 ·have hS := cond_F h5 hS
  have h5p : y2.2 = 0 := eq_of_bne_false_ h5
  refine xSk (xW (xc [0, 2, 4] (xSq (xRg (xbo 4 [(3, 0)] [some ⟨b_c, 77, [vi y2.1.number, vp f2 0, vp w1 0, vp w0 0, vi 6, vi y2.1.cycle, vb y2.1.asked, vi y2.1.want.base, vi y2.1.want.have_]⟩, some ⟨f2, 126, (cNode y2.1.node j4 z4 i1 d1 z2 w2)⟩, some ⟨w1, 130, [vs j1 y2.1.sender.pieces f0]⟩, some ⟨w0, 132, (cColl y2.1.collector j0 p0 v0 d0)⟩, t1, l1, some ⟨b1, 49, (cFrame f v4 w4)⟩] [0, 2, 4] (xRe (xW (xSq ?_))))))))
  refine xDr 0 [3, 4] [9, 10] [some ⟨b_c, 77, [vi y2.1.number, vp f2 0, vp w1 0, vp w0 0, vi 6, vi y2.1.cycle, vb y2.1.asked, vi y2.1.want.base, vi y2.1.want.have_]⟩, some ⟨w1, 130, [vs j1 y2.1.sender.pieces f0]⟩, some ⟨w0, 132, (cColl y2.1.collector j0 p0 v0 d0)⟩, some ⟨b1, 49, (cFrame f v4 w4)⟩] 11 (fun RG => ?_) (fun _ _ _ _ _ h => h)
  refine xt 5 [0, 1, 2, 3, 4, 5] [(3, 0), (4, 3)] (sm [0, 2, 3, 6]) [20, 21, 22] RG pR (xSel (sm [1, 0, 2, 3, 4, 5, 6]) ?_)
  have w6 := w6.mono e4.r
  obtain ⟨y6, hy6, hS⟩ := bindO_T hS
  refine xO1 (lds := [3, 4]) 6 (xIe (lds := [3, 4]) pR (eC 1 (fun g' lr eb ln => c65 g' f2 y2.1.node j4 z4 i1 d1 z2 w2 f v4 w4 (came) (by rw [eb]; exact a5) (by rw [eb]; exact f3) (by rw [eb]; exact j5) (w6.mono lr) hy6)) ?_)
  rintro _ g7 _ e8 ⟨_, rfl, i7, j7, v6, t6, w7, z7, rfl, rfl, p7, l6, a6⟩
  refine kk (sm [1, 2, 3, 6]) (xt 0 [7, 8, 9, 10] [] (sm [1, 2, 3, 6]) [6, 7] RG e8.r (xAe (lds := [3, 4]) (xW ?_)))
  have z1 := z1.mono e8.b
  have i0 := i0.mono e8.b
  have l0 := l0.mono e8.b
  obtain rfl := Option.some.inj hS
  exact xRet (sm [1, 0, 2, 3, 4, 5]) [6, 7] (e4.trans e8) ⟨i7, j7, v6, t6, w7, z7, j1, f0, j0, p0, t1, v0, d0, l1, by kernel_rfl, by kernel_rfl, p7, l6, a6, z1, i0, l0⟩ (fun _ _ h => h)

def o104 (p : List UInt8) : Option (Result × Int) :=
 (cond (((((p).length : Nat) : Int) != 43)) (some (((⟨0, (⟨0, 0, 0, 0, 0, 0, 0⟩ : Targets)⟩ : Result), (4 : Int)))) (bindO (o99 ((List.take (19 - 11) (List.drop 11 p)) : List UInt8)) fun y11 => (bindO (o99 ((List.take (27 - 19) (List.drop 19 p)) : List UInt8)) fun y15 => (bindO (o99 ((List.take (35 - 27) (List.drop 27 p)) : List UInt8)) fun y19 => (bindO (o99 ((List.take (43 - 35) (List.drop 35 p)) : List UInt8)) fun y23 => (bindO (o99 ((List.take 8 p) : List UInt8)) fun y27 => (some (((⟨y27, (⟨((List.getD p 8 0).toNat : Int), ((List.getD p 9 0).toNat : Int), ((List.getD p 10 0).toNat : Int), y11, y15, y19, y23⟩ : Targets)⟩ : Result), (0 : Int))))))))))
set_option maxHeartbeats 8000000 in
theorem c104 (g : Gh) (p : List UInt8) (Ap : OA) (cp : Nat) (fp : Arr g.r tyU8 Ap cp p) {r : Result × Int} (hS : o104 p = some r) :
  Ctr Tryz.prog 104 [vs Ap p cp] g [] (fun v ψ o => v = Value.tuple #[(aResult r.1), vi r.2] ∧ o = []) := by
 unfold o104 at hS
 refine xFn Tryz.f104 (Tryz.f104.body.getD .skip) 40 ?_
 have nfp := fp.len
 refine xSq (xRg (xE eB ?_))
 rintro _ _ _ - ⟨b1, rfl, rfl, rfl⟩
 refine xb 1 [] [0, 2] (xRe (xW (xSq (xSq (xRg (xb 3 [] [0, 2, 7] (xRe (xW ?_))))))))
 refine xCd (((((p).length : Nat) : Int) != 43)) (fun h2 => ?_) (fun h2 => ?_)
 ·have hS := cond_T h2 hS
  have h2p : ¬ ((((p).length : Nat) : Int) = 43) := ne_of_bne_ h2
  refine xSq (xRg (xbo 3 [(1, 0)] [some ⟨b1, 200, (cResult (⟨0, Z0⟩ : Result))⟩] [2, 3] (xRe (xW ?_))))
  obtain rfl := Option.some.inj hS
  exact xRetC [] [(2, 0)] gR ⟨by kernel_rfl, by kernel_rfl⟩ (fun _ _ h => h)
 ·have hS := cond_F h2 hS
  have h2p : (((p).length : Nat) : Int) = 43 := eq_of_bne_false_ h2
  refine xSk (xW (xc [0, 2] (xSq ?_)))
  refine xDr 0 [2, 5, 8] [11, 9] [some ⟨b1, 200, (cResult (⟨0, Z0⟩ : Result))⟩] 12 (fun RG => ?_) (fun _ _ _ _ _ h => h)
  have i4 : 8 < (p).length := by omega
  obtain ⟨ad3, cs3, hA3, hr3, hc3⟩ := fp.at_ (get_getD (d := 0) i4)
  have hr3 : cs3 = [vy ((List.getD p 8 0).toNat : Int)] := hr3
  subst hr3
  have nb3 := UInt8.toNat_lt (List.getD p 8 0)
  refine xt 11 [0] [] [some 0] [0, 2, 9] RG pR (xTp 1 RG (fun _ => (qIx 8 1 hA3 rfl i4)) (xTv 2 [some 0] RG pR (qLdP (Addr.add ad3 (8 * 1)) 0 hc3) ?_))
  have i6 : 9 < (p).length := by omega
  obtain ⟨ad5, cs5, hA5, hr5, hc5⟩ := fp.at_ (get_getD (d := 0) i6)
  have hr5 : cs5 = [vy ((List.getD p 9 0).toNat : Int)] := hr5
  subst hr5
  have nb5 := UInt8.toNat_lt (List.getD p 9 0)
  refine xt 8 [3] [] [some 0] [0, 2, 11, 12] RG pR (xTp 4 RG (fun _ => (qIx 9 1 hA5 rfl i6)) (xTv 5 [some 0] RG pR (qLdP (Addr.add ad5 (9 * 1)) 0 hc5) ?_))
  have i8 : 10 < (p).length := by omega
  obtain ⟨ad7, cs7, hA7, hr7, hc7⟩ := fp.at_ (get_getD (d := 0) i8)
  have hr7 : cs7 = [vy ((List.getD p 10 0).toNat : Int)] := hr7
  subst hr7
  have nb7 := UInt8.toNat_lt (List.getD p 10 0)
  refine xt 5 [6] [] [some 0] [0, 2, 11, 14, 15] RG pR (xTp 7 RG (fun _ => (qIx 10 1 hA7 rfl i8)) (xTv 8 [some 0] RG pR (qLdP (Addr.add ad7 (10 * 1)) 0 hc7) (xt 2 [9] [] [some 0] [0, 2, 18] RG pR (xO1 (lds := [2, 5, 8]) 10 (xIe (lds := [2, 5, 8]) pR eB ?_)))))
  rintro _ _ _ - ⟨b9, rfl, rfl, rfl⟩
  refine kk [some 1] (xO1 (lds := [2, 5, 8]) 11 (xId (lds := [2, 5, 8]) pR (eStL b9 0 0) ?_))
  rintro _ _ _ - ⟨rfl, rfl⟩
  refine kf (xAe (lds := [2, 5, 8]) (xW (xc [0, 2, 4] (xSq (xRg ?_)))))
  have t1 := fp.cap
  have f10 : Arr g.r tyU8 (offA Ap cp 11 1) (cp - 11) (List.take (19 - 11) (List.drop 11 p)) := fp.cut 11 19 (by omega) (by omega)
  have a2 := f10.len
  have j0 : 19 - 11 = ((List.take (19 - 11) (List.drop 11 p))).length := by simp only [List.length_take, List.length_drop] <;> omega
  have f1 : ((((List.take (19 - 11) (List.drop 11 p))).length : Nat) : Int) = 19 - 11 := by omega
  refine xb 1 [] [0, 2, 4, 19] (xV (qSl (m := 1) (A := Ap) (len := (p).length) (c := cp) 11 19 (some 11) (some 19) ((List.take (19 - 11) (List.drop 11 p))).length rfl rfl (by omega) (by omega) j0) ?_)
  obtain ⟨y11, l0, hS⟩ := bindO_T hS
  refine xE (eC 0 (fun g' lr eb ln => c99 g' ((List.take (19 - 11) (List.drop 11 p)) : List UInt8) (offA Ap cp 11 1) (cp - 11) (f10.mono lr) l0)) ?_
  rintro _ g12 _ e13 ⟨_, rfl, rfl, rfl⟩
  refine xbo 2 [(4, 0)] [some ⟨b9, 34, (cTargets (⟨((List.getD p 8 0).toNat : Int), ((List.getD p 9 0).toNat : Int), ((List.getD p 10 0).toNat : Int), y11, 0, 0, 0⟩ : Targets))⟩, some ⟨b1, 200, (cResult (⟨0, Z0⟩ : Result))⟩] [0, 2, 4] (xRe (xW (xSq (xRg ?_))))
  have fp := fp.mono e13.r
  have j1 := fp.cap
  have f14 : Arr g12.r tyU8 (offA Ap cp 19 1) (cp - 19) (List.take (27 - 19) (List.drop 19 p)) := fp.cut 19 27 (by omega) (by omega)
  have f2 := f14.len
  have p0 : 27 - 19 = ((List.take (27 - 19) (List.drop 19 p))).length := by simp only [List.length_take, List.length_drop] <;> omega
  have l1 : ((((List.take (27 - 19) (List.drop 19 p))).length : Nat) : Int) = 27 - 19 := by omega
  refine xb 1 [] [0, 2, 4, 23] (xV (qSl (m := 1) (A := Ap) (len := (p).length) (c := cp) 19 27 (some 19) (some 27) ((List.take (27 - 19) (List.drop 19 p))).length rfl rfl (by omega) (by omega) p0) ?_)
  obtain ⟨y15, z1, hS⟩ := bindO_T hS
  refine xE (eC 0 (fun g' lr eb ln => c99 g' ((List.take (27 - 19) (List.drop 19 p)) : List UInt8) (offA Ap cp 19 1) (cp - 19) (f14.mono lr) z1)) ?_
  rintro _ g16 _ e17 ⟨_, rfl, rfl, rfl⟩
  refine xbo 2 [(4, 0)] [some ⟨b9, 34, (cTargets (⟨((List.getD p 8 0).toNat : Int), ((List.getD p 9 0).toNat : Int), ((List.getD p 10 0).toNat : Int), y11, y15, 0, 0⟩ : Targets))⟩, some ⟨b1, 200, (cResult (⟨0, Z0⟩ : Result))⟩] [0, 2, 4] (xRe (xW (xSq (xRg ?_))))
  have fp := fp.mono e17.r
  have i1 := fp.cap
  have f18 : Arr g16.r tyU8 (offA Ap cp 27 1) (cp - 27) (List.take (35 - 27) (List.drop 27 p)) := fp.cut 27 35 (by omega) (by omega)
  have w3 := f18.len
  have w0 : 35 - 27 = ((List.take (35 - 27) (List.drop 27 p))).length := by simp only [List.length_take, List.length_drop] <;> omega
  have w2 : ((((List.take (35 - 27) (List.drop 27 p))).length : Nat) : Int) = 35 - 27 := by omega
  refine xb 1 [] [0, 2, 4, 27] (xV (qSl (m := 1) (A := Ap) (len := (p).length) (c := cp) 27 35 (some 27) (some 35) ((List.take (35 - 27) (List.drop 27 p))).length rfl rfl (by omega) (by omega) w0) ?_)
  obtain ⟨y19, f0, hS⟩ := bindO_T hS
  refine xE (eC 0 (fun g' lr eb ln => c99 g' ((List.take (35 - 27) (List.drop 27 p)) : List UInt8) (offA Ap cp 27 1) (cp - 27) (f18.mono lr) f0)) ?_
  rintro _ g20 _ e21 ⟨_, rfl, rfl, rfl⟩
  refine xbo 2 [(4, 0)] [some ⟨b9, 34, (cTargets (⟨((List.getD p 8 0).toNat : Int), ((List.getD p 9 0).toNat : Int), ((List.getD p 10 0).toNat : Int), y11, y15, y19, 0⟩ : Targets))⟩, some ⟨b1, 200, (cResult (⟨0, Z0⟩ : Result))⟩] [0, 2, 4] (xRe (xW (xSq (xRg ?_))))
  have fp := fp.mono e21.r
  have d1 := fp.cap
  have f22 : Arr g20.r tyU8 (offA Ap cp 35 1) (cp - 35) (List.take (43 - 35) (List.drop 35 p)) := fp.cut 35 43 (by omega) (by omega)
  have v2 := f22.len
  have d0 : 43 - 35 = ((List.take (43 - 35) (List.drop 35 p))).length := by simp only [List.length_take, List.length_drop] <;> omega
  have z2 : ((((List.take (43 - 35) (List.drop 35 p))).length : Nat) : Int) = 43 - 35 := by omega
  refine xb 1 [] [0, 2, 4, 31] (xV (qSl (m := 1) (A := Ap) (len := (p).length) (c := cp) 35 43 (some 35) (some 43) ((List.take (43 - 35) (List.drop 35 p))).length rfl rfl (by omega) (by omega) d0) ?_)
  obtain ⟨y23, w1, hS⟩ := bindO_T hS
  refine xE (eC 0 (fun g' lr eb ln => c99 g' ((List.take (43 - 35) (List.drop 35 p)) : List UInt8) (offA Ap cp 35 1) (cp - 35) (f22.mono lr) w1)) ?_
  rintro _ g24 _ e25 ⟨_, rfl, rfl, rfl⟩
  refine xbo 2 [(4, 0)] [some ⟨b9, 34, (cTargets (⟨((List.getD p 8 0).toNat : Int), ((List.getD p 9 0).toNat : Int), ((List.getD p 10 0).toNat : Int), y11, y15, y19, y23⟩ : Targets))⟩, some ⟨b1, 200, (cResult (⟨0, Z0⟩ : Result))⟩] [0, 2, 4] (xRe (xW (xSq ?_)))
  refine xDr 0 [3] [5, 4, 6] [some ⟨b9, 34, (cTargets (⟨((List.getD p 8 0).toNat : Int), ((List.getD p 9 0).toNat : Int), ((List.getD p 10 0).toNat : Int), y11, y15, y19, y23⟩ : Targets))⟩] 7 (fun RG => ?_) (fun _ _ _ _ _ h => h)
  have fp := fp.mono e25.r
  have v1 := fp.cap
  have f26 : Arr g24.r tyU8 (offA Ap cp 0 1) (cp - 0) (List.take 8 p) := fp.cut_to 8 (by omega)
  have d2 := f26.len
  have i0 : 8 - 0 = ((List.take 8 p)).length := by simp only [List.length_take, List.length_drop] <;> omega
  have j2 : ((((List.take 8 p)).length : Nat) : Int) = 8 - 0 := by omega
  refine xt 6 [0] [] [some 0] [2, 4, 35] RG pR (xTp 1 RG (fun _ => (qSl (m := 1) (A := Ap) (len := (p).length) (c := cp) 0 8 none (some 8) ((List.take 8 p)).length rfl rfl (by omega) (by omega) i0)) (xt 4 [3] [(3, 0)] [some 0] [2, 36, 38] RG pR ?_))
  obtain ⟨y27, v0, hS⟩ := bindO_T hS
  refine xO1 (lds := [3]) 2 (xIe (lds := [3]) pR (eC 0 (fun g' lr eb ln => c99 g' ((List.take 8 p) : List UInt8) (offA Ap cp 0 1) (cp - 0) (f26.mono lr) v0)) ?_)
  rintro _ g28 _ e29 ⟨_, rfl, rfl, rfl⟩
  refine kk [some 0] (xt 2 [4] [] [some 0] [2, 39] RG e29.r (xO1 (lds := [3]) 5 (xId (lds := [3]) e29.r (eStL b1 0 1) ?_)))
  rintro _ _ _ - ⟨rfl, rfl⟩
  refine kf (xt 0 [6] [] [some 0] [2, 3] RG e29.r (xAe (lds := [3]) (xW ?_)))
  obtain rfl := Option.some.inj hS
  exact xRetC [] [(2, 1)] (e13.trans (e17.trans (e21.trans (e25.trans e29)))) ⟨by kernel_rfl, by kernel_rfl⟩ (fun _ _ h => h)

def o66 (n : RNode) (f : Frame) (came : Bool) : Option (RNode × Int × Int) :=
 (cond ((n.stage != 5)) (some ((n, (0 : Int), (8 : Int)))) (cond ((!n.stepped)) (some ((({ n with stage := 0 }), (2 : Int), (0 : Int)))) (letJ (o60 ({ n with stage := 0 }) f (came) (3 : Int)) fun y7 => (bindO (τ := Int × Result) (cond (y7) (bindO (o104 f.payload) fun y20 => (some ((y20.2, y20.1)))) (some ((4, ((⟨0, (⟨0, 0, 0, 0, 0, 0, 0⟩ : Targets)⟩ : Result) : Result))))) fun t10 => (cond ((t10.1 != 0)) (some ((({ n with stage := 0 }), (3 : Int), (0 : Int)))) (cond (((((n.role == 3) || (n.isHeard && (n.heard.role == 3))) && (t10.2.steps == n.steps)) && ((t10.2.targets.lateral == n.told.lateral) && ((t10.2.targets.vertical == n.told.vertical) && ((t10.2.targets.phase == n.told.phase) && ((t10.2.targets.bank == n.told.bank) && ((t10.2.targets.speed == n.told.speed) && ((t10.2.targets.alt == n.told.alt) && (t10.2.targets.vs == n.told.vs))))))))) (some ((({ n with stage := 0 }), (4 : Int), (0 : Int)))) (some ((({ n with stage := 0 }), (2 : Int), (0 : Int))))))))))
theorem c66 (g : Gh) (n : RNode) (p0 : OA) (i0 : Nat) (w0 : OA) (j0 : Nat) (f : Frame) (f0 : OA) (l0 : Nat) (came : Bool) (v0 : Arr g.b tyU8 p0 i0 n.input) (d0 : Arr g.b tyU8 w0 j0 n.heard.input) (w1 : Arr g.r tyU8 f0 l0 f.payload) {r : RNode × Int × Int} (hS : o66 n f came = some r) :
  Ctr Tryz.prog 66 [(aRNode n p0 i0 w0 j0), (aFrame f f0 l0), vb came] g [] (fun v ψ o => ∃ (i1 : OA) (d1 : Nat) (z1 : OA) (j1 : Nat), v = Value.tuple #[(aRNode r.1 i1 d1 z1 j1), vy r.2.1, vi r.2.2] ∧ o = [] ∧ Arr ψ tyU8 i1 d1 r.1.input ∧ Arr ψ tyU8 z1 j1 r.1.heard.input) := by
 unfold o66 at hS
 refine xFn Tryz.f66 (Tryz.f66.body.getD .skip) 65 (xSq (xRg (xE eB ?_)))
 rintro _ _ _ - ⟨b1, rfl, rfl, rfl⟩
 refine xE eB ?_
 rintro _ _ _ - ⟨b2, rfl, rfl, rfl⟩
 refine xE eB ?_
 rintro _ _ _ - ⟨b3, rfl, rfl, rfl⟩
 refine xb 2 [] [2, 3, 4, 6] (xRe (xW (xSq (xSq (xRg (xb 3 [(1, 2)] [2, 3, 4, 6, 14] (xRe (xW ?_))))))))
 refine xCd ((n.stage != 5)) (fun h4 => ?_) (fun h4 => ?_)
 ·have hS := cond_T h4 hS
  have h4p : ¬ (n.stage = 5) := ne_of_bne_ h4
  refine xSq (xRg (xbo 4 [(0, 2), (1, 0)] [some ⟨b3, 36, (cRNode n p0 i0 w0 j0)⟩, some ⟨b2, 49, (cFrame f f0 l0)⟩, some ⟨b1, 36, (cRNode n p0 i0 w0 j0)⟩] [6, 7, 8] (xRe (xW ?_))))
  obtain rfl := Option.some.inj hS
  exact xRetC [] [(6, 0)] gR ⟨p0, i0, w0, j0, by kernel_rfl, by kernel_rfl, v0, d0⟩ (fun _ _ h => h)
 ·have hS := cond_F h4 hS
  have h4p : n.stage = 5 := eq_of_bne_false_ h4
  refine xSk (xW (xc [2, 3, 4, 6] (xSq (xRg (xbo 2 [(1, 2)] [some ⟨b3, 36, (cRNode (⟨0, 0, 0, 0, 0, 0, ([] : List UInt8), false, false, (⟨0, 0, (⟨0, 0⟩ : Want), ([] : List UInt8)⟩ : Heard), false, Z0⟩ : RNode) none 0 none 0)⟩, some ⟨b2, 49, (cFrame f f0 l0)⟩, some ⟨b1, 36, (cRNode ({ n with stage := 0 }) p0 i0 w0 j0)⟩] [2, 3, 4, 6] (xRe (xW (xSq (xSq (xRg (xb 3 [(1, 2)] [2, 3, 4, 6, 19] (xRe (xW ?_)))))))))))))
  refine xCd ((!n.stepped)) (fun h5 => ?_) (fun h5 => ?_)
  ·have hS := cond_T h5 hS
   refine xSq (xRg (xbo 4 [(0, 2), (1, 0)] [some ⟨b3, 36, (cRNode ({ n with stage := 0 }) p0 i0 w0 j0)⟩, some ⟨b2, 49, (cFrame f f0 l0)⟩, some ⟨b1, 36, (cRNode ({ n with stage := 0 }) p0 i0 w0 j0)⟩] [6, 7, 8] (xRe (xW ?_))))
   obtain rfl := Option.some.inj hS
   exact xRetC [] [(6, 0)] gR ⟨p0, i0, w0, j0, by kernel_rfl, by kernel_rfl, v0, d0⟩ (fun _ _ h => h)
  ·have hS := cond_F h5 hS
   refine xSk (xW (xc [2, 3, 4, 6] (xSq (xRg (xb 1 [] [2, 3, 4, 6, 21] (xE eB ?_))))))
   rintro _ _ _ - ⟨b6, rfl, rfl, rfl⟩
   refine xbo 2 [(2, 0)] [some ⟨b6, 200, (cResult (⟨0, Z0⟩ : Result))⟩, some ⟨b3, 36, (cRNode (⟨0, 0, 0, 0, 0, 0, ([] : List UInt8), false, false, (⟨0, 0, (⟨0, 0⟩ : Want), ([] : List UInt8)⟩ : Heard), false, Z0⟩ : RNode) none 0 none 0)⟩, some ⟨b2, 49, (cFrame f f0 l0)⟩, some ⟨b1, 36, (cRNode ({ n with stage := 0 }) p0 i0 w0 j0)⟩] [2, 3, 4, 6, 9, 10] (xRe (xW (xSq (xSq (xRg (xb 3 [(0, 3), (1, 2)] [3, 4, 6, 9, 10, 22, 23, 24] ?_))))))
   obtain ⟨y7, hy7, hS⟩ := letJ_T hS
   refine xE (eC 0 (fun g' lr eb ln => c60 g' ({ n with stage := 0 }) p0 i0 w0 j0 f f0 l0 (came) (3 : Int) ((v0.mono g.br).mono lr) ((d0.mono g.br).mono lr) (w1.mono lr) hy7)) ?_
   rintro _ g8 _ e9 ⟨_, rfl, rfl, rfl⟩
   refine xRe (xW (xc [3, 4, 6, 9, 10, 25] ?_))
   refine xBindO hS (fun g own sl t10 => own = [some ⟨b6, 200, (cResult t10.2)⟩, some ⟨b3, 36, (cRNode (⟨0, 0, 0, 0, 0, 0, ([] : List UInt8), false, false, (⟨0, 0, (⟨0, 0⟩ : Want), ([] : List UInt8)⟩ : Heard), false, Z0⟩ : RNode) none 0 none 0)⟩, some ⟨b1, 36, (cRNode ({ n with stage := 0 }) p0 i0 w0 j0)⟩] ∧ sl = [(3, vp b1 0), (6, vp b3 0), (9, vp b6 0), (10, vi t10.1)]) ?_ ?_
   ·rintro g11 _ _ t10 e12 ⟨rfl, rfl⟩ hS
    refine xW (xSq (xSq (xRg (xb 2 [] [3, 6, 9, 33] (xRe (xW ?_))))))
    refine xCd ((t10.1 != 0)) (fun h13 => ?_) (fun h13 => ?_)
    ·have hS := cond_T h13 hS
     have f3 : ¬ (t10.1 = 0) := ne_of_bne_ h13
     refine xSq (xRg (xbo 4 [(0, 2), (1, 1)] [some ⟨b6, 200, (cResult t10.2)⟩, some ⟨b3, 36, (cRNode ({ n with stage := 0 }) p0 i0 w0 j0)⟩, some ⟨b1, 36, (cRNode ({ n with stage := 0 }) p0 i0 w0 j0)⟩] [6, 7, 8] (xRe (xW ?_))))
     have v0 := v0.mono (e9.trans e12).b
     have d0 := d0.mono (e9.trans e12).b
     obtain rfl := Option.some.inj hS
     exact xRetC [] [(6, 1)] (e9.trans e12) ⟨p0, i0, w0, j0, by kernel_rfl, by kernel_rfl, v0, d0⟩ (fun _ _ h => h)
    ·have hS := cond_F h13 hS
     have f3 : t10.1 = 0 := eq_of_bne_false_ h13
     refine xSk (xW (xc [3, 6, 9] (xSq (xRg (xb 4 [(1, 2)] [3, 6, 9, 38] ?_)))))
     refine wpr_grp 13 [(3, vp b1 0), (6, vp b3 0), (9, vp b6 0), (47, vb ((n.role == 3) || (n.isHeard && (n.heard.role == 3))))] (fun hk3 => ?_) ?_
     ·refine wpq_split 38 (b := (n.role == 3)) (by kernel_rfl) (fun q14 => ?_) (fun q14 => ?_)
      ·have i4 : n.role = 3 := eq_of_beq q14
       refine xb 9 [] [3, 6, 9, 47] (wpq_re 47 (v := vb true) (Value.bool (((n.role == 3) || (n.isHeard && (n.heard.role == 3))))) (by kernel_rfl) (re_or1 q14) ?_)
       exact wpq_sub _ (by kernel_rfl) hk3
      ·have i4 : ¬ (n.role = 3) := ne_of_beq_false_ q14
       refine xb 3 [(5, 2)] [3, 6, 9, 38, 41] ?_
       refine wpr_grp 12 [(3, vp b1 0), (6, vp b3 0), (9, vp b6 0), (38, vb false), (46, vb (n.isHeard && (n.heard.role == 3)))] (fun hk6 => ?_) ?_
       ·refine wpq_split 41 (b := n.isHeard) (by kernel_rfl) (fun q15 => ?_) (fun q15 => ?_)
        ·refine xb 5 [(9, 2)] [3, 6, 9, 38, 46] ?_
         refine wpq_re 46 (v := vb (n.heard.role == 3)) (Value.bool ((n.isHeard && (n.heard.role == 3)))) (by kernel_rfl) (re_and1 q15) ?_
         exact wpq_sub _ (by kernel_rfl) hk6
        ·refine xb 5 [] [3, 6, 9, 38, 46] ?_
         refine wpq_re 46 (v := vb false) (Value.bool ((n.isHeard && (n.heard.role == 3)))) (by kernel_rfl) (re_and0 q15) ?_
         exact wpq_sub _ (by kernel_rfl) hk6
       ·refine xb 1 [] [3, 6, 9, 47] ?_
        refine wpq_re 47 (v := vb (n.isHeard && (n.heard.role == 3))) (Value.bool (((n.role == 3) || (n.isHeard && (n.heard.role == 3))))) (by kernel_rfl) (re_or0 q14) ?_
        exact wpq_sub _ (by kernel_rfl) hk3
     ·refine xb 1 [] [3, 6, 9, 11] ?_
      refine xRe (xW (xSq (xSq (xRg (xb 2 [] [3, 6, 9, 49] ?_)))))
      refine wpr_grp 8 [(3, vp b1 0), (6, vp b3 0), (9, vp b6 0), (55, vb (((n.role == 3) || (n.isHeard && (n.heard.role == 3))) && (t10.2.steps == n.steps)))] (fun hk1 => ?_) ?_
      ·refine wpq_split 49 (b := ((n.role == 3) || (n.isHeard && (n.heard.role == 3)))) (by kernel_rfl) (fun q16 => ?_) (fun q16 => ?_)
       ·refine xb 6 [(3, 0), (5, 2)] [3, 6, 9, 55] ?_
        refine wpq_re 55 (v := vb (t10.2.steps == n.steps)) (Value.bool ((((n.role == 3) || (n.isHeard && (n.heard.role == 3))) && (t10.2.steps == n.steps)))) (by kernel_rfl) (re_and1 q16) ?_
        exact wpq_sub _ (by kernel_rfl) hk1
       ·have w4 := (or_false_ q16).1
        have a4 : ¬ (n.role = 3) := ne_of_beq_false_ w4
        refine xb 6 [] [3, 6, 9, 55] (wpq_re 55 (v := vb false) (Value.bool ((((n.role == 3) || (n.isHeard && (n.heard.role == 3))) && (t10.2.steps == n.steps)))) (by kernel_rfl) (re_and0 q16) ?_)
        exact wpq_sub _ (by kernel_rfl) hk1
      ·refine xb 1 [] [3, 6, 9, 56] ?_
       refine wpr_grp 15 [(3, vp b1 0), (6, vp b3 0), (62, vb ((((n.role == 3) || (n.isHeard && (n.heard.role == 3))) && (t10.2.steps == n.steps)) && ((t10.2.targets.lateral == n.told.lateral) && ((t10.2.targets.vertical == n.told.vertical) && ((t10.2.targets.phase == n.told.phase) && ((t10.2.targets.bank == n.told.bank) && ((t10.2.targets.speed == n.told.speed) && ((t10.2.targets.alt == n.told.alt) && (t10.2.targets.vs == n.told.vs)))))))))] (fun hk8 => ?_) ?_
       ·refine wpq_split 56 (b := (((n.role == 3) || (n.isHeard && (n.heard.role == 3))) && (t10.2.steps == n.steps))) (by kernel_rfl) (fun q17 => ?_) (fun q17 => ?_)
        ·have w5 := (and_true_ q17).1
         have z4 := (and_true_ q17).2
         have f4 : t10.2.steps = n.steps := eq_of_beq z4
         refine xb 4 [(10, 0), (12, 2)] [3, 6, 56, 58, 60] (xV (qEqA (((t10.2.targets.lateral == n.told.lateral) && ((t10.2.targets.vertical == n.told.vertical) && ((t10.2.targets.phase == n.told.phase) && ((t10.2.targets.bank == n.told.bank) && ((t10.2.targets.speed == n.told.speed) && ((t10.2.targets.alt == n.told.alt) && (t10.2.targets.vs == n.told.vs))))))))) (xb 1 [] [3, 6, 62] (wpq_re 62 (v := vb ((t10.2.targets.lateral == n.told.lateral) && ((t10.2.targets.vertical == n.told.vertical) && ((t10.2.targets.phase == n.told.phase) && ((t10.2.targets.bank == n.told.bank) && ((t10.2.targets.speed == n.told.speed) && ((t10.2.targets.alt == n.told.alt) && (t10.2.targets.vs == n.told.vs)))))))) (Value.bool (((((n.role == 3) || (n.isHeard && (n.heard.role == 3))) && (t10.2.steps == n.steps)) && ((t10.2.targets.lateral == n.told.lateral) && ((t10.2.targets.vertical == n.told.vertical) && ((t10.2.targets.phase == n.told.phase) && ((t10.2.targets.bank == n.told.bank) && ((t10.2.targets.speed == n.told.speed) && ((t10.2.targets.alt == n.told.alt) && (t10.2.targets.vs == n.told.vs)))))))))) (by kernel_rfl) (re_and1 q17) ?_)))
         exact wpq_sub _ (by kernel_rfl) hk8
        ·refine xb 6 [] [3, 6, 62] ?_
         refine wpq_re 62 (v := vb false) (Value.bool (((((n.role == 3) || (n.isHeard && (n.heard.role == 3))) && (t10.2.steps == n.steps)) && ((t10.2.targets.lateral == n.told.lateral) && ((t10.2.targets.vertical == n.told.vertical) && ((t10.2.targets.phase == n.told.phase) && ((t10.2.targets.bank == n.told.bank) && ((t10.2.targets.speed == n.told.speed) && ((t10.2.targets.alt == n.told.alt) && (t10.2.targets.vs == n.told.vs)))))))))) (by kernel_rfl) (re_and0 q17) ?_
         exact wpq_sub _ (by kernel_rfl) hk8
       ·refine xRe ?_
        refine xW ?_
        refine xCd (((((n.role == 3) || (n.isHeard && (n.heard.role == 3))) && (t10.2.steps == n.steps)) && ((t10.2.targets.lateral == n.told.lateral) && ((t10.2.targets.vertical == n.told.vertical) && ((t10.2.targets.phase == n.told.phase) && ((t10.2.targets.bank == n.told.bank) && ((t10.2.targets.speed == n.told.speed) && ((t10.2.targets.alt == n.told.alt) && (t10.2.targets.vs == n.told.vs))))))))) (fun h18 => ?_) (fun h18 => ?_)
        ·have hS := cond_T h18 hS
         have a3 := (and_true_ h18).1
         have a2 := (and_true_ h18).2
         have v3 := (and_true_ a3).2
         have l4 : t10.2.steps = n.steps := eq_of_beq v3
         have d3 := (and_true_ a2).1
         have v2 := (and_true_ a2).2
         have v4 : t10.2.targets.lateral = n.told.lateral := eq_of_beq d3
         have w3 := (and_true_ v2).1
         have z2 := (and_true_ v2).2
         have t4 : t10.2.targets.vertical = n.told.vertical := eq_of_beq w3
         have f2 := (and_true_ z2).1
         have l1 := (and_true_ z2).2
         have d4 : t10.2.targets.phase = n.told.phase := eq_of_beq f2
         have d2 := (and_true_ l1).1
         have v1 := (and_true_ l1).2
         have l3 : t10.2.targets.bank = n.told.bank := eq_of_beq d2
         have j2 := (and_true_ v1).1
         have t1 := (and_true_ v1).2
         have t3 : t10.2.targets.speed = n.told.speed := eq_of_beq j2
         have w2 := (and_true_ t1).1
         have f1 := (and_true_ t1).2
         have j3 : t10.2.targets.alt = n.told.alt := eq_of_beq w2
         have z3 : t10.2.targets.vs = n.told.vs := eq_of_beq f1
         refine xSq (xRg (xbo 4 [(0, 2), (1, 1)] [some ⟨b6, 200, (cResult t10.2)⟩, some ⟨b3, 36, (cRNode ({ n with stage := 0 }) p0 i0 w0 j0)⟩, some ⟨b1, 36, (cRNode ({ n with stage := 0 }) p0 i0 w0 j0)⟩] [6, 7, 8] (xRe (xW ?_))))
         have v0 := v0.mono (e9.trans e12).b
         have d0 := d0.mono (e9.trans e12).b
         obtain rfl := Option.some.inj hS
         exact xRetC [] [(6, 1)] (e9.trans e12) ⟨p0, i0, w0, j0, by kernel_rfl, by kernel_rfl, v0, d0⟩ (fun _ _ h => h)
        ·have hS := cond_F h18 hS
         refine xSk (xW (xc [3, 6] (xSq (xRg (xbo 4 [(0, 2), (1, 1)] [some ⟨b6, 200, (cResult t10.2)⟩, some ⟨b3, 36, (cRNode ({ n with stage := 0 }) p0 i0 w0 j0)⟩, some ⟨b1, 36, (cRNode ({ n with stage := 0 }) p0 i0 w0 j0)⟩] [6, 7, 8] (xRe (xW ?_)))))))
         have v0 := v0.mono (e9.trans e12).b
         have d0 := d0.mono (e9.trans e12).b
         obtain rfl := Option.some.inj hS
         exact xRetC [] [(6, 1)] (e9.trans e12) ⟨p0, i0, w0, j0, by kernel_rfl, by kernel_rfl, v0, d0⟩ (fun _ _ h => h)
   ·intro uu10 hS hN10
    refine xCd (y7) (fun h19 => ?_) (fun h19 => ?_)
    ·have hS := cond_T h19 hS
     refine xRg (xb 2 [(1, 2)] [3, 6, 9, 10, 28] ?_)
     have w1 := w1.mono e9.r
     obtain ⟨y20, j4, hS⟩ := bindO_T hS
     refine xE (eC 0 (fun g' lr eb ln => c104 g' f.payload f0 l0 (w1.mono lr) j4)) ?_
     rintro _ g21 _ e22 ⟨_, rfl, rfl, rfl⟩
     refine xbo 5 [(6, 0)] [some ⟨b6, 200, (cResult y20.1)⟩, some ⟨b3, 36, (cRNode (⟨0, 0, 0, 0, 0, 0, ([] : List UInt8), false, false, (⟨0, 0, (⟨0, 0⟩ : Want), ([] : List UInt8)⟩ : Heard), false, Z0⟩ : RNode) none 0 none 0)⟩, some ⟨b2, 49, (cFrame f f0 l0)⟩, some ⟨b1, 36, (cRNode ({ n with stage := 0 }) p0 i0 w0 j0)⟩] [3, 6, 9, 10] (xRe (xSel (sm [0, 1, 3]) (xc [3, 6, 9, 10] ?_)))
     have eS := (Option.some.inj hS).symm
     exact hN10 _ eS _ _ _ e22 ⟨by kernel_rfl, by kernel_rfl⟩
    ·have hS := cond_F h19 hS
     refine xSk (xSel (sm [0, 1, 3]) (xc [3, 6, 9, 10] ?_))
     have eS := (Option.some.inj hS).symm
     exact hN10 _ eS _ _ _ gR ⟨by kernel_rfl, by kernel_rfl⟩

def o33 (c : RComp) (f : Frame) (came : Bool) : Option (RComp × Int × Int) :=
 (cond ((c.stage != 5)) (some ((c, (0 : Int), (8 : Int)))) (bindO (o66 c.node f (came)) fun y5 => (some ((({ c with node := y5.1, stage := 6 }), y5.2.1, (0 : Int))))))
theorem c33 (g : Gh) (c : RComp) (j1 : OA) (i1 : Nat) (f0 : OA) (l0 : Nat) (v0 : OA) (d0 : Nat) (j0 : OA) (w0 : Nat) (i0 : OA) (p0 : Nat) (f : Frame) (z2 : OA) (f1 : Nat) (came : Bool) (l3 : Arr g.b tyU8 j1 i1 c.node.input) (a2 : Arr g.b tyU8 f0 l0 c.node.heard.input) (v1 : Arr g.b tyPiece v0 d0 c.sender.pieces) (d1 : Arr g.b (tyArr tyU8) j0 w0 c.collector.parts) (t1 : Arr g.b tySett i0 p0 c.collector.sets) (a3 : Arr g.r tyU8 z2 f1 f.payload) {r : RComp × Int × Int} (hS : o33 c f came = some r) :
  Ctr Tryz.prog 33 [(aRComp c j1 i1 f0 l0 v0 d0 j0 w0 i0 p0), (aFrame f z2 f1), vb came] g [] (fun v ψ o => ∃ (t3 : OA) (v3 : Nat) (d2 : OA) (j2 : Nat) (j3 : OA) (d3 : Nat) (v2 : OA) (f2 : Nat) (z3 : OA) (w3 : Nat), v = Value.tuple #[(aRComp r.1 t3 v3 d2 j2 j3 d3 v2 f2 z3 w3), vy r.2.1, vi r.2.2] ∧ o = [] ∧ Arr ψ tyU8 t3 v3 r.1.node.input ∧ Arr ψ tyU8 d2 j2 r.1.node.heard.input ∧ Arr ψ tyPiece j3 d3 r.1.sender.pieces ∧ Arr ψ (tyArr tyU8) v2 f2 r.1.collector.parts ∧ Arr ψ tySett z3 w3 r.1.collector.sets) := by
 unfold o33 at hS
 refine xFn Tryz.f33 (Tryz.f33.body.getD .skip) 30 (xSq (xRg (xE eB ?_)))
 rintro _ _ _ - ⟨b1, rfl, rfl, rfl⟩
 refine xE eB ?_
 rintro _ _ _ - ⟨b2, rfl, rfl, rfl⟩
 refine xE eB ?_
 rintro _ _ _ - ⟨b3, rfl, rfl, rfl⟩
 refine xb 2 [] [2, 3, 4, 6] (xRe (xW (xSq (xSq (xRg (xb 3 [(1, 2)] [2, 3, 4, 6, 14] (xRe (xW ?_))))))))
 refine xCd ((c.stage != 5)) (fun h4 => ?_) (fun h4 => ?_)
 ·have hS := cond_T h4 hS
  have h4p : ¬ (c.stage = 5) := ne_of_bne_ h4
  refine xSq (xRg (xbo 4 [(0, 2), (1, 0)] [some ⟨b3, 45, (cRComp c j1 i1 f0 l0 v0 d0 j0 w0 i0 p0)⟩, some ⟨b2, 49, (cFrame f z2 f1)⟩, some ⟨b1, 45, (cRComp c j1 i1 f0 l0 v0 d0 j0 w0 i0 p0)⟩] [6, 7, 8] (xRe (xW ?_))))
  obtain rfl := Option.some.inj hS
  exact xRetC [] [(6, 0)] gR ⟨j1, i1, f0, l0, v0, d0, j0, w0, i0, p0, by kernel_rfl, by kernel_rfl, l3, a2, v1, d1, t1⟩ (fun _ _ h => h)
 ·have hS := cond_F h4 hS
  have h4p : c.stage = 5 := eq_of_bne_false_ h4
  refine xSk (xW (xc [2, 3, 4, 6] (xSq (xRg (xb 4 [(1, 2), (2, 1)] [3, 6, 18, 19, 20] ?_)))))
  obtain ⟨y5, hy5, hS⟩ := bindO_T hS
  refine xE (eC 0 (fun g' lr eb ln => c66 g' c.node j1 i1 f0 l0 f z2 f1 (came) (by rw [eb]; exact l3) (by rw [eb]; exact a2) (a3.mono lr) hy5)) ?_
  rintro _ g6 _ e7 ⟨_, rfl, w2, l1, w1, z1, rfl, rfl, w4, f3⟩
  refine xb 4 [] [3, 6, 22, 23, 24] (xE eB ?_)
  rintro _ _ _ - ⟨b8, rfl, rfl, rfl⟩
  refine xbo 3 [(10, 0)] [some ⟨b8, 36, (cRNode y5.1 w2 l1 w1 z1)⟩, some ⟨b3, 45, (cRComp (⟨(⟨0, 0, 0, 0, 0, 0, ([] : List UInt8), false, false, (⟨0, 0, (⟨0, 0⟩ : Want), ([] : List UInt8)⟩ : Heard), false, Z0⟩ : RNode), Z3, Z4, false, 0⟩ : RComp) none 0 none 0 none 0 none 0 none 0)⟩, some ⟨b2, 49, (cFrame f z2 f1)⟩, some ⟨b1, 45, (cRComp c j1 i1 f0 l0 v0 d0 j0 w0 i0 p0)⟩] [3, 6, 9, 10] (xRe (xW (xSq (xRg (xbo 5 [(0, 0), (2, 3), (4, 3)] [some ⟨b8, 36, (cRNode y5.1 w2 l1 w1 z1)⟩, some ⟨b3, 45, (cRComp (⟨(⟨0, 0, 0, 0, 0, 0, ([] : List UInt8), false, false, (⟨0, 0, (⟨0, 0⟩ : Want), ([] : List UInt8)⟩ : Heard), false, Z0⟩ : RNode), Z3, Z4, false, 0⟩ : RComp) none 0 none 0 none 0 none 0 none 0)⟩, some ⟨b2, 49, (cFrame f z2 f1)⟩, some ⟨b1, 45, (cRComp ({ c with node := y5.1, stage := 6 }) w2 l1 w1 z1 v0 d0 j0 w0 i0 p0)⟩] [3, 6, 10] (xRe (xW (xSq (xRg (xbo 5 [(0, 3), (2, 1)] [some ⟨b8, 36, (cRNode y5.1 w2 l1 w1 z1)⟩, some ⟨b3, 45, (cRComp ({ c with node := y5.1, stage := 6 }) w2 l1 w1 z1 v0 d0 j0 w0 i0 p0)⟩, some ⟨b2, 49, (cFrame f z2 f1)⟩, some ⟨b1, 45, (cRComp ({ c with node := y5.1, stage := 6 }) w2 l1 w1 z1 v0 d0 j0 w0 i0 p0)⟩] [6, 7, 8] (xRe (xW ?_))))))))))))
  have v1 := v1.mono e7.b
  have d1 := d1.mono e7.b
  have t1 := t1.mono e7.b
  obtain rfl := Option.some.inj hS
  exact xRetC [] [(6, 1)] e7 ⟨w2, l1, w1, z1, v0, d0, j0, w0, i0, p0, by kernel_rfl, by kernel_rfl, w4, f3, v1, d1, t1⟩ (fun _ _ h => h)

def o11 (n : Node) : Int :=
 (n.steps)
theorem c11 (g : Gh) (a_n : Addr) (n : Node) (v0 : OA) (d0 : Nat) (w0 : OA) (j0 : Nat) (p0 : OA) (i0 : Nat) (z1 : Cells g.r a_n (cNode n v0 d0 w0 j0 p0 i0)) (w1 : Arr g.r tyU8 v0 d0 n.input) (l0 : Arr g.r tyU8 w0 j0 n.heard.input) (f0 : Arr g.r tyU8 p0 i0 n.set_.in_) {r : Int} (hS : o11 n = r) :
  Ctr Tryz.prog 11 [Value.pointer (some a_n)] g [] (fun v ψ o => v = vi r ∧ o = []) := by
 unfold o11 at hS
 refine xFn Tryz.f11 (Tryz.f11.body.getD .skip) 9 (xSq (xRg (xb 1 [] [0] (xRe (xW (xSq (xSq (xRg (xb 2 [] [0, 4] (xRe (xW (xCf (xSk (xW (xc [0] (xSq (xRg (xb 3 [] [7] (xV (qLdP a_n 2 z1) (xb 1 [] [2] (xRe (xW ?_))))))))))))))))))))))
 have eS := hS.symm
 subst eS
 exact xRet [] [2] gR ⟨by kernel_rfl, by kernel_rfl⟩ (fun _ _ h => h)

def o105 (p : Piece) : Piece :=
 (letJ (o43 p.data) fun y3 => (({ p with data := y3 })))
theorem c105 (g : Gh) (p : Piece) (j0 : OA) (w0 : Nat) (l0 : Arr g.r tyU8 j0 w0 p.data) {r : Piece} (hS : o105 p = r) :
  Ctr Tryz.prog 105 [(aPiece p j0 w0)] g [] (fun v ψ o => ∃ (i0 : OA) (p0 : Nat), v = (aPiece r i0 p0) ∧ o = [] ∧ Arr ψ tyU8 i0 p0 r.data) := by
 unfold o105 at hS
 refine xFn Tryz.f105 (Tryz.f105.body.getD .skip) 8 (xSq (xRg (xE eB ?_)))
 rintro _ _ _ - ⟨b1, rfl, rfl, rfl⟩
 refine xE eB ?_
 rintro _ _ _ - ⟨b2, rfl, rfl, rfl⟩
 refine xRe (xW (xc [1, 2] (xSq (xRg (xb 2 [(1, 1)] [1, 2, 4] ?_)))))
 obtain ⟨y3, hy3, hS⟩ := letJ_T hS
 refine xE (eC 0 (fun g' lr eb ln => c43 g' p.data j0 w0 (l0.mono lr) hy3)) ?_
 rintro _ g4 _ e5 ⟨_, rfl, v0, d0, f0, rfl, rfl, w1⟩
 refine xbo 2 [(4, 2)] [f0, some ⟨b2, 67, (cPiece Z6 none 0)⟩, some ⟨b1, 67, (cPiece ({ p with data := y3 }) v0 d0)⟩] [1, 2] (xRe (xW (xSq (xRg (xbo 2 [(0, 2), (1, 1)] [f0, some ⟨b2, 67, (cPiece ({ p with data := y3 }) v0 d0)⟩, some ⟨b1, 67, (cPiece ({ p with data := y3 }) v0 d0)⟩] [2] (xRe (xW ?_)))))))
 refine wpq_freeze 0 (by kernel_rfl) w1 (fun g6 e7 f8 => ?_)
 have eS := hS.symm
 subst eS
 exact xRetC [] [(2, 1)] (e5.trans e7) ⟨v0, d0, by kernel_rfl, by kernel_rfl, f8⟩ (fun _ _ h => h)

def o67 (s : Sender) (w_ : Want) (steps : Int) (save : List UInt8) : Option (Sender × Piece × Int) :=
 (cond ((((decide ((((s.pieces).length : Nat) : Int) > 0) && (w_.base == (List.getD s.pieces 0 default).base)) && decide (w_.have_ ≥ 0)) && decide (w_.have_ < (((s.pieces).length : Nat) : Int)))) (letJ (o105 (List.getD s.pieces (w_.have_).toNat default)) fun y11 => (some ((s, y11, (0 : Int))))) (bindO (o12 (steps : Int) (save : List UInt8)) fun y14 => (cond ((y14.2 != 0)) (some ((s, (⟨0, 0, 0, ([] : List UInt8)⟩ : Piece), y14.2))) (grd (decide (0 < (y14.1).length)) (letJ (o105 (List.getD y14.1 0 default)) fun y20 => (some (((⟨y14.1⟩ : Sender), y20, (0 : Int)))))))))
theorem c67 (g : Gh) (b_s : Nat) (s : Sender) (j0 : OA) (i0 : Nat) (w_ : Want) (steps : Int) (w1 : List UInt8) (d0 : OA) (v0 : Nat) (w0 : Arr g.b tyPiece j0 i0 s.pieces) (w3 : Arr g.r tyU8 d0 v0 w1) {r : Sender × Piece × Int} (hS : o67 s w_ steps w1 = some r) :
  Ctr Tryz.prog 67 [vp b_s 0, Value.agg #[vi w_.base, vi w_.have_], vi steps, vs d0 w1 v0] g [some ⟨b_s, 130, [vs j0 s.pieces i0]⟩] (fun v ψ o => ∃ (f0 : OA) (l0 : Nat) (v1 : OA) (t1 : Nat), v = Value.tuple #[(aPiece r.2.1 v1 t1), vi r.2.2] ∧ o = [some ⟨b_s, 130, [vs f0 r.1.pieces l0]⟩] ∧ Arr ψ tyPiece f0 l0 r.1.pieces ∧ Arr ψ tyU8 v1 t1 r.2.1.data) := by
 unfold o67 at hS
 refine xFn Tryz.f67 (Tryz.f67.body.getD .skip) 75 ?_
 have d4 := w0.len
 have i6 := w3.len
 refine xSq (xRg (xE eB ?_))
 rintro _ _ _ - ⟨b1, rfl, rfl, rfl⟩
 refine xE eB ?_
 rintro _ _ _ - ⟨b2, rfl, rfl, rfl⟩
 refine xb 1 [] [0, 2, 3, 5, 8] (xRe (xW (xSq (xSq (xRg (xb 2 [] [0, 2, 3, 5, 8, 13] (xRe (xW (xCf (xSk (xW (xc [0, 2, 3, 5, 8] (xSq (xSq ?_))))))))))))))
 refine xDr 0 [3, 8, 12, 15, 20, 25, 29] [] [some ⟨b2, 67, (cPiece Z6 none 0)⟩, some ⟨b1, 75, [vi w_.base, vi w_.have_]⟩, some ⟨b_s, 130, [vs j0 s.pieces i0]⟩] 33 (fun RG => ?_) (fun _ _ _ _ _ h => h)
 refine xt 26 [0, 1, 2, 3, 4, 5, 6] [(3, 2)] (sm [0, 1, 2]) [0, 2, 3, 5, 8, 21] RG pR ?_
 refine wpa_grp 15 [true, true, true, true, true, true, true, true, true, true, true, true, true, true, true, true, true, true, false, false, false, false, false, false, false, false, false, false, false, false, false, false, false] [(0, vp b_s 0), (2, vi steps), (3, vs d0 w1 v0), (5, vp b1 0), (8, vp b2 0), (32, vb (decide ((((s.pieces).length : Nat) : Int) > 0) && (w_.base == (List.getD s.pieces 0 default).base)))] (fun hk6 => ?_) ?_
 ·refine wpq_split 21 (b := decide ((((s.pieces).length : Nat) : Int) > 0)) (by kernel_rfl) (fun q3 => ?_) (fun q3 => ?_)
  ·have q3p := of_decide_eq_true q3
   have i5 : 0 < (s.pieces).length := by omega
   obtain ⟨ad4, cs4, hA4, hr4, hc4⟩ := w0.at_ (get_getD (d := default) i5)
   obtain ⟨w6, z6, rfl, t3⟩ := hr4
   have v4 := t3.len
   refine xt 20 [7, 8, 9, 10, 11, 12] [(8, 1), (12, 2)] (sm [0, 1, 2]) [0, 2, 3, 5, 8, 21, 23, 27] RG pR (xTp 13 RG (fun _ => (qIx 0 4 hA4 rfl i5)) (xt 18 [14] [] (sm [0, 1, 2]) [0, 2, 3, 5, 8, 21, 23, 29] RG pR (xTv 15 (sm [0, 1, 2]) RG pR (qLdP (Addr.add ad4 (0 * 4)) 0 (hc4.mono g.br)) (xt 15 [16, 17] [] (sm [0, 1, 2]) [0, 2, 3, 5, 8, 32] RG pR (wpq_re 32 (v := vb (w_.base == (List.getD s.pieces 0 default).base)) (Value.bool ((decide ((((s.pieces).length : Nat) : Int) > 0) && (w_.base == (List.getD s.pieces 0 default).base)))) (by kernel_rfl) (re_and1 q3) ?_)))))
   exact wpq_sub _ (by kernel_rfl) hk6
  ·have q3p := of_decide_eq_false q3
   refine xt 15 [7, 8, 9, 10, 11, 12, 13, 14, 15, 16, 17] [] (sm [0, 1, 2]) [0, 2, 3, 5, 8, 32] RG pR (wpq_re 32 (v := vb false) (Value.bool ((decide ((((s.pieces).length : Nat) : Int) > 0) && (w_.base == (List.getD s.pieces 0 default).base)))) (by kernel_rfl) (re_and0 q3) ?_)
   exact wpq_sub _ (by kernel_rfl) hk6
 ·refine xt 14 [18] [] (sm [0, 1, 2]) [0, 2, 3, 5, 8, 33] RG pR ?_
  refine wpa_grp 10 [true, true, true, true, true, true, true, true, true, true, true, true, true, true, true, true, true, true, true, true, true, true, true, false, false, false, false, false, false, false, false, false, false] [(0, vp b_s 0), (2, vi steps), (3, vs d0 w1 v0), (5, vp b1 0), (8, vp b2 0), (37, vb ((decide ((((s.pieces).length : Nat) : Int) > 0) && (w_.base == (List.getD s.pieces 0 default).base)) && decide (w_.have_ ≥ 0)))] (fun w2 => ?_) ?_
  ·refine wpq_split 33 (b := (decide ((((s.pieces).length : Nat) : Int) > 0) && (w_.base == (List.getD s.pieces 0 default).base))) (by kernel_rfl) (fun q6 => ?_) (fun q6 => ?_)
   ·have q6l := (and_true_ q6).1
    have q6r := (and_true_ q6).2
    have j7 := of_decide_eq_true q6l
    have a6 : w_.base = (List.getD s.pieces 0 default).base := eq_of_beq q6r
    refine xt 10 [19, 20, 21, 22] [(20, 1)] (sm [0, 1, 2]) [0, 2, 3, 5, 8, 37] RG pR (wpq_re 37 (v := vb (decide (w_.have_ ≥ 0))) (Value.bool (((decide ((((s.pieces).length : Nat) : Int) > 0) && (w_.base == (List.getD s.pieces 0 default).base)) && decide (w_.have_ ≥ 0)))) (by kernel_rfl) (re_and1 q6) ?_)
    exact wpq_sub _ (by kernel_rfl) w2
   ·refine xt 10 [19, 20, 21, 22] [] (sm [0, 1, 2]) [0, 2, 3, 5, 8, 37] RG pR ?_
    refine wpq_re 37 (v := vb false) (Value.bool (((decide ((((s.pieces).length : Nat) : Int) > 0) && (w_.base == (List.getD s.pieces 0 default).base)) && decide (w_.have_ ≥ 0)))) (by kernel_rfl) (re_and0 q6) ?_
    exact wpq_sub _ (by kernel_rfl) w2
  ·refine xt 9 [23] [] (sm [0, 1, 2]) [0, 2, 3, 5, 8, 38] RG pR ?_
   refine wpa_grp 0 [true, true, true, true, true, true, true, true, true, true, true, true, true, true, true, true, true, true, true, true, true, true, true, true, true, true, true, true, true, true, true, true, true] [(0, vp b_s 0), (2, vi steps), (3, vs d0 w1 v0), (5, vp b1 0), (8, vp b2 0), (47, vb (((decide ((((s.pieces).length : Nat) : Int) > 0) && (w_.base == (List.getD s.pieces 0 default).base)) && decide (w_.have_ ≥ 0)) && decide (w_.have_ < (((s.pieces).length : Nat) : Int))))] (fun f3 => ?_) ?_
   ·refine wpq_split 38 (b := ((decide ((((s.pieces).length : Nat) : Int) > 0) && (w_.base == (List.getD s.pieces 0 default).base)) && decide (w_.have_ ≥ 0))) (by kernel_rfl) (fun q7 => ?_) (fun q7 => ?_)
    ·have q7l := (and_true_ q7).1
     have q7r := (and_true_ q7).2
     have f4 := (and_true_ q7l).1
     have a4 := (and_true_ q7l).2
     have l6 := of_decide_eq_true f4
     have v6 : w_.base = (List.getD s.pieces 0 default).base := eq_of_beq a4
     have z7 := of_decide_eq_true q7r
     refine xt 0 [24, 25, 26, 27, 28, 29, 30, 31, 32] [(25, 1), (29, 2)] (sm [0, 1, 2]) [0, 2, 3, 5, 8, 47] RG pR (wpq_re 47 (v := vb (decide (w_.have_ < (((s.pieces).length : Nat) : Int)))) (Value.bool ((((decide ((((s.pieces).length : Nat) : Int) > 0) && (w_.base == (List.getD s.pieces 0 default).base)) && decide (w_.have_ ≥ 0)) && decide (w_.have_ < (((s.pieces).length : Nat) : Int))))) (by kernel_rfl) (re_and1 q7) ?_)
     exact wpq_sub _ (by kernel_rfl) f3
    ·refine xt 0 [24, 25, 26, 27, 28, 29, 30, 31, 32] [] (sm [0, 1, 2]) [0, 2, 3, 5, 8, 47] RG pR ?_
     refine wpq_re 47 (v := vb false) (Value.bool ((((decide ((((s.pieces).length : Nat) : Int) > 0) && (w_.base == (List.getD s.pieces 0 default).base)) && decide (w_.have_ ≥ 0)) && decide (w_.have_ < (((s.pieces).length : Nat) : Int))))) (by kernel_rfl) (re_and0 q7) ?_
     exact wpq_sub _ (by kernel_rfl) f3
   ·refine xAe (lds := [3, 8, 12, 15, 20, 25, 29]) ?_
    refine xW ?_
    refine xCd ((((decide ((((s.pieces).length : Nat) : Int) > 0) && (w_.base == (List.getD s.pieces 0 default).base)) && decide (w_.have_ ≥ 0)) && decide (w_.have_ < (((s.pieces).length : Nat) : Int)))) (fun h8 => ?_) (fun h8 => ?_)
    ·have hS := cond_T h8 hS
     have h8l := (and_true_ h8).1
     have h8r := (and_true_ h8).2
     have v3 := (and_true_ h8l).1
     have j5 := (and_true_ h8l).2
     have j4 := (and_true_ v3).1
     have i4 := (and_true_ v3).2
     have j6 := of_decide_eq_true j4
     have d6 : w_.base = (List.getD s.pieces 0 default).base := eq_of_beq i4
     have t6 := of_decide_eq_true j5
     have w7 := of_decide_eq_true h8r
     refine xSq ?_
     refine xDr 0 [3, 5, 7] [9, 10] [some ⟨b1, 75, [vi w_.base, vi w_.have_]⟩, some ⟨b_s, 130, [vs j0 s.pieces i0]⟩] 11 (fun RG => ?_) (fun _ _ _ _ _ h => h)
     have i10 : (w_.have_).toNat < (s.pieces).length := by omega
     obtain ⟨ad9, cs9, hA9, hr9, hc9⟩ := w0.at_ (get_getD (d := default) i10)
     obtain ⟨d3, j3, rfl, f1⟩ := hr9
     have w5 := f1.len
     refine xt 5 [0, 1, 2, 3, 4, 5] [(3, 1), (5, 0)] [some 1, some 2] [8, 51, 53] RG pR (xTp 6 RG (fun _ => (qIx (w_.have_).toNat 4 hA9 (show w_.have_ = _ from by omega) i10)) (xTv 7 [some 1, some 2] RG pR (qLdP (Addr.add ad9 ((w_.have_).toNat * 4)) 0 (hc9.mono g.br)) ?_))
     obtain ⟨y11, d5, hS⟩ := letJ_T hS
     refine xO1 (lds := [3, 5, 7]) 8 (xIe (lds := [3, 5, 7]) pR (eC 0 (fun g' lr eb ln => c105 g' (List.getD s.pieces (w_.have_).toNat default) d3 j3 ((f1.mono g.br).mono lr) d5)) ?_)
     rintro _ g12 _ e13 ⟨_, rfl, d2, j2, rfl, rfl, d1⟩
     refine kk [some 1, some 2] ?_
     have w4 := d1.len
     refine xO1 (lds := [3, 5, 7]) 9 (xId (lds := [3, 5, 7]) e13.r (eStL b2 0 0) ?_)
     rintro _ _ _ - ⟨rfl, rfl⟩
     refine kf (xt 0 [10] [] [some 1, some 2] [8, 9] RG e13.r (xAe (lds := [3, 5, 7]) (xW ?_)))
     have w0 := w0.mono e13.b
     obtain rfl := Option.some.inj hS
     exact xRetC [some 2] [(8, 0)] e13 ⟨j0, i0, d2, j2, by kernel_rfl, by kernel_rfl, w0, d1⟩ (fun _ _ h => h)
    ·have hS := cond_F h8 hS
     refine xSk (xW (xc [0, 2, 3, 8] (xSq (xRg (xb 2 [] [0, 8, 58, 59] ?_)))))
     obtain ⟨y14, a5, hS⟩ := bindO_T hS
     refine xE (eC 0 (fun g' lr eb ln => c12 g' (steps : Int) (w1 : List UInt8) d0 v0 (w3.mono lr) a5)) ?_
     rintro _ g15 _ e16 ⟨_, rfl, z2, v2, z3, rfl, rfl, i1⟩
     have p6 := i1.len
     refine xb 5 [] [0, 8, 10, 11] (xRe (xW (xSq (xSq (xRg (xb 2 [] [0, 8, 10, 11, 64] (xRe (xW ?_))))))))
     refine xCd ((y14.2 != 0)) (fun h17 => ?_) (fun h17 => ?_)
     ·have hS := cond_T h17 hS
      have t5 : ¬ (y14.2 = 0) := ne_of_bne_ h17
      refine xSq (xRg (xbo 4 [(2, 1)] [z3, some ⟨b2, 67, (cPiece Z6 none 0)⟩, some ⟨b1, 75, [vi w_.base, vi w_.have_]⟩, some ⟨b_s, 130, [vs j0 s.pieces i0]⟩] [8, 9] (xRe (xW ?_))))
      have w0 := w0.mono e16.b
      obtain rfl := Option.some.inj hS
      exact xRetC [some 3] [(8, 1)] e16 ⟨j0, i0, none, 0, by kernel_rfl, by kernel_rfl, w0, Arr.nil⟩ (fun _ _ h => h)
     ·have hS := cond_F h17 hS
      have t5 : y14.2 = 0 := eq_of_bne_false_ h17
      refine xSk (xW (xc [0, 8, 10] (xSq (xRg (xbo 5 [(4, 3)] [z3, some ⟨b2, 67, (cPiece Z6 none 0)⟩, some ⟨b1, 75, [vi w_.base, vi w_.have_]⟩, some ⟨b_s, 130, [vs z2 y14.1 v2]⟩] [8, 10] (xRe (xW (xSq (xRg ?_)))))))))
      obtain ⟨q19, hS⟩ := grd_T hS
      have l3 := of_decide_eq_true q19
      obtain ⟨z5, f6, l5, w2, v5, l4⟩ := i1.open_ l3 default
      obtain ⟨a3, rfl⟩ : ∃ z, z = z5 := ⟨_, rfl⟩
      subst w2
      obtain ⟨f2, a2, rfl, l1⟩ := v5
      have t4 := l1.len
      refine xb 1 [] [8, 71] (xV (qIxB 0 4 a3.g l5 rfl l3) (xV (qLdB 0 4 0 0 l4) ?_))
      obtain ⟨y20, f5, hS⟩ := letJ_T hS
      refine xE (eC 0 (fun g' lr eb ln => c105 g' (List.getD y14.1 0 default) f2 a2 ((l1.mono g15.br).mono lr) f5)) ?_
      rintro _ g21 _ e22 ⟨_, rfl, z1, j1, rfl, rfl, p0⟩
      have z4 := p0.len
      refine xbo 2 [(4, 1)] [(some a3), some ⟨b2, 67, (cPiece y20 z1 j1)⟩, some ⟨b1, 75, [vi w_.base, vi w_.have_]⟩, some ⟨b_s, 130, [vs z2 y14.1 v2]⟩] [8, 9] (xRe (xW ?_))
      have i1 := i1.mono e22.b
      refine wpq_freeze 0 (by kernel_rfl) i1 (fun g23 e24 f25 => ?_)
      have p0 := p0.mono e24.b
      obtain rfl := Option.some.inj hS
      exact xRetC [some 3] [(8, 1)] (e16.trans (e22.trans e24)) ⟨z2, v2, z1, j1, by kernel_rfl, by kernel_rfl, f25, p0⟩ (fun _ _ h => h)

def o106 (p : Piece) : Bool :=
 ((((((((decide (p.base ≥ 1) && decide (p.base ≤ 2305843009213693952)) && decide (p.count ≥ 1)) && decide (p.count ≤ 874)) && decide (p.index ≥ 0)) && decide (p.index < p.count)) && decide ((((p.data).length : Nat) : Int) ≤ 600))))
theorem c106 (g : Gh) (p : Piece) (j0 : OA) (w0 : Nat) (l0 : Arr g.r tyU8 j0 w0 p.data) {r : Bool} (hS : o106 p = r) :
  Ctr Tryz.prog 106 [(aPiece p j0 w0)] g [] (fun v ψ o => v = vb r ∧ o = []) := by
 unfold o106 at hS
 refine xFn Tryz.f106 (Tryz.f106.body.getD .skip) 39 (xSq (xRg (xE eB ?_)))
 rintro _ _ _ - ⟨b1, rfl, rfl, rfl⟩
 refine xb 1 [] [1] (xRe (xW (xSq (xRg (xb 4 [(1, 0)] [1, 6] ?_)))))
 refine wpr_grp 8 [(1, vp b1 0), (10, vb (decide (p.base ≥ 1) && decide (p.base ≤ 2305843009213693952)))] (fun hk3 => ?_) ?_
 ·refine wpq_split 6 (b := decide (p.base ≥ 1)) (by kernel_rfl) (fun q2 => ?_) (fun q2 => ?_)
  ·have q2p := of_decide_eq_true q2
   refine xb 4 [(5, 0)] [1, 10] (wpq_re 10 (v := vb (decide (p.base ≤ 2305843009213693952))) (Value.bool ((decide (p.base ≥ 1) && decide (p.base ≤ 2305843009213693952)))) (by kernel_rfl) (re_and1 q2) ?_)
   exact wpq_sub _ (by kernel_rfl) hk3
  ·have q2p := of_decide_eq_false q2
   refine xb 4 [] [1, 10] (wpq_re 10 (v := vb false) (Value.bool ((decide (p.base ≥ 1) && decide (p.base ≤ 2305843009213693952)))) (by kernel_rfl) (re_and0 q2) ?_)
   exact wpq_sub _ (by kernel_rfl) hk3
 ·refine xb 1 [] [1, 11] ?_
  refine wpr_grp 13 [(1, vp b1 0), (15, vb ((decide (p.base ≥ 1) && decide (p.base ≤ 2305843009213693952)) && decide (p.count ≥ 1)))] (fun hk8 => ?_) ?_
  ·refine wpq_split 11 (b := (decide (p.base ≥ 1) && decide (p.base ≤ 2305843009213693952))) (by kernel_rfl) (fun q3 => ?_) (fun q3 => ?_)
   ·have q3l := (and_true_ q3).1
    refine xb 4 [(10, 0)] [1, 15] (wpq_re 15 (v := vb (decide (p.count ≥ 1))) (Value.bool (((decide (p.base ≥ 1) && decide (p.base ≤ 2305843009213693952)) && decide (p.count ≥ 1)))) (by kernel_rfl) (re_and1 q3) ?_)
    exact wpq_sub _ (by kernel_rfl) hk8
   ·refine xb 4 [] [1, 15] ?_
    refine wpq_re 15 (v := vb false) (Value.bool (((decide (p.base ≥ 1) && decide (p.base ≤ 2305843009213693952)) && decide (p.count ≥ 1)))) (by kernel_rfl) (re_and0 q3) ?_
    exact wpq_sub _ (by kernel_rfl) hk8
  ·refine xb 1 [] [1, 16] ?_
   refine wpr_grp 18 [(1, vp b1 0), (20, vb (((decide (p.base ≥ 1) && decide (p.base ≤ 2305843009213693952)) && decide (p.count ≥ 1)) && decide (p.count ≤ 874)))] (fun d0 => ?_) ?_
   ·refine wpq_split 16 (b := ((decide (p.base ≥ 1) && decide (p.base ≤ 2305843009213693952)) && decide (p.count ≥ 1))) (by kernel_rfl) (fun q4 => ?_) (fun q4 => ?_)
    ·have q4l := (and_true_ q4).1
     refine xb 4 [(15, 0)] [1, 20] (wpq_re 20 (v := vb (decide (p.count ≤ 874))) (Value.bool ((((decide (p.base ≥ 1) && decide (p.base ≤ 2305843009213693952)) && decide (p.count ≥ 1)) && decide (p.count ≤ 874)))) (by kernel_rfl) (re_and1 q4) ?_)
     exact wpq_sub _ (by kernel_rfl) d0
    ·refine xb 4 [] [1, 20] ?_
     refine wpq_re 20 (v := vb false) (Value.bool ((((decide (p.base ≥ 1) && decide (p.base ≤ 2305843009213693952)) && decide (p.count ≥ 1)) && decide (p.count ≤ 874)))) (by kernel_rfl) (re_and0 q4) ?_
     exact wpq_sub _ (by kernel_rfl) d0
   ·refine xb 1 [] [1, 21] ?_
    refine wpr_grp 23 [(1, vp b1 0), (25, vb ((((decide (p.base ≥ 1) && decide (p.base ≤ 2305843009213693952)) && decide (p.count ≥ 1)) && decide (p.count ≤ 874)) && decide (p.index ≥ 0)))] (fun i0 => ?_) ?_
    ·refine wpq_split 21 (b := (((decide (p.base ≥ 1) && decide (p.base ≤ 2305843009213693952)) && decide (p.count ≥ 1)) && decide (p.count ≤ 874))) (by kernel_rfl) (fun q5 => ?_) (fun q5 => ?_)
     ·have q5l := (and_true_ q5).1
      refine xb 4 [(20, 0)] [1, 25] (wpq_re 25 (v := vb (decide (p.index ≥ 0))) (Value.bool (((((decide (p.base ≥ 1) && decide (p.base ≤ 2305843009213693952)) && decide (p.count ≥ 1)) && decide (p.count ≤ 874)) && decide (p.index ≥ 0)))) (by kernel_rfl) (re_and1 q5) ?_)
      exact wpq_sub _ (by kernel_rfl) i0
     ·refine xb 4 [] [1, 25] ?_
      refine wpq_re 25 (v := vb false) (Value.bool (((((decide (p.base ≥ 1) && decide (p.base ≤ 2305843009213693952)) && decide (p.count ≥ 1)) && decide (p.count ≤ 874)) && decide (p.index ≥ 0)))) (by kernel_rfl) (re_and0 q5) ?_
      exact wpq_sub _ (by kernel_rfl) i0
    ·refine xb 1 [] [1, 26] ?_
     refine wpr_grp 30 [(1, vp b1 0), (32, vb (((((decide (p.base ≥ 1) && decide (p.base ≤ 2305843009213693952)) && decide (p.count ≥ 1)) && decide (p.count ≤ 874)) && decide (p.index ≥ 0)) && decide (p.index < p.count)))] (fun v0 => ?_) ?_
     ·refine wpq_split 26 (b := ((((decide (p.base ≥ 1) && decide (p.base ≤ 2305843009213693952)) && decide (p.count ≥ 1)) && decide (p.count ≤ 874)) && decide (p.index ≥ 0))) (by kernel_rfl) (fun q6 => ?_) (fun q6 => ?_)
      ·have q6l := (and_true_ q6).1
       refine xb 6 [(25, 0), (27, 0)] [1, 32] (wpq_re 32 (v := vb (decide (p.index < p.count))) (Value.bool ((((((decide (p.base ≥ 1) && decide (p.base ≤ 2305843009213693952)) && decide (p.count ≥ 1)) && decide (p.count ≤ 874)) && decide (p.index ≥ 0)) && decide (p.index < p.count)))) (by kernel_rfl) (re_and1 q6) ?_)
       exact wpq_sub _ (by kernel_rfl) v0
      ·refine xb 6 [] [1, 32] ?_
       refine wpq_re 32 (v := vb false) (Value.bool ((((((decide (p.base ≥ 1) && decide (p.base ≤ 2305843009213693952)) && decide (p.count ≥ 1)) && decide (p.count ≤ 874)) && decide (p.index ≥ 0)) && decide (p.index < p.count)))) (by kernel_rfl) (re_and0 q6) ?_
       exact wpq_sub _ (by kernel_rfl) v0
     ·refine xb 1 [] [1, 33] ?_
      refine wpr_grp 36 [(38, vb ((((((decide (p.base ≥ 1) && decide (p.base ≤ 2305843009213693952)) && decide (p.count ≥ 1)) && decide (p.count ≤ 874)) && decide (p.index ≥ 0)) && decide (p.index < p.count)) && decide ((((p.data).length : Nat) : Int) ≤ 600)))] (fun p0 => ?_) ?_
      ·refine wpq_split 33 (b := (((((decide (p.base ≥ 1) && decide (p.base ≤ 2305843009213693952)) && decide (p.count ≥ 1)) && decide (p.count ≤ 874)) && decide (p.index ≥ 0)) && decide (p.index < p.count))) (by kernel_rfl) (fun q7 => ?_) (fun q7 => ?_)
       ·have q7l := (and_true_ q7).1
        refine xb 5 [(32, 0)] [38] (wpq_re 38 (v := vb (decide ((((p.data).length : Nat) : Int) ≤ 600))) (Value.bool (((((((decide (p.base ≥ 1) && decide (p.base ≤ 2305843009213693952)) && decide (p.count ≥ 1)) && decide (p.count ≤ 874)) && decide (p.index ≥ 0)) && decide (p.index < p.count)) && decide ((((p.data).length : Nat) : Int) ≤ 600)))) (by kernel_rfl) (re_and1 q7) ?_)
        exact wpq_sub _ (by kernel_rfl) p0
       ·refine xb 5 [] [38] ?_
        refine wpq_re 38 (v := vb false) (Value.bool (((((((decide (p.base ≥ 1) && decide (p.base ≤ 2305843009213693952)) && decide (p.count ≥ 1)) && decide (p.count ≤ 874)) && decide (p.index ≥ 0)) && decide (p.index < p.count)) && decide ((((p.data).length : Nat) : Int) ≤ 600)))) (by kernel_rfl) (re_and0 q7) ?_
        exact wpq_sub _ (by kernel_rfl) p0
      ·refine xb 1 [] [2] ?_
       refine xRe (xW ?_)
       have eS := hS.symm
       subst eS
       exact xRet [] [2] gR ⟨by kernel_rfl, by kernel_rfl⟩ (fun _ _ h => h)

def o68_L0 (p : Piece) (s16 : (List UInt8) × Nat) : Option (Ctl ((List UInt8) × Nat) ((List UInt8))) :=
 (cond (decide ((s16.2 : Int) < 8)) (grd (decide (0 ≤ (IntKind.i64.wrap (8 * (s16.2 : Int))))) (grd (decide (((s16.1).length + (([(u8 (IntKind.u8.wrap (shrK .i64 p.base (IntKind.i64.wrap (8 * (s16.2 : Int))))))] : List UInt8)).length) * 1 ≤ 140737488355328)) (grd (decide ((s16.2 : Int) + 1 ≤ 9223372036854775807)) (some (Ctl.go (((s16.1 ++ ([(u8 (IntKind.u8.wrap (shrK .i64 p.base (IntKind.i64.wrap (8 * (s16.2 : Int))))))] : List UInt8)) : List UInt8), (s16.2 + 1))))))) (some (Ctl.done (s16.1))))
def o68 (p : Piece) : Option ((List UInt8) × Int) :=
 (letJ (o106 p) fun y2 => (cond ((!y2)) (some ((([] : List UInt8), (1 : Int)))) (bindO (τ := (List UInt8)) (loopO (σ := (List UInt8) × Nat) (ρ := (List UInt8)) fuelN (o68_L0 p) (([] : List UInt8), 0)) fun t6 => (grd (decide (((t6).length + (([(u8 (IntKind.u8.wrap p.index)), (u8 (IntKind.u8.wrap (shrK .i64 p.index 8))), (u8 (IntKind.u8.wrap p.count)), (u8 (IntKind.u8.wrap (shrK .i64 p.count 8)))] : List UInt8)).length) * 1 ≤ 140737488355328)) (grd (decide ((((t6 ++ ([(u8 (IntKind.u8.wrap p.index)), (u8 (IntKind.u8.wrap (shrK .i64 p.index 8))), (u8 (IntKind.u8.wrap p.count)), (u8 (IntKind.u8.wrap (shrK .i64 p.count 8)))] : List UInt8))).length + (p.data).length) * 1 ≤ 140737488355328)) (some (((((t6 ++ ([(u8 (IntKind.u8.wrap p.index)), (u8 (IntKind.u8.wrap (shrK .i64 p.index 8))), (u8 (IntKind.u8.wrap p.count)), (u8 (IntKind.u8.wrap (shrK .i64 p.count 8)))] : List UInt8)) ++ p.data) : List UInt8), (0 : Int)))))))))
theorem c68 (g : Gh) (p : Piece) (i0 : OA) (w0 : Nat) (j0 : Arr g.r tyU8 i0 w0 p.data) {r : (List UInt8) × Int} (hS : o68 p = some r) :
  Ctr Tryz.prog 68 [(aPiece p i0 w0)] g [] (fun v ψ o => ∃ (i1 : OA) (j1 : Nat) (d1 : OB), v = Value.tuple #[vs i1 r.1 j1, vi r.2] ∧ o = [d1] ∧ Buf ψ tyU8 5 (.slice i1 (r.1).length j1) d1 r.1) := by
 unfold o68 at hS
 refine xFn Tryz.f68 (Tryz.f68.body.getD .skip) 43 ?_
 have z2 := j0.len
 refine xSq (xRg (xE eB ?_))
 rintro _ _ _ - ⟨b1, rfl, rfl, rfl⟩
 refine xb 2 [] [1] (xRe (xW (xSq (xSq (xRg (xb 1 [(0, 0)] [1, 6] ?_))))))
 obtain ⟨y2, hy2, hS⟩ := letJ_T hS
 refine xE (eC 0 (fun g' lr eb ln => c106 g' p i0 w0 (j0.mono lr) hy2)) ?_
 rintro _ g3 _ e4 ⟨_, rfl, rfl, rfl⟩
 refine xb 1 [] [1, 8] (xRe (xW ?_))
 refine xCd ((!y2)) (fun h5 => ?_) (fun h5 => ?_)
 ·have hS := cond_T h5 hS
  have h5n := not_eq_true_ h5
  refine xSq (xRg (xb 2 [] [2, 3] (xRe (xW ?_))))
  obtain rfl := Option.some.inj hS
  exact xRet [none] [2, 3] e4 ⟨none, 0, none, by kernel_rfl, by kernel_rfl, Buf.nil⟩ (fun _ _ h => h)
 ·have hS := cond_F h5 hS
  have h5n := not_eq_false_ h5
  refine xSk (xW (xc [1] (xSq (xRg (xb 1 [] [1, 4] (xRe (xW (xSq (xSq (xRg (xb 1 [] [1, 4, 9] (xRe (xW ?_)))))))))))))
  refine xBindO hS (fun g own sl t6 => ∃ (z1 : OA) (w1 : Nat) (f0 : OB), own = [some ⟨b1, 67, (cPiece p i0 w0)⟩, f0] ∧ sl = [(1, vp b1 0), (4, vs z1 t6 w1)] ∧ Buf g.b tyU8 5 (.slice z1 (t6).length w1) f0 t6) ?_ ?_
  ·rintro g7 _ _ t6 e8 ⟨z1, w1, f0, rfl, rfl, t1⟩ hS
   have z3 := t1.len
   refine xW (xSq (xRg ?_))
   have z13 := u8_in_ p.index
   have z14 := u8_in_ (shrK .i64 p.index 8)
   have z15 := u8_in_ p.count
   have z16 := u8_in_ (shrK .i64 p.count 8)
   refine xb 15 [(2, 0), (5, 0), (9, 0), (12, 0)] [1, 4, 22, 25, 29, 32, 36] (xE (eBs (T := tyU8) (p := g7.b) (et := 5) (xs := ([(u8 (IntKind.u8.wrap p.index)), (u8 (IntKind.u8.wrap (shrK .i64 p.index 8))), (u8 (IntKind.u8.wrap p.count)), (u8 (IntKind.u8.wrap (shrK .i64 p.count 8)))] : List UInt8)) (reps_cons (c := [vy (IntKind.u8.wrap p.index)]) (u8_rep (wrapU8_rng _)) (reps_cons (c := [vy (IntKind.u8.wrap (shrK .i64 p.index 8))]) (u8_rep (wrapU8_rng _)) (reps_cons (c := [vy (IntKind.u8.wrap p.count)]) (u8_rep (wrapU8_rng _)) (reps_cons (c := [vy (IntKind.u8.wrap (shrK .i64 p.count 8))]) (u8_rep (wrapU8_rng _)) reps_nil)))) (by simp)) ?_)
   rintro _ _ _ - ⟨A9, c9, k9, rfl, rfl, rfl, h9⟩
   obtain ⟨l3, l1, w2⟩ := h9.srcO (g := g7)
   obtain ⟨q11, hS⟩ := grd_T hS
   have f3 := of_decide_eq_true q11
   refine xE (eApp (T := tyU8) (p := g7.b) (et := 5) (bytes := 1) (xs := (t6 : List UInt8)) (ys := (([(u8 (IntKind.u8.wrap p.index)), (u8 (IntKind.u8.wrap (shrK .i64 p.index 8))), (u8 (IntKind.u8.wrap p.count)), (u8 (IntKind.u8.wrap (shrK .i64 p.count 8)))] : List UInt8) : List UInt8)) 2 t1 rfl (fun w hs => w2 0 w _ hs (by kernel_rfl)) l1 (by first | omega | (simp only [List.length_cons, List.length_nil] at *; omega)) (by first | omega | (simp only [List.length_cons, List.length_nil] at *; omega))) ?_
   rintro _ _ _ - ⟨A10, c10, k10, rfl, rfl, rfl, h10⟩
   have f4 := h10.len
   have t4 : ((t6 ++ ([(u8 (IntKind.u8.wrap p.index)), (u8 (IntKind.u8.wrap (shrK .i64 p.index 8))), (u8 (IntKind.u8.wrap p.count)), (u8 (IntKind.u8.wrap (shrK .i64 p.count 8)))] : List UInt8)) : List UInt8).length = (t6).length + (([(u8 (IntKind.u8.wrap p.index)), (u8 (IntKind.u8.wrap (shrK .i64 p.index 8))), (u8 (IntKind.u8.wrap p.count)), (u8 (IntKind.u8.wrap (shrK .i64 p.count 8)))] : List UInt8)).length := List.length_append
   refine xb 1 [] [1, 4] (xRe (xW (xSq (xRg (xb 3 [(2, 1)] [39, 41] ?_)))))
   have j0 := j0.mono (e4.trans e8).r
   obtain ⟨j3, a2, d2⟩ := j0.srcR
   obtain ⟨q13, hS⟩ := grd_T hS
   have v3 := of_decide_eq_true q13
   refine xE (eApp (T := tyU8) (p := g7.b) (et := 5) (bytes := 1) (xs := ((t6 ++ ([(u8 (IntKind.u8.wrap p.index)), (u8 (IntKind.u8.wrap (shrK .i64 p.index 8))), (u8 (IntKind.u8.wrap p.count)), (u8 (IntKind.u8.wrap (shrK .i64 p.count 8)))] : List UInt8)) : List UInt8)) (ys := p.data) 2 h10 rfl (fun w hs => d2 w _ hs) (flatU8.reps a2) (by first | omega | (simp only [List.length_cons, List.length_nil] at *; omega)) (by first | omega | (simp only [List.length_cons, List.length_nil] at *; omega))) ?_
   rintro _ _ _ - ⟨A12, c12, k12, rfl, rfl, rfl, h12⟩
   have l4 := h12.len
   have t3 : (((t6 ++ ([(u8 (IntKind.u8.wrap p.index)), (u8 (IntKind.u8.wrap (shrK .i64 p.index 8))), (u8 (IntKind.u8.wrap p.count)), (u8 (IntKind.u8.wrap (shrK .i64 p.count 8)))] : List UInt8)) ++ p.data) : List UInt8).length = ((t6 ++ ([(u8 (IntKind.u8.wrap p.index)), (u8 (IntKind.u8.wrap (shrK .i64 p.index 8))), (u8 (IntKind.u8.wrap p.count)), (u8 (IntKind.u8.wrap (shrK .i64 p.count 8)))] : List UInt8))).length + (p.data).length := List.length_append
   refine xb 2 [] [2, 3] (xRe (xW ?_))
   obtain rfl := Option.some.inj hS
   exact xRet [some 2] [2, 3] (e4.trans e8) ⟨A12, c12, k12, by kernel_rfl, by kernel_rfl, h12⟩ (fun _ _ h => h)
  ·intro uu6 hS hN6
   refine xBl 0 (xSel [some 0, none] (xc [1, 4, 9] (xLo hS (fun g own sl s16 => ∃ (p0 : OA) (v0 : Nat) (d0 : OB), own = [some ⟨b1, 67, (cPiece p i0 w0)⟩, d0] ∧ sl = [(1, vp b1 0), (4, vs p0 s16.1 v0), (9, vi (s16.2 : Int))] ∧ Buf g.b tyU8 5 (.slice p0 (s16.1).length v0) d0 s16.1) ⟨none, 0, none, by kernel_rfl, by kernel_rfl, Buf.nil⟩ ?_)))
   rintro g17 _ _ s16 d3 e18 ⟨p0, v0, d0, rfl, rfl, l0⟩ hS z4 j2 f2
   have w3 := l0.len
   unfold o68_L0 at hS
   refine xSq (xRg (xb 1 [] [1, 4, 9, 10] (xRe (xW (xSq ?_)))))
   refine xCd (decide ((s16.2 : Int) < 8)) (fun h19 => ?_) (fun h19 => ?_)
   ·have hS := cond_T h19 hS
    have f1 := of_decide_eq_true h19
    refine xSk (xW (xc [1, 4, 9] (xSq (xBl 1 (xSq (xRg (xb 2 [] [1, 4, 5, 9] (xRe (xW (xRg ?_))))))))))
    have z27 := i64_in_ (8 * (s16.2 : Int))
    obtain ⟨q20, hS⟩ := grd_T hS
    have i4 := of_decide_eq_true q20
    refine xb 5 [(2, 0)] [1, 4, 9, 12, 14, 16] (xV (qShr .i64 .i64 (p.base) ((IntKind.i64.wrap (8 * (s16.2 : Int)))) (by omega)) ?_)
    have z28 := u8_in_ (shrK .i64 p.base (IntKind.i64.wrap (8 * (s16.2 : Int))))
    refine xb 1 [] [1, 4, 9, 12, 18] (xE (eBs (T := tyU8) (p := g17.b) (et := 5) (xs := ([(u8 (IntKind.u8.wrap (shrK .i64 p.base (IntKind.i64.wrap (8 * (s16.2 : Int))))))] : List UInt8)) (reps_cons (c := [vy (IntKind.u8.wrap (shrK .i64 p.base (IntKind.i64.wrap (8 * (s16.2 : Int)))))]) (u8_rep (wrapU8_rng _)) reps_nil) (by simp)) ?_)
    rintro _ _ _ - ⟨A21, c21, k21, rfl, rfl, rfl, h21⟩
    obtain ⟨d4, v2, v1⟩ := h21.srcO (g := g17)
    obtain ⟨q23, hS⟩ := grd_T hS
    have v4 := of_decide_eq_true q23
    refine xE (eApp (T := tyU8) (p := g17.b) (et := 5) (bytes := 1) (xs := s16.1) (ys := (([(u8 (IntKind.u8.wrap (shrK .i64 p.base (IntKind.i64.wrap (8 * (s16.2 : Int))))))] : List UInt8) : List UInt8)) 2 l0 rfl (fun w hs => v1 0 w _ hs (by kernel_rfl)) v2 (by first | omega | (simp only [List.length_cons, List.length_nil] at *; omega)) (by first | omega | (simp only [List.length_cons, List.length_nil] at *; omega))) ?_
    rintro _ _ _ - ⟨A22, c22, k22, rfl, rfl, rfl, h22⟩
    have j4 := h22.len
    have a3 : ((s16.1 ++ ([(u8 (IntKind.u8.wrap (shrK .i64 p.base (IntKind.i64.wrap (8 * (s16.2 : Int))))))] : List UInt8)) : List UInt8).length = (s16.1).length + (([(u8 (IntKind.u8.wrap (shrK .i64 p.base (IntKind.i64.wrap (8 * (s16.2 : Int))))))] : List UInt8)).length := List.length_append
    refine xb 1 [] [1, 4, 9] (xRe (wpq_blockN (xW (xRg ?_))))
    obtain ⟨q24, hS⟩ := grd_T hS
    have w4 := of_decide_eq_true q24
    refine xV (qAdd .i64 ((s16.2 : Int)) (1) (wr64 (by omega))) (xb 1 [] [1, 4, 9] (xRe (wpq_thenN (xSel [some 1, some 2] (xc [1, 4, 9] ?_)))))
    have eS := (Option.some.inj hS).symm
    exact j2 _ eS _ _ _ gR ⟨A22, c22, k22, by kernel_rfl, by kernel_rfl, h22⟩
   ·have hS := cond_F h19 hS
    have f1 := of_decide_eq_false h19
    refine xEx 0 (wpq_thenX (wpq_thenX (wpq_blockE (xc [1, 4] ?_))))
    have eS := (Option.some.inj hS).symm
    have eS := (f2 _ eS).symm
    exact hN6 _ eS _ _ _ e18 ⟨p0, v0, d0, by kernel_rfl, by kernel_rfl, l0⟩

end Go.Proofs.YtnidomdebhekiaaGreat
