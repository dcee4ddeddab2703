/-
Walks, printed by wip/gen, with half of their indentation. Conditions: each theorem's own.
-/
import Derived.Test.YtnidomdebhekiaaGreatC7
namespace Go.Proofs.YtnidomdebhekiaaGreat
set_option linter.unusedVariables false
set_option linter.unusedSimpArgs false
open Go.RowKit
set_option maxRecDepth 100000
def o34 (c : Comp) (save : List UInt8) : Option (Comp × Frame × Bool × Int) :=
 (letJ (o45 (⟨c.number, c.node, c.sender, c.collector, c.next_, c.cycle, (c.asked), c.want⟩ : Comp) (6 : Int)) fun y2 => (cond ((y2.2 != 0)) (some (((⟨y2.1.number, y2.1.node, y2.1.sender, y2.1.collector, y2.1.next_, y2.1.cycle, (y2.1.asked), y2.1.want⟩ : Comp), (⟨0, 0, 0, ([] : List UInt8)⟩ : Frame), (false), y2.2))) (cond ((!y2.1.asked)) (some (((⟨y2.1.number, y2.1.node, y2.1.sender, y2.1.collector, (7 : Int), y2.1.cycle, (y2.1.asked), y2.1.want⟩ : Comp), (⟨0, 0, 0, ([] : List UInt8)⟩ : Frame), (false), (0 : Int)))) (letJ (o11 y2.1.node) fun y8 => (bindO (o67 y2.1.sender y2.1.want (y8 : Int) (save : List UInt8)) fun y11 => (cond ((y11.2.2 != 0)) (some (((⟨y2.1.number, y2.1.node, y11.1, y2.1.collector, (7 : Int), y2.1.cycle, (y2.1.asked), y2.1.want⟩ : Comp), (⟨0, 0, 0, ([] : List UInt8)⟩ : Frame), (false), y11.2.2))) (bindO (o68 y11.2.1) fun y211 => (some (((⟨y2.1.number, y2.1.node, y11.1, y2.1.collector, (7 : Int), y2.1.cycle, (y2.1.asked), y2.1.want⟩ : Comp), (⟨4, (IntKind.u8.wrap y2.1.number), y2.1.cycle, y211.1⟩ : Frame), (true), (0 : Int)))))))))))
theorem c34 (g : Gh) (b_c : Nat) (c : Comp) (w3 : Nat) (j6 : OA) (i6 : Nat) (l3 : OA) (v3 : Nat) (t4 : OA) (d4 : Nat) (v1 : Nat) (l4 : OA) (v4 : Nat) (v0 : Nat) (f3 : OA) (a3 : Nat) (w4 : OB) (i4 : OA) (j4 : Nat) (z4 : OB) (l7 : List UInt8) (d7 : OA) (t7 : Nat) (f7 : Arr g.b tyU8 j6 i6 c.node.input) (v6 : Arr g.b tyU8 l3 v3 c.node.heard.input) (j7 : Arr g.b tyU8 t4 d4 c.node.set_.in_) (z7 : Arr g.b tyPiece l4 v4 c.sender.pieces) (l6 : Buf g.b (tyArr tyU8) 28 (.slice f3 (c.collector.parts).length a3) w4 c.collector.parts) (w7 : Buf g.b tySett 92 (.slice i4 (c.collector.sets).length j4) z4 c.collector.sets) (p6 : Arr g.r tyU8 d7 t7 l7) {r : Comp × Frame × Bool × Int} (hS : o34 c l7 = some r) :
  Ctr Tryz.prog 34 [vp b_c 0, vs d7 l7 t7] g [some ⟨b_c, 77, [vi c.number, vp w3 0, vp v1 0, vp v0 0, vi c.next_, vi c.cycle, vb c.asked, vi c.want.base, vi c.want.have_]⟩, some ⟨w3, 126, (cNode c.node j6 i6 l3 v3 t4 d4)⟩, some ⟨v1, 130, [vs l4 c.sender.pieces v4]⟩, some ⟨v0, 132, (cColl c.collector f3 a3 i4 j4)⟩, w4, z4] (fun v ψ o => ∃ (d6 : OA) (t6 : Nat) (a4 : OA) (f4 : Nat) (f5 : OA) (w6 : Nat) (z6 : OA) (a5 : Nat) (j5 : OA) (i5 : Nat) (z5 : OB) (t5 : OA) (v5 : Nat) (d5 : OB) (f6 : OA) (a6 : Nat), v = Value.tuple #[(aFrame r.2.1 f6 a6), vb r.2.2.1, vi r.2.2.2] ∧ o = [some ⟨b_c, 77, [vi r.1.number, vp w3 0, vp v1 0, vp v0 0, vi r.1.next_, vi r.1.cycle, vb r.1.asked, vi r.1.want.base, vi r.1.want.have_]⟩, some ⟨w3, 126, (cNode r.1.node d6 t6 a4 f4 f5 w6)⟩, some ⟨v1, 130, [vs z6 r.1.sender.pieces a5]⟩, some ⟨v0, 132, (cColl r.1.collector j5 i5 t5 v5)⟩, z5, d5] ∧ Arr ψ tyU8 d6 t6 r.1.node.input ∧ Arr ψ tyU8 a4 f4 r.1.node.heard.input ∧ Arr ψ tyU8 f5 w6 r.1.node.set_.in_ ∧ Arr ψ tyPiece z6 a5 r.1.sender.pieces ∧ Buf ψ (tyArr tyU8) 28 (.slice j5 (r.1.collector.parts).length i5) z5 r.1.collector.parts ∧ Buf ψ tySett 92 (.slice t5 (r.1.collector.sets).length v5) d5 r.1.collector.sets ∧ Arr ψ tyU8 f6 a6 r.2.1.payload) := by
 unfold o34 at hS
 refine xFn Tryz.f34 (Tryz.f34.body.getD .skip) 65 (xSq (xRg (xE eB ?_)))
 rintro _ _ _ - ⟨b1, rfl, rfl, rfl⟩
 refine xb 2 [] [0, 1, 4] (xRe (xW (xSq (xSq (xRg (xb 1 [] [0, 1, 4, 12] (xSel (sm [1, 2, 3, 4, 5, 6, 0]) ?_)))))))
 obtain ⟨y2, hy2, hS⟩ := letJ_T hS
 refine xE (eC 6 (fun g' lr eb ln => c45 g' b_c (⟨c.number, c.node, c.sender, c.collector, c.next_, c.cycle, (c.asked), c.want⟩ : Comp) w3 j6 i6 l3 v3 t4 d4 v1 l4 v4 v0 f3 a3 w4 i4 j4 z4 (6 : Int) (by rw [eb]; exact f7) (by rw [eb]; exact v6) (by rw [eb]; exact j7) (by rw [eb]; exact z7) (by rw [eb]; exact l6) (by rw [eb]; exact w7) hy2)) ?_
 rintro _ g3 _ e4 ⟨_, rfl, i1, j1, w0, j0, p0, i0, a2, f2, d0, l0, t1, z1, w1, f1, rfl, rfl, v2, f0, l1, d1, w2, z2⟩
 refine xb 1 [] [0, 1, 4, 7] (xRe (xW (xSq (xRg (xb 2 [] [0, 1, 4, 7, 15] (xRe (xW ?_)))))))
 refine xCd ((y2.2 != 0)) (fun h5 => ?_) (fun h5 => ?_)
 ·have hS := cond_T h5 hS
  have h5p : ¬ (y2.2 = 0) := ne_of_bne_ h5
  refine xSq (xRg (xbo 5 [(2, 6)] [some ⟨b_c, 77, [vi y2.1.number, vp w3 0, vp v1 0, vp v0 0, vi y2.1.next_, vi y2.1.cycle, vb y2.1.asked, vi y2.1.want.base, vi y2.1.want.have_]⟩, some ⟨w3, 126, (cNode y2.1.node i1 j1 w0 j0 p0 i0)⟩, some ⟨v1, 130, [vs a2 y2.1.sender.pieces f2]⟩, some ⟨v0, 132, (cColl y2.1.collector d0 l0 z1 w1)⟩, t1, f1, some ⟨b1, 49, (cFrame Z5 none 0)⟩] [4, 5, 6] (xRe (xW ?_))))
  obtain rfl := Option.some.inj hS
  exact xRetC (sm [0, 1, 2, 3, 4, 5]) [(4, 6)] e4 ⟨i1, j1, w0, j0, p0, i0, a2, f2, d0, l0, t1, z1, w1, f1, none, 0, by kernel_rfl, by kernel_rfl, v2, f0, l1, d1, w2, z2, Arr.nil⟩ (fun _ _ h => h)
 ·have hS := cond_F h5 hS
  have h5p : y2.2 = 0 := eq_of_bne_false_ h5
  refine xSk (xW (xc [0, 1, 4] (xSq (xRg (xbo 4 [(3, 0)] [some ⟨b_c, 77, [vi y2.1.number, vp w3 0, vp v1 0, vp v0 0, vi 7, vi y2.1.cycle, vb y2.1.asked, vi y2.1.want.base, vi y2.1.want.have_]⟩, some ⟨w3, 126, (cNode y2.1.node i1 j1 w0 j0 p0 i0)⟩, some ⟨v1, 130, [vs a2 y2.1.sender.pieces f2]⟩, some ⟨v0, 132, (cColl y2.1.collector d0 l0 z1 w1)⟩, t1, f1, some ⟨b1, 49, (cFrame Z5 none 0)⟩] [0, 1, 4] (xRe (xW (xSq (xSq (xRg (xb 5 [(3, 0)] [0, 1, 4, 25] (xRe (xW ?_)))))))))))))
  refine xCd ((!y2.1.asked)) (fun h6 => ?_) (fun h6 => ?_)
  ·have hS := cond_T h6 hS
   refine xSq (xRg (xbo 4 [(1, 6)] [some ⟨b_c, 77, [vi y2.1.number, vp w3 0, vp v1 0, vp v0 0, vi 7, vi y2.1.cycle, vb y2.1.asked, vi y2.1.want.base, vi y2.1.want.have_]⟩, some ⟨w3, 126, (cNode y2.1.node i1 j1 w0 j0 p0 i0)⟩, some ⟨v1, 130, [vs a2 y2.1.sender.pieces f2]⟩, some ⟨v0, 132, (cColl y2.1.collector d0 l0 z1 w1)⟩, t1, f1, some ⟨b1, 49, (cFrame Z5 none 0)⟩] [4, 5, 6] (xRe (xW ?_))))
   obtain rfl := Option.some.inj hS
   exact xRetC (sm [0, 1, 2, 3, 4, 5]) [(4, 6)] e4 ⟨i1, j1, w0, j0, p0, i0, a2, f2, d0, l0, t1, z1, w1, f1, none, 0, by kernel_rfl, by kernel_rfl, v2, f0, l1, d1, w2, z2, Arr.nil⟩ (fun _ _ h => h)
  ·have hS := cond_F h6 hS
   refine xSk (xW (xc [0, 1, 4] (xSq ?_)))
   refine xDr 0 [3, 7, 11] [19, 20] [some ⟨b_c, 77, [vi y2.1.number, vp w3 0, vp v1 0, vp v0 0, vi 7, vi y2.1.cycle, vb y2.1.asked, vi y2.1.want.base, vi y2.1.want.have_]⟩, some ⟨v0, 132, (cColl y2.1.collector d0 l0 z1 w1)⟩, some ⟨b1, 49, (cFrame Z5 none 0)⟩] 21 (fun RG => ?_) (fun _ _ _ _ _ h => h)
   refine xt 8 [0, 1, 2, 3, 4, 5, 6, 7, 8, 9, 10, 11, 13] [(3, 0), (7, 0), (11, 0)] (sm [0, 3, 6]) [0, 4, 31, 35, 39, 41] RG pR ?_
   obtain ⟨y8, hy8, hS⟩ := letJ_T hS
   obtain ⟨y11, j8, hS⟩ := bindO_T hS
   refine wpa_meet (fun g own sl => ∃ (d2 : OA) (j2 : Nat) (d3 : OA) (j3 : Nat) (b14 : Nat), own = [some ⟨b14, 67, (cPiece y11.2.1 d3 j3)⟩, some ⟨v1, 130, [vs d2 y11.1.pieces j2]⟩, some ⟨b_c, 77, [vi y2.1.number, vp w3 0, vp v1 0, vp v0 0, vi 7, vi y2.1.cycle, vb y2.1.asked, vi y2.1.want.base, vi y2.1.want.have_]⟩, some ⟨w3, 126, (cNode y2.1.node i1 j1 w0 j0 p0 i0)⟩, some ⟨v0, 132, (cColl y2.1.collector d0 l0 z1 w1)⟩, t1, f1, some ⟨b1, 49, (cFrame Z5 none 0)⟩] ∧ sl = [(0, vp b_c 0), (4, vp b1 0), (8, vp b14 0), (44, vi y11.2.2)] ∧ Arr g.b tyU8 d3 j3 y11.2.1.data ∧ Arr g.b tyPiece d2 j2 y11.1.pieces) 1 [true, true, true, true, true, true, true, true, true, true, true, true, true, true, true, true, true, true, true, true, false] ?_ (fun hD7 => ?_)
   ·rintro z9 _ _ l5 ⟨d2, j2, d3, j3, b14, rfl, rfl, t3, z3⟩
    refine xt 0 [20] [] (sm [2, 4, 7]) [0, 4, 8, 9] RG l5.r (xAe (lds := [3, 7, 11]) (xW (xSq (xSq (xRg (xb 2 [] [0, 4, 8, 9, 46] (xRe (xW ?_))))))))
    refine xCd ((y11.2.2 != 0)) (fun a7 => ?_) (fun a7 => ?_)
    ·have hS := cond_T a7 hS
     have a8 : ¬ (y11.2.2 = 0) := ne_of_bne_ a7
     refine xSq (xRg (xbo 5 [(2, 7)] [some ⟨b14, 67, (cPiece y11.2.1 d3 j3)⟩, some ⟨v1, 130, [vs d2 y11.1.pieces j2]⟩, some ⟨b_c, 77, [vi y2.1.number, vp w3 0, vp v1 0, vp v0 0, vi 7, vi y2.1.cycle, vb y2.1.asked, vi y2.1.want.base, vi y2.1.want.have_]⟩, some ⟨w3, 126, (cNode y2.1.node i1 j1 w0 j0 p0 i0)⟩, some ⟨v0, 132, (cColl y2.1.collector d0 l0 z1 w1)⟩, t1, f1, some ⟨b1, 49, (cFrame Z5 none 0)⟩] [4, 5, 6] (xRe (xW ?_))))
     have v2 := v2.mono l5.b
     have f0 := f0.mono l5.b
     have l1 := l1.mono l5.b
     have w2 := w2.mono l5.b
     have z2 := z2.mono l5.b
     obtain rfl := Option.some.inj hS
     exact xRetC (sm [2, 3, 1, 4, 5, 6]) [(4, 7)] (e4.trans l5) ⟨i1, j1, w0, j0, p0, i0, d2, j2, d0, l0, t1, z1, w1, f1, none, 0, by kernel_rfl, by kernel_rfl, v2, f0, l1, z3, w2, z2, Arr.nil⟩ (fun _ _ h => h)
    ·have hS := cond_F a7 hS
     have a8 : y11.2.2 = 0 := eq_of_bne_false_ a7
     refine xSk (xW (xc [0, 4, 8] (xSq (xRg (xb 1 [(0, 0)] [0, 4, 50] ?_)))))
     obtain ⟨t9, w9, hS⟩ := bindO_T hS
     refine xE (eC 0 (fun g' lr eb ln => c68 g' y11.2.1 d3 j3 ((t3.mono z9.br).mono lr) w9)) ?_
     rintro _ f9 _ p7 ⟨_, rfl, d8, p8, i9, rfl, rfl, v8⟩
     refine xb 5 [] [0, 4, 10] (xRe (xW (xSq ?_)))
     refine xDr 0 [3, 8] [11, 12, 13] [some ⟨b14, 67, (cPiece y11.2.1 d3 j3)⟩, some ⟨v1, 130, [vs d2 y11.1.pieces j2]⟩, some ⟨b_c, 77, [vi y2.1.number, vp w3 0, vp v1 0, vp v0 0, vi 7, vi y2.1.cycle, vb y2.1.asked, vi y2.1.want.base, vi y2.1.want.have_]⟩, some ⟨w3, 126, (cNode y2.1.node i1 j1 w0 j0 p0 i0)⟩, some ⟨v0, 132, (cColl y2.1.collector d0 l0 z1 w1)⟩] 14 (fun RG => ?_) (fun _ _ _ _ _ h => h)
     refine xt 3 [0, 1, 2, 3, 4, 5, 6, 7, 8, 9, 10] [(3, 2), (8, 2)] (sm [1, 2, 3, 4, 5]) [4, 64] RG pR (xO1 (lds := [3, 8]) 11 (xId (lds := [3, 8]) pR (eStL b1 0 8) ?_))
     rintro _ _ _ - ⟨rfl, rfl⟩
     refine kf (xt 0 [12, 13] [] (sm [1, 2, 3, 4, 5]) [4, 5, 6] RG pR (xAe (lds := [3, 8]) (xW ?_)))
     refine wpq_freeze 0 (by kernel_rfl) v8 (fun l9 i7 j9 => ?_)
     have v2 := v2.mono (l5.trans (p7.trans i7)).b
     have f0 := f0.mono (l5.trans (p7.trans i7)).b
     have l1 := l1.mono (l5.trans (p7.trans i7)).b
     have z3 := z3.mono (p7.trans i7).b
     have w2 := w2.mono (l5.trans (p7.trans i7)).b
     have z2 := z2.mono (l5.trans (p7.trans i7)).b
     obtain rfl := Option.some.inj hS
     exact xRetC (sm [3, 4, 2, 5, 6, 7]) [(4, 8)] (e4.trans (l5.trans (p7.trans i7))) ⟨i1, j1, w0, j0, p0, i0, d2, j2, d0, l0, t1, z1, w1, f1, d8, p8, by kernel_rfl, by kernel_rfl, v2, f0, l1, z3, w2, z2, j9⟩ (fun _ _ h => h)
   ·refine xO2 (lds := [3, 7, 11]) 12 18 ?_ ?_
    ·refine xIe (lds := [3, 7, 11]) pR (eC 0 (fun g' lr eb ln => c11 g' ⟨w3, 0, none⟩ y2.1.node i1 j1 w0 j0 p0 i0 (cells_lent' 1 w3 0 (cNode y2.1.node i1 j1 w0 j0 p0 i0) ln) ((v2.mono g3.br).mono lr) ((f0.mono g3.br).mono lr) ((l1.mono g3.br).mono lr) hy8)) ?_
     rintro _ p9 _ w5 ⟨_, rfl, rfl, rfl⟩
     refine kk (sm [0, 3, 6]) ?_
     refine xO2 (lds := [3, 7, 11]) 14 18 ?_ ?_
     ·refine xSel (sm [2, 0, 1, 3, 4, 5, 6]) ?_
      have d1 := d1.mono w5.b
      have p6 := p6.mono (e4.trans w5).r
      refine xIe (lds := [3, 7, 11]) w5.r (eC 1 (fun g' lr eb ln => c67 g' v1 y2.1.sender a2 f2 y2.1.want (y8 : Int) (l7 : List UInt8) d7 t7 (by rw [eb]; exact d1) (p6.mono lr) j8)) ?_
      rintro _ w10 _ w8 ⟨_, rfl, d2, j2, d3, j3, rfl, rfl, z3, t3⟩
      refine kk (sm [1, 3, 6]) (xt 3 [15, 16, 17] [] (sm [1, 3, 6]) [0, 4, 43, 44] RG (w5.trans w8).r (xO1 (lds := [3, 7, 11]) 18 (xIe (lds := [3, 7, 11]) (w5.trans w8).r eB ?_)))
      rintro _ _ _ - ⟨t8, rfl, rfl, rfl⟩
      refine kk (sm [2, 4, 7]) (xO1 (lds := [3, 7, 11]) 19 (xId (lds := [3, 7, 11]) (w5.trans w8).r (eStL t8 0 0) ?_))
      rintro _ _ _ - ⟨rfl, rfl⟩
      refine kf (xc [0, 4, 8, 44] ?_)
      exact hD7 _ _ _ (w5.trans w8) ⟨d2, j2, d3, j3, t8, by kernel_rfl, by kernel_rfl, t3, z3⟩
     ·refine xIe (lds := [3, 7, 11]) w5.r eB ?_
      rintro _ _ _ - ⟨l8, rfl, rfl, rfl⟩
      refine kk (sm [1, 4, 7]) (xSel (sm [3, 0, 1, 2, 4, 5, 6, 7]) ?_)
      have d1 := d1.mono w5.b
      have p6 := p6.mono (e4.trans w5).r
      refine xO1 (lds := [3, 7, 11]) 14 (xIe (lds := [3, 7, 11]) w5.r (eC 1 (fun g' lr eb ln => c67 g' v1 y2.1.sender a2 f2 y2.1.want (y8 : Int) (l7 : List UInt8) d7 t7 (by rw [eb]; exact d1) (p6.mono lr) j8)) ?_)
      rintro _ d9 _ z8 ⟨_, rfl, d2, j2, d3, j3, rfl, rfl, z3, t3⟩
      refine kk (sm [2, 4, 7]) (xt 2 [15, 16, 17] [] (sm [2, 4, 7]) [0, 4, 8, 43, 44] RG (w5.trans z8).r (xO1 (lds := [3, 7, 11]) 19 (xId (lds := [3, 7, 11]) (w5.trans z8).r (eStL l8 0 1) ?_)))
      rintro _ _ _ - ⟨rfl, rfl⟩
      refine kf (xSel (sm [1, 0, 2, 3, 4, 5, 6, 7]) (xc [0, 4, 8, 44] ?_))
      exact hD7 _ _ _ (w5.trans z8) ⟨d2, j2, d3, j3, l8, by kernel_rfl, by kernel_rfl, t3, z3⟩
    ·refine xIe (lds := [3, 7, 11]) pR eB ?_
     rintro _ _ _ - ⟨f8, rfl, rfl, rfl⟩
     refine kk (sm [1, 4, 7]) (xO1 (lds := [3, 7, 11]) 12 (xIe (lds := [3, 7, 11]) pR (eC 0 (fun g' lr eb ln => c11 g' ⟨w3, 0, none⟩ y2.1.node i1 j1 w0 j0 p0 i0 (cells_lent' 2 w3 0 (cNode y2.1.node i1 j1 w0 j0 p0 i0) ln) ((v2.mono g3.br).mono lr) ((f0.mono g3.br).mono lr) ((l1.mono g3.br).mono lr) hy8)) ?_))
     rintro _ v9 _ v7 ⟨_, rfl, rfl, rfl⟩
     refine kk (sm [1, 4, 7]) (xSel (sm [3, 0, 1, 2, 4, 5, 6, 7]) ?_)
     have d1 := d1.mono v7.b
     have p6 := p6.mono (e4.trans v7).r
     refine xO1 (lds := [3, 7, 11]) 14 (xIe (lds := [3, 7, 11]) v7.r (eC 1 (fun g' lr eb ln => c67 g' v1 y2.1.sender a2 f2 y2.1.want (y8 : Int) (l7 : List UInt8) d7 t7 (by rw [eb]; exact d1) (p6.mono lr) j8)) ?_)
     rintro _ a9 _ i8 ⟨_, rfl, d2, j2, d3, j3, rfl, rfl, z3, t3⟩
     refine kk (sm [2, 4, 7]) (xt 2 [15, 16, 17] [] (sm [2, 4, 7]) [0, 4, 8, 43, 44] RG (v7.trans i8).r (xO1 (lds := [3, 7, 11]) 19 (xId (lds := [3, 7, 11]) (v7.trans i8).r (eStL f8 0 1) ?_)))
     rintro _ _ _ - ⟨rfl, rfl⟩
     refine kf (xSel (sm [1, 0, 2, 3, 4, 5, 6, 7]) (xc [0, 4, 8, 44] ?_))
     exact hD7 _ _ _ (v7.trans i8) ⟨d2, j2, d3, j3, f8, by kernel_rfl, by kernel_rfl, t3, z3⟩

def o107_L0 (base : Int) (data : List UInt8) (t4 : Int) (s12 : (List Piece) × Nat) : Option (Ctl ((List Piece) × Nat) ((List Piece))) :=
 (cond (decide ((s12.2 : Int) < t4)) (grd (decide ((s12.2 : Int) + 1 ≤ 9223372036854775807)) (letJ (τ := Int) (cond (decide ((IntKind.i64.wrap (((s12.2 : Int) + 1) * 600)) > (((data).length : Nat) : Int))) ((((data).length : Nat) : Int)) ((IntKind.i64.wrap (((s12.2 : Int) + 1) * 600)))) fun t17 => (grd (decide (0 ≤ (IntKind.i64.wrap ((s12.2 : Int) * 600)) ∧ (IntKind.i64.wrap ((s12.2 : Int) * 600)) ≤ t17 ∧ t17 ≤ (((data).length : Nat) : Int))) (grd (decide (((s12.1).length + (([(⟨base, (s12.2 : Int), t4, (List.take ((t17).toNat - ((IntKind.i64.wrap ((s12.2 : Int) * 600))).toNat) (List.drop ((IntKind.i64.wrap ((s12.2 : Int) * 600))).toNat data))⟩ : Piece)] : List Piece)).length) * 48 ≤ 140737488355328)) (grd (decide ((s12.2 : Int) + 1 ≤ 9223372036854775807)) (some (Ctl.go (((s12.1 ++ ([(⟨base, (s12.2 : Int), t4, (List.take ((t17).toNat - ((IntKind.i64.wrap ((s12.2 : Int) * 600))).toNat) (List.drop ((IntKind.i64.wrap ((s12.2 : Int) * 600))).toNat data))⟩ : Piece)] : List Piece)) : List Piece), (s12.2 + 1))))))))) (some (Ctl.done (s12.1))))
def o107 (base : Int) (data : List UInt8) : Option ((List Piece) × Int) :=
 (cond ((decide (base < 1) || decide (base > 2305843009213693952))) (some ((([] : List Piece), (1 : Int)))) (cond (decide ((((data).length : Nat) : Int) > 524288)) (some ((([] : List Piece), (3 : Int)))) (letJ (τ := Int) (cond ((((((((data).length : Nat) : Int) + 600) - 1) / 600) == 0)) (1) (((((((data).length : Nat) : Int) + 600) - 1) / 600))) fun t4 => (bindO (τ := (List Piece)) (loopO (σ := (List Piece) × Nat) (ρ := (List Piece)) fuelN (o107_L0 base data t4) (([] : List Piece), 0)) fun t7 => (some (((t7 : List Piece), (0 : Int))))))))
theorem c107 (g : Gh) (base : Int) (data : List UInt8) (j0 : OA) (w0 : Nat) (v0 : Arr g.r tyU8 j0 w0 data) {r : (List Piece) × Int} (hS : o107 base data = some r) :
  Ctr Tryz.prog 107 [vi base, vs j0 data w0] g [] (fun v ψ o => ∃ (d1 : OA) (i1 : Nat) (t1 : OB), v = Value.tuple #[vs d1 r.1 i1, vi r.2] ∧ o = [t1] ∧ Buf ψ tyPiece 161 (.slice d1 (r.1).length i1) t1 r.1) := by
 unfold o107 at hS
 refine xFn Tryz.f107 (Tryz.f107.body.getD .skip) 57 ?_
 have j3 := v0.len
 refine xSq (xRg (xb 2 [] [0, 1] (xRe (xW (xSq (xSq (xRg (xb 3 [] [0, 1, 13] ?_))))))))
 refine wpr_grp 6 [(0, vi base), (1, vs j0 data w0), (16, vb (decide (base < 1) || decide (base > 2305843009213693952)))] (fun hk2 => ?_) ?_
 ·refine wpq_split 13 (b := decide (base < 1)) (by kernel_rfl) (fun q1 => ?_) (fun q1 => ?_)
  ·have q1p := of_decide_eq_true q1
   refine xb 3 [] [0, 1, 16] (wpq_re 16 (v := vb true) (Value.bool ((decide (base < 1) || decide (base > 2305843009213693952)))) (by kernel_rfl) (re_or1 q1) ?_)
   exact wpq_sub _ (by kernel_rfl) hk2
  ·have q1p := of_decide_eq_false q1
   refine xb 3 [] [0, 1, 16] (wpq_re 16 (v := vb (decide (base > 2305843009213693952))) (Value.bool ((decide (base < 1) || decide (base > 2305843009213693952)))) (by kernel_rfl) (re_or0 q1) ?_)
   exact wpq_sub _ (by kernel_rfl) hk2
 ·refine xRe ?_
  refine xW ?_
  refine xCd ((decide (base < 1) || decide (base > 2305843009213693952))) (fun h2 => ?_) (fun h2 => ?_)
  ·have hS := cond_T h2 hS
   refine xSq (xRg (xb 2 [] [4, 5] (xRe (xW ?_))))
   obtain rfl := Option.some.inj hS
   exact xRet [none] [4, 5] gR ⟨none, 0, none, by kernel_rfl, by kernel_rfl, Buf.nil⟩ (fun _ _ h => h)
  ·have hS := cond_F h2 hS
   have h2l := (or_false_ h2).1
   have h2r := (or_false_ h2).2
   have d4 := of_decide_eq_false h2l
   have f4 := of_decide_eq_false h2r
   refine xSk (xW (xc [0, 1] (xSq (xSq (xRg (xb 3 [] [0, 1, 19] (xRe (xW ?_))))))))
   refine xCd (decide ((((data).length : Nat) : Int) > 524288)) (fun h3 => ?_) (fun h3 => ?_)
   ·have hS := cond_T h3 hS
    have h3p := of_decide_eq_true h3
    refine xSq (xRg (xb 2 [] [4, 5] (xRe (xW ?_))))
    obtain rfl := Option.some.inj hS
    exact xRet [none] [4, 5] gR ⟨none, 0, none, by kernel_rfl, by kernel_rfl, Buf.nil⟩ (fun _ _ h => h)
   ·have hS := cond_F h3 hS
    have h3p := of_decide_eq_false h3
    refine xSk (xW (xc [0, 1] (xSq (xRg (xb 2 [] [0, 1, 21] (xV (qAdd .i64 ((((data).length : Nat) : Int)) (600) (wr64 (by omega))) (xV (qSub .i64 (((((data).length : Nat) : Int) + 600)) (1) (wr64 (by omega))) (xV (qQuo .i64 ((((((data).length : Nat) : Int) + 600) - 1)) (600) _ (by omega) (IntWalk.i64_quo _ _ (by omega))) (xb 1 [] [0, 1, 6] (xRe (xW (xSq (xSq (xRg (xb 2 [] [0, 1, 6, 26] (xRe (xW ?_)))))))))))))))))
    refine xLetJ hS (fun g own sl t4 => own = [] ∧ sl = [(0, vi base), (1, vs j0 data w0), (6, vi t4)] ∧ (1 ≤ t4 ∧ t4 ≤ 874)) ?_ ?_
    ·rintro g5 _ _ t4 e6 ⟨rfl, rfl, ⟨v3, d3⟩⟩ hS
     refine xW (xSq (xRg (xb 1 [] [0, 1, 6, 7] (xRe (xW (xSq (xSq (xRg (xb 1 [] [0, 1, 6, 7, 8] (xRe (xW ?_)))))))))))
     refine xBindO hS (fun g own sl t7 => ∃ (z1 : OA) (w1 : Nat) (f0 : OB), own = [f0] ∧ sl = [(7, vs z1 t7 w1)] ∧ Buf g.b tyPiece 161 (.slice z1 (t7).length w1) f0 t7) ?_ ?_
     ·rintro g8 _ _ t7 e9 ⟨z1, w1, f0, rfl, rfl, j1⟩ hS
      have l3 := j1.len
      refine xW (xSq (xRg (xb 3 [] [4, 5] (xRe (xW ?_)))))
      obtain rfl := Option.some.inj hS
      exact xRet [some 0] [4, 5] (e6.trans e9) ⟨z1, w1, f0, by kernel_rfl, by kernel_rfl, j1⟩ (fun _ _ h => h)
     ·intro uu7 hS hN7
      refine xBl 0 (xSel [none] (xc [0, 1, 6, 7, 8] (xLo hS (fun g own sl s12 => ∃ (i0 : OA) (d0 : Nat) (l0 : OB), own = [l0] ∧ sl = [(0, vi base), (1, vs j0 data w0), (6, vi t4), (7, vs i0 s12.1 d0), (8, vi (s12.2 : Int))] ∧ Buf g.b tyPiece 161 (.slice i0 (s12.1).length d0) l0 s12.1) ⟨none, 0, none, by kernel_rfl, by kernel_rfl, Buf.nil⟩ ?_)))
      rintro g13 _ _ s12 w5 e14 ⟨i0, d0, l0, rfl, rfl, p0⟩ hS z4 w2 f2
      have z3 := p0.len
      unfold o107_L0 at hS
      refine xSq (xSq (xRg (xb 3 [] [0, 1, 6, 7, 8, 29] (xRe (xW ?_)))))
      refine xCd (decide ((s12.2 : Int) < t4)) (fun h15 => ?_) (fun h15 => ?_)
      ·have hS := cond_T h15 hS
       have a2 := of_decide_eq_true h15
       refine xSk (xW (xc [0, 1, 6, 7, 8] (xSq (xBl 1 (xSq (xRg ?_))))))
       have z23 := i64_in_ ((s12.2 : Int) * 600)
       obtain ⟨q16, hS⟩ := grd_T hS
       have f3 := of_decide_eq_true q16
       refine xb 3 [] [0, 1, 6, 7, 8, 33, 34] (xV (qAdd .i64 ((s12.2 : Int)) (1) (wr64 (by omega))) ?_)
       have z24 := i64_in_ (((s12.2 : Int) + 1) * 600)
       refine xb 3 [] [0, 1, 6, 7, 8, 9, 10] (xRe (xW (xSq (xSq (xRg (xb 4 [] [0, 1, 6, 7, 8, 9, 10, 40] (xRe (xW ?_))))))))
       refine xLetJ hS (fun g own sl t17 => own = [l0] ∧ sl = [(0, vi base), (1, vs j0 data w0), (6, vi t4), (7, vs i0 s12.1 d0), (8, vi (s12.2 : Int)), (9, vi (IntKind.i64.wrap ((s12.2 : Int) * 600))), (10, vi t17)]) ?_ ?_
       ·rintro g18 _ _ t17 e19 ⟨rfl, rfl⟩ hS
        refine xW (xRg (xb 4 [] [0, 1, 6, 7, 8, 9, 10, 43, 44, 45, 46] (xE (eBs (T := tyU8) (p := g18.b) (et := 5) (xs := ([] : List UInt8)) reps_nil (by simp)) ?_)))
        rintro _ _ _ - ⟨A20, c20, k20, rfl, rfl, rfl, h20⟩
        have v0 := v0.mono (e6.trans (e14.trans e19)).r
        obtain ⟨q21, hS⟩ := grd_T hS
        have w4 := of_decide_eq_true q21
        have w3 := v0.cap
        have f22 : Arr g18.r tyU8 (offA j0 w0 ((IntKind.i64.wrap ((s12.2 : Int) * 600))).toNat 1) (w0 - ((IntKind.i64.wrap ((s12.2 : Int) * 600))).toNat) (List.take ((t17).toNat - ((IntKind.i64.wrap ((s12.2 : Int) * 600))).toNat) (List.drop ((IntKind.i64.wrap ((s12.2 : Int) * 600))).toNat data)) := v0.cut ((IntKind.i64.wrap ((s12.2 : Int) * 600))).toNat (t17).toNat (by omega) (by omega)
        have i4 := f22.len
        have v1 : (t17).toNat - ((IntKind.i64.wrap ((s12.2 : Int) * 600))).toNat = ((List.take ((t17).toNat - ((IntKind.i64.wrap ((s12.2 : Int) * 600))).toNat) (List.drop ((IntKind.i64.wrap ((s12.2 : Int) * 600))).toNat data))).length := by simp only [List.length_take, List.length_drop] <;> omega
        have t3 : ((((List.take ((t17).toNat - ((IntKind.i64.wrap ((s12.2 : Int) * 600))).toNat) (List.drop ((IntKind.i64.wrap ((s12.2 : Int) * 600))).toNat data))).length : Nat) : Int) = t17 - (IntKind.i64.wrap ((s12.2 : Int) * 600)) := by omega
        refine xb 3 [] [0, 1, 6, 7, 8, 43, 44, 45, 46, 47, 48, 49, 50] (xV (qSl (m := 1) (A := j0) (len := (data).length) (c := w0) ((IntKind.i64.wrap ((s12.2 : Int) * 600))).toNat (t17).toNat (some (IntKind.i64.wrap ((s12.2 : Int) * 600))) (some t17) ((List.take ((t17).toNat - ((IntKind.i64.wrap ((s12.2 : Int) * 600))).toNat) (List.drop ((IntKind.i64.wrap ((s12.2 : Int) * 600))).toNat data))).length (show _ = _ by omega) (show _ = _ by omega) (by omega) (by omega) v1) ?_)
        obtain ⟨l4, v2, d2⟩ := f22.srcR
        refine xE (eApp (T := tyU8) (p := g18.b) (et := 5) (bytes := 1) (xs := ([] : List UInt8)) (ys := ((List.take ((t17).toNat - ((IntKind.i64.wrap ((s12.2 : Int) * 600))).toNat) (List.drop ((IntKind.i64.wrap ((s12.2 : Int) * 600))).toNat data)) : List UInt8)) 0 h20 rfl (fun w hs => d2 w _ hs) (flatU8.reps v2) (by first | omega | (simp only [List.length_cons, List.length_nil] at *; omega)) (by first | omega | (simp only [List.length_cons, List.length_nil] at *; omega))) ?_
        rintro _ _ _ - ⟨A23, c23, k23, rfl, rfl, rfl, h23⟩
        have h23 : Buf g18.b tyU8 5 (.slice A23 (((List.take ((t17).toNat - ((IntKind.i64.wrap ((s12.2 : Int) * 600))).toNat) (List.drop ((IntKind.i64.wrap ((s12.2 : Int) * 600))).toNat data)) : List UInt8)).length c23) k23 ((List.take ((t17).toNat - ((IntKind.i64.wrap ((s12.2 : Int) * 600))).toNat) (List.drop ((IntKind.i64.wrap ((s12.2 : Int) * 600))).toNat data)) : List UInt8) := h23
        have a4 := h23.len
        refine xb 1 [] [0, 1, 6, 7, 8, 43, 53] ?_
        refine wpq_freeze 0 (by kernel_rfl) h23 (fun g24 e25 f26 => ?_)
        refine xE (eBs (T := tyPiece) (p := g24.b) (et := 161) (xs := ([(⟨base, (s12.2 : Int), t4, (List.take ((t17).toNat - ((IntKind.i64.wrap ((s12.2 : Int) * 600))).toNat) (List.drop ((IntKind.i64.wrap ((s12.2 : Int) * 600))).toNat data))⟩ : Piece)] : List Piece)) (reps_cons (c := [vi base, vi (s12.2 : Int), vi t4, vs A23 (List.take ((t17).toNat - ((IntKind.i64.wrap ((s12.2 : Int) * 600))).toNat) (List.drop ((IntKind.i64.wrap ((s12.2 : Int) * 600))).toNat data)) c23]) (show tyPiece.rep _ _ (⟨base, (s12.2 : Int), t4, (List.take ((t17).toNat - ((IntKind.i64.wrap ((s12.2 : Int) * 600))).toNat) (List.drop ((IntKind.i64.wrap ((s12.2 : Int) * 600))).toNat data))⟩ : Piece) from ⟨A23, c23, rfl, f26⟩) reps_nil) (by simp)) ?_
        rintro _ _ _ - ⟨A27, c27, k27, rfl, rfl, rfl, h27⟩
        have p0 := p0.mono (e19.trans e25).b
        obtain ⟨v4, j2, z2⟩ := h27.srcO (g := g24)
        obtain ⟨q29, hS⟩ := grd_T hS
        have j4 := of_decide_eq_true q29
        refine xE (eApp (T := tyPiece) (p := g24.b) (et := 161) (bytes := 48) (xs := s12.1) (ys := (([(⟨base, (s12.2 : Int), t4, (List.take ((t17).toNat - ((IntKind.i64.wrap ((s12.2 : Int) * 600))).toNat) (List.drop ((IntKind.i64.wrap ((s12.2 : Int) * 600))).toNat data))⟩ : Piece)] : List Piece) : List Piece)) 2 p0 rfl (fun w hs => z2 0 w _ hs (by kernel_rfl)) j2 (by first | omega | (simp only [List.length_cons, List.length_nil] at *; omega)) (by first | omega | (simp only [List.length_cons, List.length_nil] at *; omega))) ?_
        rintro _ _ _ - ⟨A28, c28, k28, rfl, rfl, rfl, h28⟩
        have z5 := h28.len
        have a3 : ((s12.1 ++ ([(⟨base, (s12.2 : Int), t4, (List.take ((t17).toNat - ((IntKind.i64.wrap ((s12.2 : Int) * 600))).toNat) (List.drop ((IntKind.i64.wrap ((s12.2 : Int) * 600))).toNat data))⟩ : Piece)] : List Piece)) : List Piece).length = (s12.1).length + (([(⟨base, (s12.2 : Int), t4, (List.take ((t17).toNat - ((IntKind.i64.wrap ((s12.2 : Int) * 600))).toNat) (List.drop ((IntKind.i64.wrap ((s12.2 : Int) * 600))).toNat data))⟩ : Piece)] : List Piece)).length := List.length_append
        refine xb 1 [] [0, 1, 6, 7, 8] (xRe (wpq_blockN (xW (xRg ?_))))
        obtain ⟨q30, hS⟩ := grd_T hS
        have j5 := of_decide_eq_true q30
        refine xb 1 [] [0, 1, 6, 7, 8, 30] (xV (qAdd .i64 ((s12.2 : Int)) (1) (wr64 (by omega))) (xb 1 [] [0, 1, 6, 7, 8] (xRe (wpq_thenN (xSel [some 2] (xc [0, 1, 6, 7, 8] ?_))))))
        have eS := (Option.some.inj hS).symm
        exact w2 _ eS _ _ _ (e19.trans e25) ⟨A28, c28, k28, by kernel_rfl, by kernel_rfl, h28⟩
       ·intro uu17 hS hN17
        refine xCd (decide ((IntKind.i64.wrap (((s12.2 : Int) + 1) * 600)) > (((data).length : Nat) : Int))) (fun h31 => ?_) (fun h31 => ?_)
        ·have hS := cond_T h31 hS
         have f1 := of_decide_eq_true h31
         refine xRg (xb 3 [] [0, 1, 6, 7, 8, 9, 10] (xRe (xc [0, 1, 6, 7, 8, 9, 10] ?_)))
         have eS := hS.symm
         exact hN17 _ eS _ _ _ gR ⟨by kernel_rfl, by kernel_rfl⟩
        ·have hS := cond_F h31 hS
         have f1 := of_decide_eq_false h31
         refine xSk (xc [0, 1, 6, 7, 8, 9, 10] ?_)
         have eS := hS.symm
         exact hN17 _ eS _ _ _ gR ⟨by kernel_rfl, by kernel_rfl⟩
      ·have hS := cond_F h15 hS
       have a2 := of_decide_eq_false h15
       refine xEx 0 (wpq_thenX (wpq_thenX (wpq_blockE (xc [7] ?_))))
       have eS := (Option.some.inj hS).symm
       have eS := (f2 _ eS).symm
       exact hN7 _ eS _ _ _ e14 ⟨i0, d0, l0, by kernel_rfl, by kernel_rfl, p0⟩
    ·intro uu4 hS hN4
     refine xCd ((((((((data).length : Nat) : Int) + 600) - 1) / 600) == 0)) (fun h32 => ?_) (fun h32 => ?_)
     ·have hS := cond_T h32 hS
      have l1 : ((((((data).length : Nat) : Int) + 600) - 1) / 600) = 0 := eq_of_beq h32
      refine xRg (xb 1 [] [0, 1, 6] (xRe (xc [0, 1, 6] ?_)))
      have eS := hS.symm
      exact hN4 _ eS _ _ _ gR ⟨by kernel_rfl, by kernel_rfl, okI⟩
     ·have hS := cond_F h32 hS
      have l1 : ¬ (((((((data).length : Nat) : Int) + 600) - 1) / 600) = 0) := ne_of_beq_false_ h32
      refine xSk (xc [0, 1, 6] ?_)
      have eS := hS.symm
      exact hN4 _ eS _ _ _ gR ⟨by kernel_rfl, by kernel_rfl, okI⟩

def o69 (s : Sender) (w_ : Want) (steps : Int) (save : List UInt8) : Option (Sender × Piece × Int) :=
 (cond ((((decide ((((s.pieces).length : Nat) : Int) > 0) && ((List.getD s.pieces 0 default).base == w_.base)) && decide (w_.have_ ≥ 0)) && decide (w_.have_ < (((s.pieces).length : Nat) : Int)))) (some ((s, (List.getD s.pieces (w_.have_).toNat default), (0 : Int)))) (bindO (o107 (steps : Int) (save : List UInt8)) fun y13 => (cond ((y13.2 != 0)) (some ((s, (⟨0, 0, 0, ([] : List UInt8)⟩ : Piece), y13.2))) (grd (decide (0 < (y13.1).length)) (some (((⟨y13.1⟩ : Sender), (List.getD y13.1 0 default), (0 : Int))))))))
theorem c69 (g : Gh) (s : Sender) (w0 : OA) (j0 : Nat) (w_ : Want) (steps : Int) (w1 : List UInt8) (d0 : OA) (v0 : Nat) (i0 : Arr g.b tyPiece w0 j0 s.pieces) (w2 : Arr g.r tyU8 d0 v0 w1) {r : Sender × Piece × Int} (hS : o69 s w_ steps w1 = some r) :
  Ctr Tryz.prog 69 [Value.agg #[vs w0 s.pieces j0], Value.agg #[vi w_.base, vi w_.have_], vi steps, vs d0 w1 v0] g [] (fun v ψ o => ∃ (f0 : OA) (l0 : Nat) (j1 : OA) (z1 : Nat), v = Value.tuple #[Value.agg #[vs f0 r.1.pieces l0], (aPiece r.2.1 j1 z1), vi r.2.2] ∧ o = [] ∧ Arr ψ tyPiece f0 l0 r.1.pieces ∧ Arr ψ tyU8 j1 z1 r.2.1.data) := by
 unfold o69 at hS
 refine xFn Tryz.f69 (Tryz.f69.body.getD .skip) 63 ?_
 have v3 := i0.len
 have z6 := w2.len
 refine xSq (xRg (xE eB ?_))
 rintro _ _ _ - ⟨b1, rfl, rfl, rfl⟩
 refine xE eB ?_
 rintro _ _ _ - ⟨b2, rfl, rfl, rfl⟩
 refine xE eB ?_
 rintro _ _ _ - ⟨b3, rfl, rfl, rfl⟩
 refine xE eB ?_
 rintro _ _ _ - ⟨b4, rfl, rfl, rfl⟩
 refine xb 1 [] [2, 3, 4, 5, 8, 9] (xRe (xW (xSq (xSq ?_))))
 refine xDr 0 [1, 6, 9, 11, 16, 21, 23] [] [some ⟨b4, 161, (cPiece Z6 none 0)⟩, some ⟨b3, 39, [vS0]⟩, some ⟨b2, 30, [vi w_.base, vi w_.have_]⟩, some ⟨b1, 39, [vs w0 s.pieces j0]⟩] 27 (fun RG => ?_) (fun _ _ _ _ _ h => h)
 refine xt 22 [0, 1, 2, 3, 4] [(1, 3)] (sm [0, 1, 2, 3]) [2, 3, 4, 5, 8, 9, 17] RG pR ?_
 refine wpa_grp 13 [true, true, true, true, true, true, true, true, true, true, true, true, true, true, false, false, false, false, false, false, false, false, false, false, false, false, false] [(2, vi steps), (3, vs d0 w1 v0), (4, vp b1 0), (5, vp b2 0), (8, vp b3 0), (9, vp b4 0), (26, vb (decide ((((s.pieces).length : Nat) : Int) > 0) && ((List.getD s.pieces 0 default).base == w_.base)))] (fun hk4 => ?_) ?_
 ·refine wpq_split 17 (b := decide ((((s.pieces).length : Nat) : Int) > 0)) (by kernel_rfl) (fun q5 => ?_) (fun q5 => ?_)
  ·have q5p := of_decide_eq_true q5
   have i7 : 0 < (s.pieces).length := by omega
   obtain ⟨ad6, cs6, hA6, hr6, hc6⟩ := i0.at_ (get_getD (d := default) i7)
   obtain ⟨l5, f5, rfl, d2⟩ := hr6
   have i4 := d2.len
   refine xt 20 [5, 6] [(6, 3)] (sm [0, 1, 2, 3]) [2, 3, 4, 5, 8, 9, 17, 19] RG pR (xTp 7 RG (fun _ => (qIx 0 4 hA6 rfl i7)) (xt 18 [8] [] (sm [0, 1, 2, 3]) [2, 3, 4, 5, 8, 9, 17, 21] RG pR (xTv 9 (sm [0, 1, 2, 3]) RG pR (qLdP (Addr.add ad6 (0 * 4)) 0 (hc6.mono g.br)) (xt 13 [10, 11, 12, 13] [(11, 2)] (sm [0, 1, 2, 3]) [2, 3, 4, 5, 8, 9, 26] RG pR (wpq_re 26 (v := vb ((List.getD s.pieces 0 default).base == w_.base)) (Value.bool ((decide ((((s.pieces).length : Nat) : Int) > 0) && ((List.getD s.pieces 0 default).base == w_.base)))) (by kernel_rfl) (re_and1 q5) ?_)))))
   exact wpq_sub _ (by kernel_rfl) hk4
  ·have q5p := of_decide_eq_false q5
   refine xt 13 [5, 6, 7, 8, 9, 10, 11, 12, 13] [] (sm [0, 1, 2, 3]) [2, 3, 4, 5, 8, 9, 26] RG pR (wpq_re 26 (v := vb false) (Value.bool ((decide ((((s.pieces).length : Nat) : Int) > 0) && ((List.getD s.pieces 0 default).base == w_.base)))) (by kernel_rfl) (re_and0 q5) ?_)
   exact wpq_sub _ (by kernel_rfl) hk4
 ·refine xt 12 [14] [] (sm [0, 1, 2, 3]) [2, 3, 4, 5, 8, 9, 27] RG pR ?_
  refine wpa_grp 8 [true, true, true, true, true, true, true, true, true, true, true, true, true, true, true, true, true, true, true, false, false, false, false, false, false, false, false] [(2, vi steps), (3, vs d0 w1 v0), (4, vp b1 0), (5, vp b2 0), (8, vp b3 0), (9, vp b4 0), (31, vb ((decide ((((s.pieces).length : Nat) : Int) > 0) && ((List.getD s.pieces 0 default).base == w_.base)) && decide (w_.have_ ≥ 0)))] (fun w3 => ?_) ?_
  ·refine wpq_split 27 (b := (decide ((((s.pieces).length : Nat) : Int) > 0) && ((List.getD s.pieces 0 default).base == w_.base))) (by kernel_rfl) (fun q8 => ?_) (fun q8 => ?_)
   ·have q8l := (and_true_ q8).1
    have q8r := (and_true_ q8).2
    have l6 := of_decide_eq_true q8l
    have f6 : (List.getD s.pieces 0 default).base = w_.base := eq_of_beq q8r
    refine xt 8 [15, 16, 17, 18] [(16, 2)] (sm [0, 1, 2, 3]) [2, 3, 4, 5, 8, 9, 31] RG pR (wpq_re 31 (v := vb (decide (w_.have_ ≥ 0))) (Value.bool (((decide ((((s.pieces).length : Nat) : Int) > 0) && ((List.getD s.pieces 0 default).base == w_.base)) && decide (w_.have_ ≥ 0)))) (by kernel_rfl) (re_and1 q8) ?_)
    exact wpq_sub _ (by kernel_rfl) w3
   ·refine xt 8 [15, 16, 17, 18] [] (sm [0, 1, 2, 3]) [2, 3, 4, 5, 8, 9, 31] RG pR ?_
    refine wpq_re 31 (v := vb false) (Value.bool (((decide ((((s.pieces).length : Nat) : Int) > 0) && ((List.getD s.pieces 0 default).base == w_.base)) && decide (w_.have_ ≥ 0)))) (by kernel_rfl) (re_and0 q8) ?_
    exact wpq_sub _ (by kernel_rfl) w3
  ·refine xt 7 [19] [] (sm [0, 1, 2, 3]) [2, 3, 4, 5, 8, 9, 32] RG pR ?_
   refine wpa_grp 0 [true, true, true, true, true, true, true, true, true, true, true, true, true, true, true, true, true, true, true, true, true, true, true, true, true, true, true] [(2, vi steps), (3, vs d0 w1 v0), (4, vp b1 0), (5, vp b2 0), (8, vp b3 0), (9, vp b4 0), (39, vb (((decide ((((s.pieces).length : Nat) : Int) > 0) && ((List.getD s.pieces 0 default).base == w_.base)) && decide (w_.have_ ≥ 0)) && decide (w_.have_ < (((s.pieces).length : Nat) : Int))))] (fun z3 => ?_) ?_
   ·refine wpq_split 32 (b := ((decide ((((s.pieces).length : Nat) : Int) > 0) && ((List.getD s.pieces 0 default).base == w_.base)) && decide (w_.have_ ≥ 0))) (by kernel_rfl) (fun q9 => ?_) (fun q9 => ?_)
    ·have q9l := (and_true_ q9).1
     have q9r := (and_true_ q9).2
     have l4 := (and_true_ q9l).1
     have i5 := (and_true_ q9l).2
     have i6 := of_decide_eq_true l4
     have p6 : (List.getD s.pieces 0 default).base = w_.base := eq_of_beq i5
     have v6 := of_decide_eq_true q9r
     refine xt 0 [20, 21, 22, 23, 24, 25, 26] [(21, 2), (23, 3)] (sm [0, 1, 2, 3]) [2, 3, 4, 5, 8, 9, 39] RG pR (wpq_re 39 (v := vb (decide (w_.have_ < (((s.pieces).length : Nat) : Int)))) (Value.bool ((((decide ((((s.pieces).length : Nat) : Int) > 0) && ((List.getD s.pieces 0 default).base == w_.base)) && decide (w_.have_ ≥ 0)) && decide (w_.have_ < (((s.pieces).length : Nat) : Int))))) (by kernel_rfl) (re_and1 q9) ?_)
     exact wpq_sub _ (by kernel_rfl) z3
    ·refine xt 0 [20, 21, 22, 23, 24, 25, 26] [] (sm [0, 1, 2, 3]) [2, 3, 4, 5, 8, 9, 39] RG pR ?_
     refine wpq_re 39 (v := vb false) (Value.bool ((((decide ((((s.pieces).length : Nat) : Int) > 0) && ((List.getD s.pieces 0 default).base == w_.base)) && decide (w_.have_ ≥ 0)) && decide (w_.have_ < (((s.pieces).length : Nat) : Int))))) (by kernel_rfl) (re_and0 q9) ?_
     exact wpq_sub _ (by kernel_rfl) z3
   ·refine xAe (lds := [1, 6, 9, 11, 16, 21, 23]) ?_
    refine xW ?_
    refine xCd ((((decide ((((s.pieces).length : Nat) : Int) > 0) && ((List.getD s.pieces 0 default).base == w_.base)) && decide (w_.have_ ≥ 0)) && decide (w_.have_ < (((s.pieces).length : Nat) : Int)))) (fun h10 => ?_) (fun h10 => ?_)
    ·have hS := cond_T h10 hS
     have f2 := (and_true_ h10).1
     have z4 := (and_true_ h10).2
     have j2 := (and_true_ f2).1
     have t3 := (and_true_ f2).2
     have j3 := (and_true_ j2).1
     have a2 := (and_true_ j2).2
     have v5 := of_decide_eq_true j3
     have a5 : (List.getD s.pieces 0 default).base = w_.base := eq_of_beq a2
     have j6 := of_decide_eq_true t3
     have d6 := of_decide_eq_true z4
     refine xSq ?_
     refine xDr 0 [0, 2, 4, 6] [8, 9] [some ⟨b2, 30, [vi w_.base, vi w_.have_]⟩, some ⟨b1, 39, [vs w0 s.pieces j0]⟩] 10 (fun RG => ?_) (fun _ _ _ _ _ h => h)
     have i12 : (w_.have_).toNat < (s.pieces).length := by omega
     obtain ⟨t4, a6, z5, f4, d5⟩ := i0.at_ (get_getD (d := default) i12)
     obtain ⟨v1, f1, rfl, i1⟩ := f4
     have a3 := i1.len
     refine xt 5 [0, 1, 2, 3, 4] [(0, 1), (2, 1), (4, 0)] [some 2, some 3] [8, 9, 40, 42, 44] RG pR (xTp 5 RG (fun _ => (qIx (w_.have_).toNat 4 z5 (show w_.have_ = _ from by omega) i12)) (xTv 6 [some 2, some 3] RG pR (qLdP (Addr.add t4 ((w_.have_).toNat * 4)) 0 (d5.mono g.br)) (xO1 (lds := [0, 2, 4, 6]) 7 (xId (lds := [0, 2, 4, 6]) pR (eStL b3 0 1) ?_))))
     rintro _ _ _ - ⟨rfl, rfl⟩
     refine kk [some 2, some 3] (xO1 (lds := [0, 2, 4, 6]) 8 (xId (lds := [0, 2, 4, 6]) pR (eStL b4 0 0) ?_))
     rintro _ _ _ - ⟨rfl, rfl⟩
     refine kf (xt 0 [9] [] [some 2, some 3] [8, 9, 10] RG pR (xAe (lds := [0, 2, 4, 6]) (xW ?_)))
     obtain rfl := Option.some.inj hS
     exact xRetC [] [(8, 1), (9, 0)] gR ⟨w0, j0, v1, f1, by kernel_rfl, by kernel_rfl, i0, i1⟩ (fun _ _ h => h)
    ·have hS := cond_F h10 hS
     refine xSk (xW (xc [2, 3, 4, 8, 9] (xSq (xRg (xb 2 [] [4, 8, 9, 48, 49] ?_)))))
     obtain ⟨y13, w4, hS⟩ := bindO_T hS
     refine xE (eC 0 (fun g' lr eb ln => c107 g' (steps : Int) (w1 : List UInt8) d0 v0 (w2.mono lr) w4)) ?_
     rintro _ g14 _ e15 ⟨_, rfl, l3, d3, z2, rfl, rfl, d1⟩
     have w6 := d1.len
     refine xb 5 [] [4, 8, 9, 11, 12] (xRe (xW (xSq (xSq (xRg (xb 2 [] [4, 8, 9, 11, 12, 54] (xRe (xW ?_))))))))
     refine xCd ((y13.2 != 0)) (fun h16 => ?_) (fun h16 => ?_)
     ·have hS := cond_T h16 hS
      have w5 : ¬ (y13.2 = 0) := ne_of_bne_ h16
      refine xSq (xRg (xbo 6 [(0, 4), (3, 2), (4, 1)] [z2, some ⟨b4, 161, (cPiece Z6 none 0)⟩, some ⟨b3, 39, [vs w0 s.pieces j0]⟩, some ⟨b2, 30, [vi w_.base, vi w_.have_]⟩, some ⟨b1, 39, [vs w0 s.pieces j0]⟩] [8, 9, 10] (xRe (xW ?_))))
      have i0 := i0.mono e15.b
      obtain rfl := Option.some.inj hS
      exact xRetC [] [(8, 2), (9, 1)] e15 ⟨w0, j0, none, 0, by kernel_rfl, by kernel_rfl, i0, Arr.nil⟩ (fun _ _ h => h)
     ·have hS := cond_F h16 hS
      have w5 : y13.2 = 0 := eq_of_bne_false_ h16
      refine xSk (xW (xc [8, 9, 11] (xSq ?_)))
      refine xDr 0 [4] [6, 7] [z2, some ⟨b2, 30, [vi w_.base, vi w_.have_]⟩, some ⟨b1, 39, [vs w0 s.pieces j0]⟩] 8 (fun RG => ?_) (fun _ _ _ _ _ h => h)
      obtain ⟨q18, hS⟩ := grd_T hS
      have v2 := of_decide_eq_true q18
      obtain ⟨t5, t6, d4, j5, j4, a4⟩ := d1.open_ v2 default
      obtain ⟨v4, rfl⟩ : ∃ z, z = t5 := ⟨_, rfl⟩
      subst j5
      obtain ⟨l1, t1, rfl, p0⟩ := j4
      have f3 := p0.len
      refine xt 5 [0, 1, 2] [] (sm [0, 3, 4]) [8, 9, 59, 60] RG pR (xTp 3 RG (fun _ => (qIxB 0 4 v4.g d4 rfl v2)) (xTv 4 (sm [0, 3, 4]) RG pR (qLdB 0 4 0 0 a4) (xO1 (lds := [4]) 5 (xId (lds := [4]) pR (eStL b3 0 2) ?_))))
      rintro _ _ _ - ⟨rfl, rfl⟩
      refine kk (sm [0, 3, 4]) (xO1 (lds := [4]) 6 (xId (lds := [4]) pR (eStL b4 0 1) ?_))
      rintro _ _ _ - ⟨rfl, rfl⟩
      refine kf (xt 0 [7] [] (sm [0, 3, 4]) [8, 9, 10] RG pR (xAe (lds := [4]) (xW ?_)))
      refine wpq_freeze 0 (by kernel_rfl) d1 (fun g19 e20 f21 => ?_)
      have p0 := p0.mono e20.b
      obtain rfl := Option.some.inj hS
      exact xRetC [] [(8, 2), (9, 1)] (e15.trans e20) ⟨l3, d3, l1, t1, by kernel_rfl, by kernel_rfl, f21, p0⟩ (fun _ _ h => h)

def o70 (p : Piece) : Option ((List UInt8) × Int) :=
 (cond (((((((decide (p.base < 1) || decide (p.base > 2305843009213693952)) || decide (p.count < 1)) || decide (p.count > 874)) || decide (p.index < 0)) || decide (p.index ≥ p.count)) || decide ((((p.data).length : Nat) : Int) > 600))) (some ((([] : List UInt8), (1 : Int)))) (bindO (o108 p.base (8 : Int)) fun y9 => (bindO (o108 p.index (2 : Int)) fun y12 => (grd (decide (((y9).length + (y12).length) * 1 ≤ 140737488355328)) (bindO (o108 p.count (2 : Int)) fun y17 => (grd (decide ((((y9 ++ y12)).length + (y17).length) * 1 ≤ 140737488355328)) (grd (decide (((((y9 ++ y12) ++ y17)).length + (p.data).length) * 1 ≤ 140737488355328)) (some ((((((y9 ++ y12) ++ y17) ++ p.data) : List UInt8), (0 : Int)))))))))))
theorem c70 (g : Gh) (p : Piece) (p0 : OA) (j0 : Nat) (w0 : Arr g.r tyU8 p0 j0 p.data) {r : (List UInt8) × Int} (hS : o70 p = some r) :
  Ctr Tryz.prog 70 [(aPiece p p0 j0)] g [] (fun v ψ o => ∃ (a2 : OA) (w2 : Nat) (w3 : OB), v = Value.tuple #[vs a2 r.1 w2, vi r.2] ∧ o = [w3] ∧ Buf ψ tyU8 5 (.slice a2 (r.1).length w2) w3 r.1) := by
 unfold o70 at hS
 refine xFn Tryz.f70 (Tryz.f70.body.getD .skip) 58 ?_
 have j5 := w0.len
 refine xSq (xRg (xE eB ?_))
 rintro _ _ _ - ⟨b1, rfl, rfl, rfl⟩
 refine xb 2 [] [1] (xRe (xW (xSq (xSq (xRg (xb 4 [(1, 0)] [1, 8] ?_))))))
 refine wpr_grp 8 [(1, vp b1 0), (12, vb (decide (p.base < 1) || decide (p.base > 2305843009213693952)))] (fun hk3 => ?_) ?_
 ·refine wpq_split 8 (b := decide (p.base < 1)) (by kernel_rfl) (fun q2 => ?_) (fun q2 => ?_)
  ·have q2p := of_decide_eq_true q2
   refine xb 4 [] [1, 12] (wpq_re 12 (v := vb true) (Value.bool ((decide (p.base < 1) || decide (p.base > 2305843009213693952)))) (by kernel_rfl) (re_or1 q2) ?_)
   exact wpq_sub _ (by kernel_rfl) hk3
  ·have q2p := of_decide_eq_false q2
   refine xb 4 [(5, 0)] [1, 12] (wpq_re 12 (v := vb (decide (p.base > 2305843009213693952))) (Value.bool ((decide (p.base < 1) || decide (p.base > 2305843009213693952)))) (by kernel_rfl) (re_or0 q2) ?_)
   exact wpq_sub _ (by kernel_rfl) hk3
 ·refine xb 1 [] [1, 13] ?_
  refine wpr_grp 13 [(1, vp b1 0), (17, vb ((decide (p.base < 1) || decide (p.base > 2305843009213693952)) || decide (p.count < 1)))] (fun hk8 => ?_) ?_
  ·refine wpq_split 13 (b := (decide (p.base < 1) || decide (p.base > 2305843009213693952))) (by kernel_rfl) (fun q3 => ?_) (fun q3 => ?_)
   ·refine xb 4 [] [1, 17] ?_
    refine wpq_re 17 (v := vb true) (Value.bool (((decide (p.base < 1) || decide (p.base > 2305843009213693952)) || decide (p.count < 1)))) (by kernel_rfl) (re_or1 q3) ?_
    exact wpq_sub _ (by kernel_rfl) hk8
   ·have q3l := (or_false_ q3).1
    have q3r := (or_false_ q3).2
    have j10 := of_decide_eq_false q3l
    have z9 := of_decide_eq_false q3r
    refine xb 4 [(10, 0)] [1, 17] (wpq_re 17 (v := vb (decide (p.count < 1))) (Value.bool (((decide (p.base < 1) || decide (p.base > 2305843009213693952)) || decide (p.count < 1)))) (by kernel_rfl) (re_or0 q3) ?_)
    exact wpq_sub _ (by kernel_rfl) hk8
  ·refine xb 1 [] [1, 18] ?_
   refine wpr_grp 18 [(1, vp b1 0), (22, vb (((decide (p.base < 1) || decide (p.base > 2305843009213693952)) || decide (p.count < 1)) || decide (p.count > 874)))] (fun v2 => ?_) ?_
   ·refine wpq_split 18 (b := ((decide (p.base < 1) || decide (p.base > 2305843009213693952)) || decide (p.count < 1))) (by kernel_rfl) (fun q4 => ?_) (fun q4 => ?_)
    ·refine xb 4 [] [1, 22] ?_
     refine wpq_re 22 (v := vb true) (Value.bool ((((decide (p.base < 1) || decide (p.base > 2305843009213693952)) || decide (p.count < 1)) || decide (p.count > 874)))) (by kernel_rfl) (re_or1 q4) ?_
     exact wpq_sub _ (by kernel_rfl) v2
    ·have q4l := (or_false_ q4).1
     have q4r := (or_false_ q4).2
     have f4 := (or_false_ q4l).1
     have i5 := (or_false_ q4l).2
     have t7 := of_decide_eq_false f4
     have v7 := of_decide_eq_false i5
     have f8 := of_decide_eq_false q4r
     refine xb 4 [(15, 0)] [1, 22] (wpq_re 22 (v := vb (decide (p.count > 874))) (Value.bool ((((decide (p.base < 1) || decide (p.base > 2305843009213693952)) || decide (p.count < 1)) || decide (p.count > 874)))) (by kernel_rfl) (re_or0 q4) ?_)
     exact wpq_sub _ (by kernel_rfl) v2
   ·refine xb 1 [] [1, 23] ?_
    refine wpr_grp 23 [(1, vp b1 0), (27, vb ((((decide (p.base < 1) || decide (p.base > 2305843009213693952)) || decide (p.count < 1)) || decide (p.count > 874)) || decide (p.index < 0)))] (fun f2 => ?_) ?_
    ·refine wpq_split 23 (b := (((decide (p.base < 1) || decide (p.base > 2305843009213693952)) || decide (p.count < 1)) || decide (p.count > 874))) (by kernel_rfl) (fun q5 => ?_) (fun q5 => ?_)
     ·refine xb 4 [] [1, 27] ?_
      refine wpq_re 27 (v := vb true) (Value.bool (((((decide (p.base < 1) || decide (p.base > 2305843009213693952)) || decide (p.count < 1)) || decide (p.count > 874)) || decide (p.index < 0)))) (by kernel_rfl) (re_or1 q5) ?_
      exact wpq_sub _ (by kernel_rfl) f2
     ·have q5l := (or_false_ q5).1
      have q5r := (or_false_ q5).2
      have z3 := (or_false_ q5l).1
      have w5 := (or_false_ q5l).2
      have a3 := (or_false_ z3).1
      have i4 := (or_false_ z3).2
      have f6 := of_decide_eq_false a3
      have z7 := of_decide_eq_false i4
      have p8 := of_decide_eq_false w5
      have a9 := of_decide_eq_false q5r
      refine xb 4 [(20, 0)] [1, 27] (wpq_re 27 (v := vb (decide (p.index < 0))) (Value.bool (((((decide (p.base < 1) || decide (p.base > 2305843009213693952)) || decide (p.count < 1)) || decide (p.count > 874)) || decide (p.index < 0)))) (by kernel_rfl) (re_or0 q5) ?_)
      exact wpq_sub _ (by kernel_rfl) f2
    ·refine xb 1 [] [1, 28] ?_
     refine wpr_grp 30 [(1, vp b1 0), (34, vb (((((decide (p.base < 1) || decide (p.base > 2305843009213693952)) || decide (p.count < 1)) || decide (p.count > 874)) || decide (p.index < 0)) || decide (p.index ≥ p.count)))] (fun v3 => ?_) ?_
     ·refine wpq_split 28 (b := ((((decide (p.base < 1) || decide (p.base > 2305843009213693952)) || decide (p.count < 1)) || decide (p.count > 874)) || decide (p.index < 0))) (by kernel_rfl) (fun q6 => ?_) (fun q6 => ?_)
      ·refine xb 6 [] [1, 34] ?_
       refine wpq_re 34 (v := vb true) (Value.bool ((((((decide (p.base < 1) || decide (p.base > 2305843009213693952)) || decide (p.count < 1)) || decide (p.count > 874)) || decide (p.index < 0)) || decide (p.index ≥ p.count)))) (by kernel_rfl) (re_or1 q6) ?_
       exact wpq_sub _ (by kernel_rfl) v3
      ·have q6l := (or_false_ q6).1
       have q6r := (or_false_ q6).2
       have f3 := (or_false_ q6l).1
       have l4 := (or_false_ q6l).2
       have t1 := (or_false_ f3).1
       have j4 := (or_false_ f3).2
       have d2 := (or_false_ t1).1
       have l3 := (or_false_ t1).2
       have p6 := of_decide_eq_false d2
       have d6 := of_decide_eq_false l3
       have a6 := of_decide_eq_false j4
       have d7 := of_decide_eq_false l4
       have w10 := of_decide_eq_false q6r
       refine xb 6 [(25, 0), (27, 0)] [1, 34] (wpq_re 34 (v := vb (decide (p.index ≥ p.count))) (Value.bool ((((((decide (p.base < 1) || decide (p.base > 2305843009213693952)) || decide (p.count < 1)) || decide (p.count > 874)) || decide (p.index < 0)) || decide (p.index ≥ p.count)))) (by kernel_rfl) (re_or0 q6) ?_)
       exact wpq_sub _ (by kernel_rfl) v3
     ·refine xb 1 [] [1, 35] ?_
      refine wpr_grp 36 [(1, vp b1 0), (40, vb ((((((decide (p.base < 1) || decide (p.base > 2305843009213693952)) || decide (p.count < 1)) || decide (p.count > 874)) || decide (p.index < 0)) || decide (p.index ≥ p.count)) || decide ((((p.data).length : Nat) : Int) > 600)))] (fun t3 => ?_) ?_
      ·refine wpq_split 35 (b := (((((decide (p.base < 1) || decide (p.base > 2305843009213693952)) || decide (p.count < 1)) || decide (p.count > 874)) || decide (p.index < 0)) || decide (p.index ≥ p.count))) (by kernel_rfl) (fun q7 => ?_) (fun q7 => ?_)
       ·refine xb 5 [] [1, 40] ?_
        refine wpq_re 40 (v := vb true) (Value.bool (((((((decide (p.base < 1) || decide (p.base > 2305843009213693952)) || decide (p.count < 1)) || decide (p.count > 874)) || decide (p.index < 0)) || decide (p.index ≥ p.count)) || decide ((((p.data).length : Nat) : Int) > 600)))) (by kernel_rfl) (re_or1 q7) ?_
        exact wpq_sub _ (by kernel_rfl) t3
       ·have q7l := (or_false_ q7).1
        have q7r := (or_false_ q7).2
        have j2 := (or_false_ q7l).1
        have f5 := (or_false_ q7l).2
        have z1 := (or_false_ j2).1
        have w4 := (or_false_ j2).2
        have l0 := (or_false_ z1).1
        have d3 := (or_false_ z1).2
        have f1 := (or_false_ l0).1
        have l1 := (or_false_ l0).2
        have z5 := of_decide_eq_false f1
        have j6 := of_decide_eq_false l1
        have v6 := of_decide_eq_false d3
        have l6 := of_decide_eq_false w4
        have z8 := of_decide_eq_false f5
        have d10 := of_decide_eq_false q7r
        refine xb 5 [(32, 0)] [1, 40] (wpq_re 40 (v := vb (decide ((((p.data).length : Nat) : Int) > 600))) (Value.bool (((((((decide (p.base < 1) || decide (p.base > 2305843009213693952)) || decide (p.count < 1)) || decide (p.count > 874)) || decide (p.index < 0)) || decide (p.index ≥ p.count)) || decide ((((p.data).length : Nat) : Int) > 600)))) (by kernel_rfl) (re_or0 q7) ?_)
        exact wpq_sub _ (by kernel_rfl) t3
      ·refine xRe ?_
       refine xW ?_
       refine xCd (((((((decide (p.base < 1) || decide (p.base > 2305843009213693952)) || decide (p.count < 1)) || decide (p.count > 874)) || decide (p.index < 0)) || decide (p.index ≥ p.count)) || decide ((((p.data).length : Nat) : Int) > 600))) (fun h8 => ?_) (fun h8 => ?_)
       ·have hS := cond_T h8 hS
        refine xSq (xRg (xb 2 [] [2, 3] (xRe (xW ?_))))
        obtain rfl := Option.some.inj hS
        exact xRet [none] [2, 3] gR ⟨none, 0, none, by kernel_rfl, by kernel_rfl, Buf.nil⟩ (fun _ _ h => h)
       ·have hS := cond_F h8 hS
        have h8l := (or_false_ h8).1
        have h8r := (or_false_ h8).2
        have z2 := (or_false_ h8l).1
        have z6 := (or_false_ h8l).2
        have j1 := (or_false_ z2).1
        have z4 := (or_false_ z2).2
        have v0 := (or_false_ j1).1
        have j3 := (or_false_ j1).2
        have i0 := (or_false_ v0).1
        have v1 := (or_false_ v0).2
        have f0 := (or_false_ i0).1
        have w1 := (or_false_ i0).2
        have t4 := of_decide_eq_false f0
        have d4 := of_decide_eq_false w1
        have v5 := of_decide_eq_false v1
        have t6 := of_decide_eq_false j3
        have w7 := of_decide_eq_false z4
        have a7 := of_decide_eq_false z6
        have i10 := of_decide_eq_false h8r
        refine xSk (xW (xc [1] (xSq (xRg (xb 2 [(1, 0)] [1, 42] ?_)))))
        obtain ⟨y9, hy9, hS⟩ := bindO_T hS
        refine xE (eC 0 (fun g' lr eb ln => c108 g' p.base (8 : Int) hy9)) ?_
        rintro _ g10 _ e11 ⟨_, rfl, p9, v9, z10, rfl, rfl, d0⟩
        have l7 := d0.len
        refine xb 1 [] [1, 4] (xRe (xW (xSq (xRg (xb 3 [(2, 1)] [1, 4, 44, 46] ?_)))))
        obtain ⟨y12, w6, hS⟩ := bindO_T hS
        refine xE (eC 0 (fun g' lr eb ln => c108 g' p.index (2 : Int) w6)) ?_
        rintro _ g13 _ e14 ⟨_, rfl, f7, w8, d8, rfl, rfl, d1⟩
        have j7 := d1.len
        have d0 := d0.mono e14.b
        obtain ⟨p10, v4, a4⟩ := d1.srcO (g := g13)
        obtain ⟨q16, hS⟩ := grd_T hS
        have v8 := of_decide_eq_true q16
        refine xE (eApp (T := tyU8) (p := g13.b) (et := 5) (bytes := 1) (xs := (y9 : List UInt8)) (ys := (y12 : List UInt8)) 1 d0 rfl (fun w hs => a4 0 w _ hs (by kernel_rfl)) v4 (by first | omega | (simp only [List.length_cons, List.length_nil] at *; omega)) (by first | omega | (simp only [List.length_cons, List.length_nil] at *; omega))) ?_
        rintro _ _ _ - ⟨A15, c15, k15, rfl, rfl, rfl, h15⟩
        have l9 := h15.len
        have l8 : ((y9 ++ y12) : List UInt8).length = (y9).length + (y12).length := List.length_append
        refine xb 1 [] [1, 4] (xRe (xW (xSq (xRg (xb 3 [(2, 2)] [1, 4, 49, 51] ?_)))))
        obtain ⟨y17, d5, hS⟩ := bindO_T hS
        refine xE (eC 0 (fun g' lr eb ln => c108 g' p.count (2 : Int) d5)) ?_
        rintro _ g18 _ e19 ⟨_, rfl, p7, i8, j8, rfl, rfl, i1⟩
        have i7 := i1.len
        have h15 := h15.mono e19.b
        obtain ⟨i9, i6, l5⟩ := i1.srcO (g := g18)
        obtain ⟨q21, hS⟩ := grd_T hS
        have w9 := of_decide_eq_true q21
        refine xE (eApp (T := tyU8) (p := g18.b) (et := 5) (bytes := 1) (xs := ((y9 ++ y12) : List UInt8)) (ys := (y17 : List UInt8)) 2 h15 rfl (fun w hs => l5 0 w _ hs (by kernel_rfl)) i6 (by first | omega | (simp only [List.length_cons, List.length_nil] at *; omega)) (by first | omega | (simp only [List.length_cons, List.length_nil] at *; omega))) ?_
        rintro _ _ _ - ⟨A20, c20, k20, rfl, rfl, rfl, h20⟩
        have j9 := h20.len
        have t8 : (((y9 ++ y12) ++ y17) : List UInt8).length = ((y9 ++ y12)).length + (y17).length := List.length_append
        refine xb 1 [] [1, 4] (xRe (xW (xSq (xRg (xb 3 [(2, 3)] [54, 56] ?_)))))
        have w0 := w0.mono (e11.trans (e14.trans e19)).r
        obtain ⟨d9, t5, a5⟩ := w0.srcR
        obtain ⟨q23, hS⟩ := grd_T hS
        have t9 := of_decide_eq_true q23
        refine xE (eApp (T := tyU8) (p := g18.b) (et := 5) (bytes := 1) (xs := (((y9 ++ y12) ++ y17) : List UInt8)) (ys := p.data) 2 h20 rfl (fun w hs => a5 w _ hs) (flatU8.reps t5) (by first | omega | (simp only [List.length_cons, List.length_nil] at *; omega)) (by first | omega | (simp only [List.length_cons, List.length_nil] at *; omega))) ?_
        rintro _ _ _ - ⟨A22, c22, k22, rfl, rfl, rfl, h22⟩
        have f9 := h22.len
        have a8 : ((((y9 ++ y12) ++ y17) ++ p.data) : List UInt8).length = (((y9 ++ y12) ++ y17)).length + (p.data).length := List.length_append
        refine xb 2 [] [2, 3] (xRe (xW ?_))
        obtain rfl := Option.some.inj hS
        exact xRet [some 2] [2, 3] (e11.trans (e14.trans e19)) ⟨A22, c22, k22, by kernel_rfl, by kernel_rfl, h22⟩ (fun _ _ h => h)

def o35 (c : RComp) (save : List UInt8) : Option (RComp × Frame × Bool × Int) :=
 (cond ((c.stage != 6)) (some ((c, (⟨0, 0, 0, ([] : List UInt8)⟩ : Frame), (false), (8 : Int)))) (cond ((!c.asked)) (some ((({ c with stage := 7 }), (⟨0, 0, 0, ([] : List UInt8)⟩ : Frame), (false), (0 : Int)))) (bindO (o69 c.sender c.node.heard.want c.node.steps (save : List UInt8)) fun y6 => (cond ((y6.2.2 != 0)) (some ((({ c with stage := 7 }), (⟨0, 0, 0, ([] : List UInt8)⟩ : Frame), (false), y6.2.2))) (bindO (o70 y6.2.1) fun y12 => (some ((({ c with sender := y6.1, stage := 7 }), (⟨4, (IntKind.u8.wrap c.node.number), c.node.cycle, y12.1⟩ : Frame), (true), (0 : Int)))))))))
set_option maxHeartbeats 8000000 in
theorem c35 (g : Gh) (c : RComp) (w1 : OA) (j1 : Nat) (j0 : OA) (w0 : Nat) (f0 : OA) (l0 : Nat) (i0 : OA) (p0 : Nat) (v0 : OA) (d0 : Nat) (j4 : List UInt8) (i4 : OA) (d4 : Nat) (v1 : Arr g.b tyU8 w1 j1 c.node.input) (i1 : Arr g.b tyU8 j0 w0 c.node.heard.input) (l1 : Arr g.b tyPiece f0 l0 c.sender.pieces) (d1 : Arr g.b (tyArr tyU8) i0 p0 c.collector.parts) (t1 : Arr g.b tySett v0 d0 c.collector.sets) (f4 : Arr g.r tyU8 i4 d4 j4) {r : RComp × Frame × Bool × Int} (hS : o35 c j4 = some r) :
  Ctr Tryz.prog 35 [(aRComp c w1 j1 j0 w0 f0 l0 i0 p0 v0 d0), vs i4 j4 d4] g [] (fun v ψ o => ∃ (l3 : OA) (v3 : Nat) (j2 : OA) (z2 : Nat) (z3 : OA) (d3 : Nat) (d2 : OA) (v2 : Nat) (f2 : OA) (a2 : Nat) (f3 : OA) (a3 : Nat), v = Value.tuple #[(aRComp r.1 l3 v3 j2 z2 z3 d3 d2 v2 f2 a2), (aFrame r.2.1 f3 a3), vb r.2.2.1, vi r.2.2.2] ∧ o = [] ∧ Arr ψ tyU8 l3 v3 r.1.node.input ∧ Arr ψ tyU8 j2 z2 r.1.node.heard.input ∧ Arr ψ tyPiece z3 d3 r.1.sender.pieces ∧ Arr ψ (tyArr tyU8) d2 v2 r.1.collector.parts ∧ Arr ψ tySett f2 a2 r.1.collector.sets ∧ Arr ψ tyU8 f3 a3 r.2.1.payload) := by
 unfold o35 at hS
 refine xFn Tryz.f35 (Tryz.f35.body.getD .skip) 61 ?_
 have w5 := v1.len
 have z4 := i1.len
 have l4 := l1.len
 have t4 := d1.len
 have v4 := t1.len
 have f5 := f4.len
 refine xSq (xRg (xE eB ?_))
 rintro _ _ _ - ⟨b1, rfl, rfl, rfl⟩
 refine xE eB ?_
 rintro _ _ _ - ⟨b2, rfl, rfl, rfl⟩
 refine xE eB ?_
 rintro _ _ _ - ⟨b3, rfl, rfl, rfl⟩
 refine xb 2 [] [1, 2, 4, 5] (xRe (xW (xSq (xSq (xRg (xb 3 [(1, 2)] [1, 2, 4, 5, 15] (xRe (xW ?_))))))))
 refine xCd ((c.stage != 6)) (fun h4 => ?_) (fun h4 => ?_)
 ·have hS := cond_T h4 hS
  have h4p : ¬ (c.stage = 6) := ne_of_bne_ h4
  refine xSq (xRg (xbo 6 [(0, 2), (2, 1), (3, 0)] [some ⟨b3, 49, (cFrame Z5 none 0)⟩, some ⟨b2, 45, (cRComp c w1 j1 j0 w0 f0 l0 i0 p0 v0 d0)⟩, some ⟨b1, 45, (cRComp c w1 j1 j0 w0 f0 l0 i0 p0 v0 d0)⟩] [4, 5, 6, 7] (xRe (xW ?_))))
  obtain rfl := Option.some.inj hS
  exact xRetC [] [(4, 1), (5, 0)] gR ⟨w1, j1, j0, w0, f0, l0, i0, p0, v0, d0, none, 0, by kernel_rfl, by kernel_rfl, v1, i1, l1, d1, t1, Arr.nil⟩ (fun _ _ h => h)
 ·have hS := cond_F h4 hS
  have h4p : c.stage = 6 := eq_of_bne_false_ h4
  refine xSk (xW (xc [1, 2, 4, 5] (xSq (xRg (xbo 2 [(1, 2)] [some ⟨b3, 49, (cFrame Z5 none 0)⟩, some ⟨b2, 45, (cRComp (⟨(⟨0, 0, 0, 0, 0, 0, ([] : List UInt8), false, false, (⟨0, 0, (⟨0, 0⟩ : Want), ([] : List UInt8)⟩ : Heard), false, Z0⟩ : RNode), Z3, Z4, false, 0⟩ : RComp) none 0 none 0 none 0 none 0 none 0)⟩, some ⟨b1, 45, (cRComp ({ c with stage := 7 }) w1 j1 j0 w0 f0 l0 i0 p0 v0 d0)⟩] [1, 2, 4, 5] (xRe (xW (xSq (xSq (xRg (xb 3 [(1, 2)] [1, 2, 4, 5, 21] (xRe (xW ?_)))))))))))))
  refine xCd ((!c.asked)) (fun h5 => ?_) (fun h5 => ?_)
  ·have hS := cond_T h5 hS
   have h5n := not_eq_true_ h5
   refine xSq (xRg (xbo 6 [(0, 2), (2, 1), (3, 0)] [some ⟨b3, 49, (cFrame Z5 none 0)⟩, some ⟨b2, 45, (cRComp ({ c with stage := 7 }) w1 j1 j0 w0 f0 l0 i0 p0 v0 d0)⟩, some ⟨b1, 45, (cRComp ({ c with stage := 7 }) w1 j1 j0 w0 f0 l0 i0 p0 v0 d0)⟩] [4, 5, 6, 7] (xRe (xW ?_))))
   obtain rfl := Option.some.inj hS
   exact xRetC [] [(4, 1), (5, 0)] gR ⟨w1, j1, j0, w0, f0, l0, i0, p0, v0, d0, none, 0, by kernel_rfl, by kernel_rfl, v1, i1, l1, d1, t1, Arr.nil⟩ (fun _ _ h => h)
  ·have hS := cond_F h5 hS
   have h5n := not_eq_false_ h5
   refine xSk (xW (xc [1, 2, 4, 5] (xSq (xRg (xb 10 [(1, 2), (5, 2), (8, 2)] [2, 4, 5, 26, 30, 33, 34] ?_)))))
   obtain ⟨y6, hy6, hS⟩ := bindO_T hS
   refine xE (eC 0 (fun g' lr eb ln => c69 g' c.sender f0 l0 c.node.heard.want c.node.steps (j4 : List UInt8) i4 d4 (by rw [eb]; exact l1) (f4.mono lr) hy6)) ?_
   rintro _ g7 _ e8 ⟨_, rfl, w2, f1, t3, j3, rfl, rfl, w3, w4⟩
   have z5 := w3.len
   have i5 := w4.len
   refine xb 4 [] [2, 4, 5, 36, 37, 38] (xE eB ?_)
   rintro _ _ _ - ⟨b9, rfl, rfl, rfl⟩
   refine xE eB ?_
   rintro _ _ _ - ⟨b10, rfl, rfl, rfl⟩
   refine xbo 3 [(17, 1), (18, 0)] [some ⟨b10, 161, (cPiece y6.2.1 t3 j3)⟩, some ⟨b9, 39, [vs w2 y6.1.pieces f1]⟩, some ⟨b3, 49, (cFrame Z5 none 0)⟩, some ⟨b2, 45, (cRComp (⟨(⟨0, 0, 0, 0, 0, 0, ([] : List UInt8), false, false, (⟨0, 0, (⟨0, 0⟩ : Want), ([] : List UInt8)⟩ : Heard), false, Z0⟩ : RNode), Z3, Z4, false, 0⟩ : RComp) none 0 none 0 none 0 none 0 none 0)⟩, some ⟨b1, 45, (cRComp ({ c with stage := 7 }) w1 j1 j0 w0 f0 l0 i0 p0 v0 d0)⟩] [2, 4, 5, 8, 9, 10] (xRe (xW (xSq (xSq (xRg (xb 2 [] [2, 4, 5, 8, 9, 10, 40] (xRe (xW ?_))))))))
   refine xCd ((y6.2.2 != 0)) (fun h11 => ?_) (fun h11 => ?_)
   ·have hS := cond_T h11 hS
    have t5 : ¬ (y6.2.2 = 0) := ne_of_bne_ h11
    refine xSq (xRg (xbo 7 [(0, 4), (3, 3), (4, 2)] [some ⟨b10, 161, (cPiece y6.2.1 t3 j3)⟩, some ⟨b9, 39, [vs w2 y6.1.pieces f1]⟩, some ⟨b3, 49, (cFrame Z5 none 0)⟩, some ⟨b2, 45, (cRComp ({ c with stage := 7 }) w1 j1 j0 w0 f0 l0 i0 p0 v0 d0)⟩, some ⟨b1, 45, (cRComp ({ c with stage := 7 }) w1 j1 j0 w0 f0 l0 i0 p0 v0 d0)⟩] [4, 5, 6, 7] (xRe (xW ?_))))
    have v1 := v1.mono e8.b
    have i1 := i1.mono e8.b
    have l1 := l1.mono e8.b
    have d1 := d1.mono e8.b
    have t1 := t1.mono e8.b
    obtain rfl := Option.some.inj hS
    exact xRetC [] [(4, 3), (5, 2)] e8 ⟨w1, j1, j0, w0, f0, l0, i0, p0, v0, d0, none, 0, by kernel_rfl, by kernel_rfl, v1, i1, l1, d1, t1, Arr.nil⟩ (fun _ _ h => h)
   ·have hS := cond_F h11 hS
    have t5 : y6.2.2 = 0 := eq_of_bne_false_ h11
    refine xSk (xW (xc [2, 4, 5, 8, 9] (xSq (xRg (xbo 3 [(0, 1), (2, 4)] [some ⟨b10, 161, (cPiece y6.2.1 t3 j3)⟩, some ⟨b9, 39, [vs w2 y6.1.pieces f1]⟩, some ⟨b3, 49, (cFrame Z5 none 0)⟩, some ⟨b2, 45, (cRComp (⟨(⟨0, 0, 0, 0, 0, 0, ([] : List UInt8), false, false, (⟨0, 0, (⟨0, 0⟩ : Want), ([] : List UInt8)⟩ : Heard), false, Z0⟩ : RNode), Z3, Z4, false, 0⟩ : RComp) none 0 none 0 none 0 none 0 none 0)⟩, some ⟨b1, 45, (cRComp ({ c with sender := y6.1, stage := 7 }) w1 j1 j0 w0 w2 f1 i0 p0 v0 d0)⟩] [2, 4, 5, 9] (xRe (xW (xSq (xRg (xb 1 [(0, 0)] [2, 4, 5, 47] ?_))))))))))
    obtain ⟨y12, v5, hS⟩ := bindO_T hS
    refine xE (eC 0 (fun g' lr eb ln => c70 g' y6.2.1 t3 j3 ((w4.mono g7.br).mono lr) v5)) ?_
    rintro _ g13 _ e14 ⟨_, rfl, j5, d5, a5, rfl, rfl, a4⟩
    have l5 := a4.len
    refine xb 5 [] [2, 4, 5, 11] (xRe (xW (xSq ?_)))
    refine xDr 0 [0, 3, 7] [11, 12, 13] [some ⟨b10, 161, (cPiece y6.2.1 t3 j3)⟩, some ⟨b9, 39, [vs w2 y6.1.pieces f1]⟩, some ⟨b1, 45, (cRComp ({ c with sender := y6.1, stage := 7 }) w1 j1 j0 w0 w2 f1 i0 p0 v0 d0)⟩] 14 (fun RG => ?_) (fun _ _ _ _ _ h => h)
    have z1 := u8_in_ c.node.number
    refine xt 4 [0, 1, 2, 3, 4, 5, 6, 7, 8, 9] [(0, 2), (3, 2), (7, 2)] (sm [1, 2, 5]) [4, 5, 51, 60] RG pR (xO1 (lds := [0, 3, 7]) 10 (xId (lds := [0, 3, 7]) pR (eStL b2 0 4) ?_))
    rintro _ _ _ - ⟨rfl, rfl⟩
    refine kk (sm [1, 2, 5]) (xO1 (lds := [0, 3, 7]) 11 (xId (lds := [0, 3, 7]) pR (eStL b3 0 3) ?_))
    rintro _ _ _ - ⟨rfl, rfl⟩
    refine kf (xt 0 [12, 13] [] (sm [1, 2, 5]) [4, 5, 6, 7] RG pR (xAe (lds := [0, 3, 7]) (xW ?_)))
    refine wpq_freeze 0 (by kernel_rfl) a4 (fun g15 e16 f17 => ?_)
    have v1 := v1.mono (e8.trans (e14.trans e16)).b
    have i1 := i1.mono (e8.trans (e14.trans e16)).b
    have w3 := w3.mono (e14.trans e16).b
    have d1 := d1.mono (e8.trans (e14.trans e16)).b
    have t1 := t1.mono (e8.trans (e14.trans e16)).b
    obtain rfl := Option.some.inj hS
    exact xRetC [] [(4, 4), (5, 3)] (e8.trans (e14.trans e16)) ⟨w1, j1, j0, w0, w2, f1, i0, p0, v0, d0, j5, d5, by kernel_rfl, by kernel_rfl, v1, i1, w3, d1, t1, f17⟩ (fun _ _ h => h)

def o71_L0 (p : List UInt8) (s227 : Nat × Int) : Option (Ctl (Nat × Int) (Int)) :=
 (cond (decide ((s227.1 : Int) < 8)) (grd (decide (0 ≤ (IntKind.i64.wrap (8 * (s227.1 : Int))))) (grd (decide ((s227.1 : Int) + 1 ≤ 9223372036854775807)) (some (Ctl.go ((s227.1 + 1), (lorK .i64 s227.2 (IntKind.i64.wrap (shlK .u64 ((List.getD p s227.1 0).toNat : Int) (IntKind.i64.wrap (8 * (s227.1 : Int))))))))))) (some (Ctl.done (s227.2))))
def o71 (p : List UInt8) : Option (Piece × Int) :=
 (cond (decide ((((p).length : Nat) : Int) < 12)) (some (((⟨0, 0, 0, ([] : List UInt8)⟩ : Piece), (4 : Int)))) (letJ (o43 ((List.drop 12 p) : List UInt8)) fun y13 => (bindO (τ := Int) (loopO (σ := Nat × Int) (ρ := Int) fuelN (o71_L0 p) (0, 0)) fun t215 => (letJ (o106 (⟨t215, (IntKind.i64.wrap (((List.getD p 8 0).toNat : Int) + (shlK .i64 ((List.getD p 9 0).toNat : Int) 8))), (IntKind.i64.wrap (((List.getD p 10 0).toNat : Int) + (shlK .i64 ((List.getD p 11 0).toNat : Int) 8))), y13⟩ : Piece)) fun y221 => (cond ((!y221)) (some (((⟨0, 0, 0, ([] : List UInt8)⟩ : Piece), (4 : Int)))) (some (((⟨t215, (IntKind.i64.wrap (((List.getD p 8 0).toNat : Int) + (shlK .i64 ((List.getD p 9 0).toNat : Int) 8))), (IntKind.i64.wrap (((List.getD p 10 0).toNat : Int) + (shlK .i64 ((List.getD p 11 0).toNat : Int) 8))), y13⟩ : Piece), (0 : Int)))))))))
theorem c71 (g : Gh) (p : List UInt8) (Ap : OA) (cp : Nat) (fp : Arr g.r tyU8 Ap cp p) {r : Piece × Int} (hS : o71 p = some r) :
  Ctr Tryz.prog 71 [vs Ap p cp] g [] (fun v ψ o => ∃ (f0 : OA) (l0 : Nat), v = Value.tuple #[(aPiece r.1 f0 l0), vi r.2] ∧ o = [] ∧ Arr ψ tyU8 f0 l0 r.1.data) := by
 unfold o71 at hS
 refine xFn Tryz.f71 (Tryz.f71.body.getD .skip) 56 ?_
 have nfp := fp.len
 refine xSq (xRg (xE eB ?_))
 rintro _ _ _ - ⟨b1, rfl, rfl, rfl⟩
 refine xb 1 [] [0, 2] (xRe (xW (xSq (xSq (xRg (xb 3 [] [0, 2, 8] (xRe (xW ?_))))))))
 refine xCd (decide ((((p).length : Nat) : Int) < 12)) (fun h2 => ?_) (fun h2 => ?_)
 ·have hS := cond_T h2 hS
  have h2p := of_decide_eq_true h2
  refine xSq (xRg (xbo 3 [(1, 0)] [some ⟨b1, 67, (cPiece Z6 none 0)⟩] [2, 3] (xRe (xW ?_))))
  obtain rfl := Option.some.inj hS
  exact xRetC [] [(2, 0)] gR ⟨none, 0, by kernel_rfl, by kernel_rfl, Arr.nil⟩ (fun _ _ h => h)
 ·have hS := cond_F h2 hS
  have h2p := of_decide_eq_false h2
  refine xSk (xW (xc [0, 2] (xSq ?_)))
  refine xDr 0 [2, 6, 12, 16] [25] [some ⟨b1, 67, (cPiece Z6 none 0)⟩] 26 (fun RG => ?_) (fun _ _ _ _ _ h => h)
  have i4 : 8 < (p).length := by omega
  obtain ⟨ad3, cs3, hA3, hr3, hc3⟩ := fp.at_ (get_getD (d := 0) i4)
  have hr3 : cs3 = [vy ((List.getD p 8 0).toNat : Int)] := hr3
  subst hr3
  have nb3 := UInt8.toNat_lt (List.getD p 8 0)
  refine xt 25 [0] [] [some 0] [0, 2, 10] RG pR (xTp 1 RG (fun _ => (qIx 8 1 hA3 rfl i4)) (xTv 2 [some 0] RG pR (qLdP (Addr.add ad3 (8 * 1)) 0 hc3) (xTp 3 RG (fun _ => (qConv .u8 .i64 (((List.getD p 8 0).toNat : Int)) (((List.getD p 8 0).toNat : Int)) (wr64 (by omega)))) ?_)))
  have i6 : 9 < (p).length := by omega
  obtain ⟨ad5, cs5, hA5, hr5, hc5⟩ := fp.at_ (get_getD (d := 0) i6)
  have hr5 : cs5 = [vy ((List.getD p 9 0).toNat : Int)] := hr5
  subst hr5
  have nb5 := UInt8.toNat_lt (List.getD p 9 0)
  refine xt 21 [4] [] [some 0] [0, 2, 13, 14] RG pR (xTp 5 RG (fun _ => (qIx 9 1 hA5 rfl i6)) (xTv 6 [some 0] RG pR (qLdP (Addr.add ad5 (9 * 1)) 0 hc5) (xTp 7 RG (fun _ => (qConv .u8 .i64 (((List.getD p 9 0).toNat : Int)) (((List.getD p 9 0).toNat : Int)) (wr64 (by omega)))) ?_)))
  have z1 := i64_in_ (((List.getD p 8 0).toNat : Int) + (shlK .i64 ((List.getD p 9 0).toNat : Int) 8))
  have i8 : 10 < (p).length := by omega
  obtain ⟨ad7, cs7, hA7, hr7, hc7⟩ := fp.at_ (get_getD (d := 0) i8)
  have hr7 : cs7 = [vy ((List.getD p 10 0).toNat : Int)] := hr7
  subst hr7
  have nb7 := UInt8.toNat_lt (List.getD p 10 0)
  refine xt 15 [8, 9, 10] [] [some 0] [0, 2, 19, 20] RG pR (xTp 11 RG (fun _ => (qIx 10 1 hA7 rfl i8)) (xTv 12 [some 0] RG pR (qLdP (Addr.add ad7 (10 * 1)) 0 hc7) (xTp 13 RG (fun _ => (qConv .u8 .i64 (((List.getD p 10 0).toNat : Int)) (((List.getD p 10 0).toNat : Int)) (wr64 (by omega)))) ?_)))
  have i10 : 11 < (p).length := by omega
  obtain ⟨ad9, cs9, hA9, hr9, hc9⟩ := fp.at_ (get_getD (d := 0) i10)
  have hr9 : cs9 = [vy ((List.getD p 11 0).toNat : Int)] := hr9
  subst hr9
  have nb9 := UInt8.toNat_lt (List.getD p 11 0)
  refine xt 11 [14] [] [some 0] [0, 2, 19, 23, 24] RG pR (xTp 15 RG (fun _ => (qIx 11 1 hA9 rfl i10)) (xTv 16 [some 0] RG pR (qLdP (Addr.add ad9 (11 * 1)) 0 hc9) (xTp 17 RG (fun _ => (qConv .u8 .i64 (((List.getD p 11 0).toNat : Int)) (((List.getD p 11 0).toNat : Int)) (wr64 (by omega)))) ?_)))
  have z2 := i64_in_ (((List.getD p 10 0).toNat : Int) + (shlK .i64 ((List.getD p 11 0).toNat : Int) 8))
  have a4 := fp.cap
  have f11 : Arr g.r tyU8 (offA Ap cp 12 1) (cp - 12) (List.drop 12 p) := fp.cut_from 12 (by omega)
  have v5 := f11.len
  have j3 : (p).length - 12 = ((List.drop 12 p)).length := by simp only [List.length_take, List.length_drop] <;> omega
  have d5 : ((((List.drop 12 p)).length : Nat) : Int) = (((p).length : Nat) : Int) - 12 := by omega
  refine xt 5 [18, 19, 20] [] [some 0] [0, 2, 19, 29, 30] RG pR (xTp 21 RG (fun _ => (qSl (m := 1) (A := Ap) (len := (p).length) (c := cp) 12 (p).length (some 12) none ((List.drop 12 p)).length rfl rfl (by omega) (by omega) j3)) ?_)
  obtain ⟨y13, j2, hS⟩ := letJ_T hS
  refine wpa_meet (fun g own sl => ∃ (j0 : OA) (w0 : Nat) (d0 : OB) (b16 : Nat), own = [some ⟨b16, 67, (cPiece Z6 none 0)⟩, d0, some ⟨b1, 67, (cPiece Z6 none 0)⟩] ∧ sl = [(0, vs Ap p cp), (2, vp b1 0), (4, vp b16 0), (33, Value.agg #[vi 0, vi (IntKind.i64.wrap (((List.getD p 8 0).toNat : Int) + (shlK .i64 ((List.getD p 9 0).toNat : Int) 8))), vi (IntKind.i64.wrap (((List.getD p 10 0).toNat : Int) + (shlK .i64 ((List.getD p 11 0).toNat : Int) 8))), vs j0 y13 w0])] ∧ Buf g.b tyU8 5 (.slice j0 (y13).length w0) d0 y13) 1 [true, true, true, true, true, true, true, true, true, true, true, true, true, true, true, true, true, true, true, true, true, true, true, true, true, false] ?_ (fun a2 => ?_)
  ·rintro l5 _ _ d1 ⟨j0, w0, d0, b16, rfl, rfl, p0⟩
   have v1 := p0.len
   refine xO1 (lds := [2, 6, 12, 16]) 25 (xId (lds := [2, 6, 12, 16]) d1.r (eStL b16 0 0) ?_)
   rintro _ _ _ - ⟨rfl, rfl⟩
   refine kf (xAe (lds := [2, 6, 12, 16]) (xW (xc [0, 2, 4] (xSq (xSq (xRg (xb 1 [] [0, 2, 4, 34] (xRe (xW ?_)))))))))
   refine xBindO hS (fun g own sl v0 => own = [some ⟨b16, 67, (cPiece (⟨v0, (IntKind.i64.wrap (((List.getD p 8 0).toNat : Int) + (shlK .i64 ((List.getD p 9 0).toNat : Int) 8))), (IntKind.i64.wrap (((List.getD p 10 0).toNat : Int) + (shlK .i64 ((List.getD p 11 0).toNat : Int) 8))), y13⟩ : Piece) j0 w0)⟩, some ⟨b1, 67, (cPiece Z6 none 0)⟩, d0] ∧ sl = [(2, vp b1 0), (4, vp b16 0)]) ?_ ?_
   ·rintro a5 _ _ v0 w2 ⟨rfl, rfl⟩ hS
    refine xW (xSq (xSq (xRg (xb 1 [(0, 0)] [2, 4, 51] ?_))))
    have p0 := p0.mono w2.b
    refine wpq_freeze 2 (by kernel_rfl) p0 (fun d4 d2 i1 => ?_)
    obtain ⟨f4, a3, hS⟩ := letJ_T hS
    refine xE (eC 0 (fun g' lr eb ln => c106 g' (⟨v0, (IntKind.i64.wrap (((List.getD p 8 0).toNat : Int) + (shlK .i64 ((List.getD p 9 0).toNat : Int) 8))), (IntKind.i64.wrap (((List.getD p 10 0).toNat : Int) + (shlK .i64 ((List.getD p 11 0).toNat : Int) 8))), y13⟩ : Piece) j0 w0 ((i1.mono d4.br).mono lr) a3)) ?_
    rintro _ f5 _ l1 ⟨_, rfl, rfl, rfl⟩
    refine xb 1 [] [2, 4, 53] (xRe (xW ?_))
    refine xCd ((!f4)) (fun j1 => ?_) (fun j1 => ?_)
    ·have hS := cond_T j1 hS
     have f3 := not_eq_true_ j1
     refine xSq (xRg (xbo 3 [(1, 1)] [some ⟨b16, 67, (cPiece (⟨v0, (IntKind.i64.wrap (((List.getD p 8 0).toNat : Int) + (shlK .i64 ((List.getD p 9 0).toNat : Int) 8))), (IntKind.i64.wrap (((List.getD p 10 0).toNat : Int) + (shlK .i64 ((List.getD p 11 0).toNat : Int) 8))), y13⟩ : Piece) j0 w0)⟩, some ⟨b1, 67, (cPiece Z6 none 0)⟩, none] [2, 3] (xRe (xW ?_))))
     obtain rfl := Option.some.inj hS
     exact xRetC [] [(2, 1)] (d1.trans (w2.trans (d2.trans l1))) ⟨none, 0, by kernel_rfl, by kernel_rfl, Arr.nil⟩ (fun _ _ h => h)
    ·have hS := cond_F j1 hS
     have f3 := not_eq_false_ j1
     refine xSk (xW (xc [2, 4] (xSq (xRg (xbo 3 [(0, 0), (1, 1)] [some ⟨b16, 67, (cPiece (⟨v0, (IntKind.i64.wrap (((List.getD p 8 0).toNat : Int) + (shlK .i64 ((List.getD p 9 0).toNat : Int) 8))), (IntKind.i64.wrap (((List.getD p 10 0).toNat : Int) + (shlK .i64 ((List.getD p 11 0).toNat : Int) 8))), y13⟩ : Piece) j0 w0)⟩, some ⟨b1, 67, (cPiece (⟨v0, (IntKind.i64.wrap (((List.getD p 8 0).toNat : Int) + (shlK .i64 ((List.getD p 9 0).toNat : Int) 8))), (IntKind.i64.wrap (((List.getD p 10 0).toNat : Int) + (shlK .i64 ((List.getD p 11 0).toNat : Int) 8))), y13⟩ : Piece) j0 w0)⟩, none] [2, 3] (xRe (xW ?_)))))))
     have i1 := i1.mono l1.b
     obtain rfl := Option.some.inj hS
     exact xRetC [] [(2, 1)] (d1.trans (w2.trans (d2.trans l1))) ⟨j0, w0, by kernel_rfl, by kernel_rfl, i1⟩ (fun _ _ h => h)
   ·intro uu215 hS hN215
    refine xBl 0 (xSel (sm [0, 2, 1]) (xc [0, 2, 4, 34] (xLo hS (fun g own sl i0 => own = [some ⟨b16, 67, (cPiece (⟨i0.2, (IntKind.i64.wrap (((List.getD p 8 0).toNat : Int) + (shlK .i64 ((List.getD p 9 0).toNat : Int) 8))), (IntKind.i64.wrap (((List.getD p 10 0).toNat : Int) + (shlK .i64 ((List.getD p 11 0).toNat : Int) 8))), y13⟩ : Piece) j0 w0)⟩, some ⟨b1, 67, (cPiece Z6 none 0)⟩, d0] ∧ sl = [(0, vs Ap p cp), (2, vp b1 0), (4, vp b16 0), (34, vi (i0.1 : Int))]) ⟨by kernel_rfl, by kernel_rfl⟩ ?_)))
    rintro z6 _ _ i0 i5 w3 ⟨rfl, rfl⟩ hS t5 t3 z3
    unfold o71_L0 at hS
    refine xSq (xRg (xb 1 [] [0, 2, 4, 34, 35] (xRe (xW (xSq ?_)))))
    refine xCd (decide ((i0.1 : Int) < 8)) (fun w1 => ?_) (fun w1 => ?_)
    ·have hS := cond_T w1 hS
     have w4 := of_decide_eq_true w1
     refine xSk (xW (xc [0, 2, 4, 34] (xSq (xBl 1 (xSq (xRg (xb 2 [] [0, 2, 4, 5, 34] (xRe (xW ?_)))))))))
     refine xDr 0 [1, 5] [13, 12] [some ⟨b16, 67, (cPiece (⟨i0.2, (IntKind.i64.wrap (((List.getD p 8 0).toNat : Int) + (shlK .i64 ((List.getD p 9 0).toNat : Int) 8))), (IntKind.i64.wrap (((List.getD p 10 0).toNat : Int) + (shlK .i64 ((List.getD p 11 0).toNat : Int) 8))), y13⟩ : Piece) j0 w0)⟩, some ⟨b1, 67, (cPiece Z6 none 0)⟩] 14 (fun RG => ?_) (fun _ _ _ _ _ h => h)
     have fp := fp.mono (d1.trans w3).r
     have v2 : i0.1 < (p).length := by omega
     obtain ⟨l3, d3, z4, t1, v3⟩ := fp.at_ (get_getD (d := 0) v2)
     have t1 : d3 = [vy ((List.getD p i0.1 0).toNat : Int)] := t1
     subst t1
     have j5 := UInt8.toNat_lt (List.getD p i0.1 0)
     refine xt 10 [0, 1, 2, 3] [(1, 0)] [some 0, some 1] [0, 2, 4, 5, 34, 38, 39, 40] RG pR (xTp 4 RG (fun _ => (qIx i0.1 1 z4 rfl v2)) (xTv 5 [some 0, some 1] RG pR (qLdP (Addr.add l3 (i0.1 * 1)) 0 v3) (xTp 6 RG (fun _ => (qConv .u8 .u64 (((List.getD p i0.1 0).toNat : Int)) (((List.getD p i0.1 0).toNat : Int)) (wr_u64 (by omega)))) ?_)))
     have z25 := i64_in_ (8 * (i0.1 : Int))
     obtain ⟨l4, hS⟩ := grd_T hS
     have w5 := of_decide_eq_true l4
     refine xt 5 [7, 8] [] [some 0, some 1] [0, 2, 4, 34, 38, 43, 45] RG pR (xTp 9 RG (fun _ => (qShl .u64 .i64 (((List.getD p i0.1 0).toNat : Int)) ((IntKind.i64.wrap (8 * (i0.1 : Int)))) (by omega))) ?_)
     have z26 := i64_in_ (shlK .u64 ((List.getD p i0.1 0).toNat : Int) (IntKind.i64.wrap (8 * (i0.1 : Int))))
     refine xt 1 [10, 11, 12] [] [some 0, some 1] [0, 2, 4, 34, 48, 49] RG pR (xO1 (lds := [1, 5]) 13 (xId (lds := [1, 5]) pR (eStL b16 0 0) ?_))
     rintro _ _ _ - ⟨rfl, rfl⟩
     refine kf (xAe (lds := [1, 5]) (wpq_blockN (xW (xc [0, 2, 4, 34] (xRg ?_)))))
     obtain ⟨j4, hS⟩ := grd_T hS
     have z5 := of_decide_eq_true j4
     refine xV (qAdd .i64 ((i0.1 : Int)) (1) (wr64 (by omega))) (xb 1 [] [0, 2, 4, 34] (xRe (wpq_thenN (xc [0, 2, 4, 34] ?_))))
     have eS := (Option.some.inj hS).symm
     exact t3 _ eS _ _ _ gR ⟨by kernel_rfl, by kernel_rfl⟩
    ·have hS := cond_F w1 hS
     have w4 := of_decide_eq_false w1
     refine xEx 0 (wpq_thenX (wpq_thenX (wpq_blockE (xc [2, 4] ?_))))
     have eS := (Option.some.inj hS).symm
     have eS := (z3 _ eS).symm
     exact hN215 _ eS _ _ _ w3 ⟨by kernel_rfl, by kernel_rfl⟩
  ·refine xO2 (lds := [2, 6, 12, 16]) 22 24 ?_ ?_
   ·refine xIe (lds := [2, 6, 12, 16]) pR (eC 0 (fun g' lr eb ln => c43 g' ((List.drop 12 p) : List UInt8) (offA Ap cp 12 1) (cp - 12) (f11.mono lr) j2)) ?_
    rintro _ j6 _ f1 ⟨_, rfl, j0, w0, d0, rfl, rfl, p0⟩
    refine kk [some 1] ?_
    have v1 := p0.len
    refine xt 2 [23] [] [some 1] [0, 2, 33] RG f1.r (xO1 (lds := [2, 6, 12, 16]) 24 (xIe (lds := [2, 6, 12, 16]) f1.r eB ?_))
    rintro _ _ _ - ⟨t4, rfl, rfl, rfl⟩
    refine kk [some 2] (xc [0, 2, 4, 33] ?_)
    exact a2 _ _ _ f1 ⟨j0, w0, d0, t4, by kernel_rfl, by kernel_rfl, p0⟩
   ·refine xIe (lds := [2, 6, 12, 16]) pR eB ?_
    rintro _ _ _ - ⟨v4, rfl, rfl, rfl⟩
    refine kk [some 1] (xO1 (lds := [2, 6, 12, 16]) 22 (xIe (lds := [2, 6, 12, 16]) pR (eC 0 (fun g' lr eb ln => c43 g' ((List.drop 12 p) : List UInt8) (offA Ap cp 12 1) (cp - 12) (f11.mono lr) j2)) ?_))
    rintro _ w6 _ f2 ⟨_, rfl, j0, w0, d0, rfl, rfl, p0⟩
    refine kk [some 2] ?_
    have v1 := p0.len
    refine xt 1 [23] [] [some 2] [0, 2, 4, 33] RG f2.r (xSel (sm [1, 0, 2]) (xc [0, 2, 4, 33] ?_))
    exact a2 _ _ _ f2 ⟨j0, w0, d0, v4, by kernel_rfl, by kernel_rfl, p0⟩

def o72 (c : Coll) (p : Piece) : Option (Coll) :=
 (letJ (o106 p) fun y2 => (cond ((!y2)) (some (c)) (cond ((((decide ((((c.parts).length : Nat) : Int) > 0) && (p.base == c.base)) && (p.count == c.count)) && (p.index == (((c.parts).length : Nat) : Int)))) (letJ (o43 p.data) fun y10 => (grd (decide (((c.parts).length + (([(y10 : List UInt8)] : List (List UInt8))).length) * 24 ≤ 140737488355328)) (some (({ c with parts := (c.parts ++ ([(y10 : List UInt8)] : List (List UInt8))) }))))) (letJ (τ := Coll) (cond ((p.index == 0)) (letJ (o43 p.data) fun y23 => ((({ p with parts := ([(y23 : List UInt8)] : List (List UInt8)), sets := ([] : List Sett) }) : Coll))) ((c : Coll))) fun t19 => (some (t19))))))
theorem c72 (g : Gh) (b_c : Nat) (c : Coll) (v0 : OA) (l0 : Nat) (f1 : OB) (w1 : OA) (f0 : Nat) (l1 : OB) (p : Piece) (d0 : OA) (i0 : Nat) (w0 : Buf g.b (tyArr tyU8) 28 (.slice v0 (c.parts).length l0) f1 c.parts) (j0 : Buf g.b tySett 92 (.slice w1 (c.sets).length f0) l1 c.sets) (p0 : Arr g.r tyU8 d0 i0 p.data) {r : Coll} (hS : o72 c p = some r) :
  Ctr Tryz.prog 72 [vp b_c 0, (aPiece p d0 i0)] g [some ⟨b_c, 132, (cColl c v0 l0 w1 f0)⟩, f1, l1] (fun v ψ o => ∃ (v2 : OA) (z2 : Nat) (d2 : OB) (a2 : OA) (f2 : Nat) (w3 : OB), v = Value.tuple #[] ∧ o = [some ⟨b_c, 132, (cColl r v2 z2 a2 f2)⟩, d2, w3] ∧ Buf ψ (tyArr tyU8) 28 (.slice v2 (r.parts).length z2) d2 r.parts ∧ Buf ψ tySett 92 (.slice a2 (r.sets).length f2) w3 r.sets) := by
 unfold o72 at hS
 refine xFn Tryz.f72 (Tryz.f72.body.getD .skip) 71 ?_
 have w5 := p0.len
 refine xSq (xRg (xE eB ?_))
 rintro _ _ _ - ⟨b1, rfl, rfl, rfl⟩
 refine xRe (xW (xc [0, 3] (xSq (xSq (xRg (xb 4 [(3, 0)] [0, 3, 6, 7] ?_))))))
 obtain ⟨y2, hy2, hS⟩ := letJ_T hS
 refine xE (eC 0 (fun g' lr eb ln => c106 g' p d0 i0 (p0.mono lr) hy2)) ?_
 rintro _ g3 _ e4 ⟨_, rfl, rfl, rfl⟩
 refine xb 2 [] [0, 3, 10] (xRe (xW ?_))
 refine xCd ((!y2)) (fun h5 => ?_) (fun h5 => ?_)
 ·have hS := cond_T h5 hS
  have h5n := not_eq_true_ h5
  have w0 := w0.mono e4.b
  have j0 := j0.mono e4.b
  obtain rfl := Option.some.inj hS
  exact xRet (sm [1, 2, 3]) [] e4 ⟨v0, l0, f1, w1, f0, l1, by kernel_rfl, by kernel_rfl, w0, j0⟩ (fun _ _ h => h)
 ·have hS := cond_F h5 hS
  have h5n := not_eq_false_ h5
  refine xSk (xW (xc [0, 3] (xSq (xSq ?_))))
  refine xDr 0 [3, 8, 12, 17, 21, 26, 30] [] [some ⟨b1, 67, (cPiece p d0 i0)⟩, some ⟨b_c, 132, (cColl c v0 l0 w1 f0)⟩] 34 (fun RG => ?_) (fun _ _ _ _ _ h => h)
  refine xt 27 [0, 1, 2, 3, 4, 5, 6] [(3, 1)] [some 0, some 1] [0, 3, 17] RG pR ?_
  refine wpa_grp 19 [true, true, true, true, true, true, true, true, true, true, true, true, true, true, true, false, false, false, false, false, false, false, false, false, false, false, false, false, false, false, false, false, false, false] [(0, vp b_c 0), (3, vp b1 0), (25, vb (decide ((((c.parts).length : Nat) : Int) > 0) && (p.base == c.base)))] (fun hk6 => ?_) ?_
  ·refine wpq_split 17 (b := decide ((((c.parts).length : Nat) : Int) > 0)) (by kernel_rfl) (fun q6 => ?_) (fun q6 => ?_)
   ·have q6p := of_decide_eq_true q6
    refine xt 19 [7, 8, 9, 10, 11, 12, 13, 14] [(8, 0), (12, 1)] [some 0, some 1] [0, 3, 25] RG pR (wpq_re 25 (v := vb (p.base == c.base)) (Value.bool ((decide ((((c.parts).length : Nat) : Int) > 0) && (p.base == c.base)))) (by kernel_rfl) (re_and1 q6) ?_)
    exact wpq_sub _ (by kernel_rfl) hk6
   ·have q6p := of_decide_eq_false q6
    refine xt 19 [7, 8, 9, 10, 11, 12, 13, 14] [] [some 0, some 1] [0, 3, 25] RG pR (wpq_re 25 (v := vb false) (Value.bool ((decide ((((c.parts).length : Nat) : Int) > 0) && (p.base == c.base)))) (by kernel_rfl) (re_and0 q6) ?_)
    exact wpq_sub _ (by kernel_rfl) hk6
  ·refine xt 18 [15] [] [some 0, some 1] [0, 3, 26] RG pR ?_
   refine wpa_grp 10 [true, true, true, true, true, true, true, true, true, true, true, true, true, true, true, true, true, true, true, true, true, true, true, true, false, false, false, false, false, false, false, false, false, false] [(0, vp b_c 0), (3, vp b1 0), (34, vb ((decide ((((c.parts).length : Nat) : Int) > 0) && (p.base == c.base)) && (p.count == c.count)))] (fun f3 => ?_) ?_
   ·refine wpq_split 26 (b := (decide ((((c.parts).length : Nat) : Int) > 0) && (p.base == c.base))) (by kernel_rfl) (fun q7 => ?_) (fun q7 => ?_)
    ·have q7l := (and_true_ q7).1
     have q7r := (and_true_ q7).2
     have l6 := of_decide_eq_true q7l
     have a6 : p.base = c.base := eq_of_beq q7r
     refine xt 10 [16, 17, 18, 19, 20, 21, 22, 23] [(17, 0), (21, 1)] [some 0, some 1] [0, 3, 34] RG pR (wpq_re 34 (v := vb (p.count == c.count)) (Value.bool (((decide ((((c.parts).length : Nat) : Int) > 0) && (p.base == c.base)) && (p.count == c.count)))) (by kernel_rfl) (re_and1 q7) ?_)
     exact wpq_sub _ (by kernel_rfl) f3
    ·refine xt 10 [16, 17, 18, 19, 20, 21, 22, 23] [] [some 0, some 1] [0, 3, 34] RG pR ?_
     refine wpq_re 34 (v := vb false) (Value.bool (((decide ((((c.parts).length : Nat) : Int) > 0) && (p.base == c.base)) && (p.count == c.count)))) (by kernel_rfl) (re_and0 q7) ?_
     exact wpq_sub _ (by kernel_rfl) f3
   ·refine xt 9 [24] [] [some 0, some 1] [0, 3, 35] RG pR ?_
    refine wpa_grp 0 [true, true, true, true, true, true, true, true, true, true, true, true, true, true, true, true, true, true, true, true, true, true, true, true, true, true, true, true, true, true, true, true, true, true] [(0, vp b_c 0), (3, vp b1 0), (44, vb (((decide ((((c.parts).length : Nat) : Int) > 0) && (p.base == c.base)) && (p.count == c.count)) && (p.index == (((c.parts).length : Nat) : Int))))] (fun a3 => ?_) ?_
    ·refine wpq_split 35 (b := ((decide ((((c.parts).length : Nat) : Int) > 0) && (p.base == c.base)) && (p.count == c.count))) (by kernel_rfl) (fun q8 => ?_) (fun q8 => ?_)
     ·have q8l := (and_true_ q8).1
      have q8r := (and_true_ q8).2
      have i5 := (and_true_ q8l).1
      have t4 := (and_true_ q8l).2
      have j6 := of_decide_eq_true i5
      have a5 : p.base = c.base := eq_of_beq t4
      have f6 : p.count = c.count := eq_of_beq q8r
      refine xt 0 [25, 26, 27, 28, 29, 30, 31, 32, 33] [(26, 0), (30, 1)] [some 0, some 1] [0, 3, 44] RG pR (wpq_re 44 (v := vb (p.index == (((c.parts).length : Nat) : Int))) (Value.bool ((((decide ((((c.parts).length : Nat) : Int) > 0) && (p.base == c.base)) && (p.count == c.count)) && (p.index == (((c.parts).length : Nat) : Int))))) (by kernel_rfl) (re_and1 q8) ?_)
      exact wpq_sub _ (by kernel_rfl) a3
     ·refine xt 0 [25, 26, 27, 28, 29, 30, 31, 32, 33] [] [some 0, some 1] [0, 3, 44] RG pR ?_
      refine wpq_re 44 (v := vb false) (Value.bool ((((decide ((((c.parts).length : Nat) : Int) > 0) && (p.base == c.base)) && (p.count == c.count)) && (p.index == (((c.parts).length : Nat) : Int))))) (by kernel_rfl) (re_and0 q8) ?_
      exact wpq_sub _ (by kernel_rfl) a3
    ·refine xAe (lds := [3, 8, 12, 17, 21, 26, 30]) ?_
     refine xW ?_
     refine xCd ((((decide ((((c.parts).length : Nat) : Int) > 0) && (p.base == c.base)) && (p.count == c.count)) && (p.index == (((c.parts).length : Nat) : Int)))) (fun h9 => ?_) (fun h9 => ?_)
     ·have hS := cond_T h9 hS
      have h9l := (and_true_ h9).1
      have h9r := (and_true_ h9).2
      have z4 := (and_true_ h9l).1
      have a4 := (and_true_ h9l).2
      have d4 := (and_true_ z4).1
      have i4 := (and_true_ z4).2
      have t5 := of_decide_eq_true d4
      have d5 : p.base = c.base := eq_of_beq i4
      have w6 : p.count = c.count := eq_of_beq a4
      have d6 : p.index = (((c.parts).length : Nat) : Int) := eq_of_beq h9r
      refine xSq ?_
      refine xDr 0 [4, 6] [12, 10, 11] [some ⟨b1, 67, (cPiece p d0 i0)⟩, some ⟨b_c, 132, (cColl c v0 l0 w1 f0)⟩] 13 (fun RG => ?_) (fun _ _ _ _ _ h => h)
      refine xt 6 [0, 1, 2, 3, 4, 5, 6] [(4, 1), (6, 0)] [some 0, some 1] [45, 49, 51] RG pR ?_
      have p0 := p0.mono e4.r
      obtain ⟨y10, v4, hS⟩ := letJ_T hS
      refine xO1 (lds := [4, 6]) 7 (xIe (lds := [4, 6]) pR (eC 0 (fun g' lr eb ln => c43 g' p.data d0 i0 (p0.mono lr) v4)) ?_)
      rintro _ g11 _ e12 ⟨_, rfl, t3, z3, f5, rfl, rfl, v3⟩
      refine kk [some 1, some 2] ?_
      have v5 := v3.len
      refine wpq_freeze 0 (by kernel_rfl) v3 (fun g13 e14 f15 => ?_)
      refine xO1 (lds := [4, 6]) 8 (xIe (lds := [4, 6]) (e12.trans e14).r (eBs (T := (tyArr tyU8)) (p := g13.b) (et := 28) (xs := ([(y10 : List UInt8)] : List (List UInt8))) (reps_cons (c := [vs t3 y10 z3]) ⟨t3, z3, rfl, f15⟩ reps_nil) (by simp)) ?_)
      rintro _ _ _ - ⟨A16, c16, k16, rfl, rfl, rfl, h16⟩
      refine kk [some 2, some 3] ?_
      have w0 := w0.mono (e4.trans (e12.trans e14)).b
      obtain ⟨v6, f4, l4⟩ := h16.srcO (g := g13)
      obtain ⟨q18, hS⟩ := grd_T hS
      have p6 := of_decide_eq_true q18
      refine xO1 (lds := [4, 6]) 9 (xIe (lds := [4, 6]) (e12.trans e14).r (eApp (T := (tyArr tyU8)) (p := g13.b) (et := 28) (bytes := 24) (xs := (c.parts : List (List UInt8))) (ys := (([(y10 : List UInt8)] : List (List UInt8)) : List (List UInt8))) 4 w0 rfl (fun w hs => l4 0 w _ hs (by kernel_rfl)) f4 (by first | omega | (simp only [List.length_cons, List.length_nil] at *; omega)) (by first | omega | (simp only [List.length_cons, List.length_nil] at *; omega))) ?_)
      rintro _ _ _ - ⟨A17, c17, k17, rfl, rfl, rfl, h17⟩
      refine kk [some 2, some 3] ?_
      have t6 := h17.len
      have i6 : ((c.parts ++ ([(y10 : List UInt8)] : List (List UInt8))) : List (List UInt8)).length = (c.parts).length + (([(y10 : List UInt8)] : List (List UInt8))).length := List.length_append
      refine xt 1 [10, 11] [] [some 2, some 3] [54, 56] RG (e12.trans e14).r (xO1 (lds := [4, 6]) 12 (xId (lds := [4, 6]) (e12.trans e14).r (eStL b_c 2 3) ?_))
      rintro _ _ _ - ⟨rfl, rfl⟩
      refine kf (xAe (lds := [4, 6]) (xW (xc [] ?_)))
      have j0 := j0.mono (e4.trans (e12.trans e14)).b
      obtain rfl := Option.some.inj hS
      exact xRet (sm [3, 4, 5]) [] (e4.trans (e12.trans e14)) ⟨A17, c17, k17, w1, f0, l1, by kernel_rfl, by kernel_rfl, h17, j0⟩ (fun _ _ h => h)
     ·have hS := cond_F h9 hS
      refine xSk (xW (xc [0, 3] (xSq (xRg (xb 3 [(1, 0)] [0, 3, 59] (xRe (xW ?_)))))))
      refine xLetJ hS (fun g own sl t19 => ∃ (i1 : OA) (j1 : Nat) (z1 : OB) (t1 : OA) (v1 : Nat) (d1 : OB), own = [some ⟨b_c, 132, (cColl t19 i1 j1 t1 v1)⟩, z1, d1] ∧ sl = [] ∧ Buf g.b (tyArr tyU8) 28 (.slice i1 (t19.parts).length j1) z1 t19.parts ∧ Buf g.b tySett 92 (.slice t1 (t19.sets).length v1) d1 t19.sets) ?_ ?_
      ·rintro g20 _ _ t19 e21 ⟨i1, j1, z1, t1, v1, d1, rfl, rfl, w2, j2⟩ hS
       have w4 := w2.len
       have j4 := j2.len
       obtain rfl := Option.some.inj hS
       exact xFin (sm [0, 1, 2]) [] (e4.trans e21) ⟨i1, j1, z1, t1, v1, d1, by kernel_rfl, by kernel_rfl, w2, j2⟩
      ·intro uu19 hS hN19
       refine xCd ((p.index == 0)) (fun h22 => ?_) (fun h22 => ?_)
       ·have hS := cond_T h22 hS
        have j5 : p.index = 0 := eq_of_beq h22
        refine xDr 0 [2, 4, 6] [11, 10] [some ⟨b1, 67, (cPiece p d0 i0)⟩] 12 (fun RG => ?_) (fun _ _ _ _ _ h => h)
        refine xt 5 [0, 1, 2, 3, 4, 5, 6] [(2, 0), (4, 0), (6, 0)] [some 0] [60, 62, 64, 66] RG pR ?_
        have p0 := p0.mono e4.r
        obtain ⟨y23, z5, hS⟩ := letJ_T hS
        refine xO1 (lds := [2, 4, 6]) 7 (xIe (lds := [2, 4, 6]) pR (eC 0 (fun g' lr eb ln => c43 g' p.data d0 i0 (p0.mono lr) z5)) ?_)
        rintro _ g24 _ e25 ⟨_, rfl, l3, d3, z6, rfl, rfl, j3⟩
        refine kk [some 1] ?_
        have l5 := j3.len
        refine wpq_freeze 0 (by kernel_rfl) j3 (fun g26 e27 f28 => ?_)
        refine xO1 (lds := [2, 4, 6]) 8 (xIe (lds := [2, 4, 6]) (e25.trans e27).r (eBs (T := (tyArr tyU8)) (p := g26.b) (et := 28) (xs := ([(y23 : List UInt8)] : List (List UInt8))) (reps_cons (c := [vs l3 y23 d3]) ⟨l3, d3, rfl, f28⟩ reps_nil) (by simp)) ?_)
        rintro _ _ _ - ⟨A29, c29, k29, rfl, rfl, rfl, h29⟩
        refine kk [some 2] (xt 1 [9, 10] [] [some 2] [69, 70] RG (e25.trans e27).r (xO1 (lds := [2, 4, 6]) 11 (xId (lds := [2, 4, 6]) (e25.trans e27).r (eStL b_c 0 3) ?_)))
        rintro _ _ _ - ⟨rfl, rfl⟩
        refine kf (xAe (lds := [2, 4, 6]) (xSel [some 3, some 0, none] (xc [] ?_)))
        have eS := hS.symm
        exact hN19 _ eS _ _ _ (e25.trans e27) ⟨A29, c29, k29, none, 0, none, by kernel_rfl, by kernel_rfl, h29, Buf.nil⟩
       ·have hS := cond_F h22 hS
        have j5 : ¬ (p.index = 0) := ne_of_beq_false_ h22
        refine xSk ?_
        have w0 := w0.mono e4.b
        have j0 := j0.mono e4.b
        refine xSel (sm [1, 2, 3]) (xc [] ?_)
        have eS := hS.symm
        exact hN19 _ eS _ _ _ gR ⟨v0, l0, f1, w1, f0, l1, by kernel_rfl, by kernel_rfl, w0, j0⟩

def o109 (s : List Sett) : Option ((List Sett)) :=
 (grd (decide ((0 + (s).length) * 48 ≤ 140737488355328)) (some ((s : List Sett))))
theorem c109 (g : Gh) (s : List Sett) (As : OA) (cs : Nat) (fs : ArrM g.r g.b tySett As cs s) {r : (List Sett)} (hS : o109 s = some r) :
  Ctr Tryz.prog 109 [vs As s cs] g [] (fun v ψ o => ∃ (j0 : OA) (w0 : Nat) (i0 : OB), v = vs j0 r w0 ∧ o = [i0] ∧ Buf ψ tySett 92 (.slice j0 (r).length w0) i0 r) := by
 unfold o109 at hS
 refine xFn Tryz.f109 (Tryz.f109.body.getD .skip) 8 ?_
 have nfs := fs.len
 refine xSq (xRg (xb 1 [] [0] (xRe (xW (xSq (xSq (xRg (xb 1 [] [0, 3] (xV (qNil As) (xRe (xW (xc [0, 4] ?_))))))))))))
 refine xCd ((Option.isNone As)) (fun h1 => ?_) (fun h1 => ?_)
 ·have p0 := fs.nil_of h1
  subst p0
  refine xSq (xRg (xb 1 [] [2] (xRe (xW ?_))))
  have eS : r = ([] : List Sett) := by first | exact hS.symm | exact hS | (simp [grd] at hS; first | exact hS.symm | exact hS)
  subst eS
  exact xRet [none] [2] gR ⟨none, 0, none, by kernel_rfl, by kernel_rfl, Buf.nil⟩ (fun _ _ h => h)
 ·refine xSk ?_
  refine xW (xc [0] (xSq (xRg (xE (eBs (T := tySett) (p := g.b) (et := 92) (xs := ([] : List Sett)) reps_nil (by simp)) ?_))))
  rintro _ _ _ - ⟨A2, c2, k2, rfl, rfl, rfl, h2⟩
  refine xb 1 [] [5, 6] ?_
  obtain ⟨nw3, hp3, hs3⟩ := fs.srcM
  obtain ⟨q4, hS⟩ := grd_T hS
  have q4p := of_decide_eq_true q4
  refine xE (eApp (T := tySett) (p := g.b) (et := 92) (bytes := 48) (xs := ([] : List Sett)) (ys := (s : List Sett)) 0 h2 rfl (fun w hs => hs3 w _ hs) hp3 (by first | omega | (simp only [List.length_cons, List.length_nil] at *; omega)) (by first | omega | (simp only [List.length_cons, List.length_nil] at *; omega))) ?_
  rintro _ _ _ - ⟨A3, c3, k3, rfl, rfl, rfl, h3⟩
  have h3 : Buf g.b tySett 92 (.slice A3 ((s : List Sett)).length c3) k3 (s : List Sett) := h3
  have nh3 := h3.len
  refine xb 1 [] [2] (xRe (xW ?_))
  obtain rfl := Option.some.inj hS
  exact xRet [some 0] [2] gR ⟨A3, c3, k3, by kernel_rfl, by kernel_rfl, h3⟩ (fun _ _ h => h)

def o116k (n : Int) : Option ((List UInt8)) :=
 (cond (decide (n < 0)) none (grd (decide (-9223372036854775808 ≤ n - (IntKind.i64.wrap (((0 : Nat) : Int) - 0)) ∧ n - (IntKind.i64.wrap (((0 : Nat) : Int) - 0)) ≤ 9223372036854775807)) (bindO (τ := (List UInt8)) (cond (decide ((n - (IntKind.i64.wrap (((0 : Nat) : Int) - 0))) > 0)) (grd (decide (((n - (IntKind.i64.wrap (((0 : Nat) : Int) - 0)))).toNat * 1 ≤ 140737488355328)) (some ((([] : List UInt8) : List UInt8)))) (some (([] : List UInt8)))) fun t3 => (some ((t3 : List UInt8))))))
theorem c116k (g : Gh) (n : Int) {r : (List UInt8)} (hS : o116k n = some r) :
  Ctr Tryz.prog 116 [vS0, vi n] g [] (fun v ψ o => ∃ (d0 : OA) (p0 : Nat) (v0 : OB), v = vs d0 r p0 ∧ o = [v0] ∧ Buf ψ tyU8 5 (.slice d0 (r).length p0) v0 r) := by
 unfold o116k at hS
 refine xFn Tryz.f116 (Tryz.f116.body.getD .skip) 27 (xSq (xRg (xb 1 [] [0, 1] (xRe (xW (xSq (xSq (xRg (xb 2 [] [0, 1, 6] (xRe (xW ?_)))))))))))
 refine xCd (decide (n < 0)) (fun h1 => ?_) (fun h1 => ?_)
 ·have hS := cond_T h1 hS
  have h1p := of_decide_eq_true h1
  refine xRg ?_
  cases hS
 ·have hS := cond_F h1 hS
  have h1p := of_decide_eq_false h1
  refine xSk (xW (xc [0, 1] (xSq (xSq (xRg ?_)))))
  have z1 := i64_in_ (((0 : Nat) : Int) - 0)
  obtain ⟨q2, hS⟩ := grd_T hS
  have q2p := of_decide_eq_true q2
  refine xb 6 [] [0, 1, 8, 13] (xV (qSub .i64 (n) ((IntKind.i64.wrap (((0 : Nat) : Int) - 0))) (wr64 (by omega))) (xb 1 [] [0, 1] (xRe (xW (xSq (xRg (xb 2 [] [0, 1, 16] (xRe (xW ?_)))))))))
  refine xBindO hS (fun g own sl t3 => ∃ (j0 : OA) (w0 : Nat) (i0 : OB), own = [i0] ∧ sl = [(0, vs j0 t3 w0)] ∧ Buf g.b tyU8 5 (.slice j0 (t3).length w0) i0 t3) ?_ ?_
  ·rintro g4 _ _ t3 e5 ⟨j0, w0, i0, rfl, rfl, l0⟩ hS
   have f0 := l0.len
   refine xW (xSq (xRg (xb 2 [] [4] (xRe (xW ?_)))))
   obtain rfl := Option.some.inj hS
   exact xRet [some 0] [4] e5 ⟨j0, w0, i0, by kernel_rfl, by kernel_rfl, l0⟩ (fun _ _ h => h)
  ·intro uu3 hS hN3
   refine xCd (decide ((n - (IntKind.i64.wrap (((0 : Nat) : Int) - 0))) > 0)) (fun h6 => ?_) (fun h6 => ?_)
   ·have hS := cond_T h6 hS
    have h6p := of_decide_eq_true h6
    refine xRg (xb 3 [] [0, 1, 17, 19] (xV (qSl (m := 1) (A := none) (len := 0) (c := 0) 0 0 none (some ((0 : Nat) : Int)) 0 rfl rfl (by omega) (by omega) rfl) (xb 1 [] [0, 20, 21] ?_)))
    obtain ⟨q8, hS⟩ := grd_T hS
    have q8p := of_decide_eq_true q8
    refine xE (e_zeros (T := tyU8) (p := g.b) (et := 5) (kx := .i64) (kn := .i64) (bytes := 1) ((n - (IntKind.i64.wrap (((0 : Nat) : Int) - 0)))).toNat (by kernel_rfl) (by kernel_rfl) (by kernel_rfl) (ev_toNat (by kernel_rfl) (by omega)) (by omega) (by omega) (by omega)) ?_
    rintro _ _ _ - ⟨b7, c7, k7, rfl, rfl, rfl, hc7, hb7⟩
    refine xb 2 [] [0, 22, 24] (xV (y_cut0 (e := 5) (sz := 1) (A := (some ⟨b7, 0, none⟩)) (c := c7) (len := ((n - (IntKind.i64.wrap (((0 : Nat) : Int) - 0)))).toNat) (k := .i64) (by kernel_rfl) (by kernel_rfl) (by kernel_rfl) (by kernel_rfl)) (xb 1 [] [0] (xRe (xc [0] ?_))))
    have eS := (Option.some.inj hS).symm
    exact hN3 _ eS _ _ _ gR ⟨(some ⟨b7, 0, none⟩), c7, k7, by kernel_rfl, by kernel_rfl, hb7⟩
   ·have hS := cond_F h6 hS
    have h6p := of_decide_eq_false h6
    refine xSk (xSel [none] (xc [0] ?_))
    have eS := (Option.some.inj hS).symm
    exact hN3 _ eS _ _ _ gR ⟨none, 0, none, by kernel_rfl, by kernel_rfl, Buf.nil⟩

end Go.Proofs.YtnidomdebhekiaaGreat
