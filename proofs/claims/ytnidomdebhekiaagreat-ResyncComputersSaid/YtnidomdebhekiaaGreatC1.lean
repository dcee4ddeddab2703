/-
Walks, printed by wip/gen, with half of their indentation. Conditions: each theorem's own.
-/
import Derived.Test.YtnidomdebhekiaaGreatC0
namespace Go.Proofs.YtnidomdebhekiaaGreat
set_option linter.unusedVariables false
set_option linter.unusedSimpArgs false
open Go.RowKit
set_option maxRecDepth 100000
def o19 (c : Comp) (cycle : Int) (input : List UInt8) : Option (Comp × Frame × Int) :=
 (letJ (o45 (⟨c.number, c.node, c.sender, c.collector, c.next_, c.cycle, (c.asked), c.want⟩ : Comp) (0 : Int)) fun y2 => (cond ((y2.2 != 0)) (some (((⟨y2.1.number, y2.1.node, y2.1.sender, y2.1.collector, y2.1.next_, y2.1.cycle, (y2.1.asked), y2.1.want⟩ : Comp), (⟨0, 0, 0, ([] : List UInt8)⟩ : Frame), y2.2))) (letJ (o46 (⟨y2.1.number, y2.1.node, y2.1.sender, y2.1.collector, y2.1.next_, y2.1.cycle, (y2.1.asked), y2.1.want⟩ : Comp)) fun y7 => (letJ (τ := Int × Int) (cond (y7.2) (letJ (o47 y7.1.collector) fun y229 => ((y229.base, y229.have_))) ((0, 0))) fun t10 => (bindO (o48 y7.1.node (cycle : Int) (input : List UInt8) (⟨t10.1, t10.2⟩ : Want)) fun y14 => (letJ (τ := Int × Int × Bool) (cond ((y14.2.2 == 0)) ((1, cycle, false)) ((y7.1.next_, y7.1.cycle, y7.1.asked))) fun t216 => (some (((⟨y7.1.number, y14.1, y7.1.sender, y7.1.collector, t216.1, t216.2.1, (t216.2.2), y7.1.want⟩ : Comp), y14.2.1, y14.2.2)))))))))
theorem c19 (g : Gh) (b_c : Nat) (c : Comp) (z1 : Nat) (v8 : OA) (t8 : Nat) (t5 : OA) (d5 : Nat) (z7 : OA) (w7 : Nat) (j0 : Nat) (a6 : OA) (f6 : Nat) (w0 : Nat) (j6 : OA) (p6 : Nat) (d6 : OB) (l6 : OA) (v6 : Nat) (t6 : OB) (cycle : Int) (input : List UInt8) (d9 : OA) (a9 : Nat) (p9 : Arr g.b tyU8 v8 t8 c.node.input) (w8 : Arr g.b tyU8 t5 d5 c.node.heard.input) (f8 : Arr g.b tyU8 z7 w7 c.node.set_.in_) (l8 : Arr g.b tyPiece a6 f6 c.sender.pieces) (f9 : Buf g.b (tyArr tyU8) 28 (.slice j6 (c.collector.parts).length p6) d6 c.collector.parts) (z10 : Buf g.b tySett 92 (.slice l6 (c.collector.sets).length v6) t6 c.collector.sets) (a8 : Arr g.r tyU8 d9 a9 input) {r : Comp × Frame × Int} (hS : o19 c cycle input = some r) :
  Ctr Tryz.prog 19 [vp b_c 0, vi cycle, vs d9 input a9] g [some ⟨b_c, 77, [vi c.number, vp z1 0, vp j0 0, vp w0 0, vi c.next_, vi c.cycle, vb c.asked, vi c.want.base, vi c.want.have_]⟩, some ⟨z1, 126, (cNode c.node v8 t8 t5 d5 z7 w7)⟩, some ⟨j0, 130, [vs a6 c.sender.pieces f6]⟩, some ⟨w0, 132, (cColl c.collector j6 p6 l6 v6)⟩, d6, t6] (fun v ψ o => ∃ (z9 : OA) (w9 : Nat) (j7 : OA) (i7 : Nat) (z8 : OA) (i8 : Nat) (p8 : OA) (j8 : Nat) (v7 : OA) (t7 : Nat) (p7 : OB) (l7 : OA) (f7 : Nat) (a7 : OB) (v9 : OA) (w10 : Nat), v = Value.tuple #[(aFrame r.2.1 v9 w10), vi r.2.2] ∧ o = [some ⟨b_c, 77, [vi r.1.number, vp z1 0, vp j0 0, vp w0 0, vi r.1.next_, vi r.1.cycle, vb r.1.asked, vi r.1.want.base, vi r.1.want.have_]⟩, some ⟨z1, 126, (cNode r.1.node z9 w9 j7 i7 z8 i8)⟩, some ⟨j0, 130, [vs p8 r.1.sender.pieces j8]⟩, some ⟨w0, 132, (cColl r.1.collector v7 t7 l7 f7)⟩, p7, a7] ∧ Arr ψ tyU8 z9 w9 r.1.node.input ∧ Arr ψ tyU8 j7 i7 r.1.node.heard.input ∧ Arr ψ tyU8 z8 i8 r.1.node.set_.in_ ∧ Arr ψ tyPiece p8 j8 r.1.sender.pieces ∧ Buf ψ (tyArr tyU8) 28 (.slice v7 (r.1.collector.parts).length t7) p7 r.1.collector.parts ∧ Buf ψ tySett 92 (.slice l7 (r.1.collector.sets).length f7) a7 r.1.collector.sets ∧ Arr ψ tyU8 v9 w10 r.2.1.payload) := by
 unfold o19 at hS
 refine xFn Tryz.f19 (Tryz.f19.body.getD .skip) 51 ?_
 have j12 := p9.len
 have a10 := w8.len
 have v11 := f8.len
 have l11 := l8.len
 have w13 := a8.len
 refine xSq (xRg (xE eB ?_))
 rintro _ _ _ - ⟨b1, rfl, rfl, rfl⟩
 refine xb 1 [] [0, 1, 2, 6] (xRe (xW (xSq (xSq (xRg (xb 1 [] [0, 1, 2, 6, 12] (xSel (sm [1, 2, 3, 4, 5, 6, 0]) ?_)))))))
 obtain ⟨y2, hy2, hS⟩ := letJ_T hS
 refine xE (eC 6 (fun g' lr eb ln => c45 g' b_c (⟨c.number, c.node, c.sender, c.collector, c.next_, c.cycle, (c.asked), c.want⟩ : Comp) z1 v8 t8 t5 d5 z7 w7 j0 a6 f6 w0 j6 p6 d6 l6 v6 t6 (0 : Int) (by rw [eb]; exact p9) (by rw [eb]; exact w8) (by rw [eb]; exact f8) (by rw [eb]; exact l8) (by rw [eb]; exact f9) (by rw [eb]; exact z10) hy2)) ?_
 rintro _ g3 _ e4 ⟨_, rfl, w6, a5, l3, f3, v4, t4, w5, f4, w4, a3, z4, d4, i4, j4, rfl, rfl, d7, j5, z6, i6, i5, v5⟩
 have z12 := d7.len
 have d10 := j5.len
 have i11 := z6.len
 have t11 := i6.len
 have f10 := i5.len
 have j11 := v5.len
 refine xb 1 [] [0, 1, 2, 6, 8] (xRe (xW (xSq (xRg (xb 2 [] [0, 1, 2, 6, 8, 15] (xRe (xW ?_)))))))
 refine xCd ((y2.2 != 0)) (fun h5 => ?_) (fun h5 => ?_)
 ·have hS := cond_T h5 hS
  have h5p : ¬ (y2.2 = 0) := ne_of_bne_ h5
  refine xSq (xRg (xbo 4 [(2, 6)] [some ⟨b_c, 77, [vi y2.1.number, vp z1 0, vp j0 0, vp w0 0, vi y2.1.next_, vi y2.1.cycle, vb y2.1.asked, vi y2.1.want.base, vi y2.1.want.have_]⟩, some ⟨z1, 126, (cNode y2.1.node w6 a5 l3 f3 v4 t4)⟩, some ⟨j0, 130, [vs w5 y2.1.sender.pieces f4]⟩, some ⟨w0, 132, (cColl y2.1.collector w4 a3 d4 i4)⟩, z4, j4, some ⟨b1, 49, (cFrame Z5 none 0)⟩] [6, 7] (xRe (xW ?_))))
  obtain rfl := Option.some.inj hS
  exact xRetC (sm [0, 1, 2, 3, 4, 5]) [(6, 6)] e4 ⟨w6, a5, l3, f3, v4, t4, w5, f4, w4, a3, z4, d4, i4, j4, none, 0, by kernel_rfl, by kernel_rfl, d7, j5, z6, i6, i5, v5, Arr.nil⟩ (fun _ _ h => h)
 ·have hS := cond_F h5 hS
  have h5p : y2.2 = 0 := eq_of_bne_false_ h5
  refine xSk (xW (xc [0, 1, 2, 6] (xSq (xRg (xb 1 [] [0, 1, 2, 6, 18] (xE eB ?_))))))
  rintro _ _ _ - ⟨b6, rfl, rfl, rfl⟩
  refine xbo 1 [(2, 0)] [some ⟨b6, 75, [vi 0, vi 0]⟩, some ⟨b_c, 77, [vi y2.1.number, vp z1 0, vp j0 0, vp w0 0, vi y2.1.next_, vi y2.1.cycle, vb y2.1.asked, vi y2.1.want.base, vi y2.1.want.have_]⟩, some ⟨z1, 126, (cNode y2.1.node w6 a5 l3 f3 v4 t4)⟩, some ⟨j0, 130, [vs w5 y2.1.sender.pieces f4]⟩, some ⟨w0, 132, (cColl y2.1.collector w4 a3 d4 i4)⟩, z4, j4, some ⟨b1, 49, (cFrame Z5 none 0)⟩] [0, 1, 2, 6, 9] (xRe (xW (xSq (xSq (xRg (xb 1 [] [0, 1, 2, 6, 9, 19] (xSel (sm [1, 2, 3, 4, 5, 6, 0, 7]) ?_)))))))
  obtain ⟨y7, hy7, hS⟩ := letJ_T hS
  refine xE (eC 6 (fun g' lr eb ln => c46 g' b_c (⟨y2.1.number, y2.1.node, y2.1.sender, y2.1.collector, y2.1.next_, y2.1.cycle, (y2.1.asked), y2.1.want⟩ : Comp) z1 w6 a5 l3 f3 v4 t4 j0 w5 f4 w0 w4 a3 z4 d4 i4 j4 (by rw [eb]; exact d7) (by rw [eb]; exact j5) (by rw [eb]; exact z6) (by rw [eb]; exact i6) (by rw [eb]; exact i5) (by rw [eb]; exact v5) hy7)) ?_
  rintro _ g8 _ e9 ⟨_, rfl, f5, l5, t3, v3, z5, l4, f1, l1, i0, p0, w2, v0, d0, j2, rfl, rfl, z3, v1, d2, a4, j3, d3⟩
  have f11 := z3.len
  have v10 := v1.len
  have p11 := d2.len
  have d11 := a4.len
  have l10 := j3.len
  have w11 := d3.len
  refine xRe (xW (xc [0, 1, 2, 6, 9, 20] ?_))
  refine xLetJ hS (fun g own sl t10 => own = [some ⟨b_c, 77, [vi y7.1.number, vp z1 0, vp j0 0, vp w0 0, vi y7.1.next_, vi y7.1.cycle, vb y7.1.asked, vi y7.1.want.base, vi y7.1.want.have_]⟩, some ⟨z1, 126, (cNode y7.1.node f5 l5 t3 v3 z5 l4)⟩, some ⟨j0, 130, [vs f1 y7.1.sender.pieces l1]⟩, some ⟨w0, 132, (cColl y7.1.collector i0 p0 v0 d0)⟩, some ⟨b6, 75, [vi t10.1, vi t10.2]⟩, some ⟨b1, 49, (cFrame Z5 none 0)⟩, w2, j2] ∧ sl = [(0, vp b_c 0), (1, vi cycle), (2, vs d9 input a9), (6, vp b1 0), (9, vp b6 0)]) ?_ ?_
  ·rintro g11 _ _ t10 e12 ⟨rfl, rfl⟩ hS
   refine xW (xSq ?_)
   refine xDr 0 [3, 6] [12, 13] [some ⟨b_c, 77, [vi y7.1.number, vp z1 0, vp j0 0, vp w0 0, vi y7.1.next_, vi y7.1.cycle, vb y7.1.asked, vi y7.1.want.base, vi y7.1.want.have_]⟩, some ⟨j0, 130, [vs f1 y7.1.sender.pieces l1]⟩, some ⟨w0, 132, (cColl y7.1.collector i0 p0 v0 d0)⟩, some ⟨b6, 75, [vi t10.1, vi t10.2]⟩, some ⟨b1, 49, (cFrame Z5 none 0)⟩] 14 (fun RG => ?_) (fun _ _ _ _ _ h => h)
   refine xt 7 [0, 1, 2, 3, 4, 5, 6] [(3, 0), (6, 3)] (sm [0, 2, 3, 4, 5]) [0, 1, 6, 30, 31, 32, 33] RG pR ?_
   obtain ⟨y14, v12, hS⟩ := bindO_T hS
   refine wpa_meet (fun g own sl => ∃ (a2 : OA) (f2 : Nat) (l0 : OA) (f0 : Nat) (d1 : OA) (t1 : Nat) (i1 : OA) (j1 : Nat) (b17 : Nat), own = [some ⟨b17, 49, (cFrame y14.2.1 i1 j1)⟩, some ⟨z1, 126, (cNode y14.1 a2 f2 l0 f0 d1 t1)⟩, some ⟨b_c, 77, [vi y7.1.number, vp z1 0, vp j0 0, vp w0 0, vi y7.1.next_, vi y7.1.cycle, vb y7.1.asked, vi y7.1.want.base, vi y7.1.want.have_]⟩, some ⟨j0, 130, [vs f1 y7.1.sender.pieces l1]⟩, some ⟨w0, 132, (cColl y7.1.collector i0 p0 v0 d0)⟩, some ⟨b6, 75, [vi t10.1, vi t10.2]⟩, some ⟨b1, 49, (cFrame Z5 none 0)⟩, w2, j2] ∧ sl = [(0, vp b_c 0), (1, vi cycle), (6, vp b1 0), (10, vp b17 0), (36, vi y14.2.2)] ∧ Arr g.b tyU8 i1 j1 y14.2.1.payload ∧ Arr g.b tyU8 a2 f2 y14.1.input ∧ Arr g.b tyU8 l0 f0 y14.1.heard.input ∧ Arr g.b tyU8 d1 t1 y14.1.set_.in_) 1 [true, true, true, true, true, true, true, true, true, true, true, true, true, false] ?_ (fun i12 => ?_)
   ·rintro z13 _ _ p10 ⟨a2, f2, l0, f0, d1, t1, i1, j1, b17, rfl, rfl, v2, w3, w1, z2⟩
    have i9 := v2.len
    have t9 := w3.len
    have d8 := w1.len
    have j9 := z2.len
    refine xt 0 [13] [] (sm [2, 3, 4, 5, 6]) [0, 1, 6, 10, 11] RG p10.r (xAe (lds := [3, 6]) (xW (xSq (xSq (xRg (xb 2 [] [0, 1, 6, 10, 11, 38] (xRe (xW ?_))))))))
    refine xLetJ hS (fun g own sl j10 => own = [some ⟨b17, 49, (cFrame y14.2.1 i1 j1)⟩, some ⟨z1, 126, (cNode y14.1 a2 f2 l0 f0 d1 t1)⟩, some ⟨b_c, 77, [vi y7.1.number, vp z1 0, vp j0 0, vp w0 0, vi j10.1, vi j10.2.1, vb j10.2.2, vi y7.1.want.base, vi y7.1.want.have_]⟩, some ⟨j0, 130, [vs f1 y7.1.sender.pieces l1]⟩, some ⟨w0, 132, (cColl y7.1.collector i0 p0 v0 d0)⟩, some ⟨b1, 49, (cFrame Z5 none 0)⟩, w2, j2] ∧ sl = [(6, vp b1 0), (10, vp b17 0), (11, vi y14.2.2)]) ?_ ?_
    ·rintro d13 _ _ j10 l9 ⟨rfl, rfl⟩ hS
     refine xW (xSq (xRg (xbo 4 [(0, 0), (2, 5)] [some ⟨b17, 49, (cFrame y14.2.1 i1 j1)⟩, some ⟨z1, 126, (cNode y14.1 a2 f2 l0 f0 d1 t1)⟩, some ⟨b_c, 77, [vi y7.1.number, vp z1 0, vp j0 0, vp w0 0, vi j10.1, vi j10.2.1, vb j10.2.2, vi y7.1.want.base, vi y7.1.want.have_]⟩, some ⟨j0, 130, [vs f1 y7.1.sender.pieces l1]⟩, some ⟨w0, 132, (cColl y7.1.collector i0 p0 v0 d0)⟩, some ⟨b1, 49, (cFrame y14.2.1 i1 j1)⟩, w2, j2] [6, 7] (xRe (xW ?_)))))
     have w3 := w3.mono l9.b
     have w1 := w1.mono l9.b
     have z2 := z2.mono l9.b
     have a4 := a4.mono (e12.trans (p10.trans l9)).b
     have j3 := j3.mono (e12.trans (p10.trans l9)).b
     have d3 := d3.mono (e12.trans (p10.trans l9)).b
     have v2 := v2.mono l9.b
     obtain rfl := Option.some.inj hS
     exact xRetC (sm [2, 1, 3, 4, 6, 7]) [(6, 5)] (e4.trans (e9.trans (e12.trans (p10.trans l9)))) ⟨a2, f2, l0, f0, d1, t1, f1, l1, i0, p0, w2, v0, d0, j2, i1, j1, by kernel_rfl, by kernel_rfl, w3, w1, z2, a4, j3, d3, v2⟩ (fun _ _ h => h)
    ·intro uu216 hS hN216
     refine xCd ((y14.2.2 == 0)) (fun i10 => ?_) (fun i10 => ?_)
     ·have hS := cond_T i10 hS
      have l12 : y14.2.2 = 0 := eq_of_beq i10
      refine xRg (xbo 13 [(6, 2), (9, 2), (12, 2)] [some ⟨b17, 49, (cFrame y14.2.1 i1 j1)⟩, some ⟨z1, 126, (cNode y14.1 a2 f2 l0 f0 d1 t1)⟩, some ⟨b_c, 77, [vi y7.1.number, vp z1 0, vp j0 0, vp w0 0, vi 1, vi cycle, vb false, vi y7.1.want.base, vi y7.1.want.have_]⟩, some ⟨j0, 130, [vs f1 y7.1.sender.pieces l1]⟩, some ⟨w0, 132, (cColl y7.1.collector i0 p0 v0 d0)⟩, some ⟨b6, 75, [vi t10.1, vi t10.2]⟩, some ⟨b1, 49, (cFrame Z5 none 0)⟩, w2, j2] [6, 10, 11] (xRe (xSel (sm [0, 1, 2, 3, 4, 6, 7, 8]) (xc [6, 10, 11] ?_))))
      have eS := hS.symm
      exact hN216 _ eS _ _ _ gR ⟨by kernel_rfl, by kernel_rfl⟩
     ·have hS := cond_F i10 hS
      have l12 : ¬ (y14.2.2 = 0) := ne_of_beq_false_ i10
      refine xSk (xSel (sm [0, 1, 2, 3, 4, 6, 7, 8]) (xc [6, 10, 11] ?_))
      have eS := hS.symm
      exact hN216 _ eS _ _ _ gR ⟨by kernel_rfl, by kernel_rfl⟩
   ·refine xO2 (lds := [3, 6]) 7 11 ?_ ?_
    ·refine xSel (sm [1, 0, 2, 3, 4, 5, 6, 7]) ?_
     have z3 := z3.mono e12.b
     have v1 := v1.mono e12.b
     have d2 := d2.mono e12.b
     have a8 := a8.mono (e4.trans (e9.trans e12)).r
     refine xIe (lds := [3, 6]) pR (eC 1 (fun g' lr eb ln => c48 g' z1 y7.1.node f5 l5 t3 v3 z5 l4 (cycle : Int) (input : List UInt8) d9 a9 (⟨t10.1, t10.2⟩ : Want) (by rw [eb]; exact z3) (by rw [eb]; exact v1) (by rw [eb]; exact d2) (a8.mono lr) v12)) ?_
     rintro _ j13 _ z11 ⟨_, rfl, a2, f2, l0, f0, d1, t1, i1, j1, rfl, rfl, w3, w1, z2, v2⟩
     refine kk (sm [1, 2, 3, 4, 5]) ?_
     have t9 := w3.len
     have d8 := w1.len
     have j9 := z2.len
     have i9 := v2.len
     refine xt 3 [8, 9, 10] [] (sm [1, 2, 3, 4, 5]) [0, 1, 6, 35, 36] RG z11.r (xO1 (lds := [3, 6]) 11 (xIe (lds := [3, 6]) z11.r eB ?_))
     rintro _ _ _ - ⟨p12, rfl, rfl, rfl⟩
     refine kk (sm [2, 3, 4, 5, 6]) (xO1 (lds := [3, 6]) 12 (xId (lds := [3, 6]) z11.r (eStL p12 0 0) ?_))
     rintro _ _ _ - ⟨rfl, rfl⟩
     refine kf (xc [0, 1, 6, 10, 36] ?_)
     exact i12 _ _ _ z11 ⟨a2, f2, l0, f0, d1, t1, i1, j1, p12, by kernel_rfl, by kernel_rfl, v2, w3, w1, z2⟩
    ·refine xIe (lds := [3, 6]) pR eB ?_
     rintro _ _ _ - ⟨d12, rfl, rfl, rfl⟩
     refine kk (sm [1, 3, 4, 5, 6]) (xSel (sm [2, 0, 1, 3, 4, 5, 6, 7, 8]) ?_)
     have z3 := z3.mono e12.b
     have v1 := v1.mono e12.b
     have d2 := d2.mono e12.b
     have a8 := a8.mono (e4.trans (e9.trans e12)).r
     refine xO1 (lds := [3, 6]) 7 (xIe (lds := [3, 6]) pR (eC 1 (fun g' lr eb ln => c48 g' z1 y7.1.node f5 l5 t3 v3 z5 l4 (cycle : Int) (input : List UInt8) d9 a9 (⟨t10.1, t10.2⟩ : Want) (by rw [eb]; exact z3) (by rw [eb]; exact v1) (by rw [eb]; exact d2) (a8.mono lr) v12)) ?_)
     rintro _ i13 _ a11 ⟨_, rfl, a2, f2, l0, f0, d1, t1, i1, j1, rfl, rfl, w3, w1, z2, v2⟩
     refine kk (sm [2, 3, 4, 5, 6]) ?_
     have t9 := w3.len
     have d8 := w1.len
     have j9 := z2.len
     have i9 := v2.len
     refine xt 2 [8, 9, 10] [] (sm [2, 3, 4, 5, 6]) [0, 1, 6, 10, 35, 36] RG a11.r (xO1 (lds := [3, 6]) 12 (xId (lds := [3, 6]) a11.r (eStL d12 0 1) ?_))
     rintro _ _ _ - ⟨rfl, rfl⟩
     refine kf (xSel (sm [1, 0, 2, 3, 4, 5, 6, 7, 8]) (xc [0, 1, 6, 10, 36] ?_))
     exact i12 _ _ _ a11 ⟨a2, f2, l0, f0, d1, t1, i1, j1, d12, by kernel_rfl, by kernel_rfl, v2, w3, w1, z2⟩
  ·intro uu10 hS hN10
   refine xCd (y7.2) (fun w12 => ?_) (fun w12 => ?_)
   ·have hS := cond_T w12 hS
    refine xRg (xb 4 [(3, 0)] [0, 1, 2, 6, 9, 24] ?_)
    obtain ⟨t12, f12, hS⟩ := letJ_T hS
    refine xE (eC 0 (fun g' lr eb ln => c47 g' ⟨w0, 0, none⟩ y7.1.collector i0 p0 v0 d0 (cells_lent' 3 w0 0 (cColl y7.1.collector i0 p0 v0 d0) ln) (arrm_of_buf j3 eb (lentk 4 (by kernel_rfl) ln)) (arrm_of_buf d3 eb (lentk 5 (by kernel_rfl) ln)) f12)) ?_
    rintro _ p13 _ a12 ⟨_, rfl, rfl, rfl⟩
    refine xbo 1 [(5, 6)] [some ⟨b_c, 77, [vi y7.1.number, vp z1 0, vp j0 0, vp w0 0, vi y7.1.next_, vi y7.1.cycle, vb y7.1.asked, vi y7.1.want.base, vi y7.1.want.have_]⟩, some ⟨z1, 126, (cNode y7.1.node f5 l5 t3 v3 z5 l4)⟩, some ⟨j0, 130, [vs f1 y7.1.sender.pieces l1]⟩, some ⟨w0, 132, (cColl y7.1.collector i0 p0 v0 d0)⟩, w2, j2, some ⟨b6, 75, [vi t12.base, vi t12.have_]⟩, some ⟨b1, 49, (cFrame Z5 none 0)⟩] [0, 1, 2, 6, 9] (xRe (xSel (sm [0, 1, 2, 3, 6, 7, 4, 5]) (xc [0, 1, 2, 6, 9] ?_)))
    have eS := hS.symm
    exact hN10 _ eS _ _ _ a12 ⟨by kernel_rfl, by kernel_rfl⟩
   ·have hS := cond_F w12 hS
    refine xSk (xSel (sm [0, 1, 2, 3, 6, 7, 4, 5]) (xc [0, 1, 2, 6, 9] ?_))
    have eS := hS.symm
    exact hN10 _ eS _ _ _ gR ⟨by kernel_rfl, by kernel_rfl⟩

def o49 (c : Coll) : Want :=
 (({ c with have_ := (((c.parts).length : Nat) : Int) }))
theorem c49 (g : Gh) (c : Coll) (j0 : OA) (w0 : Nat) (p0 : OA) (i0 : Nat) (d0 : Arr g.r (tyArr tyU8) j0 w0 c.parts) (v0 : Arr g.r tySett p0 i0 c.sets) {r : Want} (hS : o49 c = r) :
  Ctr Tryz.prog 49 [(aColl c j0 w0 p0 i0)] g [] (fun v ψ o => v = Value.agg #[vi r.base, vi r.have_] ∧ o = []) := by
 unfold o49 at hS
 refine xFn Tryz.f49 (Tryz.f49.body.getD .skip) 9 (xSq (xRg (xE eB ?_)))
 rintro _ _ _ - ⟨b1, rfl, rfl, rfl⟩
 refine xE eB ?_
 rintro _ _ _ - ⟨b2, rfl, rfl, rfl⟩
 refine xRe (xW (xc [1, 2] (xSq (xRg (xbo 7 [(1, 1), (3, 1), (6, 0)] [some ⟨b2, 30, [vi c.base, vi (((c.parts).length : Nat) : Int)]⟩, some ⟨b1, 43, (cColl c j0 w0 p0 i0)⟩] [2] (xRe (xW ?_)))))))
 have eS := hS.symm
 subst eS
 exact xRetC [] [(2, 0)] gR ⟨by kernel_rfl, by kernel_rfl⟩ (fun _ _ h => h)

def o108_L0 (x : Int) (n : Int) (s6 : (List UInt8) × Nat) : Option (Ctl ((List UInt8) × Nat) ((List UInt8))) :=
 (cond (decide ((s6.2 : Int) < n)) (grd (decide (0 ≤ (IntKind.i64.wrap (8 * (s6.2 : Int))))) (grd (decide (((s6.1).length + (([(u8 (IntKind.u8.wrap (shrK .u64 (IntKind.u64.wrap x) (IntKind.i64.wrap (8 * (s6.2 : Int))))))] : List UInt8)).length) * 1 ≤ 140737488355328)) (grd (decide ((s6.2 : Int) + 1 ≤ 9223372036854775807)) (some (Ctl.go (((s6.1 ++ ([(u8 (IntKind.u8.wrap (shrK .u64 (IntKind.u64.wrap x) (IntKind.i64.wrap (8 * (s6.2 : Int))))))] : List UInt8)) : List UInt8), (s6.2 + 1))))))) (some (Ctl.done (s6.1))))
def o108 (x : Int) (n : Int) : Option ((List UInt8)) :=
 (bindO (τ := (List UInt8)) (loopO (σ := (List UInt8) × Nat) (ρ := (List UInt8)) fuelN (o108_L0 x n) (([] : List UInt8), 0)) fun t1 => (some ((t1 : List UInt8))))
theorem c108 (g : Gh) (x : Int) (n : Int) {r : (List UInt8)} (hS : o108 x n = some r) :
  Ctr Tryz.prog 108 [vi x, vi n] g [] (fun v ψ o => ∃ (w1 : OA) (f0 : Nat) (z1 : OB), v = vs w1 r f0 ∧ o = [z1] ∧ Buf ψ tyU8 5 (.slice w1 (r).length f0) z1 r) := by
 unfold o108 at hS
 refine xFn Tryz.f108 (Tryz.f108.body.getD .skip) 22 (xSq (xRg (xb 1 [] [0, 1] (xRe (xW (xSq (xRg (xb 1 [] [0, 1, 5] (xRe (xW (xSq (xSq (xRg (xb 1 [] [0, 1, 5, 6] (xRe (xW ?_))))))))))))))))
 refine xBindO hS (fun g own sl t1 => ∃ (d0 : OA) (w0 : Nat) (i0 : OB), own = [i0] ∧ sl = [(5, vs d0 t1 w0)] ∧ Buf g.b tyU8 5 (.slice d0 (t1).length w0) i0 t1) ?_ ?_
 ·rintro g2 _ _ t1 e3 ⟨d0, w0, i0, rfl, rfl, j1⟩ hS
  have v1 := j1.len
  refine xW (xSq (xRg (xb 2 [] [4] (xRe (xW ?_)))))
  obtain rfl := Option.some.inj hS
  exact xRet [some 0] [4] e3 ⟨d0, w0, i0, by kernel_rfl, by kernel_rfl, j1⟩ (fun _ _ h => h)
 ·intro uu1 hS hN1
  refine xBl 0 (xSel [none] (xc [0, 1, 5, 6] (xLo hS (fun g own sl s6 => ∃ (v0 : OA) (p0 : Nat) (j0 : OB), own = [j0] ∧ sl = [(0, vi x), (1, vi n), (5, vs v0 s6.1 p0), (6, vi (s6.2 : Int))] ∧ Buf g.b tyU8 5 (.slice v0 (s6.1).length p0) j0 s6.1) ⟨none, 0, none, by kernel_rfl, by kernel_rfl, Buf.nil⟩ ?_)))
  rintro g7 _ _ s6 uu6 e8 ⟨v0, p0, j0, rfl, rfl, l0⟩ hS Qr6 hN6 hD6
  have l1 := l0.len
  unfold o108_L0 at hS
  refine xSq (xSq (xRg (xb 3 [] [0, 1, 5, 6, 9] (xRe (xW ?_)))))
  refine xCd (decide ((s6.2 : Int) < n)) (fun h9 => ?_) (fun h9 => ?_)
  ·have hS := cond_T h9 hS
   have h9p := of_decide_eq_true h9
   refine xSk (xW (xc [0, 1, 5, 6] (xSq (xBl 1 (xRg ?_)))))
   have z34 := u64_in_ x
   have z35 := i64_in_ (8 * (s6.2 : Int))
   obtain ⟨q10, hS⟩ := grd_T hS
   have j2 := of_decide_eq_true q10
   refine xb 5 [] [0, 1, 5, 6, 12, 14, 16] (xV (qShr .u64 .i64 ((IntKind.u64.wrap x)) ((IntKind.i64.wrap (8 * (s6.2 : Int)))) (by omega)) ?_)
   have z36 := u8_in_ (shrK .u64 (IntKind.u64.wrap x) (IntKind.i64.wrap (8 * (s6.2 : Int))))
   refine xb 1 [] [0, 1, 5, 6, 12, 18] (xE (eBs (T := tyU8) (p := g7.b) (et := 5) (xs := ([(u8 (IntKind.u8.wrap (shrK .u64 (IntKind.u64.wrap x) (IntKind.i64.wrap (8 * (s6.2 : Int))))))] : List UInt8)) (reps_cons (c := [vy (IntKind.u8.wrap (shrK .u64 (IntKind.u64.wrap x) (IntKind.i64.wrap (8 * (s6.2 : Int)))))]) (u8_rep (wrapU8_rng _)) reps_nil) (by simp)) ?_)
   rintro _ _ _ - ⟨A11, c11, k11, rfl, rfl, rfl, h11⟩
   obtain ⟨f1, d1, i1⟩ := h11.srcO (g := g7)
   obtain ⟨q13, hS⟩ := grd_T hS
   have z2 := of_decide_eq_true q13
   refine xE (eApp (T := tyU8) (p := g7.b) (et := 5) (bytes := 1) (xs := s6.1) (ys := (([(u8 (IntKind.u8.wrap (shrK .u64 (IntKind.u64.wrap x) (IntKind.i64.wrap (8 * (s6.2 : Int))))))] : List UInt8) : List UInt8)) 1 l0 rfl (fun w hs => i1 0 w _ hs (by kernel_rfl)) d1 (by first | omega | (simp only [List.length_cons, List.length_nil] at *; omega)) (by first | omega | (simp only [List.length_cons, List.length_nil] at *; omega))) ?_
   rintro _ _ _ - ⟨A12, c12, k12, rfl, rfl, rfl, h12⟩
   have d2 := h12.len
   have w2 : ((s6.1 ++ ([(u8 (IntKind.u8.wrap (shrK .u64 (IntKind.u64.wrap x) (IntKind.i64.wrap (8 * (s6.2 : Int))))))] : List UInt8)) : List UInt8).length = (s6.1).length + (([(u8 (IntKind.u8.wrap (shrK .u64 (IntKind.u64.wrap x) (IntKind.i64.wrap (8 * (s6.2 : Int))))))] : List UInt8)).length := List.length_append
   refine xb 1 [] [0, 1, 5, 6] (xRe (wpq_blockN (xW (xRg ?_))))
   obtain ⟨q14, hS⟩ := grd_T hS
   have v2 := of_decide_eq_true q14
   refine xb 1 [] [0, 1, 5, 6, 10] (xV (qAdd .i64 ((s6.2 : Int)) (1) (wr64 (by omega))) (xb 1 [] [0, 1, 5, 6] (xRe (wpq_thenN (xSel [some 1] (xc [0, 1, 5, 6] ?_))))))
   have eS := (Option.some.inj hS).symm
   exact hN6 _ eS _ _ _ gR ⟨A12, c12, k12, by kernel_rfl, by kernel_rfl, h12⟩
  ·have hS := cond_F h9 hS
   have h9p := of_decide_eq_false h9
   refine xEx 0 (wpq_thenX (wpq_thenX (wpq_blockE (xc [5] ?_))))
   have eS := (Option.some.inj hS).symm
   have eS := (hD6 _ eS).symm
   exact hN1 _ eS _ _ _ e8 ⟨v0, p0, j0, by kernel_rfl, by kernel_rfl, l0⟩

def o84 (h : Heard) : Option ((List UInt8) × Int) :=
 (cond ((((((decide (h.role < 1) || decide (h.role > 3)) || decide (h.steps < 0)) || decide (h.want.base < 0)) || decide (h.want.have_ < 0)) || decide (h.want.have_ > 65535))) (some ((([] : List UInt8), (1 : Int)))) (cond (decide ((((h.input).length : Nat) : Int) > 400)) (some ((([] : List UInt8), (3 : Int)))) (grd (decide (0 ≤ h.role ∧ h.role ≤ 255)) (bindO (o108 h.steps (8 : Int)) fun y11 => (grd (decide (((([(u8 h.role)] : List UInt8)).length + (y11).length) * 1 ≤ 140737488355328)) (bindO (o108 h.want.base (8 : Int)) fun y16 => (grd (decide ((((([(u8 h.role)] : List UInt8) ++ y11)).length + (y16).length) * 1 ≤ 140737488355328)) (bindO (o108 h.want.have_ (2 : Int)) fun y21 => (grd (decide (((((([(u8 h.role)] : List UInt8) ++ y11) ++ y16)).length + (y21).length) * 1 ≤ 140737488355328)) (grd (decide ((((((([(u8 h.role)] : List UInt8) ++ y11) ++ y16) ++ y21)).length + (h.input).length) * 1 ≤ 140737488355328)) (some (((((((([(u8 h.role)] : List UInt8) ++ y11) ++ y16) ++ y21) ++ h.input) : List UInt8), (0 : Int))))))))))))))
theorem c84 (g : Gh) (h : Heard) (j0 : OA) (i0 : Nat) (w0 : Arr g.r tyU8 j0 i0 h.input) {r : (List UInt8) × Int} (hS : o84 h = some r) :
  Ctr Tryz.prog 84 [(aHeard h j0 i0)] g [] (fun v ψ o => ∃ (l1 : OA) (i1 : Nat) (f1 : OB), v = Value.tuple #[vs l1 r.1 i1, vi r.2] ∧ o = [f1] ∧ Buf ψ tyU8 5 (.slice l1 (r.1).length i1) f1 r.1) := by
 unfold o84 at hS
 refine xFn Tryz.f84 (Tryz.f84.body.getD .skip) 64 ?_
 have d3 := w0.len
 refine xSq (xRg (xE eB ?_))
 rintro _ _ _ - ⟨b1, rfl, rfl, rfl⟩
 refine xb 2 [] [1] (xRe (xW (xSq (xSq (xRg (xb 4 [(1, 0)] [1, 8] ?_))))))
 refine wpr_grp 8 [(1, vp b1 0), (12, vb (decide (h.role < 1) || decide (h.role > 3)))] (fun hk3 => ?_) ?_
 ·refine wpq_split 8 (b := decide (h.role < 1)) (by kernel_rfl) (fun q2 => ?_) (fun q2 => ?_)
  ·have q2p := of_decide_eq_true q2
   refine xb 4 [] [1, 12] (wpq_re 12 (v := vb true) (Value.bool ((decide (h.role < 1) || decide (h.role > 3)))) (by kernel_rfl) (re_or1 q2) ?_)
   exact wpq_sub _ (by kernel_rfl) hk3
  ·have q2p := of_decide_eq_false q2
   refine xb 4 [(5, 0)] [1, 12] (wpq_re 12 (v := vb (decide (h.role > 3))) (Value.bool ((decide (h.role < 1) || decide (h.role > 3)))) (by kernel_rfl) (re_or0 q2) ?_)
   exact wpq_sub _ (by kernel_rfl) hk3
 ·refine xb 1 [] [1, 13] ?_
  refine wpr_grp 13 [(1, vp b1 0), (17, vb ((decide (h.role < 1) || decide (h.role > 3)) || decide (h.steps < 0)))] (fun hk8 => ?_) ?_
  ·refine wpq_split 13 (b := (decide (h.role < 1) || decide (h.role > 3))) (by kernel_rfl) (fun q3 => ?_) (fun q3 => ?_)
   ·refine xb 4 [] [1, 17] ?_
    refine wpq_re 17 (v := vb true) (Value.bool (((decide (h.role < 1) || decide (h.role > 3)) || decide (h.steps < 0)))) (by kernel_rfl) (re_or1 q3) ?_
    exact wpq_sub _ (by kernel_rfl) hk8
   ·have q3l := (or_false_ q3).1
    have q3r := (or_false_ q3).2
    have d9 := of_decide_eq_false q3l
    have a7 := of_decide_eq_false q3r
    refine xb 4 [(10, 0)] [1, 17] (wpq_re 17 (v := vb (decide (h.steps < 0))) (Value.bool (((decide (h.role < 1) || decide (h.role > 3)) || decide (h.steps < 0)))) (by kernel_rfl) (re_or0 q3) ?_)
    exact wpq_sub _ (by kernel_rfl) hk8
  ·refine xb 1 [] [1, 18] ?_
   refine wpr_grp 19 [(1, vp b1 0), (23, vb (((decide (h.role < 1) || decide (h.role > 3)) || decide (h.steps < 0)) || decide (h.want.base < 0)))] (fun v1 => ?_) ?_
   ·refine wpq_split 18 (b := ((decide (h.role < 1) || decide (h.role > 3)) || decide (h.steps < 0))) (by kernel_rfl) (fun q4 => ?_) (fun q4 => ?_)
    ·refine xb 5 [] [1, 23] ?_
     refine wpq_re 23 (v := vb true) (Value.bool ((((decide (h.role < 1) || decide (h.role > 3)) || decide (h.steps < 0)) || decide (h.want.base < 0)))) (by kernel_rfl) (re_or1 q4) ?_
     exact wpq_sub _ (by kernel_rfl) v1
    ·have q4l := (or_false_ q4).1
     have q4r := (or_false_ q4).2
     have w4 := (or_false_ q4l).1
     have d4 := (or_false_ q4l).2
     have t6 := of_decide_eq_false w4
     have v6 := of_decide_eq_false d4
     have l7 := of_decide_eq_false q4r
     refine xb 5 [(16, 0)] [1, 23] (wpq_re 23 (v := vb (decide (h.want.base < 0))) (Value.bool ((((decide (h.role < 1) || decide (h.role > 3)) || decide (h.steps < 0)) || decide (h.want.base < 0)))) (by kernel_rfl) (re_or0 q4) ?_)
     exact wpq_sub _ (by kernel_rfl) v1
   ·refine xb 1 [] [1, 24] ?_
    refine wpr_grp 25 [(1, vp b1 0), (29, vb ((((decide (h.role < 1) || decide (h.role > 3)) || decide (h.steps < 0)) || decide (h.want.base < 0)) || decide (h.want.have_ < 0)))] (fun t1 => ?_) ?_
    ·refine wpq_split 24 (b := (((decide (h.role < 1) || decide (h.role > 3)) || decide (h.steps < 0)) || decide (h.want.base < 0))) (by kernel_rfl) (fun q5 => ?_) (fun q5 => ?_)
     ·refine xb 5 [] [1, 29] ?_
      refine wpq_re 29 (v := vb true) (Value.bool (((((decide (h.role < 1) || decide (h.role > 3)) || decide (h.steps < 0)) || decide (h.want.base < 0)) || decide (h.want.have_ < 0)))) (by kernel_rfl) (re_or1 q5) ?_
      exact wpq_sub _ (by kernel_rfl) t1
     ·have q5l := (or_false_ q5).1
      have q5r := (or_false_ q5).2
      have w2 := (or_false_ q5l).1
      have j4 := (or_false_ q5l).2
      have a2 := (or_false_ w2).1
      have z3 := (or_false_ w2).2
      have l5 := of_decide_eq_false a2
      have a5 := of_decide_eq_false z3
      have p7 := of_decide_eq_false j4
      have w9 := of_decide_eq_false q5r
      refine xb 5 [(22, 0)] [1, 29] (wpq_re 29 (v := vb (decide (h.want.have_ < 0))) (Value.bool (((((decide (h.role < 1) || decide (h.role > 3)) || decide (h.steps < 0)) || decide (h.want.base < 0)) || decide (h.want.have_ < 0)))) (by kernel_rfl) (re_or0 q5) ?_)
      exact wpq_sub _ (by kernel_rfl) t1
    ·refine xb 1 [] [1, 30] ?_
     refine wpr_grp 31 [(1, vp b1 0), (35, vb (((((decide (h.role < 1) || decide (h.role > 3)) || decide (h.steps < 0)) || decide (h.want.base < 0)) || decide (h.want.have_ < 0)) || decide (h.want.have_ > 65535)))] (fun j2 => ?_) ?_
     ·refine wpq_split 30 (b := ((((decide (h.role < 1) || decide (h.role > 3)) || decide (h.steps < 0)) || decide (h.want.base < 0)) || decide (h.want.have_ < 0))) (by kernel_rfl) (fun q6 => ?_) (fun q6 => ?_)
      ·refine xb 5 [] [1, 35] ?_
       refine wpq_re 35 (v := vb true) (Value.bool ((((((decide (h.role < 1) || decide (h.role > 3)) || decide (h.steps < 0)) || decide (h.want.base < 0)) || decide (h.want.have_ < 0)) || decide (h.want.have_ > 65535)))) (by kernel_rfl) (re_or1 q6) ?_
       exact wpq_sub _ (by kernel_rfl) j2
      ·have q6l := (or_false_ q6).1
       have q6r := (or_false_ q6).2
       have f2 := (or_false_ q6l).1
       have v3 := (or_false_ q6l).2
       have w1 := (or_false_ f2).1
       have w3 := (or_false_ f2).2
       have d1 := (or_false_ w1).1
       have d2 := (or_false_ w1).2
       have i5 := of_decide_eq_false d1
       have d5 := of_decide_eq_false d2
       have f5 := of_decide_eq_false w3
       have d6 := of_decide_eq_false v3
       have j9 := of_decide_eq_false q6r
       refine xb 5 [(28, 0)] [1, 35] (wpq_re 35 (v := vb (decide (h.want.have_ > 65535))) (Value.bool ((((((decide (h.role < 1) || decide (h.role > 3)) || decide (h.steps < 0)) || decide (h.want.base < 0)) || decide (h.want.have_ < 0)) || decide (h.want.have_ > 65535)))) (by kernel_rfl) (re_or0 q6) ?_)
       exact wpq_sub _ (by kernel_rfl) j2
     ·refine xRe ?_
      refine xW ?_
      refine xCd ((((((decide (h.role < 1) || decide (h.role > 3)) || decide (h.steps < 0)) || decide (h.want.base < 0)) || decide (h.want.have_ < 0)) || decide (h.want.have_ > 65535))) (fun h7 => ?_) (fun h7 => ?_)
      ·have hS := cond_T h7 hS
       refine xSq (xRg (xb 2 [] [2, 3] (xRe (xW ?_))))
       obtain rfl := Option.some.inj hS
       exact xRet [none] [2, 3] gR ⟨none, 0, none, by kernel_rfl, by kernel_rfl, Buf.nil⟩ (fun _ _ h => h)
      ·have hS := cond_F h7 hS
       have h7l := (or_false_ h7).1
       have h7r := (or_false_ h7).2
       have z2 := (or_false_ h7l).1
       have f4 := (or_false_ h7l).2
       have l0 := (or_false_ z2).1
       have j3 := (or_false_ z2).2
       have p0 := (or_false_ l0).1
       have v2 := (or_false_ l0).2
       have j1 := (or_false_ p0).1
       have z1 := (or_false_ p0).2
       have v4 := of_decide_eq_false j1
       have z4 := of_decide_eq_false z1
       have t5 := of_decide_eq_false v2
       have z6 := of_decide_eq_false j3
       have l6 := of_decide_eq_false f4
       have d8 := of_decide_eq_false h7r
       refine xSk (xW (xc [1] (xSq (xSq (xRg (xb 4 [(1, 0)] [1, 39] (xRe (xW ?_))))))))
       refine xCd (decide ((((h.input).length : Nat) : Int) > 400)) (fun h8 => ?_) (fun h8 => ?_)
       ·have hS := cond_T h8 hS
        have h8p := of_decide_eq_true h8
        refine xSq (xRg (xb 2 [] [2, 3] (xRe (xW ?_))))
        obtain rfl := Option.some.inj hS
        exact xRet [none] [2, 3] gR ⟨none, 0, none, by kernel_rfl, by kernel_rfl, Buf.nil⟩ (fun _ _ h => h)
       ·have hS := cond_F h8 hS
        have h8p := of_decide_eq_false h8
        refine xSk (xW (xc [1] (xSq (xRg (xb 2 [(1, 0)] [1, 41] ?_)))))
        obtain ⟨q9, hS⟩ := grd_T hS
        have q9p := of_decide_eq_true q9
        refine xE (eBs (T := tyU8) (p := g.b) (et := 5) (xs := ([(u8 h.role)] : List UInt8)) (reps_cons (c := [vy h.role]) (u8_rep (by omega)) reps_nil) (by simp)) ?_
        rintro _ _ _ - ⟨A10, c10, k10, rfl, rfl, rfl, h10⟩
        refine xb 1 [] [1, 4] (xRe (xW (xSq (xRg (xb 3 [(2, 1)] [1, 4, 43, 45] ?_)))))
        obtain ⟨y11, w5, hS⟩ := bindO_T hS
        refine xE (eC 0 (fun g' lr eb ln => c108 g' h.steps (8 : Int) w5)) ?_
        rintro _ g12 _ e13 ⟨_, rfl, i6, d7, f6, rfl, rfl, v0⟩
        have w6 := v0.len
        have h10 := h10.mono e13.b
        obtain ⟨i9, f3, j5⟩ := v0.srcO (g := g12)
        obtain ⟨q15, hS⟩ := grd_T hS
        have v7 := of_decide_eq_true q15
        refine xE (eApp (T := tyU8) (p := g12.b) (et := 5) (bytes := 1) (xs := (([(u8 h.role)] : List UInt8) : List UInt8)) (ys := (y11 : List UInt8)) 1 h10 rfl (fun w hs => j5 0 w _ hs (by kernel_rfl)) f3 (by first | omega | (simp only [List.length_cons, List.length_nil] at *; omega)) (by first | omega | (simp only [List.length_cons, List.length_nil] at *; omega))) ?_
        rintro _ _ _ - ⟨A14, c14, k14, rfl, rfl, rfl, h14⟩
        have f8 := h14.len
        have f7 : ((([(u8 h.role)] : List UInt8) ++ y11) : List UInt8).length = (([(u8 h.role)] : List UInt8)).length + (y11).length := List.length_append
        refine xb 1 [] [1, 4] (xRe (xW (xSq (xRg (xb 4 [(3, 2)] [1, 4, 48, 51] ?_)))))
        obtain ⟨y16, l3, hS⟩ := bindO_T hS
        refine xE (eC 0 (fun g' lr eb ln => c108 g' h.want.base (8 : Int) l3)) ?_
        rintro _ g17 _ e18 ⟨_, rfl, w7, p6, z7, rfl, rfl, f0⟩
        have v5 := f0.len
        have h14 := h14.mono e18.b
        obtain ⟨t8, t3, t4⟩ := f0.srcO (g := g17)
        obtain ⟨q20, hS⟩ := grd_T hS
        have z9 := of_decide_eq_true q20
        refine xE (eApp (T := tyU8) (p := g17.b) (et := 5) (bytes := 1) (xs := ((([(u8 h.role)] : List UInt8) ++ y11) : List UInt8)) (ys := (y16 : List UInt8)) 2 h14 rfl (fun w hs => t4 0 w _ hs (by kernel_rfl)) t3 (by first | omega | (simp only [List.length_cons, List.length_nil] at *; omega)) (by first | omega | (simp only [List.length_cons, List.length_nil] at *; omega))) ?_
        rintro _ _ _ - ⟨A19, c19, k19, rfl, rfl, rfl, h19⟩
        have a8 := h19.len
        have p8 : (((([(u8 h.role)] : List UInt8) ++ y11) ++ y16) : List UInt8).length = ((([(u8 h.role)] : List UInt8) ++ y11)).length + (y16).length := List.length_append
        refine xb 1 [] [1, 4] (xRe (xW (xSq (xRg (xb 4 [(3, 3)] [1, 4, 54, 57] ?_)))))
        obtain ⟨y21, z5, hS⟩ := bindO_T hS
        refine xE (eC 0 (fun g' lr eb ln => c108 g' h.want.have_ (2 : Int) z5)) ?_
        rintro _ g22 _ e23 ⟨_, rfl, i7, j7, a6, rfl, rfl, d0⟩
        have j6 := d0.len
        have h19 := h19.mono e23.b
        obtain ⟨l8, a3, a4⟩ := d0.srcO (g := g22)
        obtain ⟨q25, hS⟩ := grd_T hS
        have t7 := of_decide_eq_true q25
        refine xE (eApp (T := tyU8) (p := g22.b) (et := 5) (bytes := 1) (xs := (((([(u8 h.role)] : List UInt8) ++ y11) ++ y16) : List UInt8)) (ys := (y21 : List UInt8)) 3 h19 rfl (fun w hs => a4 0 w _ hs (by kernel_rfl)) a3 (by first | omega | (simp only [List.length_cons, List.length_nil] at *; omega)) (by first | omega | (simp only [List.length_cons, List.length_nil] at *; omega))) ?_
        rintro _ _ _ - ⟨A24, c24, k24, rfl, rfl, rfl, h24⟩
        have i8 := h24.len
        have j8 : ((((([(u8 h.role)] : List UInt8) ++ y11) ++ y16) ++ y21) : List UInt8).length = (((([(u8 h.role)] : List UInt8) ++ y11) ++ y16)).length + (y21).length := List.length_append
        refine xb 1 [] [1, 4] (xRe (xW (xSq (xRg (xb 3 [(2, 4)] [60, 62] ?_)))))
        have w0 := w0.mono (e13.trans (e18.trans e23)).r
        obtain ⟨z8, l4, i4⟩ := w0.srcR
        obtain ⟨q27, hS⟩ := grd_T hS
        have v8 := of_decide_eq_true q27
        refine xE (eApp (T := tyU8) (p := g22.b) (et := 5) (bytes := 1) (xs := ((((([(u8 h.role)] : List UInt8) ++ y11) ++ y16) ++ y21) : List UInt8)) (ys := h.input) 3 h24 rfl (fun w hs => i4 w _ hs) (flatU8.reps l4) (by first | omega | (simp only [List.length_cons, List.length_nil] at *; omega)) (by first | omega | (simp only [List.length_cons, List.length_nil] at *; omega))) ?_
        rintro _ _ _ - ⟨A26, c26, k26, rfl, rfl, rfl, h26⟩
        have p9 := h26.len
        have w8 : (((((([(u8 h.role)] : List UInt8) ++ y11) ++ y16) ++ y21) ++ h.input) : List UInt8).length = ((((([(u8 h.role)] : List UInt8) ++ y11) ++ y16) ++ y21)).length + (h.input).length := List.length_append
        refine xb 2 [] [2, 3] (xRe (xW ?_))
        obtain rfl := Option.some.inj hS
        exact xRet [some 3] [2, 3] (e13.trans (e18.trans e23)) ⟨A26, c26, k26, by kernel_rfl, by kernel_rfl, h26⟩ (fun _ _ h => h)

def o50 (n : RNode) (cycle : Int) (in_ : List UInt8) (w_ : Want) : Option (RNode × Frame × Int) :=
 (cond ((n.stage != 0)) (some ((n, (⟨0, 0, 0, ([] : List UInt8)⟩ : Frame), (8 : Int)))) (cond (decide (cycle < 0)) (some ((n, (⟨0, 0, 0, ([] : List UInt8)⟩ : Frame), (1 : Int)))) (bindO (o84 ({ n with want := w_, input := in_ })) fun y7 => (cond ((y7.2 != 0)) (some ((n, (⟨0, 0, 0, ([] : List UInt8)⟩ : Frame), y7.2))) (some (((⟨n.number, n.role, n.steps, n.alone, 1, cycle, in_, false, false, (⟨0, 0, (⟨0, 0⟩ : Want), ([] : List UInt8)⟩ : Heard), false, (⟨0, 0, 0, 0, 0, 0, 0⟩ : Targets)⟩ : RNode), (⟨1, (IntKind.u8.wrap n.number), cycle, y7.1⟩ : Frame), (0 : Int))))))))
theorem c50 (g : Gh) (n : RNode) (d0 : OA) (p0 : Nat) (w0 : OA) (j0 : Nat) (cycle : Int) (in_ : List UInt8) (w2 : OA) (l1 : Nat) (w_ : Want) (v0 : Arr g.b tyU8 d0 p0 n.input) (i0 : Arr g.b tyU8 w0 j0 n.heard.input) (t1 : Arr g.r tyU8 w2 l1 in_) {r : RNode × Frame × Int} (hS : o50 n cycle in_ w_ = some r) :
  Ctr Tryz.prog 50 [(aRNode n d0 p0 w0 j0), vi cycle, vs w2 in_ l1, Value.agg #[vi w_.base, vi w_.have_]] g [] (fun v ψ o => ∃ (i1 : OA) (d1 : Nat) (l0 : OA) (f0 : Nat) (w1 : OA) (j1 : Nat), v = Value.tuple #[(aRNode r.1 i1 d1 l0 f0), (aFrame r.2.1 w1 j1), vi r.2.2] ∧ o = [] ∧ Arr ψ tyU8 i1 d1 r.1.input ∧ Arr ψ tyU8 l0 f0 r.1.heard.input ∧ Arr ψ tyU8 w1 j1 r.2.1.payload) := by
 unfold o50 at hS
 refine xFn Tryz.f50 (Tryz.f50.body.getD .skip) 59 ?_
 have j2 := v0.len
 have z2 := i0.len
 have z3 := t1.len
 refine xSq (xRg (xE eB ?_))
 rintro _ _ _ - ⟨b1, rfl, rfl, rfl⟩
 refine xE eB ?_
 rintro _ _ _ - ⟨b2, rfl, rfl, rfl⟩
 refine xE eB ?_
 rintro _ _ _ - ⟨b3, rfl, rfl, rfl⟩
 refine xE eB ?_
 rintro _ _ _ - ⟨b4, rfl, rfl, rfl⟩
 refine xb 1 [] [1, 2, 4, 7, 8, 9] (xRe (xW (xSq (xSq (xRg (xb 3 [(1, 3)] [1, 2, 4, 7, 8, 9, 15] (xRe (xW ?_))))))))
 refine xCd ((n.stage != 0)) (fun h5 => ?_) (fun h5 => ?_)
 ·have hS := cond_T h5 hS
  have h5p : ¬ (n.stage = 0) := ne_of_bne_ h5
  refine xSq (xRg (xbo 5 [(0, 3), (2, 1), (3, 0)] [some ⟨b4, 49, (cFrame Z5 none 0)⟩, some ⟨b3, 36, (cRNode n d0 p0 w0 j0)⟩, some ⟨b2, 30, [vi w_.base, vi w_.have_]⟩, some ⟨b1, 36, (cRNode n d0 p0 w0 j0)⟩] [8, 9, 10] (xRe (xW ?_))))
  obtain rfl := Option.some.inj hS
  exact xRetC [] [(8, 1), (9, 0)] gR ⟨d0, p0, w0, j0, none, 0, by kernel_rfl, by kernel_rfl, v0, i0, Arr.nil⟩ (fun _ _ h => h)
 ·have hS := cond_F h5 hS
  have h5p : n.stage = 0 := eq_of_bne_false_ h5
  refine xSk (xW (xc [1, 2, 4, 7, 8, 9] (xSq (xSq (xRg (xb 2 [] [1, 2, 4, 7, 8, 9, 19] (xRe (xW ?_))))))))
  refine xCd (decide (cycle < 0)) (fun h6 => ?_) (fun h6 => ?_)
  ·have hS := cond_T h6 hS
   have h6p := of_decide_eq_true h6
   refine xSq (xRg (xbo 5 [(0, 3), (2, 1), (3, 0)] [some ⟨b4, 49, (cFrame Z5 none 0)⟩, some ⟨b3, 36, (cRNode n d0 p0 w0 j0)⟩, some ⟨b2, 30, [vi w_.base, vi w_.have_]⟩, some ⟨b1, 36, (cRNode n d0 p0 w0 j0)⟩] [8, 9, 10] (xRe (xW ?_))))
   obtain rfl := Option.some.inj hS
   exact xRetC [] [(8, 1), (9, 0)] gR ⟨d0, p0, w0, j0, none, 0, by kernel_rfl, by kernel_rfl, v0, i0, Arr.nil⟩ (fun _ _ h => h)
  ·have hS := cond_F h6 hS
   have h6p := of_decide_eq_false h6
   refine xSk (xW (xc [1, 2, 4, 7, 8, 9] (xSq (xRg (xb 7 [(1, 3), (3, 3), (4, 2)] [1, 2, 4, 8, 9, 29] ?_)))))
   obtain ⟨y7, hy7, hS⟩ := bindO_T hS
   refine xE (eC 0 (fun g' lr eb ln => c84 g' ({ n with want := w_, input := in_ }) w2 l1 (t1.mono lr) hy7)) ?_
   rintro _ g8 _ e9 ⟨_, rfl, a2, v2, f1, rfl, rfl, v1⟩
   have j3 := v1.len
   refine xb 5 [] [1, 2, 4, 8, 9, 11, 12] (xRe (xW (xSq (xSq (xRg (xb 2 [] [1, 2, 4, 8, 9, 11, 12, 34] (xRe (xW ?_))))))))
   refine xCd ((y7.2 != 0)) (fun h10 => ?_) (fun h10 => ?_)
   ·have hS := cond_T h10 hS
    have d2 : ¬ (y7.2 = 0) := ne_of_bne_ h10
    refine xSq (xRg (xbo 6 [(0, 4), (3, 2), (4, 1)] [f1, some ⟨b4, 49, (cFrame Z5 none 0)⟩, some ⟨b3, 36, (cRNode n d0 p0 w0 j0)⟩, some ⟨b2, 30, [vi w_.base, vi w_.have_]⟩, some ⟨b1, 36, (cRNode n d0 p0 w0 j0)⟩] [8, 9, 10] (xRe (xW ?_))))
    have v0 := v0.mono e9.b
    have i0 := i0.mono e9.b
    obtain rfl := Option.some.inj hS
    exact xRetC [] [(8, 2), (9, 1)] e9 ⟨d0, p0, w0, j0, none, 0, by kernel_rfl, by kernel_rfl, v0, i0, Arr.nil⟩ (fun _ _ h => h)
   ·have hS := cond_F h10 hS
    have d2 : y7.2 = 0 := eq_of_bne_false_ h10
    refine xSk (xW (xc [1, 2, 4, 8, 9, 11] (xSq (xRg (xb 1 [] [1, 2, 4, 8, 9, 11, 38] (xE (eBs (T := tyU8) (p := g8.b) (et := 5) (xs := ([] : List UInt8)) reps_nil (by simp)) ?_))))))
    rintro _ _ _ - ⟨A11, c11, k11, rfl, rfl, rfl, h11⟩
    refine xb 1 [] [1, 4, 8, 9, 11, 38, 39, 40] ?_
    have t1 := t1.mono e9.r
    obtain ⟨d3, w3, f2⟩ := t1.srcR
    refine xE (eApp (T := tyU8) (p := g8.b) (et := 5) (bytes := 1) (xs := ([] : List UInt8)) (ys := (in_ : List UInt8)) 0 h11 rfl (fun w hs => f2 w _ hs) (flatU8.reps w3) (by first | omega | (simp only [List.length_cons, List.length_nil] at *; omega)) (by first | omega | (simp only [List.length_cons, List.length_nil] at *; omega))) ?_
    rintro _ _ _ - ⟨A12, c12, k12, rfl, rfl, rfl, h12⟩
    have h12 : Buf g8.b tyU8 5 (.slice A12 ((in_ : List UInt8)).length c12) k12 (in_ : List UInt8) := h12
    have t3 := h12.len
    refine xbo 6 [(5, 5), (7, 5), (9, 5)] [k12, f1, some ⟨b4, 49, (cFrame Z5 none 0)⟩, some ⟨b3, 36, (cRNode (⟨0, 0, 0, 0, 0, 0, ([] : List UInt8), false, false, (⟨0, 0, (⟨0, 0⟩ : Want), ([] : List UInt8)⟩ : Heard), false, Z0⟩ : RNode) none 0 none 0)⟩, some ⟨b2, 30, [vi w_.base, vi w_.have_]⟩, some ⟨b1, 36, (cRNode ({ n with stage := 1, cycle := cycle, input := in_ }) A12 c12 w0 j0)⟩] [1, 4, 8, 9, 11] (xRe (xW (xSq (xRg (xbo 12 [(3, 5), (5, 5), (7, 5), (9, 5), (11, 5)] [k12, f1, some ⟨b4, 49, (cFrame Z5 none 0)⟩, some ⟨b3, 36, (cRNode (⟨0, 0, 0, 0, 0, 0, ([] : List UInt8), false, false, (⟨0, 0, (⟨0, 0⟩ : Want), ([] : List UInt8)⟩ : Heard), false, Z0⟩ : RNode) none 0 none 0)⟩, some ⟨b2, 30, [vi w_.base, vi w_.have_]⟩, some ⟨b1, 36, (cRNode (⟨n.number, n.role, n.steps, n.alone, 1, cycle, in_, false, false, (⟨0, 0, (⟨0, 0⟩ : Want), ([] : List UInt8)⟩ : Heard), false, Z0⟩ : RNode) A12 c12 none 0)⟩] [1, 4, 8, 9, 11] (xRe (xW (xSq ?_))))))))
    refine xDr 0 [0, 2] [8, 9] [some ⟨b2, 30, [vi w_.base, vi w_.have_]⟩, some ⟨b1, 36, (cRNode (⟨n.number, n.role, n.steps, n.alone, 1, cycle, in_, false, false, (⟨0, 0, (⟨0, 0⟩ : Want), ([] : List UInt8)⟩ : Heard), false, Z0⟩ : RNode) A12 c12 none 0)⟩] 10 (fun RG => ?_) (fun _ _ _ _ _ h => h)
    have z1 := u8_in_ n.number
    refine xt 3 [0, 1, 2, 3, 4, 5, 6] [(0, 1), (2, 1)] [some 4, some 5] [8, 9, 52, 58] RG pR (xO1 (lds := [0, 2]) 7 (xId (lds := [0, 2]) pR (eStL b3 0 3) ?_))
    rintro _ _ _ - ⟨rfl, rfl⟩
    refine kk [some 4, some 5] (xO1 (lds := [0, 2]) 8 (xId (lds := [0, 2]) pR (eStL b4 0 2) ?_))
    rintro _ _ _ - ⟨rfl, rfl⟩
    refine kf (xt 0 [9] [] [some 4, some 5] [8, 9, 10] RG pR (xAe (lds := [0, 2]) (xW ?_)))
    refine wpq_freeze 0 (by kernel_rfl) h12 (fun g13 e14 f15 => ?_)
    have v1 := v1.mono e14.b
    refine wpq_freeze 1 (by kernel_rfl) v1 (fun g16 e17 f18 => ?_)
    have f15 := f15.mono e17.b
    obtain rfl := Option.some.inj hS
    exact xRetC [] [(8, 3), (9, 2)] (e9.trans (e14.trans e17)) ⟨A12, c12, none, 0, a2, v2, by kernel_rfl, by kernel_rfl, f15, Arr.nil, f18⟩ (fun _ _ h => h)

def o20 (c : RComp) (cycle : Int) (in_ : List UInt8) : Option (RComp × Frame × Int) :=
 (cond ((c.stage != 0)) (some ((c, (⟨0, 0, 0, ([] : List UInt8)⟩ : Frame), (8 : Int)))) (letJ (τ := Int × Int) (cond ((c.node.role == 1)) (letJ (o49 c.collector) fun y19 => ((y19.base, y19.have_))) ((0, 0))) fun t6 => (bindO (o50 c.node (cycle : Int) (in_ : List UInt8) (⟨t6.1, t6.2⟩ : Want)) fun y9 => (letJ (τ := RComp) (cond ((y9.2.2 == 0)) ((({ c with node := y9.1, stage := 1 }) : RComp)) ((c : RComp))) fun t14 => (some ((t14, y9.2.1, y9.2.2)))))))
theorem c20 (g : Gh) (c : RComp) (z1 : OA) (j1 : Nat) (v0 : OA) (d0 : Nat) (f0 : OA) (l0 : Nat) (w0 : OA) (j0 : Nat) (p0 : OA) (i0 : Nat) (cycle : Int) (in_ : List UInt8) (a5 : OA) (f5 : Nat) (f2 : Arr g.b tyU8 z1 j1 c.node.input) (d1 : Arr g.b tyU8 v0 d0 c.node.heard.input) (l1 : Arr g.b tyPiece f0 l0 c.sender.pieces) (w1 : Arr g.b (tyArr tyU8) w0 j0 c.collector.parts) (i1 : Arr g.b tySett p0 i0 c.collector.sets) (w6 : Arr g.r tyU8 a5 f5 in_) {r : RComp × Frame × Int} (hS : o20 c cycle in_ = some r) :
  Ctr Tryz.prog 20 [(aRComp c z1 j1 v0 d0 f0 l0 w0 j0 p0 i0), vi cycle, vs a5 in_ f5] g [] (fun v ψ o => ∃ (f4 : OA) (l4 : Nat) (l3 : OA) (v3 : Nat) (j4 : OA) (i4 : Nat) (f3 : OA) (a3 : Nat) (w4 : OA) (z4 : Nat) (i5 : OA) (d5 : Nat), v = Value.tuple #[(aRComp r.1 f4 l4 l3 v3 j4 i4 f3 a3 w4 z4), (aFrame r.2.1 i5 d5), vi r.2.2] ∧ o = [] ∧ Arr ψ tyU8 f4 l4 r.1.node.input ∧ Arr ψ tyU8 l3 v3 r.1.node.heard.input ∧ Arr ψ tyPiece j4 i4 r.1.sender.pieces ∧ Arr ψ (tyArr tyU8) f3 a3 r.1.collector.parts ∧ Arr ψ tySett w4 z4 r.1.collector.sets ∧ Arr ψ tyU8 i5 d5 r.2.1.payload) := by
 unfold o20 at hS
 refine xFn Tryz.f20 (Tryz.f20.body.getD .skip) 44 (xSq (xRg (xE eB ?_)))
 rintro _ _ _ - ⟨b1, rfl, rfl, rfl⟩
 refine xE eB ?_
 rintro _ _ _ - ⟨b2, rfl, rfl, rfl⟩
 refine xE eB ?_
 rintro _ _ _ - ⟨b3, rfl, rfl, rfl⟩
 refine xb 1 [] [1, 2, 3, 6, 7] (xRe (xW (xSq (xSq (xRg (xb 3 [(1, 2)] [1, 2, 3, 6, 7, 15] (xRe (xW ?_))))))))
 refine xCd ((c.stage != 0)) (fun h4 => ?_) (fun h4 => ?_)
 ·have hS := cond_T h4 hS
  have h4p : ¬ (c.stage = 0) := ne_of_bne_ h4
  refine xSq (xRg (xbo 5 [(0, 2), (2, 1), (3, 0)] [some ⟨b3, 49, (cFrame Z5 none 0)⟩, some ⟨b2, 45, (cRComp c z1 j1 v0 d0 f0 l0 w0 j0 p0 i0)⟩, some ⟨b1, 45, (cRComp c z1 j1 v0 d0 f0 l0 w0 j0 p0 i0)⟩] [6, 7, 8] (xRe (xW ?_))))
  obtain rfl := Option.some.inj hS
  exact xRetC [] [(6, 1), (7, 0)] gR ⟨z1, j1, v0, d0, f0, l0, w0, j0, p0, i0, none, 0, by kernel_rfl, by kernel_rfl, f2, d1, l1, w1, i1, Arr.nil⟩ (fun _ _ h => h)
 ·have hS := cond_F h4 hS
  have h4p : c.stage = 0 := eq_of_bne_false_ h4
  refine xSk (xW (xc [1, 2, 3, 6, 7] (xSq (xRg (xb 1 [] [1, 2, 3, 6, 7, 18] (xE eB ?_))))))
  rintro _ _ _ - ⟨b5, rfl, rfl, rfl⟩
  refine xbo 1 [(2, 0)] [some ⟨b5, 30, [vi 0, vi 0]⟩, some ⟨b3, 49, (cFrame Z5 none 0)⟩, some ⟨b2, 45, (cRComp (⟨(⟨0, 0, 0, 0, 0, 0, ([] : List UInt8), false, false, (⟨0, 0, (⟨0, 0⟩ : Want), ([] : List UInt8)⟩ : Heard), false, Z0⟩ : RNode), Z3, Z4, false, 0⟩ : RComp) none 0 none 0 none 0 none 0 none 0)⟩, some ⟨b1, 45, (cRComp c z1 j1 v0 d0 f0 l0 w0 j0 p0 i0)⟩] [1, 2, 3, 6, 7, 9] (xRe (xW (xSq (xSq (xRg (xb 4 [(2, 3)] [1, 2, 3, 6, 7, 9, 22] (xRe (xW ?_))))))))
  refine xLetJ hS (fun g own sl t6 => own = [some ⟨b5, 30, [vi t6.1, vi t6.2]⟩, some ⟨b3, 49, (cFrame Z5 none 0)⟩, some ⟨b2, 45, (cRComp (⟨(⟨0, 0, 0, 0, 0, 0, ([] : List UInt8), false, false, (⟨0, 0, (⟨0, 0⟩ : Want), ([] : List UInt8)⟩ : Heard), false, Z0⟩ : RNode), Z3, Z4, false, 0⟩ : RComp) none 0 none 0 none 0 none 0 none 0)⟩, some ⟨b1, 45, (cRComp c z1 j1 v0 d0 f0 l0 w0 j0 p0 i0)⟩] ∧ sl = [(1, vi cycle), (2, vs a5 in_ f5), (3, vp b1 0), (6, vp b2 0), (7, vp b3 0), (9, vp b5 0)]) ?_ ?_
  ·rintro g7 _ _ t6 e8 ⟨rfl, rfl⟩ hS
   refine xW (xSq (xRg (xb 5 [(1, 3), (4, 0)] [3, 6, 7, 28, 29, 30, 31] ?_)))
   have f2 := f2.mono e8.b
   have d1 := d1.mono e8.b
   have w6 := w6.mono e8.r
   obtain ⟨y9, hy9, hS⟩ := bindO_T hS
   refine xE (eC 0 (fun g' lr eb ln => c50 g' c.node z1 j1 v0 d0 (cycle : Int) (in_ : List UInt8) a5 f5 (⟨t6.1, t6.2⟩ : Want) (by rw [eb]; exact f2) (by rw [eb]; exact d1) (w6.mono lr) hy9)) ?_
   rintro _ g10 _ e11 ⟨_, rfl, d4, t4, z3, j3, d3, t3, rfl, rfl, l5, v5, v4⟩
   refine xb 4 [] [3, 6, 7, 33, 34, 35] (xE eB ?_)
   rintro _ _ _ - ⟨b12, rfl, rfl, rfl⟩
   refine xE eB ?_
   rintro _ _ _ - ⟨b13, rfl, rfl, rfl⟩
   refine xbo 3 [(12, 1), (13, 0)] [some ⟨b13, 49, (cFrame y9.2.1 d3 t3)⟩, some ⟨b12, 36, (cRNode y9.1 d4 t4 z3 j3)⟩, some ⟨b5, 30, [vi t6.1, vi t6.2]⟩, some ⟨b3, 49, (cFrame Z5 none 0)⟩, some ⟨b2, 45, (cRComp (⟨(⟨0, 0, 0, 0, 0, 0, ([] : List UInt8), false, false, (⟨0, 0, (⟨0, 0⟩ : Want), ([] : List UInt8)⟩ : Heard), false, Z0⟩ : RNode), Z3, Z4, false, 0⟩ : RComp) none 0 none 0 none 0 none 0 none 0)⟩, some ⟨b1, 45, (cRComp c z1 j1 v0 d0 f0 l0 w0 j0 p0 i0)⟩] [3, 6, 7, 10, 11, 12] (xRe (xW (xSq (xSq (xRg (xb 2 [] [3, 6, 7, 10, 11, 12, 37] (xRe (xW ?_))))))))
   refine xLetJ hS (fun g own sl t14 => ∃ (w3 : OA) (a2 : Nat) (t1 : OA) (v1 : Nat) (d2 : OA) (v2 : Nat) (w2 : OA) (f1 : Nat) (j2 : OA) (z2 : Nat), own = [some ⟨b13, 49, (cFrame y9.2.1 d3 t3)⟩, some ⟨b3, 49, (cFrame Z5 none 0)⟩, some ⟨b2, 45, (cRComp (⟨(⟨0, 0, 0, 0, 0, 0, ([] : List UInt8), false, false, (⟨0, 0, (⟨0, 0⟩ : Want), ([] : List UInt8)⟩ : Heard), false, Z0⟩ : RNode), Z3, Z4, false, 0⟩ : RComp) none 0 none 0 none 0 none 0 none 0)⟩, some ⟨b1, 45, (cRComp t14 w3 a2 t1 v1 d2 v2 w2 f1 j2 z2)⟩] ∧ sl = [(3, vp b1 0), (6, vp b2 0), (7, vp b3 0), (11, vp b13 0), (12, vi y9.2.2)] ∧ Arr g.b tyU8 w3 a2 t14.node.input ∧ Arr g.b tyU8 t1 v1 t14.node.heard.input ∧ Arr g.b tyPiece d2 v2 t14.sender.pieces ∧ Arr g.b (tyArr tyU8) w2 f1 t14.collector.parts ∧ Arr g.b tySett j2 z2 t14.collector.sets) ?_ ?_
   ·rintro g15 _ _ t14 e16 ⟨w3, a2, t1, v1, d2, v2, w2, f1, j2, z2, rfl, rfl, t5, a4, j5, w5, z5⟩ hS
    refine xW (xSq ?_)
    refine xDr 0 [0, 1] [4, 5] [some ⟨b13, 49, (cFrame y9.2.1 d3 t3)⟩, some ⟨b1, 45, (cRComp t14 w3 a2 t1 v1 d2 v2 w2 f1 j2 z2)⟩] 6 (fun RG => ?_) (fun _ _ _ _ _ h => h)
    refine xt 3 [0, 1, 2] [(0, 1), (1, 0)] [some 0, some 3] [6, 7, 41, 42, 43] RG pR (xO1 (lds := [0, 1]) 3 (xId (lds := [0, 1]) pR (eStL b2 0 2) ?_))
    rintro _ _ _ - ⟨rfl, rfl⟩
    refine kk [some 0, some 3] (xO1 (lds := [0, 1]) 4 (xId (lds := [0, 1]) pR (eStL b3 0 1) ?_))
    rintro _ _ _ - ⟨rfl, rfl⟩
    refine kf (xt 0 [5] [] [some 0, some 3] [6, 7, 8] RG pR (xAe (lds := [0, 1]) (xW ?_)))
    have v4 := v4.mono e16.b
    obtain rfl := Option.some.inj hS
    exact xRetC [] [(6, 2), (7, 1)] (e8.trans (e11.trans e16)) ⟨w3, a2, t1, v1, d2, v2, w2, f1, j2, z2, d3, t3, by kernel_rfl, by kernel_rfl, t5, a4, j5, w5, z5, v4⟩ (fun _ _ h => h)
   ·intro uu14 hS hN14
    refine xCd ((y9.2.2 == 0)) (fun h17 => ?_) (fun h17 => ?_)
    ·have hS := cond_T h17 hS
     have i6 : y9.2.2 = 0 := eq_of_beq h17
     refine xRg (xbo 5 [(0, 1), (2, 5), (4, 5)] [some ⟨b13, 49, (cFrame y9.2.1 d3 t3)⟩, some ⟨b12, 36, (cRNode y9.1 d4 t4 z3 j3)⟩, some ⟨b5, 30, [vi t6.1, vi t6.2]⟩, some ⟨b3, 49, (cFrame Z5 none 0)⟩, some ⟨b2, 45, (cRComp (⟨(⟨0, 0, 0, 0, 0, 0, ([] : List UInt8), false, false, (⟨0, 0, (⟨0, 0⟩ : Want), ([] : List UInt8)⟩ : Heard), false, Z0⟩ : RNode), Z3, Z4, false, 0⟩ : RComp) none 0 none 0 none 0 none 0 none 0)⟩, some ⟨b1, 45, (cRComp ({ c with node := y9.1, stage := 1 }) d4 t4 z3 j3 f0 l0 w0 j0 p0 i0)⟩] [3, 6, 7, 11, 12] (xRe ?_))
     have l1 := l1.mono (e8.trans e11).b
     have w1 := w1.mono (e8.trans e11).b
     have i1 := i1.mono (e8.trans e11).b
     refine xSel (sm [0, 3, 4, 5]) (xc [3, 6, 7, 11, 12] ?_)
     have eS := hS.symm
     exact hN14 _ eS _ _ _ gR ⟨d4, t4, z3, j3, f0, l0, w0, j0, p0, i0, by kernel_rfl, by kernel_rfl, l5, v5, l1, w1, i1⟩
    ·have hS := cond_F h17 hS
     have i6 : ¬ (y9.2.2 = 0) := ne_of_beq_false_ h17
     refine xSk ?_
     have f2 := f2.mono e11.b
     have d1 := d1.mono e11.b
     have l1 := l1.mono (e8.trans e11).b
     have w1 := w1.mono (e8.trans e11).b
     have i1 := i1.mono (e8.trans e11).b
     refine xSel (sm [0, 3, 4, 5]) (xc [3, 6, 7, 11, 12] ?_)
     have eS := hS.symm
     exact hN14 _ eS _ _ _ gR ⟨z1, j1, v0, d0, f0, l0, w0, j0, p0, i0, by kernel_rfl, by kernel_rfl, f2, d1, l1, w1, i1⟩
  ·intro uu6 hS hN6
   refine xCd ((c.node.role == 1)) (fun h18 => ?_) (fun h18 => ?_)
   ·have hS := cond_T h18 hS
    have z6 : c.node.role = 1 := eq_of_beq h18
    refine xRg (xb 2 [(1, 3)] [1, 2, 3, 6, 7, 9, 24] ?_)
    obtain ⟨y19, j6, hS⟩ := letJ_T hS
    refine xE (eC 0 (fun g' lr eb ln => c49 g' c.collector w0 j0 p0 i0 ((w1.mono g.br).mono lr) ((i1.mono g.br).mono lr) j6)) ?_
    rintro _ g20 _ e21 ⟨_, rfl, rfl, rfl⟩
    refine xbo 1 [(3, 0)] [some ⟨b5, 30, [vi y19.base, vi y19.have_]⟩, some ⟨b3, 49, (cFrame Z5 none 0)⟩, some ⟨b2, 45, (cRComp (⟨(⟨0, 0, 0, 0, 0, 0, ([] : List UInt8), false, false, (⟨0, 0, (⟨0, 0⟩ : Want), ([] : List UInt8)⟩ : Heard), false, Z0⟩ : RNode), Z3, Z4, false, 0⟩ : RComp) none 0 none 0 none 0 none 0 none 0)⟩, some ⟨b1, 45, (cRComp c z1 j1 v0 d0 f0 l0 w0 j0 p0 i0)⟩] [1, 2, 3, 6, 7, 9] (xRe (xc [1, 2, 3, 6, 7, 9] ?_))
    have eS := hS.symm
    exact hN6 _ eS _ _ _ e21 ⟨by kernel_rfl, by kernel_rfl⟩
   ·have hS := cond_F h18 hS
    have z6 : ¬ (c.node.role = 1) := ne_of_beq_false_ h18
    refine xSk (xc [1, 2, 3, 6, 7, 9] ?_)
    have eS := hS.symm
    exact hN6 _ eS _ _ _ gR ⟨by kernel_rfl, by kernel_rfl⟩

def o21 (a : Frame) (b : Frame) : Bool :=
 ((((((a.label == b.label) && (a.from_ == b.from_)) && (a.cycle == b.cycle)) && (a.payload == b.payload))))
theorem c21 (g : Gh) (a : Frame) (w0 : OA) (p0 : Nat) (b : Frame) (j0 : OA) (i0 : Nat) (d0 : Arr g.r tyU8 w0 p0 a.payload) (v0 : Arr g.r tyU8 j0 i0 b.payload) {r : Bool} (hS : o21 a b = r) :
  Ctr Tryz.prog 21 [(aFrame a w0 p0), (aFrame b j0 i0)] g [] (fun v ψ o => v = vb r ∧ o = []) := by
 unfold o21 at hS
 refine xFn Tryz.f21 (Tryz.f21.body.getD .skip) 33 (xSq (xRg (xE eB ?_)))
 rintro _ _ _ - ⟨b1, rfl, rfl, rfl⟩
 refine xE eB ?_
 rintro _ _ _ - ⟨b2, rfl, rfl, rfl⟩
 refine xb 1 [] [2, 3] (xRe (xW (xSq (xRg (xb 6 [(1, 1), (3, 0)] [2, 3, 10] ?_)))))
 refine wpr_grp 12 [(2, vp b1 0), (3, vp b2 0), (16, vb ((a.label == b.label) && (a.from_ == b.from_)))] (fun hk5 => ?_) ?_
 ·refine wpq_split 10 (b := (a.label == b.label)) (by kernel_rfl) (fun q3 => ?_) (fun q3 => ?_)
  ·have q3p : a.label = b.label := eq_of_beq q3
   refine xb 6 [(7, 1), (9, 0)] [2, 3, 16] (wpq_re 16 (v := vb (a.from_ == b.from_)) (Value.bool (((a.label == b.label) && (a.from_ == b.from_)))) (by kernel_rfl) (re_and1 q3) ?_)
   exact wpq_sub _ (by kernel_rfl) hk5
  ·have q3p : ¬ (a.label = b.label) := ne_of_beq_false_ q3
   refine xb 6 [] [2, 3, 16] (wpq_re 16 (v := vb false) (Value.bool (((a.label == b.label) && (a.from_ == b.from_)))) (by kernel_rfl) (re_and0 q3) ?_)
   exact wpq_sub _ (by kernel_rfl) hk5
 ·refine xb 1 [] [2, 3, 17] ?_
  refine wpr_grp 19 [(2, vp b1 0), (3, vp b2 0), (23, vb (((a.label == b.label) && (a.from_ == b.from_)) && (a.cycle == b.cycle)))] (fun f0 => ?_) ?_
  ·refine wpq_split 17 (b := ((a.label == b.label) && (a.from_ == b.from_))) (by kernel_rfl) (fun q4 => ?_) (fun q4 => ?_)
   ·have q4l := (and_true_ q4).1
    have q4r := (and_true_ q4).2
    have v1 : a.label = b.label := eq_of_beq q4l
    have t1 : a.from_ = b.from_ := eq_of_beq q4r
    refine xb 6 [(14, 1), (16, 0)] [2, 3, 23] (wpq_re 23 (v := vb (a.cycle == b.cycle)) (Value.bool ((((a.label == b.label) && (a.from_ == b.from_)) && (a.cycle == b.cycle)))) (by kernel_rfl) (re_and1 q4) ?_)
    exact wpq_sub _ (by kernel_rfl) f0
   ·refine xb 6 [] [2, 3, 23] ?_
    refine wpq_re 23 (v := vb false) (Value.bool ((((a.label == b.label) && (a.from_ == b.from_)) && (a.cycle == b.cycle)))) (by kernel_rfl) (re_and0 q4) ?_
    exact wpq_sub _ (by kernel_rfl) f0
  ·refine xb 1 [] [2, 3, 24] ?_
   refine wpr_grp 28 [(32, vb ((((a.label == b.label) && (a.from_ == b.from_)) && (a.cycle == b.cycle)) && (a.payload == b.payload)))] (fun l0 => ?_) ?_
   ·refine wpq_split 24 (b := (((a.label == b.label) && (a.from_ == b.from_)) && (a.cycle == b.cycle))) (by kernel_rfl) (fun q5 => ?_) (fun q5 => ?_)
    ·have q5l := (and_true_ q5).1
     have q5r := (and_true_ q5).2
     have z1 := (and_true_ q5l).1
     have w1 := (and_true_ q5l).2
     have j1 : a.label = b.label := eq_of_beq z1
     have i1 : a.from_ = b.from_ := eq_of_beq w1
     have d1 : a.cycle = b.cycle := eq_of_beq q5r
     refine xb 2 [(21, 1)] [3, 24, 26] (xV (qStr d0) (xb 2 [(24, 0)] [24, 27, 29] (xV (qStr v0) (xV (qEqS (a.payload) (b.payload)) (xb 1 [] [32] (wpq_re 32 (v := vb (a.payload == b.payload)) (Value.bool (((((a.label == b.label) && (a.from_ == b.from_)) && (a.cycle == b.cycle)) && (a.payload == b.payload)))) (by kernel_rfl) (re_and1 q5) ?_))))))
     exact wpq_sub _ (by kernel_rfl) l0
    ·refine xb 8 [] [32] ?_
     refine wpq_re 32 (v := vb false) (Value.bool (((((a.label == b.label) && (a.from_ == b.from_)) && (a.cycle == b.cycle)) && (a.payload == b.payload)))) (by kernel_rfl) (re_and0 q5) ?_
     exact wpq_sub _ (by kernel_rfl) l0
   ·refine xb 1 [] [4] ?_
    refine xRe (xW ?_)
    have eS := hS.symm
    subst eS
    exact xRet [] [4] gR ⟨by kernel_rfl, by kernel_rfl⟩ (fun _ _ h => h)

def o85 (n : Node) (f : Frame) (came : Bool) (label : Int) : Bool :=
 (((((came && (f.label == label)) && (f.from_ == (IntKind.u8.wrap (IntKind.i64.wrap (3 - n.number))))) && (f.cycle == n.cycle))))
theorem c85 (g : Gh) (a_n : Addr) (n : Node) (f0 : OA) (l0 : Nat) (w0 : OA) (j0 : Nat) (v0 : OA) (d0 : Nat) (f : Frame) (p0 : OA) (i0 : Nat) (came : Bool) (label : Int) (j1 : Cells g.r a_n (cNode n f0 l0 w0 j0 v0 d0)) (v1 : Arr g.r tyU8 f0 l0 n.input) (w1 : Arr g.r tyU8 w0 j0 n.heard.input) (i1 : Arr g.r tyU8 v0 d0 n.set_.in_) (d1 : Arr g.r tyU8 p0 i0 f.payload) {r : Bool} (hS : o85 n f came label = r) :
  Ctr Tryz.prog 85 [Value.pointer (some a_n), (aFrame f p0 i0), vb came, vy label] g [] (fun v ψ o => v = vb r ∧ o = []) := by
 unfold o85 at hS
 refine xFn Tryz.f85 (Tryz.f85.body.getD .skip) 36 (xSq (xRg (xE eB ?_)))
 rintro _ _ _ - ⟨b1, rfl, rfl, rfl⟩
 refine xb 1 [] [0, 2, 3, 5] (xRe (xW (xSq ?_)))
 refine xDr 0 [3, 9, 13, 20, 24] [27] [some ⟨b1, 49, (cFrame f p0 i0)⟩] 28 (fun RG => ?_) (fun _ _ _ _ _ h => h)
 refine xt 26 [0, 1] [] [some 0] [0, 3, 5, 10] RG pR ?_
 refine wpa_grp 21 [true, true, true, true, true, true, true, false, false, false, false, false, false, false, false, false, false, false, false, false, false, false, false, false, false, false, false, false] [(0, Value.pointer (some a_n)), (5, vp b1 0), (15, vb (came && (f.label == label)))] (fun hk1 => ?_) ?_
 ·refine wpq_split 10 (b := came) (by kernel_rfl) (fun q2 => ?_) (fun q2 => ?_)
  ·refine xt 21 [2, 3, 4, 5, 6] [(3, 0)] [some 0] [0, 5, 15] RG pR ?_
   refine wpq_re 15 (v := vb (f.label == label)) (Value.bool ((came && (f.label == label)))) (by kernel_rfl) (re_and1 q2) ?_
   exact wpq_sub _ (by kernel_rfl) hk1
  ·refine xt 21 [2, 3, 4, 5, 6] [] [some 0] [0, 5, 15] RG pR ?_
   refine wpq_re 15 (v := vb false) (Value.bool ((came && (f.label == label)))) (by kernel_rfl) (re_and0 q2) ?_
   exact wpq_sub _ (by kernel_rfl) hk1
 ·refine xt 20 [7] [] [some 0] [0, 5, 16] RG pR ?_
  refine wpa_grp 10 [true, true, true, true, true, true, true, true, true, true, true, true, true, true, true, true, true, true, false, false, false, false, false, false, false, false, false, false] [(0, Value.pointer (some a_n)), (5, vp b1 0), (26, vb ((came && (f.label == label)) && (f.from_ == (IntKind.u8.wrap (IntKind.i64.wrap (3 - n.number))))))] (fun hk7 => ?_) ?_
  ·refine wpq_split 16 (b := (came && (f.label == label))) (by kernel_rfl) (fun q3 => ?_) (fun q3 => ?_)
   ·have q3l := (and_true_ q3).1
    have q3r := (and_true_ q3).2
    have w2 : f.label = label := eq_of_beq q3r
    refine xt 15 [8, 9, 10, 11, 12] [(9, 0)] [some 0] [0, 5, 16, 18, 21] RG pR (xTv 13 [some 0] RG pR (qLdP a_n 0 j1) (xt 10 [14, 15, 16, 17] [] [some 0] [0, 5, 26] RG pR (wpq_re 26 (v := vb (f.from_ == (IntKind.u8.wrap (IntKind.i64.wrap (3 - n.number))))) (Value.bool (((came && (f.label == label)) && (f.from_ == (IntKind.u8.wrap (IntKind.i64.wrap (3 - n.number))))))) (by kernel_rfl) (re_and1 q3) ?_)))
    exact wpq_sub _ (by kernel_rfl) hk7
   ·refine xt 10 [8, 9, 10, 11, 12, 13, 14, 15, 16, 17] [] [some 0] [0, 5, 26] RG pR ?_
    refine wpq_re 26 (v := vb false) (Value.bool (((came && (f.label == label)) && (f.from_ == (IntKind.u8.wrap (IntKind.i64.wrap (3 - n.number))))))) (by kernel_rfl) (re_and0 q3) ?_
    exact wpq_sub _ (by kernel_rfl) hk7
  ·refine xt 9 [18] [] [some 0] [0, 5, 27] RG pR ?_
   refine wpa_grp 1 [true, true, true, true, true, true, true, true, true, true, true, true, true, true, true, true, true, true, true, true, true, true, true, true, true, true, true, false] [(35, vb (((came && (f.label == label)) && (f.from_ == (IntKind.u8.wrap (IntKind.i64.wrap (3 - n.number))))) && (f.cycle == n.cycle)))] (fun z1 => ?_) ?_
   ·refine wpq_split 27 (b := ((came && (f.label == label)) && (f.from_ == (IntKind.u8.wrap (IntKind.i64.wrap (3 - n.number)))))) (by kernel_rfl) (fun q4 => ?_) (fun q4 => ?_)
    ·have q4l := (and_true_ q4).1
     have q4r := (and_true_ q4).2
     have t1 := (and_true_ q4l).2
     have l1 : f.label = label := eq_of_beq t1
     have f1 : f.from_ = (IntKind.u8.wrap (IntKind.i64.wrap (3 - n.number))) := eq_of_beq q4r
     refine xt 4 [19, 20, 21, 22, 23] [(20, 0)] [some 0] [27, 29, 32] RG pR (xTv 24 [some 0] RG pR (qLdP a_n 5 j1) (xt 1 [25, 26] [] [some 0] [35] RG pR (wpq_re 35 (v := vb (f.cycle == n.cycle)) (Value.bool ((((came && (f.label == label)) && (f.from_ == (IntKind.u8.wrap (IntKind.i64.wrap (3 - n.number))))) && (f.cycle == n.cycle)))) (by kernel_rfl) (re_and1 q4) ?_)))
     exact wpq_sub _ (by kernel_rfl) z1
    ·refine xt 1 [19, 20, 21, 22, 23, 24, 25, 26] [] [some 0] [35] RG pR ?_
     refine wpq_re 35 (v := vb false) (Value.bool ((((came && (f.label == label)) && (f.from_ == (IntKind.u8.wrap (IntKind.i64.wrap (3 - n.number))))) && (f.cycle == n.cycle)))) (by kernel_rfl) (re_and0 q4) ?_
     exact wpq_sub _ (by kernel_rfl) z1
   ·refine xt 0 [27] [] [some 0] [8] RG pR ?_
    refine xAe (lds := [3, 9, 13, 20, 24]) (xW ?_)
    have eS := hS.symm
    subst eS
    exact xRet [] [8] gR ⟨by kernel_rfl, by kernel_rfl⟩ (fun _ _ h => h)

def o98_L0 (p : List UInt8) (size : Int) (s6 : Int × Nat) : Option (Ctl (Int × Nat) (Int)) :=
 (cond (decide ((s6.2 : Int) < size)) (grd (decide (s6.2 < (p).length)) (grd (decide (0 ≤ (IntKind.i64.wrap (8 * (s6.2 : Int))))) (grd (decide ((s6.2 : Int) + 1 ≤ 9223372036854775807)) (some (Ctl.go ((lorK .u64 s6.1 (shlK .u64 ((List.getD p s6.2 0).toNat : Int) (IntKind.i64.wrap (8 * (s6.2 : Int))))), (s6.2 + 1))))))) (some (Ctl.done (s6.1))))
def o98 (p : List UInt8) (size : Int) : Option (Int) :=
 (bindO (τ := Int) (loopO (σ := Int × Nat) (ρ := Int) fuelN (o98_L0 p size) (0, 0)) fun t1 => (some (((IntKind.i64.wrap t1) : Int))))
theorem c98 (g : Gh) (p : List UInt8) (Ap : OA) (cp : Nat) (size : Int) (fp : Arr g.r tyU8 Ap cp p) {r : Int} (hS : o98 p size = some r) :
  Ctr Tryz.prog 98 [vs Ap p cp, vi size] g [] (fun v ψ o => v = vi r ∧ o = []) := by
 unfold o98 at hS
 refine xFn Tryz.f98 (Tryz.f98.body.getD .skip) 24 ?_
 have nfp := fp.len
 refine xSq (xRg (xb 1 [] [0, 1] (xRe (xW (xSq (xRg (xb 1 [] [0, 1, 5] (xRe (xW (xSq (xSq (xRg (xb 2 [] [0, 5, 7, 8] (xRe (xW ?_)))))))))))))))
 refine xBindO hS (fun g own sl t1 => own = [] ∧ sl = [(5, Value.int .u64 t1)]) ?_ ?_
 ·rintro g2 _ _ t1 e3 ⟨rfl, rfl⟩ hS
  refine xW (xSq (xRg ?_))
  have z7 := i64_in_ t1
  refine xb 3 [] [4] (xRe (xW ?_))
  obtain rfl := Option.some.inj hS
  exact xRet [] [4] e3 ⟨by kernel_rfl, by kernel_rfl⟩ (fun _ _ h => h)
 ·intro uu1 hS hN1
  refine xBl 0 (xc [0, 5, 7, 8] (xLo hS (fun g own sl s6 => own = [] ∧ sl = [(0, vs Ap p cp), (5, Value.int .u64 s6.1), (7, vi size), (8, vi (s6.2 : Int))]) ⟨by kernel_rfl, by kernel_rfl⟩ ?_))
  rintro g7 _ _ s6 uu6 e8 ⟨rfl, rfl⟩ hS Qr6 hN6 hD6
  unfold o98_L0 at hS
  refine xSq (xRg (xb 1 [] [0, 5, 7, 8, 9] (xRe (xW (xSq ?_)))))
  refine xCd (decide ((s6.2 : Int) < size)) (fun h9 => ?_) (fun h9 => ?_)
  ·have hS := cond_T h9 hS
   have h9p := of_decide_eq_true h9
   refine xSk (xW (xc [0, 5, 7, 8] (xSq (xBl 1 (xSq (xRg (xb 2 [] [0, 5, 6, 7, 8] (xRe (xW (xRg ?_))))))))))
   have fp := fp.mono e8.r
   obtain ⟨q11, hS⟩ := grd_T hS
   have j0 := of_decide_eq_true q11
   obtain ⟨i0, v0, d0, w0, p0⟩ := fp.at_ (get_getD (d := 0) j0)
   have w0 : v0 = [vy ((List.getD p s6.2 0).toNat : Int)] := w0
   subst w0
   have f0 := UInt8.toNat_lt (List.getD p s6.2 0)
   refine xb 3 [] [0, 5, 6, 7, 8, 11, 12, 13] (xV (qIx s6.2 1 d0 rfl j0) (xV (qLdP (Addr.add i0 (s6.2 * 1)) 0 p0) (xV (qConv .u8 .u64 (((List.getD p s6.2 0).toNat : Int)) (((List.getD p s6.2 0).toNat : Int)) (wr_u64 (by omega))) ?_)))
   have z13 := i64_in_ (8 * (s6.2 : Int))
   obtain ⟨q12, hS⟩ := grd_T hS
   have w1 := of_decide_eq_true q12
   refine xb 2 [] [0, 5, 7, 8, 11, 16, 18] (xV (qShl .u64 .i64 (((List.getD p s6.2 0).toNat : Int)) ((IntKind.i64.wrap (8 * (s6.2 : Int)))) (by omega)) (xb 2 [] [0, 5, 7, 8] (xRe (wpq_blockN (xW (xRg ?_))))))
   obtain ⟨q13, hS⟩ := grd_T hS
   have l0 := of_decide_eq_true q13
   refine xV (qAdd .i64 ((s6.2 : Int)) (1) (wr64 (by omega))) (xb 1 [] [0, 5, 7, 8] (xRe (wpq_thenN (xc [0, 5, 7, 8] ?_))))
   have eS := (Option.some.inj hS).symm
   exact hN6 _ eS _ _ _ gR ⟨by kernel_rfl, by kernel_rfl⟩
  ·have hS := cond_F h9 hS
   have h9p := of_decide_eq_false h9
   refine xEx 0 (wpq_thenX (wpq_thenX (wpq_blockE (xc [5] ?_))))
   have eS := (Option.some.inj hS).symm
   have eS := (hD6 _ eS).symm
   exact hN1 _ eS _ _ _ e8 ⟨by kernel_rfl, by kernel_rfl⟩

def o86 (p : List UInt8) : Option (Heard × Int) :=
 (cond ((decide ((((p).length : Nat) : Int) < 19) || decide ((((p).length : Nat) : Int) > 419))) (some (((⟨0, 0, (⟨0, 0⟩ : Want), ([] : List UInt8)⟩ : Heard), (4 : Int)))) (bindO (o98 ((List.drop 1 p) : List UInt8) (8 : Int)) fun y11 => (bindO (o98 ((List.drop 9 p) : List UInt8) (8 : Int)) fun y14 => (bindO (o98 ((List.drop 17 p) : List UInt8) (2 : Int)) fun y17 => (letJ (o43 ((List.drop 19 p) : List UInt8)) fun y20 => (bindO (o82 (⟨((List.getD p 0 0).toNat : Int), y11, (⟨y14, y17⟩ : Want), y20⟩ : Heard)) fun y216 => (cond ((y216.2 != 0)) (some (((⟨0, 0, (⟨0, 0⟩ : Want), ([] : List UInt8)⟩ : Heard), (4 : Int)))) (some (((⟨((List.getD p 0 0).toNat : Int), y11, (⟨y14, y17⟩ : Want), y20⟩ : Heard), (0 : Int)))))))))))
theorem c86 (g : Gh) (p : List UInt8) (Ap : OA) (cp : Nat) (fp : Arr g.r tyU8 Ap cp p) {r : Heard × Int} (hS : o86 p = some r) :
  Ctr Tryz.prog 86 [vs Ap p cp] g [] (fun v ψ o => ∃ (i1 : OA) (d1 : Nat), v = Value.tuple #[(aHeard r.1 i1 d1), vi r.2] ∧ o = [] ∧ Arr ψ tyU8 i1 d1 r.1.input) := by
 unfold o86 at hS
 refine xFn Tryz.f86 (Tryz.f86.body.getD .skip) 42 ?_
 have nfp := fp.len
 refine xSq (xRg (xE eB ?_))
 rintro _ _ _ - ⟨b1, rfl, rfl, rfl⟩
 refine xb 1 [] [0, 2] (xRe (xW (xSq (xSq (xRg (xb 4 [] [0, 2, 10] ?_))))))
 refine wpr_grp 8 [(0, vs Ap p cp), (2, vp b1 0), (14, vb (decide ((((p).length : Nat) : Int) < 19) || decide ((((p).length : Nat) : Int) > 419)))] (fun hk3 => ?_) ?_
 ·refine wpq_split 10 (b := decide ((((p).length : Nat) : Int) < 19)) (by kernel_rfl) (fun q2 => ?_) (fun q2 => ?_)
  ·have q2p := of_decide_eq_true q2
   refine xb 4 [] [0, 2, 14] (wpq_re 14 (v := vb true) (Value.bool ((decide ((((p).length : Nat) : Int) < 19) || decide ((((p).length : Nat) : Int) > 419)))) (by kernel_rfl) (re_or1 q2) ?_)
   exact wpq_sub _ (by kernel_rfl) hk3
  ·have q2p := of_decide_eq_false q2
   refine xb 4 [] [0, 2, 14] (wpq_re 14 (v := vb (decide ((((p).length : Nat) : Int) > 419))) (Value.bool ((decide ((((p).length : Nat) : Int) < 19) || decide ((((p).length : Nat) : Int) > 419)))) (by kernel_rfl) (re_or0 q2) ?_)
   exact wpq_sub _ (by kernel_rfl) hk3
 ·refine xRe ?_
  refine xW ?_
  refine xCd ((decide ((((p).length : Nat) : Int) < 19) || decide ((((p).length : Nat) : Int) > 419))) (fun h3 => ?_) (fun h3 => ?_)
  ·have hS := cond_T h3 hS
   refine xSq (xRg (xbo 3 [(1, 0)] [some ⟨b1, 122, (cHeard (⟨0, 0, (⟨0, 0⟩ : Want), ([] : List UInt8)⟩ : Heard) none 0)⟩] [2, 3] (xRe (xW ?_))))
   obtain rfl := Option.some.inj hS
   exact xRetC [] [(2, 0)] gR ⟨none, 0, by kernel_rfl, by kernel_rfl, Arr.nil⟩ (fun _ _ h => h)
  ·have hS := cond_F h3 hS
   have h3l := (or_false_ h3).1
   have h3r := (or_false_ h3).2
   have l6 := of_decide_eq_false h3l
   have a7 := of_decide_eq_false h3r
   refine xSk (xW (xc [0, 2] (xSq ?_)))
   refine xDr 0 [2] [18, 16] [some ⟨b1, 122, (cHeard (⟨0, 0, (⟨0, 0⟩ : Want), ([] : List UInt8)⟩ : Heard) none 0)⟩] 19 (fun RG => ?_) (fun _ _ _ _ _ h => h)
   have i5 : 0 < (p).length := by omega
   obtain ⟨ad4, cs4, hA4, hr4, hc4⟩ := fp.at_ (get_getD (d := 0) i5)
   have hr4 : cs4 = [vy ((List.getD p 0 0).toNat : Int)] := hr4
   subst hr4
   have nb4 := UInt8.toNat_lt (List.getD p 0 0)
   refine xt 18 [0] [] [some 0] [0, 2, 16] RG pR (xTp 1 RG (fun _ => (qIx 0 1 hA4 rfl i5)) (xTv 2 [some 0] RG pR (qLdP (Addr.add ad4 (0 * 1)) 0 hc4) ?_))
   have l5 := fp.cap
   have f6 : Arr g.r tyU8 (offA Ap cp 1 1) (cp - 1) (List.drop 1 p) := fp.cut_from 1 (by omega)
   have nf6 := f6.len
   have a4 : (p).length - 1 = ((List.drop 1 p)).length := by simp only [List.length_take, List.length_drop] <;> omega
   have l7 : ((((List.drop 1 p)).length : Nat) : Int) = (((p).length : Nat) : Int) - 1 := by omega
   refine xt 15 [3] [] [some 0] [0, 2, 18, 19] RG pR (xTp 4 RG (fun _ => (qSl (m := 1) (A := Ap) (len := (p).length) (c := cp) 1 (p).length (some 1) none ((List.drop 1 p)).length rfl rfl (by omega) (by omega) a4)) ?_)
   have t5 := fp.cap
   have f7 : Arr g.r tyU8 (offA Ap cp 9 1) (cp - 9) (List.drop 9 p) := fp.cut_from 9 (by omega)
   have nf7 := f7.len
   have j5 : (p).length - 9 = ((List.drop 9 p)).length := by simp only [List.length_take, List.length_drop] <;> omega
   have d7 : ((((List.drop 9 p)).length : Nat) : Int) = (((p).length : Nat) : Int) - 9 := by omega
   refine xt 13 [6] [] [some 0] [0, 2, 18, 20, 22] RG pR (xTp 7 RG (fun _ => (qSl (m := 1) (A := Ap) (len := (p).length) (c := cp) 9 (p).length (some 9) none ((List.drop 9 p)).length rfl rfl (by omega) (by omega) j5)) ?_)
   have w6 := fp.cap
   have f8 : Arr g.r tyU8 (offA Ap cp 17 1) (cp - 17) (List.drop 17 p) := fp.cut_from 17 (by omega)
   have nf8 := f8.len
   have z5 : (p).length - 17 = ((List.drop 17 p)).length := by simp only [List.length_take, List.length_drop] <;> omega
   have w8 : ((((List.drop 17 p)).length : Nat) : Int) = (((p).length : Nat) : Int) - 17 := by omega
   refine xt 11 [9] [] [some 0] [0, 2, 18, 20, 23, 25] RG pR (xTp 10 RG (fun _ => (qSl (m := 1) (A := Ap) (len := (p).length) (c := cp) 17 (p).length (some 17) none ((List.drop 17 p)).length rfl rfl (by omega) (by omega) z5)) ?_)
   have f5 := fp.cap
   have f9 : Arr g.r tyU8 (offA Ap cp 19 1) (cp - 19) (List.drop 19 p) := fp.cut_from 19 (by omega)
   have nf9 := f9.len
   have d4 : (p).length - 19 = ((List.drop 19 p)).length := by simp only [List.length_take, List.length_drop] <;> omega
   have j6 : ((((List.drop 19 p)).length : Nat) : Int) = (((p).length : Nat) : Int) - 19 := by omega
   refine xt 9 [13] [] [some 0] [2, 18, 20, 23, 26, 29] RG pR (xTp 14 RG (fun _ => (qSl (m := 1) (A := Ap) (len := (p).length) (c := cp) 19 (p).length (some 19) none ((List.drop 19 p)).length rfl rfl (by omega) (by omega) d4)) ?_)
   obtain ⟨y11, l3, hS⟩ := bindO_T hS
   obtain ⟨y14, j3, hS⟩ := bindO_T hS
   obtain ⟨y17, d2, hS⟩ := bindO_T hS
   obtain ⟨y20, z2, hS⟩ := letJ_T hS
   refine wpa_meet (fun g own sl => ∃ (j0 : OA) (i0 : Nat) (v0 : OB) (b23 : Nat), own = [some ⟨b23, 122, (cHeard (⟨0, 0, (⟨0, 0⟩ : Want), ([] : List UInt8)⟩ : Heard) none 0)⟩, v0, some ⟨b1, 122, (cHeard (⟨0, 0, (⟨0, 0⟩ : Want), ([] : List UInt8)⟩ : Heard) none 0)⟩] ∧ sl = [(2, vp b1 0), (4, vp b23 0), (32, Value.agg #[vy ((List.getD p 0 0).toNat : Int), vi y11, vi y14, vi y17, vs j0 y20 i0])] ∧ Buf g.b tyU8 5 (.slice j0 (y20).length i0) v0 y20) 1 [true, true, true, true, true, true, true, true, true, true, true, true, true, true, true, true, true, true, false] ?_ (fun l1 => ?_)
   ·rintro t6 _ _ f2 ⟨j0, i0, v0, b23, rfl, rfl, p0⟩
    have w1 := p0.len
    refine xO1 (lds := [2]) 18 (xId (lds := [2]) f2.r (eStL b23 0 0) ?_)
    rintro _ _ _ - ⟨rfl, rfl⟩
    refine kf (xAe (lds := [2]) (xW (xc [2, 4] (xSq (xSq (xRg (xb 1 [(0, 0)] [2, 4, 34] ?_)))))))
    refine wpq_freeze 1 (by kernel_rfl) p0 (fun v4 a3 j2 => ?_)
    obtain ⟨w3, z4, hS⟩ := bindO_T hS
    refine xE (eC 0 (fun g' lr eb ln => c82 g' (⟨((List.getD p 0 0).toNat : Int), y11, (⟨y14, y17⟩ : Want), y20⟩ : Heard) j0 i0 ((j2.mono v4.br).mono lr) z4)) ?_
    rintro _ t7 _ a2 ⟨_, rfl, a5, v5, v2, rfl, rfl, f3⟩
    have d5 := f3.len
    refine xb 5 [] [2, 4, 6] (xRe (xW (xSq (xRg (xb 2 [] [2, 4, 39] (xRe (xW ?_)))))))
    refine xCd ((w3.2 != 0)) (fun f1 => ?_) (fun f1 => ?_)
    ·have hS := cond_T f1 hS
     have j4 : ¬ (w3.2 = 0) := ne_of_bne_ f1
     refine xSq (xRg (xbo 3 [(1, 3)] [v2, some ⟨b23, 122, (cHeard (⟨((List.getD p 0 0).toNat : Int), y11, (⟨y14, y17⟩ : Want), y20⟩ : Heard) j0 i0)⟩, none, some ⟨b1, 122, (cHeard (⟨0, 0, (⟨0, 0⟩ : Want), ([] : List UInt8)⟩ : Heard) none 0)⟩] [2, 3] (xRe (xW ?_))))
     obtain rfl := Option.some.inj hS
     exact xRetC [] [(2, 3)] (f2.trans (a3.trans a2)) ⟨none, 0, by kernel_rfl, by kernel_rfl, Arr.nil⟩ (fun _ _ h => h)
    ·have hS := cond_F f1 hS
     have j4 : w3.2 = 0 := eq_of_bne_false_ f1
     refine xSk (xW (xc [2, 4] (xSq (xRg (xbo 3 [(0, 1), (1, 3)] [v2, some ⟨b23, 122, (cHeard (⟨((List.getD p 0 0).toNat : Int), y11, (⟨y14, y17⟩ : Want), y20⟩ : Heard) j0 i0)⟩, none, some ⟨b1, 122, (cHeard (⟨((List.getD p 0 0).toNat : Int), y11, (⟨y14, y17⟩ : Want), y20⟩ : Heard) j0 i0)⟩] [2, 3] (xRe (xW ?_)))))))
     have j2 := j2.mono a2.b
     obtain rfl := Option.some.inj hS
     exact xRetC [] [(2, 3)] (f2.trans (a3.trans a2)) ⟨j0, i0, by kernel_rfl, by kernel_rfl, j2⟩ (fun _ _ h => h)
   ·refine xO2 (lds := [2]) 5 17 ?_ ?_
    ·refine xIe (lds := [2]) pR (eC 0 (fun g' lr eb ln => c98 g' ((List.drop 1 p) : List UInt8) (offA Ap cp 1 1) (cp - 1) (8 : Int) (f6.mono lr) l3)) ?_
     rintro _ z8 _ w0 ⟨_, rfl, rfl, rfl⟩
     refine kk [some 0] ?_
     refine xO2 (lds := [2]) 8 17 ?_ ?_
     ·have f7 := f7.mono w0.r
      refine xIe (lds := [2]) w0.r (eC 0 (fun g' lr eb ln => c98 g' ((List.drop 9 p) : List UInt8) (offA Ap cp 9 1) (cp - 9) (8 : Int) (f7.mono lr) j3)) ?_
      rintro _ d6 _ d0 ⟨_, rfl, rfl, rfl⟩
      refine kk [some 0] ?_
      refine xO2 (lds := [2]) 11 17 ?_ ?_
      ·have f8 := f8.mono (w0.trans d0).r
       refine xIe (lds := [2]) (w0.trans d0).r (eC 0 (fun g' lr eb ln => c98 g' ((List.drop 17 p) : List UInt8) (offA Ap cp 17 1) (cp - 17) (2 : Int) (f8.mono lr) d2)) ?_
       rintro _ p6 _ l0 ⟨_, rfl, rfl, rfl⟩
       refine kk [some 0] (xt 4 [12] [] [some 0] [2, 18, 21, 28, 30] RG (w0.trans (d0.trans l0)).r ?_)
       refine xO2 (lds := [2]) 15 17 ?_ ?_
       ·have f9 := f9.mono (w0.trans (d0.trans l0)).r
        refine xIe (lds := [2]) (w0.trans (d0.trans l0)).r (eC 0 (fun g' lr eb ln => c43 g' ((List.drop 19 p) : List UInt8) (offA Ap cp 19 1) (cp - 19) (f9.mono lr) z2)) ?_
        rintro _ a6 _ z3 ⟨_, rfl, j0, i0, v0, rfl, rfl, p0⟩
        refine kk [some 1] ?_
        have w1 := p0.len
        refine xt 2 [16] [] [some 1] [2, 32] RG (w0.trans (d0.trans (l0.trans z3))).r (xO1 (lds := [2]) 17 (xIe (lds := [2]) (w0.trans (d0.trans (l0.trans z3))).r eB ?_))
        rintro _ _ _ - ⟨t4, rfl, rfl, rfl⟩
        refine kk [some 2] (xc [2, 4, 32] ?_)
        exact l1 _ _ _ (w0.trans (d0.trans (l0.trans z3))) ⟨j0, i0, v0, t4, by kernel_rfl, by kernel_rfl, p0⟩
       ·refine xIe (lds := [2]) (w0.trans (d0.trans l0)).r eB ?_
        rintro _ _ _ - ⟨w5, rfl, rfl, rfl⟩
        refine kk [some 1] ?_
        have f9 := f9.mono (w0.trans (d0.trans l0)).r
        refine xO1 (lds := [2]) 15 (xIe (lds := [2]) (w0.trans (d0.trans l0)).r (eC 0 (fun g' lr eb ln => c43 g' ((List.drop 19 p) : List UInt8) (offA Ap cp 19 1) (cp - 19) (f9.mono lr) z2)) ?_)
        rintro _ w7 _ w4 ⟨_, rfl, j0, i0, v0, rfl, rfl, p0⟩
        refine kk [some 2] ?_
        have w1 := p0.len
        refine xt 1 [16] [] [some 2] [2, 4, 32] RG (w0.trans (d0.trans (l0.trans w4))).r (xSel (sm [1, 0, 2]) (xc [2, 4, 32] ?_))
        exact l1 _ _ _ (w0.trans (d0.trans (l0.trans w4))) ⟨j0, i0, v0, w5, by kernel_rfl, by kernel_rfl, p0⟩
      ·refine xIe (lds := [2]) (w0.trans d0).r eB ?_
       rintro _ _ _ - ⟨f4, rfl, rfl, rfl⟩
       refine kk [some 1] ?_
       have f8 := f8.mono (w0.trans d0).r
       refine xO1 (lds := [2]) 11 (xIe (lds := [2]) (w0.trans d0).r (eC 0 (fun g' lr eb ln => c98 g' ((List.drop 17 p) : List UInt8) (offA Ap cp 17 1) (cp - 17) (2 : Int) (f8.mono lr) d2)) ?_)
       rintro _ j7 _ t1 ⟨_, rfl, rfl, rfl⟩
       refine kk [some 1] (xt 3 [12] [] [some 1] [2, 4, 18, 21, 28, 30] RG (w0.trans (d0.trans t1)).r ?_)
       have f9 := f9.mono (w0.trans (d0.trans t1)).r
       refine xO1 (lds := [2]) 15 (xIe (lds := [2]) (w0.trans (d0.trans t1)).r (eC 0 (fun g' lr eb ln => c43 g' ((List.drop 19 p) : List UInt8) (offA Ap cp 19 1) (cp - 19) (f9.mono lr) z2)) ?_)
       rintro _ z7 _ d3 ⟨_, rfl, j0, i0, v0, rfl, rfl, p0⟩
       refine kk [some 2] ?_
       have w1 := p0.len
       refine xt 1 [16] [] [some 2] [2, 4, 32] RG (w0.trans (d0.trans (t1.trans d3))).r (xSel (sm [1, 0, 2]) (xc [2, 4, 32] ?_))
       exact l1 _ _ _ (w0.trans (d0.trans (t1.trans d3))) ⟨j0, i0, v0, f4, by kernel_rfl, by kernel_rfl, p0⟩
     ·refine xIe (lds := [2]) w0.r eB ?_
      rintro _ _ _ - ⟨i4, rfl, rfl, rfl⟩
      refine kk [some 1] ?_
      have f7 := f7.mono w0.r
      refine xO1 (lds := [2]) 8 (xIe (lds := [2]) w0.r (eC 0 (fun g' lr eb ln => c98 g' ((List.drop 9 p) : List UInt8) (offA Ap cp 9 1) (cp - 9) (8 : Int) (f7.mono lr) j3)) ?_)
      rintro _ z6 _ j1 ⟨_, rfl, rfl, rfl⟩
      refine kk [some 1] ?_
      have f8 := f8.mono (w0.trans j1).r
      refine xO1 (lds := [2]) 11 (xIe (lds := [2]) (w0.trans j1).r (eC 0 (fun g' lr eb ln => c98 g' ((List.drop 17 p) : List UInt8) (offA Ap cp 17 1) (cp - 17) (2 : Int) (f8.mono lr) d2)) ?_)
      rintro _ i7 _ v1 ⟨_, rfl, rfl, rfl⟩
      refine kk [some 1] (xt 3 [12] [] [some 1] [2, 4, 18, 21, 28, 30] RG (w0.trans (j1.trans v1)).r ?_)
      have f9 := f9.mono (w0.trans (j1.trans v1)).r
      refine xO1 (lds := [2]) 15 (xIe (lds := [2]) (w0.trans (j1.trans v1)).r (eC 0 (fun g' lr eb ln => c43 g' ((List.drop 19 p) : List UInt8) (offA Ap cp 19 1) (cp - 19) (f9.mono lr) z2)) ?_)
      rintro _ i6 _ v3 ⟨_, rfl, j0, i0, v0, rfl, rfl, p0⟩
      refine kk [some 2] ?_
      have w1 := p0.len
      refine xt 1 [16] [] [some 2] [2, 4, 32] RG (w0.trans (j1.trans (v1.trans v3))).r (xSel (sm [1, 0, 2]) (xc [2, 4, 32] ?_))
      exact l1 _ _ _ (w0.trans (j1.trans (v1.trans v3))) ⟨j0, i0, v0, i4, by kernel_rfl, by kernel_rfl, p0⟩
    ·refine xIe (lds := [2]) pR eB ?_
     rintro _ _ _ - ⟨l4, rfl, rfl, rfl⟩
     refine kk [some 1] (xO1 (lds := [2]) 5 (xIe (lds := [2]) pR (eC 0 (fun g' lr eb ln => c98 g' ((List.drop 1 p) : List UInt8) (offA Ap cp 1 1) (cp - 1) (8 : Int) (f6.mono lr) l3)) ?_))
     rintro _ j8 _ f0 ⟨_, rfl, rfl, rfl⟩
     refine kk [some 1] ?_
     have f7 := f7.mono f0.r
     refine xO1 (lds := [2]) 8 (xIe (lds := [2]) f0.r (eC 0 (fun g' lr eb ln => c98 g' ((List.drop 9 p) : List UInt8) (offA Ap cp 9 1) (cp - 9) (8 : Int) (f7.mono lr) j3)) ?_)
     rintro _ p7 _ z1 ⟨_, rfl, rfl, rfl⟩
     refine kk [some 1] ?_
     have f8 := f8.mono (f0.trans z1).r
     refine xO1 (lds := [2]) 11 (xIe (lds := [2]) (f0.trans z1).r (eC 0 (fun g' lr eb ln => c98 g' ((List.drop 17 p) : List UInt8) (offA Ap cp 17 1) (cp - 17) (2 : Int) (f8.mono lr) d2)) ?_)
     rintro _ v6 _ w2 ⟨_, rfl, rfl, rfl⟩
     refine kk [some 1] (xt 3 [12] [] [some 1] [2, 4, 18, 21, 28, 30] RG (f0.trans (z1.trans w2)).r ?_)
     have f9 := f9.mono (f0.trans (z1.trans w2)).r
     refine xO1 (lds := [2]) 15 (xIe (lds := [2]) (f0.trans (z1.trans w2)).r (eC 0 (fun g' lr eb ln => c43 g' ((List.drop 19 p) : List UInt8) (offA Ap cp 19 1) (cp - 19) (f9.mono lr) z2)) ?_)
     rintro _ v7 _ t3 ⟨_, rfl, j0, i0, v0, rfl, rfl, p0⟩
     refine kk [some 2] ?_
     have w1 := p0.len
     refine xt 1 [16] [] [some 2] [2, 4, 32] RG (f0.trans (z1.trans (w2.trans t3))).r (xSel (sm [1, 0, 2]) (xc [2, 4, 32] ?_))
     exact l1 _ _ _ (f0.trans (z1.trans (w2.trans t3))) ⟨j0, i0, v0, l4, by kernel_rfl, by kernel_rfl, p0⟩

end Go.Proofs.YtnidomdebhekiaaGreat
