/-
Walks, printed by wip/gen, with half of their indentation. Conditions: each theorem's own.
-/
import Derived.Test.YtnidomdebhekiaaGreatC11
namespace Go.Proofs.YtnidomdebhekiaaGreat
set_option linter.unusedVariables false
set_option linter.unusedSimpArgs false
open Go.RowKit
set_option maxRecDepth 100000
def o42 (n : Node) : Node :=
 (letJ (o43 n.input) fun y2 => (letJ (o43 n.heard.input) fun y5 => (letJ (o43 n.set_.in_) fun y8 => (({ n with input := y2, heard := { n.heard with input := y5 }, set_ := { n.set_ with in_ := y8 } })))))
theorem c42 (g : Gh) (a_n : Addr) (n : Node) (z1 : OA) (w1 : Nat) (w0 : OA) (j0 : Nat) (d0 : OA) (p0 : Nat) (v1 : Cells g.r a_n (cNode n z1 w1 w0 j0 d0 p0)) (w2 : Arr g.r tyU8 z1 w1 n.input) (i0 : Arr g.r tyU8 w0 j0 n.heard.input) (f0 : Arr g.r tyU8 d0 p0 n.set_.in_) {r : Node} (hS : o42 n = r) :
  Ctr Tryz.prog 42 [Value.pointer (some a_n)] g [] (fun v ψ o => ∃ (j2 : Nat) (d1 : OA) (t1 : Nat) (v0 : OA) (l0 : Nat) (j1 : OA) (i1 : Nat), v = vp j2 0 ∧ o = [some ⟨j2, 126, (cNode r d1 t1 v0 l0 j1 i1)⟩] ∧ Arr ψ tyU8 d1 t1 r.input ∧ Arr ψ tyU8 v0 l0 r.heard.input ∧ Arr ψ tyU8 j1 i1 r.set_.in_) := by
 unfold o42 at hS
 refine xFn Tryz.f42 (Tryz.f42.body.getD .skip) 31 (xSq (xRg (xb 1 [] [0] (xRe (xW (xSq (xSq (xRg (xb 2 [] [0, 5] (xRe (xW (xCf (xSk (xW (xc [0] (xSq (xRg (xb 2 [] [0, 7] (xV (qLdP a_n 0 v1) (xE eB ?_))))))))))))))))))))
 rintro _ _ _ - ⟨b1, rfl, rfl, rfl⟩
 refine xbo 1 [(4, 0)] [some ⟨b1, 126, (cNode n z1 w1 w0 j0 d0 p0)⟩] [0, 3] (xRe (xW (xSq ?_)))
 refine xDr 0 [3, 9, 15] [18, 21, 24, 17, 19, 20, 22, 23] [] 25 (fun RG => ?_) (fun _ _ _ _ _ h => h)
 refine xt 22 [0, 1, 2] [] [] [0, 3, 11] RG pR (xTv 3 [] RG pR (qLdP a_n 6 v1) (xt 17 [5, 6, 7, 8] [] [] [0, 3, 12, 17] RG pR (xTv 9 [] RG pR (qLdP a_n 11 v1) (xt 12 [11, 12, 13, 14] [] [] [3, 12, 18, 23] RG pR (xTv 15 [] RG pR (qLdP a_n 17 v1) ?_)))))
 obtain ⟨y2, hy2, hS⟩ := letJ_T hS
 refine xO1 (lds := [3, 9, 15]) 4 (xIe (lds := [3, 9, 15]) pR (eC 0 (fun g' lr eb ln => c43 g' n.input z1 w1 (w2.mono lr) hy2)) ?_)
 rintro _ g3 _ e4 ⟨_, rfl, f2, d2, t3, rfl, rfl, l1⟩
 refine kk [] ?_
 have i0 := i0.mono e4.r
 obtain ⟨y5, hy5, hS⟩ := letJ_T hS
 refine xO1 (lds := [3, 9, 15]) 10 (xIe (lds := [3, 9, 15]) e4.r (eC 0 (fun g' lr eb ln => c43 g' n.heard.input w0 j0 (i0.mono lr) hy5)) ?_)
 rintro _ g6 _ e7 ⟨_, rfl, w3, z3, j3, rfl, rfl, z2⟩
 refine kk [] ?_
 have f0 := f0.mono (e4.trans e7).r
 obtain ⟨y8, hy8, hS⟩ := letJ_T hS
 refine xO1 (lds := [3, 9, 15]) 16 (xIe (lds := [3, 9, 15]) (e4.trans e7).r (eC 0 (fun g' lr eb ln => c43 g' n.set_.in_ d0 p0 (f0.mono lr) hy8)) ?_)
 rintro _ g9 _ e10 ⟨_, rfl, v2, a2, d3, rfl, rfl, f1⟩
 refine kk [] (xt 7 [17] [] [] [3, 13, 19, 25, 26] RG (e4.trans (e7.trans e10)).r (xO1 (lds := [3, 9, 15]) 18 (xId (lds := [3, 9, 15]) (e4.trans (e7.trans e10)).r (eStL b1 6 3) ?_)))
 rintro _ _ _ - ⟨rfl, rfl⟩
 refine kf (xt 4 [19, 20] [] [] [3, 19, 25, 28] RG (e4.trans (e7.trans e10)).r (xO1 (lds := [3, 9, 15]) 21 (xId (lds := [3, 9, 15]) (e4.trans (e7.trans e10)).r (eStL b1 11 3) ?_)))
 rintro _ _ _ - ⟨rfl, rfl⟩
 refine kf (xt 1 [22, 23] [] [] [3, 25, 30] RG (e4.trans (e7.trans e10)).r (xO1 (lds := [3, 9, 15]) 24 (xId (lds := [3, 9, 15]) (e4.trans (e7.trans e10)).r (eStL b1 17 3) ?_)))
 rintro _ _ _ - ⟨rfl, rfl⟩
 refine kf (xAe (lds := [3, 9, 15]) (xW (xc [3] (xSq (xRg (xb 1 [] [2] (xRe (xW ?_))))))))
 have l1 := l1.mono (e7.trans e10).b
 refine wpq_freeze 2 (by kernel_rfl) l1 (fun g11 e12 f13 => ?_)
 have z2 := z2.mono (e10.trans e12).b
 refine wpq_freeze 1 (by kernel_rfl) z2 (fun g14 e15 f16 => ?_)
 have f1 := f1.mono (e12.trans e15).b
 refine wpq_freeze 0 (by kernel_rfl) f1 (fun g17 e18 f19 => ?_)
 have f13 := f13.mono (e15.trans e18).b
 have f16 := f16.mono e18.b
 have eS := hS.symm
 subst eS
 exact xRet [some 3] [2] (e4.trans (e7.trans (e10.trans (e12.trans (e15.trans e18))))) ⟨b1, f2, d2, w3, z3, v2, a2, by kernel_rfl, by kernel_rfl, f13, f16, f19⟩ (fun _ _ h => h)

def o9 (c : Comp) : Comp × Node :=
 (letJ (o42 c.node) fun y1 => (((⟨c.number, c.node, c.sender, c.collector, c.next_, c.cycle, (c.asked), c.want⟩ : Comp), y1)))
theorem c9 (g : Gh) (b_c : Nat) (c : Comp) (w4 : Nat) (l0 : OA) (f0 : Nat) (j0 : OA) (w0 : Nat) (p0 : OA) (i0 : Nat) (t4 : Nat) (j2 : OA) (z2 : Nat) (f2 : Nat) (z1 : OA) (j1 : Nat) (i1 : OB) (v1 : OA) (t1 : Nat) (d1 : OB) (f1 : Arr g.b tyU8 l0 f0 c.node.input) (d0 : Arr g.b tyU8 j0 w0 c.node.heard.input) (v0 : Arr g.b tyU8 p0 i0 c.node.set_.in_) (w2 : Arr g.b tyPiece j2 z2 c.sender.pieces) (w1 : Buf g.b (tyArr tyU8) 28 (.slice z1 (c.collector.parts).length j1) i1 c.collector.parts) (l1 : Buf g.b tySett 92 (.slice v1 (c.collector.sets).length t1) d1 c.collector.sets) {r : Comp × Node} (hS : o9 c = r) :
  Ctr Tryz.prog 9 [vp b_c 0] g [some ⟨b_c, 77, [vi c.number, vp w4 0, vp t4 0, vp f2 0, vi c.next_, vi c.cycle, vb c.asked, vi c.want.base, vi c.want.have_]⟩, some ⟨w4, 126, (cNode c.node l0 f0 j0 w0 p0 i0)⟩, some ⟨t4, 130, [vs j2 c.sender.pieces z2]⟩, some ⟨f2, 132, (cColl c.collector z1 j1 v1 t1)⟩, i1, d1] (fun v ψ o => ∃ (i4 : OA) (d4 : Nat) (v2 : OA) (d2 : Nat) (v3 : OA) (f3 : Nat) (a3 : OA) (l3 : Nat) (w3 : OA) (z3 : Nat) (a2 : OB) (d3 : OA) (t3 : Nat) (j3 : OB) (a5 : Nat) (z5 : OA) (j5 : Nat) (z4 : OA) (j4 : Nat) (v4 : OA) (l4 : Nat), v = vp a5 0 ∧ o = [some ⟨a5, 126, (cNode r.2 z5 j5 z4 j4 v4 l4)⟩, some ⟨b_c, 77, [vi r.1.number, vp w4 0, vp t4 0, vp f2 0, vi r.1.next_, vi r.1.cycle, vb r.1.asked, vi r.1.want.base, vi r.1.want.have_]⟩, some ⟨w4, 126, (cNode r.1.node i4 d4 v2 d2 v3 f3)⟩, some ⟨t4, 130, [vs a3 r.1.sender.pieces l3]⟩, some ⟨f2, 132, (cColl r.1.collector w3 z3 d3 t3)⟩, a2, j3] ∧ Arr ψ tyU8 i4 d4 r.1.node.input ∧ Arr ψ tyU8 v2 d2 r.1.node.heard.input ∧ Arr ψ tyU8 v3 f3 r.1.node.set_.in_ ∧ Arr ψ tyPiece a3 l3 r.1.sender.pieces ∧ Buf ψ (tyArr tyU8) 28 (.slice w3 (r.1.collector.parts).length z3) a2 r.1.collector.parts ∧ Buf ψ tySett 92 (.slice d3 (r.1.collector.sets).length t3) j3 r.1.collector.sets ∧ Arr ψ tyU8 z5 j5 r.2.input ∧ Arr ψ tyU8 z4 j4 r.2.heard.input ∧ Arr ψ tyU8 v4 l4 r.2.set_.in_) := by
 unfold o9 at hS
 refine xFn Tryz.f9 (Tryz.f9.body.getD .skip) 10 (xSq (xRg (xb 1 [] [0] (xRe (xW (xSq (xSq (xRg (xb 2 [] [0, 4] (xRe (xW (xCf (xSk (xW (xc [0] (xSq (xRg (xb 4 [(3, 0)] [8] ?_))))))))))))))))))
 obtain ⟨y1, hy1, hS⟩ := letJ_T hS
 refine xE (eC 0 (fun g' lr eb ln => c42 g' ⟨w4, 0, none⟩ c.node l0 f0 j0 w0 p0 i0 (cells_lent' 1 w4 0 (cNode c.node l0 f0 j0 w0 p0 i0) ln) ((f1.mono g.br).mono lr) ((d0.mono g.br).mono lr) ((v0.mono g.br).mono lr) hy1)) ?_
 rintro _ g2 _ e3 ⟨_, rfl, w6, f5, l5, a4, w5, d5, i5, rfl, rfl, v5, f4, t5⟩
 refine xb 1 [] [2] (xRe (xW ?_))
 have f1 := f1.mono e3.b
 have d0 := d0.mono e3.b
 have v0 := v0.mono e3.b
 have w2 := w2.mono e3.b
 have w1 := w1.mono e3.b
 have l1 := l1.mono e3.b
 have eS := hS.symm
 subst eS
 exact xRet (sm [0, 1, 2, 3, 4, 5, 6]) [2] e3 ⟨l0, f0, j0, w0, p0, i0, j2, z2, z1, j1, i1, v1, t1, d1, w6, f5, l5, a4, w5, d5, i5, by kernel_rfl, by kernel_rfl, f1, d0, v0, w2, w1, l1, v5, f4, t5⟩ (fun _ _ h => h)

def o3_L0 (number : Int) (calls : List CallT) (s20 : Nat × RComp × Int × Int × Int × Bool × Int × Int × Node × (List Piece) × Coll) : Option (Ctl (Nat × RComp × Int × Int × Int × Bool × Int × Int × Node × (List Piece) × Coll) (Ctl (Unit) (Bool))) :=
 (cond ((decide ((s20.1 : Int) < (((calls).length : Nat) : Int)) && decide ((s20.1 : Int) < 32))) (bindO (o7 ((List.getD calls s20.1 default).frame.payload : List UInt8) (900 : Int)) fun y28 => (bindO (o7 ((List.getD calls s20.1 default).input : List UInt8) (1500 : Int)) fun y31 => (bindO (o8 (⟨s20.2.2.1, s20.2.2.2.2.2.2.2.2.1, (⟨s20.2.2.2.2.2.2.2.2.2.1⟩ : Sender), s20.2.2.2.2.2.2.2.2.2.2, s20.2.2.2.1, s20.2.2.2.2.1, (s20.2.2.2.2.2.1), (⟨s20.2.2.2.2.2.2.1, s20.2.2.2.2.2.2.2.1⟩ : Want)⟩ : Comp) s20.2.1 ({ (List.getD calls s20.1 default) with input := y31, frame := (⟨(List.getD calls s20.1 default).frame.label, (List.getD calls s20.1 default).frame.from_, (List.getD calls s20.1 default).frame.cycle, y28⟩ : Frame) })) fun y34 => (letJ (τ := Bool × Int × Int × Int × Bool × Int × Int × Node × (List Piece) × Coll) (cond ((!y34.2.2)) (true, y34.1.number, y34.1.next_, y34.1.cycle, y34.1.asked, y34.1.want.base, y34.1.want.have_, y34.1.node, y34.1.sender.pieces, y34.1.collector) (letJ (o9 (⟨y34.1.number, y34.1.node, y34.1.sender, y34.1.collector, y34.1.next_, y34.1.cycle, (y34.1.asked), y34.1.want⟩ : Comp)) fun y54 => (letJ (o10 y54.2) fun y57 => ((y57 != y34.2.1.node.role), y54.1.number, y54.1.next_, y54.1.cycle, y54.1.asked, y54.1.want.base, y54.1.want.have_, y54.1.node, y54.1.sender.pieces, y54.1.collector)))) fun t38 => (letJ (τ := Bool × Int × Int × Int × Bool × Int × Int × Node × (List Piece) × Coll) (cond (t38.1) (true, t38.2.1, t38.2.2.1, t38.2.2.2.1, t38.2.2.2.2.1, t38.2.2.2.2.2.1, t38.2.2.2.2.2.2.1, t38.2.2.2.2.2.2.2.1, t38.2.2.2.2.2.2.2.2.1, t38.2.2.2.2.2.2.2.2.2) (letJ (o9 (⟨t38.2.1, t38.2.2.2.2.2.2.2.1, (⟨t38.2.2.2.2.2.2.2.2.1⟩ : Sender), t38.2.2.2.2.2.2.2.2.2, t38.2.2.1, t38.2.2.2.1, (t38.2.2.2.2.1), (⟨t38.2.2.2.2.2.1, t38.2.2.2.2.2.2.1⟩ : Want)⟩ : Comp)) fun y47 => (letJ (o11 y47.2) fun y50 => ((y50 != y34.2.1.node.steps), y47.1.number, y47.1.next_, y47.1.cycle, y47.1.asked, y47.1.want.base, y47.1.want.have_, y47.1.node, y47.1.sender.pieces, y47.1.collector)))) fun t41 => (cond (t41.1) (some (Ctl.done (Ctl.done ((false))))) (grd (decide ((s20.1 : Int) + 1 ≤ 9223372036854775807)) (some (Ctl.go ((s20.1 + 1), y34.2.1, t41.2.1, t41.2.2.1, t41.2.2.2.1, t41.2.2.2.2.1, t41.2.2.2.2.2.1, t41.2.2.2.2.2.2.1, t41.2.2.2.2.2.2.2.1, t41.2.2.2.2.2.2.2.2.1, t41.2.2.2.2.2.2.2.2.2)))))))))) (some (Ctl.done (Ctl.go ()))))
def o3 (number : Int) (calls : List CallT) : Option (Bool) :=
 (bindO (o4) fun y1 => (cond ((!y1)) (some ((false))) (bindO (o5 (number : Int)) fun y5 => (letJ (o6 (number : Int)) fun y8 => (cond ((y5.2 != y8.2)) (some ((false))) (cond ((y5.2 != 0)) (some (((Option.isNone (y5.1))))) (joinO (τ := Unit) (ρ := Bool) (bindO (τ := Comp) (y5.1) fun d17 => (loopO (σ := Nat × RComp × Int × Int × Int × Bool × Int × Int × Node × (List Piece) × Coll) (ρ := Ctl (Unit) (Bool)) fuelN (o3_L0 number calls) (0, y8.1, d17.number, d17.next_, d17.cycle, d17.asked, d17.want.base, d17.want.have_, d17.node, d17.sender.pieces, d17.collector))) fun t14 => (some ((true))))))))))
set_option maxHeartbeats 8000000 in
theorem c3 (g : Gh) (number : Int) (calls : List CallT) (a15 : OA) (w15 : Nat) (a20 : Arr g.b tyCallT a15 w15 calls) {r : Bool} (hS : o3 number calls = some r) :
  Ctr Tryz.prog 3 [vi number, vs a15 calls w15] g [] (fun v ψ o => v = vb r ∧ o = []) := by
 unfold o3 at hS
 refine xFn Tryz.f3 (Tryz.f3.body.getD .skip) 84 ?_
 have z30 := a20.len
 refine xSq (xRg (xb 1 [] [0, 1] (xRe (xW (xSq (xSq (xRg ?_)))))))
 obtain ⟨y1, hy1, hS⟩ := bindO_T hS
 refine xE (eC 0 (fun g' lr eb ln => c4 g'  hy1)) ?_
 rintro _ g2 _ e3 ⟨_, rfl, rfl, rfl⟩
 refine xb 1 [] [0, 1, 14] (xRe (xW ?_))
 refine xCd ((!y1)) (fun h4 => ?_) (fun h4 => ?_)
 ·have hS := cond_T h4 hS
  have h4n := not_eq_true_ h4
  refine xSq (xRg (xb 1 [] [4] (xRe (xW ?_))))
  obtain rfl := Option.some.inj hS
  exact xRet [] [4] e3 ⟨by kernel_rfl, by kernel_rfl⟩ (fun _ _ h => h)
 ·have hS := cond_F h4 hS
  have h4n := not_eq_false_ h4
  refine xSk (xW (xc [0, 1] (xSq (xRg (xb 1 [] [0, 1, 16] ?_)))))
  obtain ⟨y5, hy5, hS⟩ := bindO_T hS
  refine xE (eC 0 (fun g' lr eb ln => c5 g' (number : Int) hy5)) ?_
  rintro _ g6 _ e7 ⟨_, rfl, w31, t28, j27, a26, t27, d24, t24, rfl, rfl, j28, t26⟩
  refine xb 5 [] [0, 1, 5, 6] (xRe (xW (xSq (xRg (xb 1 [] [1, 5, 6, 21] ?_)))))
  obtain ⟨y8, hy8, hS⟩ := letJ_T hS
  refine xE (eC 0 (fun g' lr eb ln => c6 g' (number : Int) hy8)) ?_
  rintro _ g9 _ e10 ⟨_, rfl, f13, a13, w11, a10, a12, l12, l11, z12, i12, p12, rfl, rfl, l13, z11, f12, i11, j12⟩
  have t25 := l13.len
  have z22 := z11.len
  have z24 := f12.len
  have f22 := i11.len
  have p23 := j12.len
  refine xb 3 [] [1, 5, 6, 23, 24] (xE eB ?_)
  rintro _ _ _ - ⟨b11, rfl, rfl, rfl⟩
  refine xbo 2 [(6, 0)] [some ⟨b11, 45, (cRComp y8.1 f13 a13 w11 a10 a12 l12 l11 z12 i12 p12)⟩, t28, j27, a26, t27, d24, t24] [1, 5, 6, 7, 8] (xRe (xW (xSq (xSq (xRg (xb 3 [] [1, 5, 6, 7, 27] (xRe (xW ?_))))))))
  refine xCd ((y5.2 != y8.2)) (fun h12 => ?_) (fun h12 => ?_)
  ·have hS := cond_T h12 hS
   have a29 : ¬ (y5.2 = y8.2) := ne_of_bne_ h12
   refine xSq (xRg (xb 1 [] [4] (xRe (xW ?_))))
   obtain rfl := Option.some.inj hS
   exact xRet [] [4] (e3.trans (e7.trans e10)) ⟨by kernel_rfl, by kernel_rfl⟩ (fun _ _ h => h)
  ·have hS := cond_F h12 hS
   have a29 : y5.2 = y8.2 := eq_of_bne_false_ h12
   refine xSk (xW (xc [1, 5, 6, 7] (xSq (xSq (xRg (xb 2 [] [1, 5, 7, 29] (xRe (xW ?_))))))))
   refine xCd ((y5.2 != 0)) (fun h13 => ?_) (fun h13 => ?_)
   ·have hS := cond_T h13 hS
    have a28 : ¬ (y5.2 = 0) := ne_of_bne_ h13
    refine xSq (xRg (xb 1 [] [30] (xV (qPn j28 (fun d h => by obtain ⟨_, _, _, _, _, _, _, _, _, _, _, _, _, _, _, _, _, _, h1, _⟩ := t26 d h; exact ⟨_, h1⟩)) (xb 1 [] [4] (xRe (xW ?_))))))
    obtain rfl := Option.some.inj hS
    exact xRet [] [4] (e3.trans (e7.trans e10)) ⟨by kernel_rfl, by kernel_rfl⟩ (fun _ _ h => h)
   ·have hS := cond_F h13 hS
    have a28 : y5.2 = 0 := eq_of_bne_false_ h13
    refine xSk (xW (xc [1, 5, 7] (xSq (xSq (xRg (xb 1 [] [1, 5, 7, 9] (xRe (xW ?_))))))))
    refine xJoinO hS (fun g own sl t14 => own = [] ∧ sl = []) ?_ ?_
    ·rintro g15 _ _ t14 e16 ⟨rfl, rfl⟩ hS
     refine xW (xSq (xRg (xb 1 [] [4] (xRe (xW ?_)))))
     obtain rfl := Option.some.inj hS
     exact xRet [] [4] (e3.trans (e7.trans (e10.trans e16))) ⟨by kernel_rfl, by kernel_rfl⟩ (fun _ _ h => h)
    ·intro uu14 hS hN14 hD14
     refine xBl 0 ?_
     obtain ⟨d17, f29, hS⟩ := bindO_T hS
     obtain ⟨t11, f1, l20, d20, v15, d15, p18, i18, z1, z18, j18, w0, d16, v16, z23, f17, p17, w24, rfl, rfl, rfl, rfl, rfl, rfl, rfl, z9, w4, w6, z6, w5, v5⟩ := t26 d17 f29
     have v25 := z9.len
     have a21 := w4.len
     have j24 := w6.len
     have i24 := z6.len
     have p22 := w5.len
     have a23 := v5.len
     have z9 := z9.mono e10.b
     have w4 := w4.mono e10.b
     have w6 := w6.mono e10.b
     have z6 := z6.mono e10.b
     have w5 := w5.mono e10.b
     have v5 := v5.mono e10.b
     refine xc [1, 5, 7, 9] (xLo hS (fun g own sl s20 => ∃ (j1 : OA) (t1 : Nat) (i0 : OA) (j0 : Nat) (f0 : OA) (w1 : Nat) (d0 : OA) (p0 : Nat) (v0 : OA) (l0 : Nat) (p8 : OA) (j8 : Nat) (w3 : OA) (a2 : Nat) (z5 : OA) (j5 : Nat) (v18 : OA) (z19 : Nat) (j7 : OA) (l6 : Nat) (j9 : OB) (i8 : OA) (d8 : Nat) (l9 : OB), own = [some ⟨b11, 45, (cRComp s20.2.1 j1 t1 i0 j0 f0 w1 d0 p0 v0 l0)⟩, some ⟨t11, 77, [vi s20.2.2.1, vp f1 0, vp z1 0, vp w0 0, vi s20.2.2.2.1, vi s20.2.2.2.2.1, vb s20.2.2.2.2.2.1, vi s20.2.2.2.2.2.2.1, vi s20.2.2.2.2.2.2.2.1]⟩, some ⟨f1, 126, (cNode s20.2.2.2.2.2.2.2.2.1 p8 j8 w3 a2 z5 j5)⟩, some ⟨z1, 130, [vs v18 s20.2.2.2.2.2.2.2.2.2.1 z19]⟩, some ⟨w0, 132, (cColl s20.2.2.2.2.2.2.2.2.2.2 j7 l6 i8 d8)⟩, j9, l9] ∧ sl = [(1, vs a15 calls w15), (5, vp t11 0), (7, vp b11 0), (9, vi (s20.1 : Int))] ∧ Arr g.b tyU8 j1 t1 s20.2.1.node.input ∧ Arr g.b tyU8 i0 j0 s20.2.1.node.heard.input ∧ Arr g.b tyPiece f0 w1 s20.2.1.sender.pieces ∧ Arr g.b (tyArr tyU8) d0 p0 s20.2.1.collector.parts ∧ Arr g.b tySett v0 l0 s20.2.1.collector.sets ∧ Arr g.b tyU8 p8 j8 s20.2.2.2.2.2.2.2.2.1.input ∧ Arr g.b tyU8 w3 a2 s20.2.2.2.2.2.2.2.2.1.heard.input ∧ Arr g.b tyU8 z5 j5 s20.2.2.2.2.2.2.2.2.1.set_.in_ ∧ Arr g.b tyPiece v18 z19 s20.2.2.2.2.2.2.2.2.2.1 ∧ Buf g.b (tyArr tyU8) 28 (.slice j7 (s20.2.2.2.2.2.2.2.2.2.2.parts).length l6) j9 s20.2.2.2.2.2.2.2.2.2.2.parts ∧ Buf g.b tySett 92 (.slice i8 (s20.2.2.2.2.2.2.2.2.2.2.sets).length d8) l9 s20.2.2.2.2.2.2.2.2.2.2.sets) ⟨f13, a13, w11, a10, a12, l12, l11, z12, i12, p12, l20, d20, v15, d15, p18, i18, z18, j18, d16, v16, d24, f17, p17, t24, by kernel_rfl, by kernel_rfl, l13, z11, f12, i11, j12, z9, w4, w6, z6, w5, v5⟩ ?_)
     rintro g21 _ _ s20 a30 e22 ⟨j1, t1, i0, j0, f0, w1, d0, p0, v0, l0, p8, j8, w3, a2, z5, j5, v18, z19, j7, l6, j9, i8, d8, l9, rfl, rfl, w8, t3, i5, l3, a4, v12, d6, i9, z21, d11, t12⟩ hS z31 p29 i27
     have p25 := w8.len
     have d21 := t3.len
     have w23 := i5.len
     have f21 := l3.len
     have l22 := a4.len
     have d27 := v12.len
     have v24 := d6.len
     have w26 := i9.len
     have d30 := z21.len
     have l26 := d11.len
     have f27 := t12.len
     unfold o3_L0 at hS
     refine xSq (xSq (xRg (xb 5 [] [1, 5, 7, 9, 36] ?_)))
     refine wpr_grp 8 [(1, vs a15 calls w15), (5, vp t11 0), (7, vp b11 0), (9, vi (s20.1 : Int)), (39, vb (decide ((s20.1 : Int) < (((calls).length : Nat) : Int)) && decide ((s20.1 : Int) < 32)))] (fun hk4 => ?_) ?_
     ·refine wpq_split 36 (b := decide ((s20.1 : Int) < (((calls).length : Nat) : Int))) (by kernel_rfl) (fun q23 => ?_) (fun q23 => ?_)
      ·have d29 := of_decide_eq_true q23
       refine xb 3 [] [1, 5, 7, 9, 39] (wpq_re 39 (v := vb (decide ((s20.1 : Int) < 32))) (Value.bool ((decide ((s20.1 : Int) < (((calls).length : Nat) : Int)) && decide ((s20.1 : Int) < 32)))) (by kernel_rfl) (re_and1 q23) ?_)
       exact wpq_sub _ (by kernel_rfl) hk4
      ·have d29 := of_decide_eq_false q23
       refine xb 3 [] [1, 5, 7, 9, 39] (wpq_re 39 (v := vb false) (Value.bool ((decide ((s20.1 : Int) < (((calls).length : Nat) : Int)) && decide ((s20.1 : Int) < 32)))) (by kernel_rfl) (re_and0 q23) ?_)
       exact wpq_sub _ (by kernel_rfl) hk4
     ·refine xRe ?_
      refine xW ?_
      refine xCd ((decide ((s20.1 : Int) < (((calls).length : Nat) : Int)) && decide ((s20.1 : Int) < 32))) (fun h24 => ?_) (fun h24 => ?_)
      ·have hS := cond_T h24 hS
       have v28 := (and_true_ h24).1
       have t29 := (and_true_ h24).2
       have l30 := of_decide_eq_true v28
       have v30 := of_decide_eq_true t29
       refine xSk (xW (xc [1, 5, 7, 9] (xSq (xBl 1 (xSq (xRg ?_))))))
       have a20 := a20.mono (e3.trans (e7.trans (e10.trans e22))).b
       have i26 : s20.1 < (calls).length := by omega
       obtain ⟨j29, f30, d28, v29, w30⟩ := a20.at_ (get_getD (d := default) i26)
       obtain ⟨d18, t18, p9, d9, rfl, w14, z13⟩ := v29
       have z28 := w14.len
       have p24 := z13.len
       refine xb 2 [] [1, 5, 7, 9, 42, 43] (xV (qIx s20.1 16 d28 rfl i26) (xV (qLdP (Addr.add j29 (s20.1 * 16)) 0 (w30.mono g21.br)) (xE eB ?_)))
       rintro _ _ _ - ⟨b27, rfl, rfl, rfl⟩
       refine xbo 1 [(5, 0)] [some ⟨b27, 51, (cCallT (List.getD calls s20.1 default) d18 t18 p9 d9)⟩, some ⟨b11, 45, (cRComp s20.2.1 j1 t1 i0 j0 f0 w1 d0 p0 v0 l0)⟩, some ⟨t11, 77, [vi s20.2.2.1, vp f1 0, vp z1 0, vp w0 0, vi s20.2.2.2.1, vi s20.2.2.2.2.1, vb s20.2.2.2.2.2.1, vi s20.2.2.2.2.2.2.1, vi s20.2.2.2.2.2.2.2.1]⟩, some ⟨f1, 126, (cNode s20.2.2.2.2.2.2.2.2.1 p8 j8 w3 a2 z5 j5)⟩, some ⟨z1, 130, [vs v18 s20.2.2.2.2.2.2.2.2.2.1 z19]⟩, some ⟨w0, 132, (cColl s20.2.2.2.2.2.2.2.2.2.2 j7 l6 i8 d8)⟩, j9, l9] [1, 5, 7, 9, 10] (xRe (xW (xSq ?_)))
       refine xDr 0 [2, 5] [9, 11, 7, 8, 10] [some ⟨b27, 51, (cCallT (List.getD calls s20.1 default) d18 t18 p9 d9)⟩, some ⟨b11, 45, (cRComp s20.2.1 j1 t1 i0 j0 f0 w1 d0 p0 v0 l0)⟩, some ⟨t11, 77, [vi s20.2.2.1, vp f1 0, vp z1 0, vp w0 0, vi s20.2.2.2.1, vi s20.2.2.2.2.1, vb s20.2.2.2.2.2.1, vi s20.2.2.2.2.2.2.1, vi s20.2.2.2.2.2.2.2.1]⟩, some ⟨f1, 126, (cNode s20.2.2.2.2.2.2.2.2.1 p8 j8 w3 a2 z5 j5)⟩, some ⟨z1, 130, [vs v18 s20.2.2.2.2.2.2.2.2.2.1 z19]⟩, some ⟨w0, 132, (cColl s20.2.2.2.2.2.2.2.2.2.2 j7 l6 i8 d8)⟩] 12 (fun RG => ?_) (fun _ _ _ _ _ h => h)
       refine xt 7 [0, 1, 2, 4, 5] [(2, 0), (5, 0)] (sm [0, 1, 2, 3, 4, 5]) [1, 5, 7, 9, 10, 48, 51] RG pR ?_
       obtain ⟨y28, i28, hS⟩ := bindO_T hS
       refine xO1 (lds := [2, 5]) 3 (xIe (lds := [2, 5]) pR (eC 0 (fun g' lr eb ln => c7 g' ((List.getD calls s20.1 default).frame.payload : List UInt8) p9 d9 (900 : Int) (by rw [eb]; exact z13) i28)) ?_)
       rintro _ g29 _ e30 ⟨_, rfl, w19, f18, rfl, rfl, w21⟩
       refine kk (sm [0, 1, 2, 3, 4, 5]) ?_
       have p30 := w21.len
       refine xt 4 [7, 8] [] (sm [0, 1, 2, 3, 4, 5]) [1, 5, 7, 9, 10, 49, 51, 54] RG e30.r ?_
       have w14 := w14.mono e30.b
       obtain ⟨y31, z29, hS⟩ := bindO_T hS
       refine xO1 (lds := [2, 5]) 6 (xIe (lds := [2, 5]) e30.r (eC 0 (fun g' lr eb ln => c7 g' ((List.getD calls s20.1 default).input : List UInt8) d18 t18 (1500 : Int) (by rw [eb]; exact w14) z29)) ?_)
       rintro _ g32 _ e33 ⟨_, rfl, a18, l18, rfl, rfl, d26⟩
       refine kk (sm [0, 1, 2, 3, 4, 5]) ?_
       have t30 := d26.len
       refine xO1 (lds := [2, 5]) 9 (xId (lds := [2, 5]) (e30.trans e33).r (eStL b27 7 0) ?_)
       rintro _ _ _ - ⟨rfl, rfl⟩
       refine kf (xO1 (lds := [2, 5]) 10 (xIb (lds := [2, 5]) [] (xO1 (lds := [2, 5]) 11 (xId (lds := [2, 5]) (e30.trans e33).r (eStL b27 3 0) ?_))))
       rintro _ _ _ - ⟨rfl, rfl⟩
       refine kf (xAe (lds := [2, 5]) (xW (xc [1, 5, 7, 9, 10] (xSq (xRg (xb 3 [(1, 1), (2, 0)] [1, 5, 7, 9, 57, 58, 59] (xSel (sm [2, 3, 4, 5, 6, 7, 0, 1]) ?_)))))))
       have v12 := v12.mono (e30.trans e33).b
       have d6 := d6.mono (e30.trans e33).b
       have i9 := i9.mono (e30.trans e33).b
       have z21 := z21.mono (e30.trans e33).b
       have d11 := d11.mono (e30.trans e33).b
       have t12 := t12.mono (e30.trans e33).b
       have w8 := w8.mono (e30.trans e33).b
       have t3 := t3.mono (e30.trans e33).b
       have i5 := i5.mono (e30.trans e33).b
       have l3 := l3.mono (e30.trans e33).b
       have a4 := a4.mono (e30.trans e33).b
       have w21 := w21.mono e33.b
       obtain ⟨y34, w29, hS⟩ := bindO_T hS
       refine xE (eC 6 (fun g' lr eb ln => c8 g' t11 (⟨s20.2.2.1, s20.2.2.2.2.2.2.2.2.1, (⟨s20.2.2.2.2.2.2.2.2.2.1⟩ : Sender), s20.2.2.2.2.2.2.2.2.2.2, s20.2.2.2.1, s20.2.2.2.2.1, (s20.2.2.2.2.2.1), (⟨s20.2.2.2.2.2.2.1, s20.2.2.2.2.2.2.2.1⟩ : Want)⟩ : Comp) f1 p8 j8 w3 a2 z5 j5 z1 v18 z19 w0 j7 l6 j9 i8 d8 l9 s20.2.1 j1 t1 i0 j0 f0 w1 d0 p0 v0 l0 ({ (List.getD calls s20.1 default) with input := y31, frame := (⟨(List.getD calls s20.1 default).frame.label, (List.getD calls s20.1 default).frame.from_, (List.getD calls s20.1 default).frame.cycle, y28⟩ : Frame) }) a18 l18 w19 f18 (by rw [eb]; exact v12) (by rw [eb]; exact d6) (by rw [eb]; exact i9) (by rw [eb]; exact z21) (by rw [eb]; exact d11) (by rw [eb]; exact t12) (by rw [eb]; exact w8) (by rw [eb]; exact t3) (by rw [eb]; exact i5) (by rw [eb]; exact l3) (by rw [eb]; exact a4) (by rw [eb]; exact d26) (by rw [eb]; exact w21) w29)) ?_
       rintro _ g35 _ e36 ⟨_, rfl, f10, l10, i6, p6, f8, w9, a8, t8, v6, w7, i7, d7, t7, f7, f2, v2, i1, d1, d2, j2, v1, l1, w2, z2, rfl, rfl, v10, j6, v8, l8, p7, z8, l7, j3, a5, z4, f4⟩
       have j25 := v10.len
       have i21 := j6.len
       have d23 := v8.len
       have j23 := l8.len
       have v21 := p7.len
       have v22 := z8.len
       have z25 := l7.len
       have p21 := j3.len
       have l23 := a5.len
       have l21 := z4.len
       have d22 := f4.len
       refine xb 3 [] [1, 5, 7, 9, 61, 62] (xE eB ?_)
       rintro _ _ _ - ⟨b37, rfl, rfl, rfl⟩
       refine xbo 2 [(8, 0)] [some ⟨b37, 45, (cRComp y34.2.1 f2 v2 i1 d1 d2 j2 v1 l1 w2 z2)⟩, some ⟨t11, 77, [vi y34.1.number, vp f1 0, vp z1 0, vp w0 0, vi y34.1.next_, vi y34.1.cycle, vb y34.1.asked, vi y34.1.want.base, vi y34.1.want.have_]⟩, some ⟨f1, 126, (cNode y34.1.node f10 l10 i6 p6 f8 w9)⟩, some ⟨z1, 130, [vs a8 y34.1.sender.pieces t8]⟩, some ⟨w0, 132, (cColl y34.1.collector v6 w7 d7 t7)⟩, i7, f7, some ⟨b27, 51, (cCallT ({ (List.getD calls s20.1 default) with input := y31, frame := (⟨(List.getD calls s20.1 default).frame.label, (List.getD calls s20.1 default).frame.from_, (List.getD calls s20.1 default).frame.cycle, y28⟩ : Frame) }) a18 l18 w19 f18)⟩, some ⟨b11, 45, (cRComp s20.2.1 j1 t1 i0 j0 f0 w1 d0 p0 v0 l0)⟩] [1, 5, 7, 9, 11, 12] (xRe (xW (xSq (xSq ?_))))
       refine xDr 0 [8, 17] [] [some ⟨b37, 45, (cRComp y34.2.1 f2 v2 i1 d1 d2 j2 v1 l1 w2 z2)⟩, some ⟨b27, 51, (cCallT ({ (List.getD calls s20.1 default) with input := y31, frame := (⟨(List.getD calls s20.1 default).frame.label, (List.getD calls s20.1 default).frame.from_, (List.getD calls s20.1 default).frame.cycle, y28⟩ : Frame) }) a18 l18 w19 f18)⟩, some ⟨b11, 45, (cRComp s20.2.1 j1 t1 i0 j0 f0 w1 d0 p0 v0 l0)⟩] 20 (fun RG => ?_) (fun _ _ _ _ _ h => h)
       refine xt 17 [0, 1, 2] [] (sm [0, 7, 8]) [1, 5, 7, 9, 11, 65] RG pR ?_
       refine xGJlA hS 9 [true, true, true, true, true, true, true, true, true, true, true, false, false, false, false, false, false, false, false, false] (fun g own sl t38 => ∃ (i10 : OA) (w10 : Nat) (t4 : OA) (d4 : Nat) (a6 : OA) (t6 : Nat) (v20 : OA) (f20 : Nat) (t10 : OA) (a9 : Nat) (v9 : OB) (w12 : OA) (f11 : Nat) (j11 : OB), own = [some ⟨t11, 77, [vi t38.2.1, vp f1 0, vp z1 0, vp w0 0, vi t38.2.2.1, vi t38.2.2.2.1, vb t38.2.2.2.2.1, vi t38.2.2.2.2.2.1, vi t38.2.2.2.2.2.2.1]⟩, some ⟨f1, 126, (cNode t38.2.2.2.2.2.2.2.1 i10 w10 t4 d4 a6 t6)⟩, some ⟨z1, 130, [vs v20 t38.2.2.2.2.2.2.2.2.1 f20]⟩, some ⟨w0, 132, (cColl t38.2.2.2.2.2.2.2.2.2 t10 a9 w12 f11)⟩, some ⟨b37, 45, (cRComp y34.2.1 f2 v2 i1 d1 d2 j2 v1 l1 w2 z2)⟩, some ⟨b27, 51, (cCallT ({ (List.getD calls s20.1 default) with input := y31, frame := (⟨(List.getD calls s20.1 default).frame.label, (List.getD calls s20.1 default).frame.from_, (List.getD calls s20.1 default).frame.cycle, y28⟩ : Frame) }) a18 l18 w19 f18)⟩, some ⟨b11, 45, (cRComp s20.2.1 j1 t1 i0 j0 f0 w1 d0 p0 v0 l0)⟩, v9, j11] ∧ sl = [(1, vs a15 calls w15), (5, vp t11 0), (7, vp b11 0), (9, vi (s20.1 : Int)), (11, vp b37 0), (73, vb t38.1)] ∧ Arr g.b tyU8 i10 w10 t38.2.2.2.2.2.2.2.1.input ∧ Arr g.b tyU8 t4 d4 t38.2.2.2.2.2.2.2.1.heard.input ∧ Arr g.b tyU8 a6 t6 t38.2.2.2.2.2.2.2.1.set_.in_ ∧ Arr g.b tyPiece v20 f20 t38.2.2.2.2.2.2.2.2.1 ∧ Buf g.b (tyArr tyU8) 28 (.slice t10 (t38.2.2.2.2.2.2.2.2.2.parts).length a9) v9 t38.2.2.2.2.2.2.2.2.2.parts ∧ Buf g.b tySett 92 (.slice w12 (t38.2.2.2.2.2.2.2.2.2.sets).length f11) j11 t38.2.2.2.2.2.2.2.2.2.sets) ?_ ?_
       ·rintro g39 _ _ t38 e40 ⟨i10, w10, t4, d4, a6, t6, v20, f20, t10, a9, v9, w12, f11, j11, rfl, rfl, j14, t9, d12, f23, v14, f16⟩ hS
        have f26 := j14.len
        have f24 := t9.len
        have p26 := d12.len
        have j30 := f23.len
        have w27 := v14.len
        have w28 := f16.len
        refine xt 8 [11] [] (sm [4, 5, 6]) [1, 5, 7, 9, 11, 74] RG e40.r ?_
        refine xGJlA hS 0 [true, true, true, true, true, true, true, true, true, true, true, true, true, true, true, true, true, true, true, true] (fun g own sl t41 => ∃ (p10 : OA) (d10 : Nat) (i4 : OA) (j4 : Nat) (z7 : OA) (f6 : Nat) (t20 : OA) (i20 : Nat) (z10 : OA) (f9 : Nat) (j10 : OB) (p11 : OA) (v11 : Nat) (a11 : OB), own = [some ⟨t11, 77, [vi t41.2.1, vp f1 0, vp z1 0, vp w0 0, vi t41.2.2.1, vi t41.2.2.2.1, vb t41.2.2.2.2.1, vi t41.2.2.2.2.2.1, vi t41.2.2.2.2.2.2.1]⟩, some ⟨f1, 126, (cNode t41.2.2.2.2.2.2.2.1 p10 d10 i4 j4 z7 f6)⟩, some ⟨z1, 130, [vs t20 t41.2.2.2.2.2.2.2.2.1 i20]⟩, some ⟨w0, 132, (cColl t41.2.2.2.2.2.2.2.2.2 z10 f9 p11 v11)⟩, some ⟨b37, 45, (cRComp y34.2.1 f2 v2 i1 d1 d2 j2 v1 l1 w2 z2)⟩, some ⟨b27, 51, (cCallT ({ (List.getD calls s20.1 default) with input := y31, frame := (⟨(List.getD calls s20.1 default).frame.label, (List.getD calls s20.1 default).frame.from_, (List.getD calls s20.1 default).frame.cycle, y28⟩ : Frame) }) a18 l18 w19 f18)⟩, some ⟨b11, 45, (cRComp s20.2.1 j1 t1 i0 j0 f0 w1 d0 p0 v0 l0)⟩, j10, a11] ∧ sl = [(1, vs a15 calls w15), (5, vp t11 0), (7, vp b11 0), (9, vi (s20.1 : Int)), (11, vp b37 0), (82, vb t41.1)] ∧ Arr g.b tyU8 p10 d10 t41.2.2.2.2.2.2.2.1.input ∧ Arr g.b tyU8 i4 j4 t41.2.2.2.2.2.2.2.1.heard.input ∧ Arr g.b tyU8 z7 f6 t41.2.2.2.2.2.2.2.1.set_.in_ ∧ Arr g.b tyPiece t20 i20 t41.2.2.2.2.2.2.2.2.1 ∧ Buf g.b (tyArr tyU8) 28 (.slice z10 (t41.2.2.2.2.2.2.2.2.2.parts).length f9) j10 t41.2.2.2.2.2.2.2.2.2.parts ∧ Buf g.b tySett 92 (.slice p11 (t41.2.2.2.2.2.2.2.2.2.sets).length v11) a11 t41.2.2.2.2.2.2.2.2.2.sets) ?_ ?_
        ·rintro g42 _ _ t41 e43 ⟨p10, d10, i4, j4, z7, f6, t20, i20, z10, f9, j10, p11, v11, a11, rfl, rfl, v19, j13, l15, z26, t19, p20⟩ hS
         have v27 := v19.len
         have a24 := j13.len
         have f25 := l15.len
         have i30 := z26.len
         have z27 := t19.len
         have a27 := p20.len
         refine xAe (lds := [8, 17]) (xW ?_)
         refine xCd (t41.1) (fun h44 => ?_) (fun h44 => ?_)
         ·have hS := cond_T h44 hS
          refine xSq (xRg (xb 1 [] [4] (xRe (xW ?_))))
          have eS := (Option.some.inj hS).symm
          have eS := (i27 _ eS).symm
          have eS := (hD14 _ eS).symm
          subst eS
          exact xRet [] [4] (e3.trans (e7.trans (e10.trans (e22.trans (e30.trans (e33.trans (e36.trans (e40.trans e43)))))))) ⟨by kernel_rfl, by kernel_rfl⟩ (fun _ _ h => h)
         ·have hS := cond_F h44 hS
          refine xSk (xW (xc [1, 5, 7, 9, 11] (xRg (xbo 2 [(0, 4), (1, 6)] [some ⟨t11, 77, [vi t41.2.1, vp f1 0, vp z1 0, vp w0 0, vi t41.2.2.1, vi t41.2.2.2.1, vb t41.2.2.2.2.1, vi t41.2.2.2.2.2.1, vi t41.2.2.2.2.2.2.1]⟩, some ⟨f1, 126, (cNode t41.2.2.2.2.2.2.2.1 p10 d10 i4 j4 z7 f6)⟩, some ⟨z1, 130, [vs t20 t41.2.2.2.2.2.2.2.2.1 i20]⟩, some ⟨w0, 132, (cColl t41.2.2.2.2.2.2.2.2.2 z10 f9 p11 v11)⟩, some ⟨b37, 45, (cRComp y34.2.1 f2 v2 i1 d1 d2 j2 v1 l1 w2 z2)⟩, some ⟨b27, 51, (cCallT ({ (List.getD calls s20.1 default) with input := y31, frame := (⟨(List.getD calls s20.1 default).frame.label, (List.getD calls s20.1 default).frame.from_, (List.getD calls s20.1 default).frame.cycle, y28⟩ : Frame) }) a18 l18 w19 f18)⟩, some ⟨b11, 45, (cRComp y34.2.1 f2 v2 i1 d1 d2 j2 v1 l1 w2 z2)⟩, j10, a11] [1, 5, 7, 9] (xRe (wpq_blockN (xW (xRg ?_))))))))
          obtain ⟨q45, hS⟩ := grd_T hS
          have j31 := of_decide_eq_true q45
          refine xb 1 [] [1, 5, 7, 9, 40] (xV (qAdd .i64 ((s20.1 : Int)) (1) (wr64 (by omega))) (xb 1 [] [1, 5, 7, 9] (xRe (wpq_thenN ?_))))
          have l7 := l7.mono (e40.trans e43).b
          have j3 := j3.mono (e40.trans e43).b
          have a5 := a5.mono (e40.trans e43).b
          have z4 := z4.mono (e40.trans e43).b
          have f4 := f4.mono (e40.trans e43).b
          refine xSel (sm [6, 0, 1, 2, 3, 7, 8]) (xc [1, 5, 7, 9] ?_)
          have eS := (Option.some.inj hS).symm
          exact p29 _ eS _ _ _ (e30.trans (e33.trans (e36.trans (e40.trans e43)))) ⟨f2, v2, i1, d1, d2, j2, v1, l1, w2, z2, p10, d10, i4, j4, z7, f6, t20, i20, z10, f9, j10, p11, v11, a11, by kernel_rfl, by kernel_rfl, l7, j3, a5, z4, f4, v19, j13, l15, z26, t19, p20⟩
        ·intro uu41 hS hN41
         refine wpq_split 74 (b := t38.1) (by kernel_rfl) (fun q46 => ?_) (fun q46 => ?_)
         ·have hS := cond_T q46 hS
          refine xt 4 [12, 15, 16, 17] [] (sm [4, 5, 6]) [1, 5, 7, 9, 11, 74, 75, 80] RG e40.r (xO1 (lds := [8, 17]) 13 (xIb (lds := [8, 17]) [] (xO1 (lds := [8, 17]) 14 (xIb (lds := [8, 17]) [] (xt 0 [18, 19] [] (sm [4, 5, 6]) [1, 5, 7, 9, 11, 82] RG e40.r (xc [1, 5, 7, 9, 11, 82] ?_))))))
          exact hN41 _ hS.symm _ _ _ gR ⟨i10, w10, t4, d4, a6, t6, v20, f20, t10, a9, v9, w12, f11, j11, by kernel_rfl, by kernel_rfl, j14, t9, d12, f23, v14, f16⟩
         ·have hS := cond_F q46 hS
          refine xt 4 [12, 15, 16, 17] [(17, 0)] (sm [4, 5, 6]) [1, 5, 7, 9, 11, 74, 75, 80] RG e40.r (xSel (sm [0, 1, 2, 3, 7, 8, 4, 5, 6]) ?_)
          obtain ⟨y47, i29, hS⟩ := letJ_T hS
          refine xO1 (lds := [8, 17]) 13 (xIe (lds := [8, 17]) e40.r (eC 6 (fun g' lr eb ln => c9 g' t11 (⟨t38.2.1, t38.2.2.2.2.2.2.2.1, (⟨t38.2.2.2.2.2.2.2.2.1⟩ : Sender), t38.2.2.2.2.2.2.2.2.2, t38.2.2.1, t38.2.2.2.1, (t38.2.2.2.2.1), (⟨t38.2.2.2.2.2.1, t38.2.2.2.2.2.2.1⟩ : Want)⟩ : Comp) f1 i10 w10 t4 d4 a6 t6 z1 v20 f20 w0 t10 a9 v9 w12 f11 j11 (by rw [eb]; exact j14) (by rw [eb]; exact t9) (by rw [eb]; exact d12) (by rw [eb]; exact f23) (by rw [eb]; exact v14) (by rw [eb]; exact f16) i29)) ?_)
          rintro _ g48 _ e49 ⟨_, rfl, w20, j20, d14, i14, t17, z17, w18, v17, p15, f15, a14, a16, l16, t16, v26, i19, j19, d13, t13, j16, z16, rfl, rfl, a7, d3, f5, t5, v3, v4, l19, v13, l14⟩
          refine kk (sm [7, 8, 9]) ?_
          have d25 := a7.len
          have t21 := d3.len
          have i23 := f5.len
          have t23 := t5.len
          have w22 := v3.len
          have i22 := v4.len
          have l27 := l19.len
          have w25 := v13.len
          have j26 := l14.len
          obtain ⟨y50, f28, hS⟩ := letJ_T hS
          refine xO1 (lds := [8, 17]) 14 (xIe (lds := [8, 17]) (e40.trans e49).r (eC 0 (fun g' lr eb ln => c11 g' ⟨v26, 0, none⟩ y47.2 i19 j19 d13 t13 j16 z16 (cells_lent' 0 v26 0 (cNode y47.2 i19 j19 d13 t13 j16 z16) ln) ((l19.mono g48.br).mono lr) ((v13.mono g48.br).mono lr) ((l14.mono g48.br).mono lr) f28)) ?_)
          rintro _ g51 _ e52 ⟨_, rfl, rfl, rfl⟩
          refine kk (sm [7, 8, 9]) (xt 0 [18, 19] [] (sm [7, 8, 9]) [1, 5, 7, 9, 11, 82] RG (e40.trans (e49.trans e52)).r ?_)
          have a7 := a7.mono e52.b
          have d3 := d3.mono e52.b
          have f5 := f5.mono e52.b
          have t5 := t5.mono e52.b
          have v3 := v3.mono e52.b
          have v4 := v4.mono e52.b
          refine xSel (sm [1, 2, 3, 4, 7, 8, 9, 5, 6]) (xc [1, 5, 7, 9, 11, 82] ?_)
          exact hN41 _ hS.symm _ _ _ (e49.trans e52) ⟨w20, j20, d14, i14, t17, z17, w18, v17, p15, f15, a14, a16, l16, t16, by kernel_rfl, by kernel_rfl, a7, d3, f5, t5, v3, v4⟩
       ·intro uu38 hS hN38
        refine wpq_split 65 (b := (!y34.2.2)) (by kernel_rfl) (fun q53 => ?_) (fun q53 => ?_)
        ·have hS := cond_T q53 hS
         have l29 := not_eq_true_ q53
         refine xt 13 [3, 6, 7, 8] [] (sm [0, 7, 8]) [1, 5, 7, 9, 11, 65, 66, 71] RG pR (xO1 (lds := [8, 17]) 4 (xIb (lds := [8, 17]) [] (xO1 (lds := [8, 17]) 5 (xIb (lds := [8, 17]) [] (xt 9 [9, 10] [] (sm [0, 7, 8]) [1, 5, 7, 9, 11, 73] RG pR (xSel (sm [1, 2, 3, 4, 0, 7, 8, 5, 6]) (xc [1, 5, 7, 9, 11, 73] ?_)))))))
         exact hN38 _ hS.symm _ _ _ gR ⟨f10, l10, i6, p6, f8, w9, a8, t8, v6, w7, i7, d7, t7, f7, by kernel_rfl, by kernel_rfl, v10, j6, v8, l8, p7, z8⟩
        ·have hS := cond_F q53 hS
         have l29 := not_eq_false_ q53
         refine xt 13 [3, 6, 7, 8] [(8, 0)] (sm [0, 7, 8]) [1, 5, 7, 9, 11, 65, 66, 71] RG pR (xSel (sm [1, 2, 3, 4, 5, 6, 0, 7, 8]) ?_)
         obtain ⟨y54, l28, hS⟩ := letJ_T hS
         refine xO1 (lds := [8, 17]) 4 (xIe (lds := [8, 17]) pR (eC 6 (fun g' lr eb ln => c9 g' t11 (⟨y34.1.number, y34.1.node, y34.1.sender, y34.1.collector, y34.1.next_, y34.1.cycle, (y34.1.asked), y34.1.want⟩ : Comp) f1 f10 l10 i6 p6 f8 w9 z1 a8 t8 w0 v6 w7 i7 d7 t7 f7 (by rw [eb]; exact v10) (by rw [eb]; exact j6) (by rw [eb]; exact v8) (by rw [eb]; exact l8) (by rw [eb]; exact p7) (by rw [eb]; exact z8) l28)) ?_)
         rintro _ g55 _ e56 ⟨_, rfl, a19, z20, z14, p14, j17, i17, l17, a17, i15, t15, z15, w17, i16, p16, l25, f19, p19, p13, w13, w16, j15, rfl, rfl, v7, z3, l5, d5, a3, l4, d19, i13, f14⟩
         refine kk (sm [7, 8, 9]) ?_
         have i25 := v7.len
         have j21 := z3.len
         have v23 := l5.len
         have a22 := d5.len
         have j22 := a3.len
         have t22 := l4.len
         have p27 := d19.len
         have l24 := i13.len
         have a25 := f14.len
         obtain ⟨y57, p28, hS⟩ := letJ_T hS
         refine xO1 (lds := [8, 17]) 5 (xIe (lds := [8, 17]) e56.r (eC 0 (fun g' lr eb ln => c10 g' ⟨l25, 0, none⟩ y54.2 f19 p19 p13 w13 w16 j15 (cells_lent' 0 l25 0 (cNode y54.2 f19 p19 p13 w13 w16 j15) ln) ((d19.mono g55.br).mono lr) ((i13.mono g55.br).mono lr) ((f14.mono g55.br).mono lr) p28)) ?_)
         rintro _ g58 _ e59 ⟨_, rfl, rfl, rfl⟩
         refine kk (sm [7, 8, 9]) (xt 9 [9, 10] [] (sm [7, 8, 9]) [1, 5, 7, 9, 11, 73] RG (e56.trans e59).r ?_)
         have v7 := v7.mono e59.b
         have z3 := z3.mono e59.b
         have l5 := l5.mono e59.b
         have d5 := d5.mono e59.b
         have a3 := a3.mono e59.b
         have l4 := l4.mono e59.b
         refine xSel (sm [1, 2, 3, 4, 7, 8, 9, 5, 6]) (xc [1, 5, 7, 9, 11, 73] ?_)
         exact hN38 _ hS.symm _ _ _ (e56.trans e59) ⟨a19, z20, z14, p14, j17, i17, l17, a17, i15, t15, z15, w17, i16, p16, by kernel_rfl, by kernel_rfl, v7, z3, l5, d5, a3, l4⟩
      ·have hS := cond_F h24 hS
       refine xEx 0 (wpq_thenX (wpq_thenX (wpq_blockE (xSel [] (xc [] ?_)))))
       have eS := (Option.some.inj hS).symm
       have eS := (i27 _ eS).symm
       exact hN14 _ eS _ _ _ e22 ⟨by kernel_rfl, by kernel_rfl⟩

end Go.Proofs.YtnidomdebhekiaaGreat
