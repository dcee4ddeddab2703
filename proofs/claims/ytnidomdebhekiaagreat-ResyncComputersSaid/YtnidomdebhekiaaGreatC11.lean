/-
Walks, printed by wip/gen, with half of their indentation. Conditions: each theorem's own.
-/
import Derived.Test.YtnidomdebhekiaaGreatC10
namespace Go.Proofs.YtnidomdebhekiaaGreat
set_option linter.unusedVariables false
set_option linter.unusedSimpArgs false
open Go.RowKit
set_option maxRecDepth 100000
def o8 (c : Comp) (m : RComp) (x : CallT) : Option (Comp × RComp × Bool) :=
 (letJ (τ := Int) (cond (x.next_) (m.stage) ((Int.tmod (IntKind.i64.wrap x.kind) 9))) fun t4 => (cond ((t4 == 0)) (bindO (o7 x.input (404 : Int)) fun y9 => (bindO (o19 (⟨c.number, c.node, c.sender, c.collector, c.next_, c.cycle, (c.asked), c.want⟩ : Comp) x.cycle (y9 : List UInt8)) fun y12 => (bindO (o7 x.input (404 : Int)) fun y212 => (bindO (o20 m x.cycle (y212 : List UInt8)) fun y215 => (letJ (o21 y12.2.1 y215.2.1) fun y414 => (some (((⟨y12.1.number, y12.1.node, y12.1.sender, y12.1.collector, y12.1.next_, y12.1.cycle, (y12.1.asked), y12.1.want⟩ : Comp), y215.1, ((y414 && (y12.2.2 == y215.2.2))))))))))) (cond ((t4 == 1)) (bindO (o22 (⟨c.number, c.node, c.sender, c.collector, c.next_, c.cycle, (c.asked), c.want⟩ : Comp) x.frame (x.came)) fun y503 => (bindO (o23 m x.frame (x.came)) fun y506 => (some (((⟨y503.1.number, y503.1.node, y503.1.sender, y503.1.collector, y503.1.next_, y503.1.cycle, (y503.1.asked), y503.1.want⟩ : Comp), y506.1, ((y503.2 == y506.2))))))) (cond ((t4 == 2)) (bindO (o24 (⟨c.number, c.node, c.sender, c.collector, c.next_, c.cycle, (c.asked), c.want⟩ : Comp)) fun y511 => (bindO (o25 m) fun y515 => (letJ (o21 y511.2.1 y515.2.1) fun y520 => (some (((⟨y511.1.number, y511.1.node, y511.1.sender, y511.1.collector, y511.1.next_, y511.1.cycle, (y511.1.asked), y511.1.want⟩ : Comp), y515.1, (((y520 && (y511.2.2.1 == y515.2.2.1)) && (y511.2.2.2 == y515.2.2.2))))))))) (cond ((t4 == 3)) (bindO (o26 (⟨c.number, c.node, c.sender, c.collector, c.next_, c.cycle, (c.asked), c.want⟩ : Comp) x.frame (x.came)) fun y526 => (bindO (o27 m x.frame (x.came)) fun y530 => (letJ (o29 y526.2.1) fun y535 => (letJ (o28 y535 y530.2.1) fun y538 => (some (((⟨y526.1.number, y526.1.node, y526.1.sender, y526.1.collector, y526.1.next_, y526.1.cycle, (y526.1.asked), y526.1.want⟩ : Comp), y530.1, (((y538 && (y526.2.2.1 == y530.2.2.1)) && (y526.2.2.2 == y530.2.2.2)))))))))) (cond ((t4 == 4)) (bindO (o30 (⟨c.number, c.node, c.sender, c.collector, c.next_, c.cycle, (c.asked), c.want⟩ : Comp) x.targets) fun y544 => (bindO (o31 m x.targets) fun y548 => (letJ (o21 y544.2.1 y548.2.1) fun y553 => (some (((⟨y544.1.number, y544.1.node, y544.1.sender, y544.1.collector, y544.1.next_, y544.1.cycle, (y544.1.asked), y544.1.want⟩ : Comp), y548.1, (((y553 && (y544.2.2.1 == y548.2.2.1)) && (y544.2.2.2 == y548.2.2.2))))))))) (cond ((t4 == 5)) (bindO (o32 (⟨c.number, c.node, c.sender, c.collector, c.next_, c.cycle, (c.asked), c.want⟩ : Comp) x.frame (x.came)) fun y559 => (bindO (o33 m x.frame (x.came)) fun y562 => (some (((⟨y559.1.number, y559.1.node, y559.1.sender, y559.1.collector, y559.1.next_, y559.1.cycle, (y559.1.asked), y559.1.want⟩ : Comp), y562.1, (((y559.2.1 == y562.2.1) && (y559.2.2 == y562.2.2)))))))) (cond ((t4 == 6)) (bindO (o34 (⟨c.number, c.node, c.sender, c.collector, c.next_, c.cycle, (c.asked), c.want⟩ : Comp) x.input) fun y568 => (bindO (o35 m x.input) fun y572 => (letJ (o21 y568.2.1 y572.2.1) fun y577 => (some (((⟨y568.1.number, y568.1.node, y568.1.sender, y568.1.collector, y568.1.next_, y568.1.cycle, (y568.1.asked), y568.1.want⟩ : Comp), y572.1, (((y577 && (y568.2.2.1 == y572.2.2.1)) && (y568.2.2.2 == y572.2.2.2))))))))) (cond ((t4 == 7)) (bindO (o36 (⟨c.number, c.node, c.sender, c.collector, c.next_, c.cycle, (c.asked), c.want⟩ : Comp) x.frame (x.came)) fun y583 => (bindO (o37 m x.frame (x.came)) fun y587 => (bindO (o39 y583.2.1) fun y592 => (bindO (o38 y592 y587.2.1) fun y595 => (some (((⟨y583.1.number, y583.1.node, y583.1.sender, y583.1.collector, y583.1.next_, y583.1.cycle, (y583.1.asked), y583.1.want⟩ : Comp), y587.1, (((y595 && (y583.2.2.1 == y587.2.2.1)) && (y583.2.2.2 == y587.2.2.2)))))))))) (letJ (o40 (⟨c.number, c.node, c.sender, c.collector, c.next_, c.cycle, (c.asked), c.want⟩ : Comp)) fun y600 => (letJ (o41 m) fun y603 => (some (((⟨y600.number, y600.node, y600.sender, y600.collector, y600.next_, y600.cycle, (y600.asked), y600.want⟩ : Comp), y603, (true)))))))))))))))
set_option maxHeartbeats 8000000 in
theorem c8 (g : Gh) (b_c : Nat) (c : Comp) (t5 : Nat) (z13 : OA) (w13 : Nat) (w7 : OA) (a6 : Nat) (p10 : OA) (i10 : Nat) (f4 : Nat) (j10 : OA) (z10 : Nat) (z2 : Nat) (d7 : OA) (t7 : Nat) (v7 : OB) (l8 : OA) (v8 : Nat) (t8 : OB) (m : RComp) (d3 : OA) (j3 : Nat) (p0 : OA) (i0 : Nat) (l1 : OA) (v1 : Nat) (l0 : OA) (v0 : Nat) (i1 : OA) (d1 : Nat) (x : CallT) (w6 : OA) (z6 : Nat) (a3 : OA) (w4 : Nat) (v5 : Arr g.b tyU8 z13 w13 c.node.input) (z4 : Arr g.b tyU8 w7 a6 c.node.heard.input) (i5 : Arr g.b tyU8 p10 i10 c.node.set_.in_) (j5 : Arr g.b tyPiece j10 z10 c.sender.pieces) (v4 : Buf g.b (tyArr tyU8) 28 (.slice d7 (c.collector.parts).length t7) v7 c.collector.parts) (a4 : Buf g.b tySett 92 (.slice l8 (c.collector.sets).length v8) t8 c.collector.sets) (d2 : Arr g.b tyU8 d3 j3 m.node.input) (w0 : Arr g.b tyU8 p0 i0 m.node.heard.input) (j1 : Arr g.b tyPiece l1 v1 m.sender.pieces) (j0 : Arr g.b (tyArr tyU8) l0 v0 m.collector.parts) (d0 : Arr g.b tySett i1 d1 m.collector.sets) (l10 : Arr g.b tyU8 w6 z6 x.input) (a5 : Arr g.b tyU8 a3 w4 x.frame.payload) {r : Comp × RComp × Bool} (hS : o8 c m x = some r) :
  Ctr Tryz.prog 8 [vp b_c 0, (aRComp m d3 j3 p0 i0 l1 v1 l0 v0 i1 d1), (aCallT x w6 z6 a3 w4)] g [some ⟨b_c, 77, [vi c.number, vp t5 0, vp f4 0, vp z2 0, vi c.next_, vi c.cycle, vb c.asked, vi c.want.base, vi c.want.have_]⟩, some ⟨t5, 126, (cNode c.node z13 w13 w7 a6 p10 i10)⟩, some ⟨f4, 130, [vs j10 c.sender.pieces z10]⟩, some ⟨z2, 132, (cColl c.collector d7 t7 l8 v8)⟩, v7, t8] (fun v ψ o => ∃ (l43 : OA) (f43 : Nat) (p38 : OA) (f38 : Nat) (i42 : OA) (t42 : Nat) (z42 : OA) (d42 : Nat) (p40 : OA) (z39 : Nat) (v40 : OB) (i41 : OA) (w41 : Nat) (p41 : OB) (a43 : OA) (v43 : Nat) (v38 : OA) (i38 : Nat) (p42 : OA) (j42 : Nat) (d39 : OA) (f39 : Nat) (z41 : OA) (j41 : Nat), v = Value.tuple #[(aRComp r.2.1 a43 v43 v38 i38 p42 j42 d39 f39 z41 j41), vb r.2.2] ∧ o = [some ⟨b_c, 77, [vi r.1.number, vp t5 0, vp f4 0, vp z2 0, vi r.1.next_, vi r.1.cycle, vb r.1.asked, vi r.1.want.base, vi r.1.want.have_]⟩, some ⟨t5, 126, (cNode r.1.node l43 f43 p38 f38 i42 t42)⟩, some ⟨f4, 130, [vs z42 r.1.sender.pieces d42]⟩, some ⟨z2, 132, (cColl r.1.collector p40 z39 i41 w41)⟩, v40, p41] ∧ Arr ψ tyU8 l43 f43 r.1.node.input ∧ Arr ψ tyU8 p38 f38 r.1.node.heard.input ∧ Arr ψ tyU8 i42 t42 r.1.node.set_.in_ ∧ Arr ψ tyPiece z42 d42 r.1.sender.pieces ∧ Buf ψ (tyArr tyU8) 28 (.slice p40 (r.1.collector.parts).length z39) v40 r.1.collector.parts ∧ Buf ψ tySett 92 (.slice i41 (r.1.collector.sets).length w41) p41 r.1.collector.sets ∧ Arr ψ tyU8 a43 v43 r.2.1.node.input ∧ Arr ψ tyU8 v38 i38 r.2.1.node.heard.input ∧ Arr ψ tyPiece p42 j42 r.2.1.sender.pieces ∧ Arr ψ (tyArr tyU8) d39 f39 r.2.1.collector.parts ∧ Arr ψ tySett z41 j41 r.2.1.collector.sets) := by
 unfold o8 at hS
 refine xFn Tryz.f8 (Tryz.f8.body.getD .skip) 324 ?_
 have d64 := v5.len
 have a57 := z4.len
 have p60 := i5.len
 have i60 := j5.len
 have p64 := d2.len
 have i58 := w0.len
 have j60 := j1.len
 have d58 := j0.len
 have t59 := d0.len
 have f69 := l10.len
 have z60 := a5.len
 refine xSq (xRg (xE eB ?_))
 rintro _ _ _ - ⟨b1, rfl, rfl, rfl⟩
 refine xE eB ?_
 rintro _ _ _ - ⟨b2, rfl, rfl, rfl⟩
 refine xE eB ?_
 rintro _ _ _ - ⟨b3, rfl, rfl, rfl⟩
 refine xb 1 [] [0, 4, 5, 6] (xRe (xW (xSq (xRg ?_))))
 have z1 := i64_in_ x.kind
 refine xB 3 [(1, 1)] [(0, vp b_c 0), (4, vp b1 0), (5, vp b2 0), (6, vp b3 0), (59, vi (IntKind.i64.wrap x.kind))] (xV (qRem .i64 ((IntKind.i64.wrap x.kind)) (9) _ (by omega) rfl) (xb 1 [] [0, 4, 5, 6, 8] (xRe (xW (xSq (xSq (xRg (xB 2 [(1, 1)] [(0, vp b_c 0), (4, vp b1 0), (5, vp b2 0), (6, vp b3 0), (8, vi (Int.tmod (IntKind.i64.wrap x.kind) 9)), (62, vb x.next_)] (xRe (xW ?_))))))))))
 refine xLetJ hS (fun g own sl t4 => own = [some ⟨b3, 45, (cRComp (⟨(⟨0, 0, 0, 0, 0, 0, ([] : List UInt8), false, false, (⟨0, 0, (⟨0, 0⟩ : Want), ([] : List UInt8)⟩ : Heard), false, Z0⟩ : RNode), Z3, Z4, false, 0⟩ : RComp) none 0 none 0 none 0 none 0 none 0)⟩, some ⟨b2, 51, (cCallT x w6 z6 a3 w4)⟩, some ⟨b1, 45, (cRComp m d3 j3 p0 i0 l1 v1 l0 v0 i1 d1)⟩, some ⟨b_c, 77, [vi c.number, vp t5 0, vp f4 0, vp z2 0, vi c.next_, vi c.cycle, vb c.asked, vi c.want.base, vi c.want.have_]⟩, some ⟨t5, 126, (cNode c.node z13 w13 w7 a6 p10 i10)⟩, some ⟨f4, 130, [vs j10 c.sender.pieces z10]⟩, some ⟨z2, 132, (cColl c.collector d7 t7 l8 v8)⟩, v7, t8] ∧ sl = [(0, vp b_c 0), (4, vp b1 0), (5, vp b2 0), (6, vp b3 0), (8, vi t4)]) ?_ ?_
 ·rintro g5 _ _ t4 e6 ⟨rfl, rfl⟩ hS
  refine xW (xSq (xSq (xRg (xb 1 [] [0, 4, 5, 6, 65] (xRe (xW (xBl 0 (xSq (xRg (xB 2 [] [(0, vp b_c 0), (4, vp b1 0), (5, vp b2 0), (6, vp b3 0), (65, vi t4), (66, vb (t4 == 0))] (xRe (xW ?_))))))))))))
  refine xCd ((t4 == 0)) (fun h7 => ?_) (fun h7 => ?_)
  ·have hS := cond_T h7 hS
   have h7p : t4 = 0 := eq_of_beq h7
   refine xSq ?_
   refine xDr 0 [2, 4] [11, 12] [some ⟨b3, 45, (cRComp (⟨(⟨0, 0, 0, 0, 0, 0, ([] : List UInt8), false, false, (⟨0, 0, (⟨0, 0⟩ : Want), ([] : List UInt8)⟩ : Heard), false, Z0⟩ : RNode), Z3, Z4, false, 0⟩ : RComp) none 0 none 0 none 0 none 0 none 0)⟩, some ⟨b2, 51, (cCallT x w6 z6 a3 w4)⟩, some ⟨b1, 45, (cRComp m d3 j3 p0 i0 l1 v1 l0 v0 i1 d1)⟩] 13 (fun RG => ?_) (fun _ _ _ _ _ h => h)
   refine xt 8 [0, 1, 2, 3, 4] [(2, 1), (4, 1)] (sm [0, 1, 2]) [4, 5, 6, 69, 71, 73] RG pR ?_
   obtain ⟨y9, hy9, hS⟩ := bindO_T hS
   obtain ⟨y12, f61, hS⟩ := bindO_T hS
   refine wpa_meet (fun g own sl => ∃ (i11 : OA) (j11 : Nat) (i6 : OA) (d6 : Nat) (f7 : OA) (z8 : Nat) (w8 : OA) (j8 : Nat) (t6 : OA) (v6 : Nat) (i9 : OB) (z7 : OA) (j7 : Nat) (d10 : OB) (i14 : OA) (j14 : Nat) (b15 : Nat), own = [some ⟨b15, 49, (cFrame y12.2.1 i14 j14)⟩, some ⟨b_c, 77, [vi y12.1.number, vp t5 0, vp f4 0, vp z2 0, vi y12.1.next_, vi y12.1.cycle, vb y12.1.asked, vi y12.1.want.base, vi y12.1.want.have_]⟩, some ⟨t5, 126, (cNode y12.1.node i11 j11 i6 d6 f7 z8)⟩, some ⟨f4, 130, [vs w8 y12.1.sender.pieces j8]⟩, some ⟨z2, 132, (cColl y12.1.collector t6 v6 z7 j7)⟩, i9, d10, some ⟨b3, 45, (cRComp (⟨(⟨0, 0, 0, 0, 0, 0, ([] : List UInt8), false, false, (⟨0, 0, (⟨0, 0⟩ : Want), ([] : List UInt8)⟩ : Heard), false, Z0⟩ : RNode), Z3, Z4, false, 0⟩ : RComp) none 0 none 0 none 0 none 0 none 0)⟩, some ⟨b2, 51, (cCallT x w6 z6 a3 w4)⟩, some ⟨b1, 45, (cRComp m d3 j3 p0 i0 l1 v1 l0 v0 i1 d1)⟩] ∧ sl = [(4, vp b1 0), (5, vp b2 0), (6, vp b3 0), (9, vp b15 0), (77, vi y12.2.2)] ∧ Arr g.b tyU8 i14 j14 y12.2.1.payload ∧ Arr g.b tyU8 i11 j11 y12.1.node.input ∧ Arr g.b tyU8 i6 d6 y12.1.node.heard.input ∧ Arr g.b tyU8 f7 z8 y12.1.node.set_.in_ ∧ Arr g.b tyPiece w8 j8 y12.1.sender.pieces ∧ Buf g.b (tyArr tyU8) 28 (.slice t6 (y12.1.collector.parts).length v6) i9 y12.1.collector.parts ∧ Buf g.b tySett 92 (.slice z7 (y12.1.collector.sets).length j7) d10 y12.1.collector.sets) 1 [true, true, true, true, true, true, true, true, true, true, true, true, false] ?_ (fun hD8 => ?_)
   ·rintro l71 _ _ d9 ⟨i11, j11, i6, d6, f7, z8, w8, j8, t6, v6, i9, z7, j7, d10, i14, j14, b15, rfl, rfl, z14, p11, p6, i8, a7, l6, i7⟩
    have v41 := z14.len
    have t36 := p11.len
    have f27 := p6.len
    have j35 := i8.len
    have l34 := a7.len
    have j29 := l6.len
    have a32 := i7.len
    refine xT 0 [12] [] (sm [7, 8, 9]) [(4, vp b1 0), (5, vp b2 0), (6, vp b3 0), (9, vp b15 0), (10, vi y12.2.2)] RG d9.r (xAe (lds := [2, 4]) (xW (xSq ?_)))
    refine xDr 0 [0, 2, 4] [13, 14, 15] [some ⟨b15, 49, (cFrame y12.2.1 i14 j14)⟩, some ⟨b_c, 77, [vi y12.1.number, vp t5 0, vp f4 0, vp z2 0, vi y12.1.next_, vi y12.1.cycle, vb y12.1.asked, vi y12.1.want.base, vi y12.1.want.have_]⟩, some ⟨t5, 126, (cNode y12.1.node i11 j11 i6 d6 f7 z8)⟩, some ⟨f4, 130, [vs w8 y12.1.sender.pieces j8]⟩, some ⟨z2, 132, (cColl y12.1.collector t6 v6 z7 j7)⟩, some ⟨b3, 45, (cRComp (⟨(⟨0, 0, 0, 0, 0, 0, ([] : List UInt8), false, false, (⟨0, 0, (⟨0, 0⟩ : Want), ([] : List UInt8)⟩ : Heard), false, Z0⟩ : RNode), Z3, Z4, false, 0⟩ : RComp) none 0 none 0 none 0 none 0 none 0)⟩, some ⟨b2, 51, (cCallT x w6 z6 a3 w4)⟩, some ⟨b1, 45, (cRComp m d3 j3 p0 i0 l1 v1 l0 v0 i1 d1)⟩] 16 (fun RG => ?_) (fun _ _ _ _ _ h => h)
    refine xt 11 [0, 1, 2, 3, 4] [(0, 7), (2, 6), (4, 6)] (sm [0, 1, 2, 3, 4, 7, 8, 9]) [6, 9, 10, 79, 81, 83] RG pR ?_
    obtain ⟨d43, w47, hS⟩ := bindO_T hS
    obtain ⟨l4, l40, hS⟩ := bindO_T hS
    refine wpa_meet (fun g own sl => ∃ (w5 : OA) (z5 : Nat) (f2 : OA) (v2 : Nat) (i4 : OA) (d4 : Nat) (a2 : OA) (w3 : Nat) (v3 : OA) (t3 : Nat) (l5 : OA) (f5 : Nat) (p50 : Nat) (l50 : Nat), own = [some ⟨l50, 49, (cFrame l4.2.1 l5 f5)⟩, some ⟨p50, 45, (cRComp l4.1 w5 z5 f2 v2 i4 d4 a2 w3 v3 t3)⟩, some ⟨b15, 49, (cFrame y12.2.1 i14 j14)⟩, some ⟨b_c, 77, [vi y12.1.number, vp t5 0, vp f4 0, vp z2 0, vi y12.1.next_, vi y12.1.cycle, vb y12.1.asked, vi y12.1.want.base, vi y12.1.want.have_]⟩, some ⟨t5, 126, (cNode y12.1.node i11 j11 i6 d6 f7 z8)⟩, some ⟨f4, 130, [vs w8 y12.1.sender.pieces j8]⟩, some ⟨z2, 132, (cColl y12.1.collector t6 v6 z7 j7)⟩, i9, d10, some ⟨b3, 45, (cRComp (⟨(⟨0, 0, 0, 0, 0, 0, ([] : List UInt8), false, false, (⟨0, 0, (⟨0, 0⟩ : Want), ([] : List UInt8)⟩ : Heard), false, Z0⟩ : RNode), Z3, Z4, false, 0⟩ : RComp) none 0 none 0 none 0 none 0 none 0)⟩, some ⟨b2, 51, (cCallT x w6 z6 a3 w4)⟩, some ⟨b1, 45, (cRComp m d3 j3 p0 i0 l1 v1 l0 v0 i1 d1)⟩] ∧ sl = [(6, vp b3 0), (9, vp b15 0), (10, vi y12.2.2), (11, vp p50 0), (12, vp l50 0), (88, vi l4.2.2)] ∧ Arr g.b tyU8 l5 f5 l4.2.1.payload ∧ Arr g.b tyU8 w5 z5 l4.1.node.input ∧ Arr g.b tyU8 f2 v2 l4.1.node.heard.input ∧ Arr g.b tyPiece i4 d4 l4.1.sender.pieces ∧ Arr g.b (tyArr tyU8) a2 w3 l4.1.collector.parts ∧ Arr g.b tySett v3 t3 l4.1.collector.sets) 1 [true, true, true, true, true, true, true, true, true, true, true, true, true, true, true, false] ?_ (fun a37 => ?_)
    ·rintro a65 _ _ j45 ⟨w5, z5, f2, v2, i4, d4, a2, w3, v3, t3, l5, f5, p50, l50, rfl, rfl, d5, j4, t1, j2, f1, w2⟩
     have p14 := d5.len
     have f11 := j4.len
     have f6 := t1.len
     have p9 := j2.len
     have p7 := f1.len
     have p8 := w2.len
     refine xT 0 [15] [] (sm [2, 3, 4, 5, 6, 9, 10, 11]) [(6, vp b3 0), (9, vp b15 0), (10, vi y12.2.2), (11, vp p50 0), (12, vp l50 0), (13, vi l4.2.2)] RG j45.r (xAe (lds := [0, 2, 4]) (xW (xSq ?_)))
     refine xDr 0 [0, 1, 2] [10] [some ⟨l50, 49, (cFrame l4.2.1 l5 f5)⟩, some ⟨p50, 45, (cRComp l4.1 w5 z5 f2 v2 i4 d4 a2 w3 v3 t3)⟩, some ⟨b15, 49, (cFrame y12.2.1 i14 j14)⟩, some ⟨b_c, 77, [vi y12.1.number, vp t5 0, vp f4 0, vp z2 0, vi y12.1.next_, vi y12.1.cycle, vb y12.1.asked, vi y12.1.want.base, vi y12.1.want.have_]⟩, some ⟨t5, 126, (cNode y12.1.node i11 j11 i6 d6 f7 z8)⟩, some ⟨f4, 130, [vs w8 y12.1.sender.pieces j8]⟩, some ⟨z2, 132, (cColl y12.1.collector t6 v6 z7 j7)⟩, some ⟨b2, 51, (cCallT x w6 z6 a3 w4)⟩, some ⟨b1, 45, (cRComp m d3 j3 p0 i0 l1 v1 l0 v0 i1 d1)⟩] 11 (fun RG => ?_) (fun _ _ _ _ _ h => h)
     refine xt 8 [0, 1, 2] [(0, 1), (1, 2), (2, 0)] (sm [0, 1, 2, 3, 4, 5, 6, 10, 11]) [6, 10, 13, 89, 90, 91] RG pR ?_
     have z14 := z14.mono j45.b
     obtain ⟨i49, t69, hS⟩ := letJ_T hS
     refine xO1 (lds := [0, 1, 2]) 3 (xIe (lds := [0, 1, 2]) pR (eC 0 (fun g' lr eb ln => c21 g' y12.2.1 i14 j14 l4.2.1 l5 f5 ((z14.mono a65.br).mono lr) ((d5.mono a65.br).mono lr) t69)) ?_)
     rintro _ i74 _ t35 ⟨_, rfl, rfl, rfl⟩
     refine kk (sm [0, 1, 2, 3, 4, 5, 6, 10, 11]) (xT 6 [4] [] (sm [0, 1, 2, 3, 4, 5, 6, 10, 11]) [(6, vp b3 0), (10, vi y12.2.2), (13, vi l4.2.2), (89, (aRComp l4.1 w5 z5 f2 v2 i4 d4 a2 w3 v3 t3)), (93, vb i49)] RG t35.r ?_)
     refine wpa_grp 2 [true, true, true, true, true, true, true, true, true, false, false] [(6, vp b3 0), (89, (aRComp l4.1 w5 z5 f2 v2 i4 d4 a2 w3 v3 t3)), (97, vb (i49 && (y12.2.2 == l4.2.2)))] (fun hk4 => ?_) ?_
     ·refine wpq_split 93 (b := i49) (by kernel_rfl) (fun d61 => ?_) (fun d61 => ?_)
      ·refine xt 2 [5, 6, 7, 8] [] (sm [0, 1, 2, 3, 4, 5, 6, 10, 11]) [6, 89, 97] RG t35.r ?_
       refine wpq_re 97 (v := vb (y12.2.2 == l4.2.2)) (Value.bool ((i49 && (y12.2.2 == l4.2.2)))) (by kernel_rfl) (re_and1 d61) ?_
       exact wpq_sub _ (by kernel_rfl) hk4
      ·refine xT 2 [5, 6, 7, 8] [] (sm [0, 1, 2, 3, 4, 5, 6, 10, 11]) [(6, vp b3 0), (89, (aRComp l4.1 w5 z5 f2 v2 i4 d4 a2 w3 v3 t3)), (97, vb false)] RG t35.r ?_
       refine wpq_re 97 (v := vb false) (Value.bool ((i49 && (y12.2.2 == l4.2.2)))) (by kernel_rfl) (re_and0 d61) ?_
       exact wpq_sub _ (by kernel_rfl) hk4
     ·refine xO1 (lds := [0, 1, 2]) 9 ?_
      refine xId (lds := [0, 1, 2]) t35.r (eStL b3 0 9) ?_
      rintro _ _ _ - ⟨rfl, rfl⟩
      refine kk (sm [0, 1, 2, 3, 4, 5, 6, 10, 11]) (xt 0 [10] [] (sm [0, 1, 2, 3, 4, 5, 6, 10, 11]) [6, 7] RG t35.r (xAe (lds := [0, 1, 2]) (xW ?_)))
      have p11 := p11.mono (j45.trans t35).b
      have p6 := p6.mono (j45.trans t35).b
      have i8 := i8.mono (j45.trans t35).b
      have a7 := a7.mono (j45.trans t35).b
      have l6 := l6.mono (j45.trans t35).b
      have i7 := i7.mono (j45.trans t35).b
      have j4 := j4.mono t35.b
      have t1 := t1.mono t35.b
      have j2 := j2.mono t35.b
      have f1 := f1.mono t35.b
      have w2 := w2.mono t35.b
      obtain rfl := Option.some.inj hS
      exact xRetC (sm [3, 4, 5, 6, 7, 8]) [(6, 9)] (e6.trans (d9.trans (j45.trans t35))) ⟨i11, j11, i6, d6, f7, z8, w8, j8, t6, v6, i9, z7, j7, d10, w5, z5, f2, v2, i4, d4, a2, w3, v3, t3, by kernel_rfl, by kernel_rfl, p11, p6, i8, a7, l6, i7, j4, t1, j2, f1, w2⟩ (fun _ _ h => h)
    ·refine xO3 (lds := [0, 2, 4]) 5 11 12 ?_ ?_ ?_
     ·have l10 := l10.mono (e6.trans d9).b
      refine xIe (lds := [0, 2, 4]) pR (eC 0 (fun g' lr eb ln => c7 g' x.input w6 z6 (404 : Int) (by rw [eb]; exact l10) w47)) ?_
      rintro _ j49 _ d8 ⟨_, rfl, t27, p27, rfl, rfl, p16⟩
      refine kk (sm [0, 1, 2, 3, 4, 7, 8, 9]) ?_
      have z46 := p16.len
      refine xO3 (lds := [0, 2, 4]) 6 11 12 ?_ ?_ ?_
      ·have d2 := d2.mono (e6.trans (d9.trans d8)).b
       have w0 := w0.mono (e6.trans (d9.trans d8)).b
       have j1 := j1.mono (e6.trans (d9.trans d8)).b
       have j0 := j0.mono (e6.trans (d9.trans d8)).b
       have d0 := d0.mono (e6.trans (d9.trans d8)).b
       refine xIe (lds := [0, 2, 4]) d8.r (eC 0 (fun g' lr eb ln => c20 g' m d3 j3 p0 i0 l1 v1 l0 v0 i1 d1 x.cycle (d43 : List UInt8) t27 p27 (by rw [eb]; exact d2) (by rw [eb]; exact w0) (by rw [eb]; exact j1) (by rw [eb]; exact j0) (by rw [eb]; exact d0) ((p16.mono j49.br).mono lr) l40)) ?_
       rintro _ z73 _ t43 ⟨_, rfl, w5, z5, f2, v2, i4, d4, a2, w3, v3, t3, l5, f5, rfl, rfl, j4, t1, j2, f1, w2, d5⟩
       refine kk (sm [0, 1, 2, 3, 4, 7, 8, 9]) ?_
       have f11 := j4.len
       have f6 := t1.len
       have p9 := j2.len
       have p7 := f1.len
       have p8 := w2.len
       have p14 := d5.len
       refine xT 5 [7, 8, 9, 10] [] (sm [0, 1, 2, 3, 4, 7, 8, 9]) [(6, vp b3 0), (9, vp b15 0), (10, vi y12.2.2), (86, (aRComp l4.1 w5 z5 f2 v2 i4 d4 a2 w3 v3 t3)), (87, (aFrame l4.2.1 l5 f5)), (88, vi l4.2.2)] RG (d8.trans t43).r ?_
       refine xO2 (lds := [0, 2, 4]) 11 12 ?_ ?_
       ·refine xIe (lds := [0, 2, 4]) (d8.trans t43).r eB ?_
        rintro _ _ _ - ⟨f64, rfl, rfl, rfl⟩
        refine kk (sm [1, 2, 3, 4, 5, 8, 9, 10]) (xO1 (lds := [0, 2, 4]) 12 (xIe (lds := [0, 2, 4]) (d8.trans t43).r eB ?_))
        rintro _ _ _ - ⟨p65, rfl, rfl, rfl⟩
        refine kk (sm [2, 3, 4, 5, 6, 9, 10, 11]) (xO1 (lds := [0, 2, 4]) 13 (xId (lds := [0, 2, 4]) (d8.trans t43).r (eStL f64 0 1) ?_))
        rintro _ _ _ - ⟨rfl, rfl⟩
        refine kf (xO1 (lds := [0, 2, 4]) 14 (xId (lds := [0, 2, 4]) (d8.trans t43).r (eStL p65 0 0) ?_))
        rintro _ _ _ - ⟨rfl, rfl⟩
        refine kf (xc [6, 9, 10, 11, 12, 88] ?_)
        exact a37 _ _ _ (d8.trans t43) ⟨w5, z5, f2, v2, i4, d4, a2, w3, v3, t3, l5, f5, f64, p65, by kernel_rfl, by kernel_rfl, d5, j4, t1, j2, f1, w2⟩
       ·refine xIe (lds := [0, 2, 4]) (d8.trans t43).r eB ?_
        rintro _ _ _ - ⟨d62, rfl, rfl, rfl⟩
        refine kk (sm [1, 2, 3, 4, 5, 8, 9, 10]) (xO1 (lds := [0, 2, 4]) 11 (xIe (lds := [0, 2, 4]) (d8.trans t43).r eB ?_))
        rintro _ _ _ - ⟨t61, rfl, rfl, rfl⟩
        refine kk (sm [2, 3, 4, 5, 6, 9, 10, 11]) (xO1 (lds := [0, 2, 4]) 13 (xId (lds := [0, 2, 4]) (d8.trans t43).r (eStL t61 0 0) ?_))
        rintro _ _ _ - ⟨rfl, rfl⟩
        refine kf (xO1 (lds := [0, 2, 4]) 14 (xId (lds := [0, 2, 4]) (d8.trans t43).r (eStL d62 0 1) ?_))
        rintro _ _ _ - ⟨rfl, rfl⟩
        refine kf (xSel (sm [1, 0, 2, 3, 4, 5, 6, 7, 8, 9, 10, 11]) (xSub [(6, vp b3 0), (9, vp b15 0), (10, vi y12.2.2), (11, vp t61 0), (12, vp d62 0), (88, vi l4.2.2)] ?_))
        exact a37 _ _ _ (d8.trans t43) ⟨w5, z5, f2, v2, i4, d4, a2, w3, v3, t3, l5, f5, t61, d62, by kernel_rfl, by kernel_rfl, d5, j4, t1, j2, f1, w2⟩
      ·refine xIe (lds := [0, 2, 4]) d8.r eB ?_
       rintro _ _ _ - ⟨p47, rfl, rfl, rfl⟩
       refine kk (sm [1, 2, 3, 4, 5, 8, 9, 10]) ?_
       refine xO2 (lds := [0, 2, 4]) 6 12 ?_ ?_
       ·have d2 := d2.mono (e6.trans (d9.trans d8)).b
        have w0 := w0.mono (e6.trans (d9.trans d8)).b
        have j1 := j1.mono (e6.trans (d9.trans d8)).b
        have j0 := j0.mono (e6.trans (d9.trans d8)).b
        have d0 := d0.mono (e6.trans (d9.trans d8)).b
        refine xIe (lds := [0, 2, 4]) d8.r (eC 0 (fun g' lr eb ln => c20 g' m d3 j3 p0 i0 l1 v1 l0 v0 i1 d1 x.cycle (d43 : List UInt8) t27 p27 (by rw [eb]; exact d2) (by rw [eb]; exact w0) (by rw [eb]; exact j1) (by rw [eb]; exact j0) (by rw [eb]; exact d0) ((p16.mono j49.br).mono lr) l40)) ?_
        rintro _ z74 _ w48 ⟨_, rfl, w5, z5, f2, v2, i4, d4, a2, w3, v3, t3, l5, f5, rfl, rfl, j4, t1, j2, f1, w2, d5⟩
        refine kk (sm [1, 2, 3, 4, 5, 8, 9, 10]) ?_
        have f11 := j4.len
        have f6 := t1.len
        have p9 := j2.len
        have p7 := f1.len
        have p8 := w2.len
        have p14 := d5.len
        refine xt 4 [7, 8, 9, 10] [] (sm [1, 2, 3, 4, 5, 8, 9, 10]) [6, 9, 10, 11, 86, 87, 88] RG (d8.trans w48).r (xO1 (lds := [0, 2, 4]) 12 (xIe (lds := [0, 2, 4]) (d8.trans w48).r eB ?_))
        rintro _ _ _ - ⟨p62, rfl, rfl, rfl⟩
        refine kk (sm [2, 3, 4, 5, 6, 9, 10, 11]) (xO1 (lds := [0, 2, 4]) 13 (xId (lds := [0, 2, 4]) (d8.trans w48).r (eStL p47 0 1) ?_))
        rintro _ _ _ - ⟨rfl, rfl⟩
        refine kf (xO1 (lds := [0, 2, 4]) 14 (xId (lds := [0, 2, 4]) (d8.trans w48).r (eStL p62 0 0) ?_))
        rintro _ _ _ - ⟨rfl, rfl⟩
        refine kf (xSub [(6, vp b3 0), (9, vp b15 0), (10, vi y12.2.2), (11, vp p47 0), (12, vp p62 0), (88, vi l4.2.2)] ?_)
        exact a37 _ _ _ (d8.trans w48) ⟨w5, z5, f2, v2, i4, d4, a2, w3, v3, t3, l5, f5, p47, p62, by kernel_rfl, by kernel_rfl, d5, j4, t1, j2, f1, w2⟩
       ·refine xIe (lds := [0, 2, 4]) d8.r eB ?_
        rintro _ _ _ - ⟨a62, rfl, rfl, rfl⟩
        refine kk (sm [2, 3, 4, 5, 6, 9, 10, 11]) ?_
        have d2 := d2.mono (e6.trans (d9.trans d8)).b
        have w0 := w0.mono (e6.trans (d9.trans d8)).b
        have j1 := j1.mono (e6.trans (d9.trans d8)).b
        have j0 := j0.mono (e6.trans (d9.trans d8)).b
        have d0 := d0.mono (e6.trans (d9.trans d8)).b
        refine xO1 (lds := [0, 2, 4]) 6 (xIe (lds := [0, 2, 4]) d8.r (eC 0 (fun g' lr eb ln => c20 g' m d3 j3 p0 i0 l1 v1 l0 v0 i1 d1 x.cycle (d43 : List UInt8) t27 p27 (by rw [eb]; exact d2) (by rw [eb]; exact w0) (by rw [eb]; exact j1) (by rw [eb]; exact j0) (by rw [eb]; exact d0) ((p16.mono j49.br).mono lr) l40)) ?_)
        rintro _ d72 _ f57 ⟨_, rfl, w5, z5, f2, v2, i4, d4, a2, w3, v3, t3, l5, f5, rfl, rfl, j4, t1, j2, f1, w2, d5⟩
        refine kk (sm [2, 3, 4, 5, 6, 9, 10, 11]) ?_
        have f11 := j4.len
        have f6 := t1.len
        have p9 := j2.len
        have p7 := f1.len
        have p8 := w2.len
        have p14 := d5.len
        refine xt 3 [7, 8, 9, 10] [] (sm [2, 3, 4, 5, 6, 9, 10, 11]) [6, 9, 10, 11, 12, 86, 87, 88] RG (d8.trans f57).r (xO1 (lds := [0, 2, 4]) 13 (xId (lds := [0, 2, 4]) (d8.trans f57).r (eStL p47 0 1) ?_))
        rintro _ _ _ - ⟨rfl, rfl⟩
        refine kf (xO1 (lds := [0, 2, 4]) 14 (xId (lds := [0, 2, 4]) (d8.trans f57).r (eStL a62 0 0) ?_))
        rintro _ _ _ - ⟨rfl, rfl⟩
        refine kf (xSub [(6, vp b3 0), (9, vp b15 0), (10, vi y12.2.2), (11, vp p47 0), (12, vp a62 0), (88, vi l4.2.2)] ?_)
        exact a37 _ _ _ (d8.trans f57) ⟨w5, z5, f2, v2, i4, d4, a2, w3, v3, t3, l5, f5, p47, a62, by kernel_rfl, by kernel_rfl, d5, j4, t1, j2, f1, w2⟩
      ·refine xIe (lds := [0, 2, 4]) d8.r eB ?_
       rintro _ _ _ - ⟨f47, rfl, rfl, rfl⟩
       refine kk (sm [1, 2, 3, 4, 5, 8, 9, 10]) ?_
       refine xO2 (lds := [0, 2, 4]) 6 11 ?_ ?_
       ·have d2 := d2.mono (e6.trans (d9.trans d8)).b
        have w0 := w0.mono (e6.trans (d9.trans d8)).b
        have j1 := j1.mono (e6.trans (d9.trans d8)).b
        have j0 := j0.mono (e6.trans (d9.trans d8)).b
        have d0 := d0.mono (e6.trans (d9.trans d8)).b
        refine xIe (lds := [0, 2, 4]) d8.r (eC 0 (fun g' lr eb ln => c20 g' m d3 j3 p0 i0 l1 v1 l0 v0 i1 d1 x.cycle (d43 : List UInt8) t27 p27 (by rw [eb]; exact d2) (by rw [eb]; exact w0) (by rw [eb]; exact j1) (by rw [eb]; exact j0) (by rw [eb]; exact d0) ((p16.mono j49.br).mono lr) l40)) ?_
        rintro _ d73 _ f50 ⟨_, rfl, w5, z5, f2, v2, i4, d4, a2, w3, v3, t3, l5, f5, rfl, rfl, j4, t1, j2, f1, w2, d5⟩
        refine kk (sm [1, 2, 3, 4, 5, 8, 9, 10]) ?_
        have f11 := j4.len
        have f6 := t1.len
        have p9 := j2.len
        have p7 := f1.len
        have p8 := w2.len
        have p14 := d5.len
        refine xt 4 [7, 8, 9, 10] [] (sm [1, 2, 3, 4, 5, 8, 9, 10]) [6, 9, 10, 12, 86, 87, 88] RG (d8.trans f50).r (xO1 (lds := [0, 2, 4]) 11 (xIe (lds := [0, 2, 4]) (d8.trans f50).r eB ?_))
        rintro _ _ _ - ⟨j61, rfl, rfl, rfl⟩
        refine kk (sm [2, 3, 4, 5, 6, 9, 10, 11]) (xO1 (lds := [0, 2, 4]) 13 (xId (lds := [0, 2, 4]) (d8.trans f50).r (eStL j61 0 0) ?_))
        rintro _ _ _ - ⟨rfl, rfl⟩
        refine kf (xO1 (lds := [0, 2, 4]) 14 (xId (lds := [0, 2, 4]) (d8.trans f50).r (eStL f47 0 1) ?_))
        rintro _ _ _ - ⟨rfl, rfl⟩
        refine kf (xSel (sm [1, 0, 2, 3, 4, 5, 6, 7, 8, 9, 10, 11]) (xSub [(6, vp b3 0), (9, vp b15 0), (10, vi y12.2.2), (11, vp j61 0), (12, vp f47 0), (88, vi l4.2.2)] ?_))
        exact a37 _ _ _ (d8.trans f50) ⟨w5, z5, f2, v2, i4, d4, a2, w3, v3, t3, l5, f5, j61, f47, by kernel_rfl, by kernel_rfl, d5, j4, t1, j2, f1, w2⟩
       ·refine xIe (lds := [0, 2, 4]) d8.r eB ?_
        rintro _ _ _ - ⟨t60, rfl, rfl, rfl⟩
        refine kk (sm [2, 3, 4, 5, 6, 9, 10, 11]) ?_
        have d2 := d2.mono (e6.trans (d9.trans d8)).b
        have w0 := w0.mono (e6.trans (d9.trans d8)).b
        have j1 := j1.mono (e6.trans (d9.trans d8)).b
        have j0 := j0.mono (e6.trans (d9.trans d8)).b
        have d0 := d0.mono (e6.trans (d9.trans d8)).b
        refine xO1 (lds := [0, 2, 4]) 6 (xIe (lds := [0, 2, 4]) d8.r (eC 0 (fun g' lr eb ln => c20 g' m d3 j3 p0 i0 l1 v1 l0 v0 i1 d1 x.cycle (d43 : List UInt8) t27 p27 (by rw [eb]; exact d2) (by rw [eb]; exact w0) (by rw [eb]; exact j1) (by rw [eb]; exact j0) (by rw [eb]; exact d0) ((p16.mono j49.br).mono lr) l40)) ?_)
        rintro _ l73 _ d57 ⟨_, rfl, w5, z5, f2, v2, i4, d4, a2, w3, v3, t3, l5, f5, rfl, rfl, j4, t1, j2, f1, w2, d5⟩
        refine kk (sm [2, 3, 4, 5, 6, 9, 10, 11]) ?_
        have f11 := j4.len
        have f6 := t1.len
        have p9 := j2.len
        have p7 := f1.len
        have p8 := w2.len
        have p14 := d5.len
        refine xt 3 [7, 8, 9, 10] [] (sm [2, 3, 4, 5, 6, 9, 10, 11]) [6, 9, 10, 11, 12, 86, 87, 88] RG (d8.trans d57).r (xO1 (lds := [0, 2, 4]) 13 (xId (lds := [0, 2, 4]) (d8.trans d57).r (eStL t60 0 0) ?_))
        rintro _ _ _ - ⟨rfl, rfl⟩
        refine kf (xO1 (lds := [0, 2, 4]) 14 (xId (lds := [0, 2, 4]) (d8.trans d57).r (eStL f47 0 1) ?_))
        rintro _ _ _ - ⟨rfl, rfl⟩
        refine kf (xSel (sm [1, 0, 2, 3, 4, 5, 6, 7, 8, 9, 10, 11]) (xSub [(6, vp b3 0), (9, vp b15 0), (10, vi y12.2.2), (11, vp t60 0), (12, vp f47 0), (88, vi l4.2.2)] ?_))
        exact a37 _ _ _ (d8.trans d57) ⟨w5, z5, f2, v2, i4, d4, a2, w3, v3, t3, l5, f5, t60, f47, by kernel_rfl, by kernel_rfl, d5, j4, t1, j2, f1, w2⟩
     ·refine xIe (lds := [0, 2, 4]) pR eB ?_
      rintro _ _ _ - ⟨d45, rfl, rfl, rfl⟩
      refine kk (sm [1, 2, 3, 4, 5, 8, 9, 10]) ?_
      refine xO2 (lds := [0, 2, 4]) 5 12 ?_ ?_
      ·have l10 := l10.mono (e6.trans d9).b
       refine xIe (lds := [0, 2, 4]) pR (eC 0 (fun g' lr eb ln => c7 g' x.input w6 z6 (404 : Int) (by rw [eb]; exact l10) w47)) ?_
       rintro _ w65 _ a27 ⟨_, rfl, t27, p27, rfl, rfl, p16⟩
       refine kk (sm [1, 2, 3, 4, 5, 8, 9, 10]) ?_
       have z46 := p16.len
       refine xO2 (lds := [0, 2, 4]) 6 12 ?_ ?_
       ·have d2 := d2.mono (e6.trans (d9.trans a27)).b
        have w0 := w0.mono (e6.trans (d9.trans a27)).b
        have j1 := j1.mono (e6.trans (d9.trans a27)).b
        have j0 := j0.mono (e6.trans (d9.trans a27)).b
        have d0 := d0.mono (e6.trans (d9.trans a27)).b
        refine xIe (lds := [0, 2, 4]) a27.r (eC 0 (fun g' lr eb ln => c20 g' m d3 j3 p0 i0 l1 v1 l0 v0 i1 d1 x.cycle (d43 : List UInt8) t27 p27 (by rw [eb]; exact d2) (by rw [eb]; exact w0) (by rw [eb]; exact j1) (by rw [eb]; exact j0) (by rw [eb]; exact d0) ((p16.mono w65.br).mono lr) l40)) ?_
        rintro _ a73 _ t50 ⟨_, rfl, w5, z5, f2, v2, i4, d4, a2, w3, v3, t3, l5, f5, rfl, rfl, j4, t1, j2, f1, w2, d5⟩
        refine kk (sm [1, 2, 3, 4, 5, 8, 9, 10]) ?_
        have f11 := j4.len
        have f6 := t1.len
        have p9 := j2.len
        have p7 := f1.len
        have p8 := w2.len
        have p14 := d5.len
        refine xt 4 [7, 8, 9, 10] [] (sm [1, 2, 3, 4, 5, 8, 9, 10]) [6, 9, 10, 11, 86, 87, 88] RG (a27.trans t50).r (xO1 (lds := [0, 2, 4]) 12 (xIe (lds := [0, 2, 4]) (a27.trans t50).r eB ?_))
        rintro _ _ _ - ⟨p63, rfl, rfl, rfl⟩
        refine kk (sm [2, 3, 4, 5, 6, 9, 10, 11]) (xO1 (lds := [0, 2, 4]) 13 (xId (lds := [0, 2, 4]) (a27.trans t50).r (eStL d45 0 1) ?_))
        rintro _ _ _ - ⟨rfl, rfl⟩
        refine kf (xO1 (lds := [0, 2, 4]) 14 (xId (lds := [0, 2, 4]) (a27.trans t50).r (eStL p63 0 0) ?_))
        rintro _ _ _ - ⟨rfl, rfl⟩
        refine kf (xSub [(6, vp b3 0), (9, vp b15 0), (10, vi y12.2.2), (11, vp d45 0), (12, vp p63 0), (88, vi l4.2.2)] ?_)
        exact a37 _ _ _ (a27.trans t50) ⟨w5, z5, f2, v2, i4, d4, a2, w3, v3, t3, l5, f5, d45, p63, by kernel_rfl, by kernel_rfl, d5, j4, t1, j2, f1, w2⟩
       ·refine xIe (lds := [0, 2, 4]) a27.r eB ?_
        rintro _ _ _ - ⟨t63, rfl, rfl, rfl⟩
        refine kk (sm [2, 3, 4, 5, 6, 9, 10, 11]) ?_
        have d2 := d2.mono (e6.trans (d9.trans a27)).b
        have w0 := w0.mono (e6.trans (d9.trans a27)).b
        have j1 := j1.mono (e6.trans (d9.trans a27)).b
        have j0 := j0.mono (e6.trans (d9.trans a27)).b
        have d0 := d0.mono (e6.trans (d9.trans a27)).b
        refine xO1 (lds := [0, 2, 4]) 6 (xIe (lds := [0, 2, 4]) a27.r (eC 0 (fun g' lr eb ln => c20 g' m d3 j3 p0 i0 l1 v1 l0 v0 i1 d1 x.cycle (d43 : List UInt8) t27 p27 (by rw [eb]; exact d2) (by rw [eb]; exact w0) (by rw [eb]; exact j1) (by rw [eb]; exact j0) (by rw [eb]; exact d0) ((p16.mono w65.br).mono lr) l40)) ?_)
        rintro _ w73 _ t57 ⟨_, rfl, w5, z5, f2, v2, i4, d4, a2, w3, v3, t3, l5, f5, rfl, rfl, j4, t1, j2, f1, w2, d5⟩
        refine kk (sm [2, 3, 4, 5, 6, 9, 10, 11]) ?_
        have f11 := j4.len
        have f6 := t1.len
        have p9 := j2.len
        have p7 := f1.len
        have p8 := w2.len
        have p14 := d5.len
        refine xt 3 [7, 8, 9, 10] [] (sm [2, 3, 4, 5, 6, 9, 10, 11]) [6, 9, 10, 11, 12, 86, 87, 88] RG (a27.trans t57).r (xO1 (lds := [0, 2, 4]) 13 (xId (lds := [0, 2, 4]) (a27.trans t57).r (eStL d45 0 1) ?_))
        rintro _ _ _ - ⟨rfl, rfl⟩
        refine kf (xO1 (lds := [0, 2, 4]) 14 (xId (lds := [0, 2, 4]) (a27.trans t57).r (eStL t63 0 0) ?_))
        rintro _ _ _ - ⟨rfl, rfl⟩
        refine kf (xSub [(6, vp b3 0), (9, vp b15 0), (10, vi y12.2.2), (11, vp d45 0), (12, vp t63 0), (88, vi l4.2.2)] ?_)
        exact a37 _ _ _ (a27.trans t57) ⟨w5, z5, f2, v2, i4, d4, a2, w3, v3, t3, l5, f5, d45, t63, by kernel_rfl, by kernel_rfl, d5, j4, t1, j2, f1, w2⟩
      ·refine xIe (lds := [0, 2, 4]) pR eB ?_
       rintro _ _ _ - ⟨d60, rfl, rfl, rfl⟩
       refine kk (sm [2, 3, 4, 5, 6, 9, 10, 11]) ?_
       have l10 := l10.mono (e6.trans d9).b
       refine xO1 (lds := [0, 2, 4]) 5 (xIe (lds := [0, 2, 4]) pR (eC 0 (fun g' lr eb ln => c7 g' x.input w6 z6 (404 : Int) (by rw [eb]; exact l10) w47)) ?_)
       rintro _ z70 _ l44 ⟨_, rfl, t27, p27, rfl, rfl, p16⟩
       refine kk (sm [2, 3, 4, 5, 6, 9, 10, 11]) ?_
       have z46 := p16.len
       have d2 := d2.mono (e6.trans (d9.trans l44)).b
       have w0 := w0.mono (e6.trans (d9.trans l44)).b
       have j1 := j1.mono (e6.trans (d9.trans l44)).b
       have j0 := j0.mono (e6.trans (d9.trans l44)).b
       have d0 := d0.mono (e6.trans (d9.trans l44)).b
       refine xO1 (lds := [0, 2, 4]) 6 (xIe (lds := [0, 2, 4]) l44.r (eC 0 (fun g' lr eb ln => c20 g' m d3 j3 p0 i0 l1 v1 l0 v0 i1 d1 x.cycle (d43 : List UInt8) t27 p27 (by rw [eb]; exact d2) (by rw [eb]; exact w0) (by rw [eb]; exact j1) (by rw [eb]; exact j0) (by rw [eb]; exact d0) ((p16.mono z70.br).mono lr) l40)) ?_)
       rintro _ z72 _ z58 ⟨_, rfl, w5, z5, f2, v2, i4, d4, a2, w3, v3, t3, l5, f5, rfl, rfl, j4, t1, j2, f1, w2, d5⟩
       refine kk (sm [2, 3, 4, 5, 6, 9, 10, 11]) ?_
       have f11 := j4.len
       have f6 := t1.len
       have p9 := j2.len
       have p7 := f1.len
       have p8 := w2.len
       have p14 := d5.len
       refine xt 3 [7, 8, 9, 10] [] (sm [2, 3, 4, 5, 6, 9, 10, 11]) [6, 9, 10, 11, 12, 86, 87, 88] RG (l44.trans z58).r (xO1 (lds := [0, 2, 4]) 13 (xId (lds := [0, 2, 4]) (l44.trans z58).r (eStL d45 0 1) ?_))
       rintro _ _ _ - ⟨rfl, rfl⟩
       refine kf (xO1 (lds := [0, 2, 4]) 14 (xId (lds := [0, 2, 4]) (l44.trans z58).r (eStL d60 0 0) ?_))
       rintro _ _ _ - ⟨rfl, rfl⟩
       refine kf (xSub [(6, vp b3 0), (9, vp b15 0), (10, vi y12.2.2), (11, vp d45 0), (12, vp d60 0), (88, vi l4.2.2)] ?_)
       exact a37 _ _ _ (l44.trans z58) ⟨w5, z5, f2, v2, i4, d4, a2, w3, v3, t3, l5, f5, d45, d60, by kernel_rfl, by kernel_rfl, d5, j4, t1, j2, f1, w2⟩
     ·refine xIe (lds := [0, 2, 4]) pR eB ?_
      rintro _ _ _ - ⟨t45, rfl, rfl, rfl⟩
      refine kk (sm [1, 2, 3, 4, 5, 8, 9, 10]) ?_
      refine xO2 (lds := [0, 2, 4]) 5 11 ?_ ?_
      ·have l10 := l10.mono (e6.trans d9).b
       refine xIe (lds := [0, 2, 4]) pR (eC 0 (fun g' lr eb ln => c7 g' x.input w6 z6 (404 : Int) (by rw [eb]; exact l10) w47)) ?_
       rintro _ t65 _ j28 ⟨_, rfl, t27, p27, rfl, rfl, p16⟩
       refine kk (sm [1, 2, 3, 4, 5, 8, 9, 10]) ?_
       have z46 := p16.len
       refine xO2 (lds := [0, 2, 4]) 6 11 ?_ ?_
       ·have d2 := d2.mono (e6.trans (d9.trans j28)).b
        have w0 := w0.mono (e6.trans (d9.trans j28)).b
        have j1 := j1.mono (e6.trans (d9.trans j28)).b
        have j0 := j0.mono (e6.trans (d9.trans j28)).b
        have d0 := d0.mono (e6.trans (d9.trans j28)).b
        refine xIe (lds := [0, 2, 4]) j28.r (eC 0 (fun g' lr eb ln => c20 g' m d3 j3 p0 i0 l1 v1 l0 v0 i1 d1 x.cycle (d43 : List UInt8) t27 p27 (by rw [eb]; exact d2) (by rw [eb]; exact w0) (by rw [eb]; exact j1) (by rw [eb]; exact j0) (by rw [eb]; exact d0) ((p16.mono t65.br).mono lr) l40)) ?_
        rintro _ w72 _ a50 ⟨_, rfl, w5, z5, f2, v2, i4, d4, a2, w3, v3, t3, l5, f5, rfl, rfl, j4, t1, j2, f1, w2, d5⟩
        refine kk (sm [1, 2, 3, 4, 5, 8, 9, 10]) ?_
        have f11 := j4.len
        have f6 := t1.len
        have p9 := j2.len
        have p7 := f1.len
        have p8 := w2.len
        have p14 := d5.len
        refine xt 4 [7, 8, 9, 10] [] (sm [1, 2, 3, 4, 5, 8, 9, 10]) [6, 9, 10, 12, 86, 87, 88] RG (j28.trans a50).r (xO1 (lds := [0, 2, 4]) 11 (xIe (lds := [0, 2, 4]) (j28.trans a50).r eB ?_))
        rintro _ _ _ - ⟨v60, rfl, rfl, rfl⟩
        refine kk (sm [2, 3, 4, 5, 6, 9, 10, 11]) (xO1 (lds := [0, 2, 4]) 13 (xId (lds := [0, 2, 4]) (j28.trans a50).r (eStL v60 0 0) ?_))
        rintro _ _ _ - ⟨rfl, rfl⟩
        refine kf (xO1 (lds := [0, 2, 4]) 14 (xId (lds := [0, 2, 4]) (j28.trans a50).r (eStL t45 0 1) ?_))
        rintro _ _ _ - ⟨rfl, rfl⟩
        refine kf (xSel (sm [1, 0, 2, 3, 4, 5, 6, 7, 8, 9, 10, 11]) (xSub [(6, vp b3 0), (9, vp b15 0), (10, vi y12.2.2), (11, vp v60 0), (12, vp t45 0), (88, vi l4.2.2)] ?_))
        exact a37 _ _ _ (j28.trans a50) ⟨w5, z5, f2, v2, i4, d4, a2, w3, v3, t3, l5, f5, v60, t45, by kernel_rfl, by kernel_rfl, d5, j4, t1, j2, f1, w2⟩
       ·refine xIe (lds := [0, 2, 4]) j28.r eB ?_
        rintro _ _ _ - ⟨w62, rfl, rfl, rfl⟩
        refine kk (sm [2, 3, 4, 5, 6, 9, 10, 11]) ?_
        have d2 := d2.mono (e6.trans (d9.trans j28)).b
        have w0 := w0.mono (e6.trans (d9.trans j28)).b
        have j1 := j1.mono (e6.trans (d9.trans j28)).b
        have j0 := j0.mono (e6.trans (d9.trans j28)).b
        have d0 := d0.mono (e6.trans (d9.trans j28)).b
        refine xO1 (lds := [0, 2, 4]) 6 (xIe (lds := [0, 2, 4]) j28.r (eC 0 (fun g' lr eb ln => c20 g' m d3 j3 p0 i0 l1 v1 l0 v0 i1 d1 x.cycle (d43 : List UInt8) t27 p27 (by rw [eb]; exact d2) (by rw [eb]; exact w0) (by rw [eb]; exact j1) (by rw [eb]; exact j0) (by rw [eb]; exact d0) ((p16.mono t65.br).mono lr) l40)) ?_)
        rintro _ j73 _ l57 ⟨_, rfl, w5, z5, f2, v2, i4, d4, a2, w3, v3, t3, l5, f5, rfl, rfl, j4, t1, j2, f1, w2, d5⟩
        refine kk (sm [2, 3, 4, 5, 6, 9, 10, 11]) ?_
        have f11 := j4.len
        have f6 := t1.len
        have p9 := j2.len
        have p7 := f1.len
        have p8 := w2.len
        have p14 := d5.len
        refine xt 3 [7, 8, 9, 10] [] (sm [2, 3, 4, 5, 6, 9, 10, 11]) [6, 9, 10, 11, 12, 86, 87, 88] RG (j28.trans l57).r (xO1 (lds := [0, 2, 4]) 13 (xId (lds := [0, 2, 4]) (j28.trans l57).r (eStL w62 0 0) ?_))
        rintro _ _ _ - ⟨rfl, rfl⟩
        refine kf (xO1 (lds := [0, 2, 4]) 14 (xId (lds := [0, 2, 4]) (j28.trans l57).r (eStL t45 0 1) ?_))
        rintro _ _ _ - ⟨rfl, rfl⟩
        refine kf (xSel (sm [1, 0, 2, 3, 4, 5, 6, 7, 8, 9, 10, 11]) (xSub [(6, vp b3 0), (9, vp b15 0), (10, vi y12.2.2), (11, vp w62 0), (12, vp t45 0), (88, vi l4.2.2)] ?_))
        exact a37 _ _ _ (j28.trans l57) ⟨w5, z5, f2, v2, i4, d4, a2, w3, v3, t3, l5, f5, w62, t45, by kernel_rfl, by kernel_rfl, d5, j4, t1, j2, f1, w2⟩
      ·refine xIe (lds := [0, 2, 4]) pR eB ?_
       rintro _ _ _ - ⟨d63, rfl, rfl, rfl⟩
       refine kk (sm [2, 3, 4, 5, 6, 9, 10, 11]) ?_
       have l10 := l10.mono (e6.trans d9).b
       refine xO1 (lds := [0, 2, 4]) 5 (xIe (lds := [0, 2, 4]) pR (eC 0 (fun g' lr eb ln => c7 g' x.input w6 z6 (404 : Int) (by rw [eb]; exact l10) w47)) ?_)
       rintro _ l70 _ i44 ⟨_, rfl, t27, p27, rfl, rfl, p16⟩
       refine kk (sm [2, 3, 4, 5, 6, 9, 10, 11]) ?_
       have z46 := p16.len
       have d2 := d2.mono (e6.trans (d9.trans i44)).b
       have w0 := w0.mono (e6.trans (d9.trans i44)).b
       have j1 := j1.mono (e6.trans (d9.trans i44)).b
       have j0 := j0.mono (e6.trans (d9.trans i44)).b
       have d0 := d0.mono (e6.trans (d9.trans i44)).b
       refine xO1 (lds := [0, 2, 4]) 6 (xIe (lds := [0, 2, 4]) i44.r (eC 0 (fun g' lr eb ln => c20 g' m d3 j3 p0 i0 l1 v1 l0 v0 i1 d1 x.cycle (d43 : List UInt8) t27 p27 (by rw [eb]; exact d2) (by rw [eb]; exact w0) (by rw [eb]; exact j1) (by rw [eb]; exact j0) (by rw [eb]; exact d0) ((p16.mono l70.br).mono lr) l40)) ?_)
       rintro _ p73 _ p57 ⟨_, rfl, w5, z5, f2, v2, i4, d4, a2, w3, v3, t3, l5, f5, rfl, rfl, j4, t1, j2, f1, w2, d5⟩
       refine kk (sm [2, 3, 4, 5, 6, 9, 10, 11]) ?_
       have f11 := j4.len
       have f6 := t1.len
       have p9 := j2.len
       have p7 := f1.len
       have p8 := w2.len
       have p14 := d5.len
       refine xt 3 [7, 8, 9, 10] [] (sm [2, 3, 4, 5, 6, 9, 10, 11]) [6, 9, 10, 11, 12, 86, 87, 88] RG (i44.trans p57).r (xO1 (lds := [0, 2, 4]) 13 (xId (lds := [0, 2, 4]) (i44.trans p57).r (eStL d63 0 0) ?_))
       rintro _ _ _ - ⟨rfl, rfl⟩
       refine kf (xO1 (lds := [0, 2, 4]) 14 (xId (lds := [0, 2, 4]) (i44.trans p57).r (eStL t45 0 1) ?_))
       rintro _ _ _ - ⟨rfl, rfl⟩
       refine kf (xSel (sm [1, 0, 2, 3, 4, 5, 6, 7, 8, 9, 10, 11]) (xSub [(6, vp b3 0), (9, vp b15 0), (10, vi y12.2.2), (11, vp d63 0), (12, vp t45 0), (88, vi l4.2.2)] ?_))
       exact a37 _ _ _ (i44.trans p57) ⟨w5, z5, f2, v2, i4, d4, a2, w3, v3, t3, l5, f5, d63, t45, by kernel_rfl, by kernel_rfl, d5, j4, t1, j2, f1, w2⟩
   ·refine xO2 (lds := [2, 4]) 5 10 ?_ ?_
    ·have l10 := l10.mono e6.b
     refine xIe (lds := [2, 4]) pR (eC 0 (fun g' lr eb ln => c7 g' x.input w6 z6 (404 : Int) (by rw [eb]; exact l10) hy9)) ?_
     rintro _ j65 _ w28 ⟨_, rfl, z57, v57, rfl, rfl, l47⟩
     refine kk (sm [0, 1, 2]) ?_
     have p66 := l47.len
     refine xO2 (lds := [2, 4]) 6 10 ?_ ?_
     ·refine xSel (sm [3, 4, 5, 6, 7, 8, 0, 1, 2]) ?_
      have v5 := v5.mono (e6.trans w28).b
      have z4 := z4.mono (e6.trans w28).b
      have i5 := i5.mono (e6.trans w28).b
      have j5 := j5.mono (e6.trans w28).b
      have v4 := v4.mono (e6.trans w28).b
      have a4 := a4.mono (e6.trans w28).b
      refine xIe (lds := [2, 4]) w28.r (eC 6 (fun g' lr eb ln => c19 g' b_c (⟨c.number, c.node, c.sender, c.collector, c.next_, c.cycle, (c.asked), c.want⟩ : Comp) t5 z13 w13 w7 a6 p10 i10 f4 j10 z10 z2 d7 t7 v7 l8 v8 t8 x.cycle (y9 : List UInt8) z57 v57 (by rw [eb]; exact v5) (by rw [eb]; exact z4) (by rw [eb]; exact i5) (by rw [eb]; exact j5) (by rw [eb]; exact v4) (by rw [eb]; exact a4) ((l47.mono j65.br).mono lr) f61)) ?_
      rintro _ t72 _ i57 ⟨_, rfl, i11, j11, i6, d6, f7, z8, w8, j8, t6, v6, i9, z7, j7, d10, i14, j14, rfl, rfl, p11, p6, i8, a7, l6, i7, z14⟩
      refine kk (sm [6, 7, 8]) ?_
      have t36 := p11.len
      have f27 := p6.len
      have j35 := i8.len
      have l34 := a7.len
      have j29 := l6.len
      have a32 := i7.len
      have v41 := z14.len
      refine xt 3 [7, 8, 9] [] (sm [6, 7, 8]) [4, 5, 6, 76, 77] RG (w28.trans i57).r (xO1 (lds := [2, 4]) 10 (xIe (lds := [2, 4]) (w28.trans i57).r eB ?_))
      rintro _ _ _ - ⟨j62, rfl, rfl, rfl⟩
      refine kk (sm [7, 8, 9]) (xO1 (lds := [2, 4]) 11 (xId (lds := [2, 4]) (w28.trans i57).r (eStL j62 0 0) ?_))
      rintro _ _ _ - ⟨rfl, rfl⟩
      refine kf (xSub [(4, vp b1 0), (5, vp b2 0), (6, vp b3 0), (9, vp j62 0), (77, vi y12.2.2)] ?_)
      exact hD8 _ _ _ (w28.trans i57) ⟨i11, j11, i6, d6, f7, z8, w8, j8, t6, v6, i9, z7, j7, d10, i14, j14, j62, by kernel_rfl, by kernel_rfl, z14, p11, p6, i8, a7, l6, i7⟩
     ·refine xIe (lds := [2, 4]) w28.r eB ?_
      rintro _ _ _ - ⟨l62, rfl, rfl, rfl⟩
      refine kk (sm [1, 2, 3]) (xSel (sm [4, 5, 6, 7, 8, 9, 0, 1, 2, 3]) ?_)
      have v5 := v5.mono (e6.trans w28).b
      have z4 := z4.mono (e6.trans w28).b
      have i5 := i5.mono (e6.trans w28).b
      have j5 := j5.mono (e6.trans w28).b
      have v4 := v4.mono (e6.trans w28).b
      have a4 := a4.mono (e6.trans w28).b
      refine xO1 (lds := [2, 4]) 6 (xIe (lds := [2, 4]) w28.r (eC 6 (fun g' lr eb ln => c19 g' b_c (⟨c.number, c.node, c.sender, c.collector, c.next_, c.cycle, (c.asked), c.want⟩ : Comp) t5 z13 w13 w7 a6 p10 i10 f4 j10 z10 z2 d7 t7 v7 l8 v8 t8 x.cycle (y9 : List UInt8) z57 v57 (by rw [eb]; exact v5) (by rw [eb]; exact z4) (by rw [eb]; exact i5) (by rw [eb]; exact j5) (by rw [eb]; exact v4) (by rw [eb]; exact a4) ((l47.mono j65.br).mono lr) f61)) ?_)
      rintro _ v72 _ f62 ⟨_, rfl, i11, j11, i6, d6, f7, z8, w8, j8, t6, v6, i9, z7, j7, d10, i14, j14, rfl, rfl, p11, p6, i8, a7, l6, i7, z14⟩
      refine kk (sm [7, 8, 9]) ?_
      have t36 := p11.len
      have f27 := p6.len
      have j35 := i8.len
      have l34 := a7.len
      have j29 := l6.len
      have a32 := i7.len
      have v41 := z14.len
      refine xt 2 [7, 8, 9] [] (sm [7, 8, 9]) [4, 5, 6, 9, 76, 77] RG (w28.trans f62).r (xO1 (lds := [2, 4]) 11 (xId (lds := [2, 4]) (w28.trans f62).r (eStL l62 0 6) ?_))
      rintro _ _ _ - ⟨rfl, rfl⟩
      refine kf (xSel (sm [6, 0, 1, 2, 3, 4, 5, 7, 8, 9]) (xSub [(4, vp b1 0), (5, vp b2 0), (6, vp b3 0), (9, vp l62 0), (77, vi y12.2.2)] ?_))
      exact hD8 _ _ _ (w28.trans f62) ⟨i11, j11, i6, d6, f7, z8, w8, j8, t6, v6, i9, z7, j7, d10, i14, j14, l62, by kernel_rfl, by kernel_rfl, z14, p11, p6, i8, a7, l6, i7⟩
    ·refine xIe (lds := [2, 4]) pR eB ?_
     rintro _ _ _ - ⟨v61, rfl, rfl, rfl⟩
     refine kk (sm [1, 2, 3]) ?_
     have l10 := l10.mono e6.b
     refine xO1 (lds := [2, 4]) 5 (xIe (lds := [2, 4]) pR (eC 0 (fun g' lr eb ln => c7 g' x.input w6 z6 (404 : Int) (by rw [eb]; exact l10) hy9)) ?_)
     rintro _ p70 _ d44 ⟨_, rfl, z57, v57, rfl, rfl, l47⟩
     refine kk (sm [1, 2, 3]) ?_
     have p66 := l47.len
     refine xSel (sm [4, 5, 6, 7, 8, 9, 0, 1, 2, 3]) ?_
     have v5 := v5.mono (e6.trans d44).b
     have z4 := z4.mono (e6.trans d44).b
     have i5 := i5.mono (e6.trans d44).b
     have j5 := j5.mono (e6.trans d44).b
     have v4 := v4.mono (e6.trans d44).b
     have a4 := a4.mono (e6.trans d44).b
     refine xO1 (lds := [2, 4]) 6 (xIe (lds := [2, 4]) d44.r (eC 6 (fun g' lr eb ln => c19 g' b_c (⟨c.number, c.node, c.sender, c.collector, c.next_, c.cycle, (c.asked), c.want⟩ : Comp) t5 z13 w13 w7 a6 p10 i10 f4 j10 z10 z2 d7 t7 v7 l8 v8 t8 x.cycle (y9 : List UInt8) z57 v57 (by rw [eb]; exact v5) (by rw [eb]; exact z4) (by rw [eb]; exact i5) (by rw [eb]; exact j5) (by rw [eb]; exact v4) (by rw [eb]; exact a4) ((l47.mono p70.br).mono lr) f61)) ?_)
     rintro _ l72 _ z62 ⟨_, rfl, i11, j11, i6, d6, f7, z8, w8, j8, t6, v6, i9, z7, j7, d10, i14, j14, rfl, rfl, p11, p6, i8, a7, l6, i7, z14⟩
     refine kk (sm [7, 8, 9]) ?_
     have t36 := p11.len
     have f27 := p6.len
     have j35 := i8.len
     have l34 := a7.len
     have j29 := l6.len
     have a32 := i7.len
     have v41 := z14.len
     refine xt 2 [7, 8, 9] [] (sm [7, 8, 9]) [4, 5, 6, 9, 76, 77] RG (d44.trans z62).r (xO1 (lds := [2, 4]) 11 (xId (lds := [2, 4]) (d44.trans z62).r (eStL v61 0 6) ?_))
     rintro _ _ _ - ⟨rfl, rfl⟩
     refine kf (xSel (sm [6, 0, 1, 2, 3, 4, 5, 7, 8, 9]) (xSub [(4, vp b1 0), (5, vp b2 0), (6, vp b3 0), (9, vp v61 0), (77, vi y12.2.2)] ?_))
     exact hD8 _ _ _ (d44.trans z62) ⟨i11, j11, i6, d6, f7, z8, w8, j8, t6, v6, i9, z7, j7, d10, i14, j14, v61, by kernel_rfl, by kernel_rfl, z14, p11, p6, i8, a7, l6, i7⟩
  ·have hS := cond_F h7 hS
   have h7p : ¬ (t4 = 0) := ne_of_beq_false_ h7
   refine xSq (xRg (xb 2 [] [0, 4, 5, 6, 65, 98] (xRe (xW ?_))))
   refine xCd ((t4 == 1)) (fun z49 => ?_) (fun z49 => ?_)
   ·have hS := cond_T z49 hS
    have f66 : t4 = 1 := eq_of_beq z49
    refine xSq (xRg (xB 5 [(2, 1), (4, 1)] [(4, vp b1 0), (5, vp b2 0), (6, vp b3 0), (100, vp b_c 0), (102, (aFrame x.frame a3 w4)), (104, vb x.came)] (xSel (sm [3, 4, 5, 6, 7, 8, 0, 1, 2]) ?_)))
    have v5 := v5.mono e6.b
    have z4 := z4.mono e6.b
    have i5 := i5.mono e6.b
    have j5 := j5.mono e6.b
    have v4 := v4.mono e6.b
    have a4 := a4.mono e6.b
    have a5 := a5.mono e6.b
    obtain ⟨i33, i69, hS⟩ := bindO_T hS
    refine xE (eC 6 (fun g' lr eb ln => c22 g' b_c (⟨c.number, c.node, c.sender, c.collector, c.next_, c.cycle, (c.asked), c.want⟩ : Comp) t5 z13 w13 w7 a6 p10 i10 f4 j10 z10 z2 d7 t7 v7 l8 v8 t8 x.frame a3 w4 (x.came) (by rw [eb]; exact v5) (by rw [eb]; exact z4) (by rw [eb]; exact i5) (by rw [eb]; exact j5) (by rw [eb]; exact v4) (by rw [eb]; exact a4) ((a5.mono g5.br).mono lr) i69)) ?_
    rintro _ w70 _ v46 ⟨_, rfl, f36, l36, l27, i28, f34, a34, z35, t34, v28, i29, w29, t33, j33, w32, rfl, rfl, i30, v17, p26, f24, i20, w22⟩
    have p59 := i30.len
    have l51 := v17.len
    have a56 := p26.len
    have a55 := f24.len
    have z53 := i20.len
    have p54 := w22.len
    refine xb 1 [] [4, 5, 6, 14] (xRe (xW (xSq (xRg (xB 5 [(0, 8), (2, 7), (4, 7)] [(6, vp b3 0), (14, vi i33.2), (107, (aRComp m d3 j3 p0 i0 l1 v1 l0 v0 i1 d1)), (109, (aFrame x.frame a3 w4)), (111, vb x.came)] ?_)))))
    have d2 := d2.mono (e6.trans v46).b
    have w0 := w0.mono (e6.trans v46).b
    have j1 := j1.mono (e6.trans v46).b
    have j0 := j0.mono (e6.trans v46).b
    have d0 := d0.mono (e6.trans v46).b
    have a5 := a5.mono v46.b
    obtain ⟨p58, p68, hS⟩ := bindO_T hS
    refine xE (eC 0 (fun g' lr eb ln => c23 g' m d3 j3 p0 i0 l1 v1 l0 v0 i1 d1 x.frame a3 w4 (x.came) (by rw [eb]; exact d2) (by rw [eb]; exact w0) (by rw [eb]; exact j1) (by rw [eb]; exact j0) (by rw [eb]; exact d0) ((a5.mono w70.br).mono lr) p68)) ?_
    rintro _ p74 _ i46 ⟨_, rfl, f30, f29, l18, z17, l25, i27, t19, d20, l22, w23, rfl, rfl, z43, j36, j40, f37, j38⟩
    have f59 := z43.len
    have p51 := j36.len
    have f55 := j40.len
    have w52 := f37.len
    have t53 := j38.len
    refine xb 3 [] [6, 14, 113, 114] (xE eB ?_)
    rintro _ _ _ - ⟨a60, rfl, rfl, rfl⟩
    refine xBo 2 [(10, 0)] [some ⟨a60, 45, (cRComp p58.1 f30 f29 l18 z17 l25 i27 t19 d20 l22 w23)⟩, some ⟨b_c, 77, [vi i33.1.number, vp t5 0, vp f4 0, vp z2 0, vi i33.1.next_, vi i33.1.cycle, vb i33.1.asked, vi i33.1.want.base, vi i33.1.want.have_]⟩, some ⟨t5, 126, (cNode i33.1.node f36 l36 l27 i28 f34 a34)⟩, some ⟨f4, 130, [vs z35 i33.1.sender.pieces t34]⟩, some ⟨z2, 132, (cColl i33.1.collector v28 i29 t33 j33)⟩, w29, w32, some ⟨b3, 45, (cRComp (⟨(⟨0, 0, 0, 0, 0, 0, ([] : List UInt8), false, false, (⟨0, 0, (⟨0, 0⟩ : Want), ([] : List UInt8)⟩ : Heard), false, Z0⟩ : RNode), Z3, Z4, false, 0⟩ : RComp) none 0 none 0 none 0 none 0 none 0)⟩, some ⟨b2, 51, (cCallT x w6 z6 a3 w4)⟩, some ⟨b1, 45, (cRComp m d3 j3 p0 i0 l1 v1 l0 v0 i1 d1)⟩] [(6, vp b3 0), (14, vi i33.2), (15, vp a60 0), (16, vi p58.2)] (xRe (xW (xSq (xRg (xbo 6 [(0, 0), (4, 7)] [some ⟨a60, 45, (cRComp p58.1 f30 f29 l18 z17 l25 i27 t19 d20 l22 w23)⟩, some ⟨b_c, 77, [vi i33.1.number, vp t5 0, vp f4 0, vp z2 0, vi i33.1.next_, vi i33.1.cycle, vb i33.1.asked, vi i33.1.want.base, vi i33.1.want.have_]⟩, some ⟨t5, 126, (cNode i33.1.node f36 l36 l27 i28 f34 a34)⟩, some ⟨f4, 130, [vs z35 i33.1.sender.pieces t34]⟩, some ⟨z2, 132, (cColl i33.1.collector v28 i29 t33 j33)⟩, w29, w32, some ⟨b3, 45, (cRComp p58.1 f30 f29 l18 z17 l25 i27 t19 d20 l22 w23)⟩, some ⟨b2, 51, (cCallT x w6 z6 a3 w4)⟩, some ⟨b1, 45, (cRComp m d3 j3 p0 i0 l1 v1 l0 v0 i1 d1)⟩] [6, 7] (xRe (xW ?_)))))))
    have i30 := i30.mono i46.b
    have v17 := v17.mono i46.b
    have p26 := p26.mono i46.b
    have f24 := f24.mono i46.b
    have i20 := i20.mono i46.b
    have w22 := w22.mono i46.b
    obtain rfl := Option.some.inj hS
    exact xRetC (sm [1, 2, 3, 4, 5, 6]) [(6, 7)] (e6.trans (v46.trans i46)) ⟨f36, l36, l27, i28, f34, a34, z35, t34, v28, i29, w29, t33, j33, w32, f30, f29, l18, z17, l25, i27, t19, d20, l22, w23, by kernel_rfl, by kernel_rfl, i30, v17, p26, f24, i20, w22, z43, j36, j40, f37, j38⟩ (fun _ _ h => h)
   ·have hS := cond_F z49 hS
    have f66 : ¬ (t4 = 1) := ne_of_beq_false_ z49
    refine xSq (xRg (xB 2 [] [(0, vp b_c 0), (4, vp b1 0), (5, vp b2 0), (6, vp b3 0), (65, vi t4), (119, vb (t4 == 2))] (xRe (xW ?_))))
    refine xCd ((t4 == 2)) (fun w49 => ?_) (fun w49 => ?_)
    ·have hS := cond_T w49 hS
     have j67 : t4 = 2 := eq_of_beq w49
     refine xSq (xRg (xb 1 [] [4, 6, 122] (xSel (sm [3, 4, 5, 6, 7, 8, 0, 1, 2]) ?_)))
     have v5 := v5.mono e6.b
     have z4 := z4.mono e6.b
     have i5 := i5.mono e6.b
     have j5 := j5.mono e6.b
     have v4 := v4.mono e6.b
     have a4 := a4.mono e6.b
     obtain ⟨t9, w67, hS⟩ := bindO_T hS
     refine xE (eC 6 (fun g' lr eb ln => c24 g' b_c (⟨c.number, c.node, c.sender, c.collector, c.next_, c.cycle, (c.asked), c.want⟩ : Comp) t5 z13 w13 w7 a6 p10 i10 f4 j10 z10 z2 d7 t7 v7 l8 v8 t8 (by rw [eb]; exact v5) (by rw [eb]; exact z4) (by rw [eb]; exact i5) (by rw [eb]; exact j5) (by rw [eb]; exact v4) (by rw [eb]; exact a4) w67)) ?_
     rintro _ j72 _ v47 ⟨_, rfl, l29, a29, a16, p18, w26, v25, l26, t25, l20, j20, t29, p21, v21, v32, f33, j32, rfl, rfl, w31, v18, d26, d23, v19, p22, l35⟩
     have v58 := w31.len
     have i50 := v18.len
     have t55 := d26.len
     have i55 := d23.len
     have t52 := v19.len
     have d54 := p22.len
     have f63 := l35.len
     refine xB 4 [] [(4, vp b1 0), (6, vp b3 0), (124, (aFrame t9.2.1 f33 j32)), (125, vb t9.2.2.1), (126, vi t9.2.2.2)] (xE eB ?_)
     rintro _ _ _ - ⟨i51, rfl, rfl, rfl⟩
     refine xbo 3 [(7, 0)] [some ⟨i51, 49, (cFrame t9.2.1 f33 j32)⟩, some ⟨b_c, 77, [vi t9.1.number, vp t5 0, vp f4 0, vp z2 0, vi t9.1.next_, vi t9.1.cycle, vb t9.1.asked, vi t9.1.want.base, vi t9.1.want.have_]⟩, some ⟨t5, 126, (cNode t9.1.node l29 a29 a16 p18 w26 v25)⟩, some ⟨f4, 130, [vs l26 t9.1.sender.pieces t25]⟩, some ⟨z2, 132, (cColl t9.1.collector l20 j20 p21 v21)⟩, t29, v32, some ⟨b3, 45, (cRComp (⟨(⟨0, 0, 0, 0, 0, 0, ([] : List UInt8), false, false, (⟨0, 0, (⟨0, 0⟩ : Want), ([] : List UInt8)⟩ : Heard), false, Z0⟩ : RNode), Z3, Z4, false, 0⟩ : RComp) none 0 none 0 none 0 none 0 none 0)⟩, some ⟨b2, 51, (cCallT x w6 z6 a3 w4)⟩, some ⟨b1, 45, (cRComp m d3 j3 p0 i0 l1 v1 l0 v0 i1 d1)⟩] [4, 6, 17, 18, 19] (xRe (xW (xSq (xRg (xB 1 [(0, 9)] [(6, vp b3 0), (17, vp i51 0), (18, vb t9.2.2.1), (19, vi t9.2.2.2), (128, (aRComp m d3 j3 p0 i0 l1 v1 l0 v0 i1 d1))] ?_)))))
     have d2 := d2.mono (e6.trans v47).b
     have w0 := w0.mono (e6.trans v47).b
     have j1 := j1.mono (e6.trans v47).b
     have j0 := j0.mono (e6.trans v47).b
     have d0 := d0.mono (e6.trans v47).b
     obtain ⟨l3, j69, hS⟩ := bindO_T hS
     refine xE (eC 0 (fun g' lr eb ln => c25 g' m d3 j3 p0 i0 l1 v1 l0 v0 i1 d1 (by rw [eb]; exact d2) (by rw [eb]; exact w0) (by rw [eb]; exact j1) (by rw [eb]; exact j0) (by rw [eb]; exact d0) j69)) ?_
     rintro _ a64 _ w46 ⟨_, rfl, v15, f15, w12, p12, v14, f14, d12, f12, j13, p13, f41, l41, rfl, rfl, d31, t17, f26, p20, a21, f44⟩
     have l58 := d31.len
     have w51 := t17.len
     have l56 := f26.len
     have w53 := p20.len
     have l53 := a21.len
     have z64 := f44.len
     refine xb 5 [] [6, 17, 18, 19, 130, 131, 132, 133] (xE eB ?_)
     rintro _ _ _ - ⟨a61, rfl, rfl, rfl⟩
     refine xE eB ?_
     rintro _ _ _ - ⟨z63, rfl, rfl, rfl⟩
     refine xBo 4 [(9, 1), (10, 0)] [some ⟨z63, 49, (cFrame l3.2.1 f41 l41)⟩, some ⟨a61, 45, (cRComp l3.1 v15 f15 w12 p12 v14 f14 d12 f12 j13 p13)⟩, some ⟨i51, 49, (cFrame t9.2.1 f33 j32)⟩, some ⟨b_c, 77, [vi t9.1.number, vp t5 0, vp f4 0, vp z2 0, vi t9.1.next_, vi t9.1.cycle, vb t9.1.asked, vi t9.1.want.base, vi t9.1.want.have_]⟩, some ⟨t5, 126, (cNode t9.1.node l29 a29 a16 p18 w26 v25)⟩, some ⟨f4, 130, [vs l26 t9.1.sender.pieces t25]⟩, some ⟨z2, 132, (cColl t9.1.collector l20 j20 p21 v21)⟩, t29, v32, some ⟨b3, 45, (cRComp (⟨(⟨0, 0, 0, 0, 0, 0, ([] : List UInt8), false, false, (⟨0, 0, (⟨0, 0⟩ : Want), ([] : List UInt8)⟩ : Heard), false, Z0⟩ : RNode), Z3, Z4, false, 0⟩ : RComp) none 0 none 0 none 0 none 0 none 0)⟩, some ⟨b2, 51, (cCallT x w6 z6 a3 w4)⟩, some ⟨b1, 45, (cRComp m d3 j3 p0 i0 l1 v1 l0 v0 i1 d1)⟩] [(6, vp b3 0), (17, vp i51 0), (18, vb t9.2.2.1), (19, vi t9.2.2.2), (20, vp a61 0), (21, vp z63 0), (22, vb l3.2.2.1), (23, vi l3.2.2.2)] (xRe (xW (xSq ?_)))
     refine xDr 0 [0, 1, 2] [15] [some ⟨z63, 49, (cFrame l3.2.1 f41 l41)⟩, some ⟨a61, 45, (cRComp l3.1 v15 f15 w12 p12 v14 f14 d12 f12 j13 p13)⟩, some ⟨i51, 49, (cFrame t9.2.1 f33 j32)⟩, some ⟨b_c, 77, [vi t9.1.number, vp t5 0, vp f4 0, vp z2 0, vi t9.1.next_, vi t9.1.cycle, vb t9.1.asked, vi t9.1.want.base, vi t9.1.want.have_]⟩, some ⟨t5, 126, (cNode t9.1.node l29 a29 a16 p18 w26 v25)⟩, some ⟨f4, 130, [vs l26 t9.1.sender.pieces t25]⟩, some ⟨z2, 132, (cColl t9.1.collector l20 j20 p21 v21)⟩, some ⟨b2, 51, (cCallT x w6 z6 a3 w4)⟩, some ⟨b1, 45, (cRComp m d3 j3 p0 i0 l1 v1 l0 v0 i1 d1)⟩] 16 (fun RG => ?_) (fun _ _ _ _ _ h => h)
     refine xt 13 [0, 1, 2] [(0, 1), (1, 2), (2, 0)] (sm [0, 1, 2, 3, 4, 5, 6, 10, 11]) [6, 18, 19, 22, 23, 134, 135, 136] RG pR ?_
     have l35 := l35.mono w46.b
     obtain ⟨v44, d67, hS⟩ := letJ_T hS
     refine xO1 (lds := [0, 1, 2]) 3 (xIe (lds := [0, 1, 2]) pR (eC 0 (fun g' lr eb ln => c21 g' t9.2.1 f33 j32 l3.2.1 f41 l41 ((l35.mono a64.br).mono lr) ((f44.mono a64.br).mono lr) d67)) ?_)
     rintro _ i73 _ p34 ⟨_, rfl, rfl, rfl⟩
     refine kk (sm [0, 1, 2, 3, 4, 5, 6, 10, 11]) (xT 11 [4] [] (sm [0, 1, 2, 3, 4, 5, 6, 10, 11]) [(6, vp b3 0), (18, vb t9.2.2.1), (19, vi t9.2.2.2), (22, vb l3.2.2.1), (23, vi l3.2.2.2), (134, (aRComp l3.1 v15 f15 w12 p12 v14 f14 d12 f12 j13 p13)), (138, vb v44)] RG p34.r ?_)
     refine wpa_grp 7 [true, true, true, true, true, true, true, true, true, false, false, false, false, false, false, false] [(6, vp b3 0), (19, vi t9.2.2.2), (23, vi l3.2.2.2), (134, (aRComp l3.1 v15 f15 w12 p12 v14 f14 d12 f12 j13 p13)), (142, vb (v44 && (t9.2.2.1 == l3.2.2.1)))] (fun hk4 => ?_) ?_
     ·refine wpq_split 138 (b := v44) (by kernel_rfl) (fun i62 => ?_) (fun i62 => ?_)
      ·refine xt 7 [5, 6, 7, 8] [] (sm [0, 1, 2, 3, 4, 5, 6, 10, 11]) [6, 19, 23, 134, 142] RG p34.r ?_
       refine wpq_re 142 (v := vb (t9.2.2.1 == l3.2.2.1)) (Value.bool ((v44 && (t9.2.2.1 == l3.2.2.1)))) (by kernel_rfl) (re_and1 i62) ?_
       exact wpq_sub _ (by kernel_rfl) hk4
      ·refine xT 7 [5, 6, 7, 8] [] (sm [0, 1, 2, 3, 4, 5, 6, 10, 11]) [(6, vp b3 0), (19, vi t9.2.2.2), (23, vi l3.2.2.2), (134, (aRComp l3.1 v15 f15 w12 p12 v14 f14 d12 f12 j13 p13)), (142, vb false)] RG p34.r ?_
       refine wpq_re 142 (v := vb false) (Value.bool ((v44 && (t9.2.2.1 == l3.2.2.1)))) (by kernel_rfl) (re_and0 i62) ?_
       exact wpq_sub _ (by kernel_rfl) hk4
     ·refine xt 6 [9] [] (sm [0, 1, 2, 3, 4, 5, 6, 10, 11]) [6, 19, 23, 134, 143] RG p34.r ?_
      refine wpa_grp 2 [true, true, true, true, true, true, true, true, true, true, true, true, true, true, false, false] [(6, vp b3 0), (134, (aRComp l3.1 v15 f15 w12 p12 v14 f14 d12 f12 j13 p13)), (147, vb ((v44 && (t9.2.2.1 == l3.2.2.1)) && (t9.2.2.2 == l3.2.2.2)))] (fun hk9 => ?_) ?_
      ·refine wpq_split 143 (b := (v44 && (t9.2.2.1 == l3.2.2.1))) (by kernel_rfl) (fun v48 => ?_) (fun v48 => ?_)
       ·have i71 := (and_true_ v48).1
        have p67 := (and_true_ v48).2
        have j71 : t9.2.2.1 = l3.2.2.1 := eq_of_beq p67
        refine xT 2 [10, 11, 12, 13] [] (sm [0, 1, 2, 3, 4, 5, 6, 10, 11]) [(6, vp b3 0), (134, (aRComp l3.1 v15 f15 w12 p12 v14 f14 d12 f12 j13 p13)), (147, vb (t9.2.2.2 == l3.2.2.2))] RG p34.r (wpq_re 147 (v := vb (t9.2.2.2 == l3.2.2.2)) (Value.bool (((v44 && (t9.2.2.1 == l3.2.2.1)) && (t9.2.2.2 == l3.2.2.2)))) (by kernel_rfl) (re_and1 v48) ?_)
        exact wpq_sub _ (by kernel_rfl) hk9
       ·refine xt 2 [10, 11, 12, 13] [] (sm [0, 1, 2, 3, 4, 5, 6, 10, 11]) [6, 134, 147] RG p34.r ?_
        refine wpq_re 147 (v := vb false) (Value.bool (((v44 && (t9.2.2.1 == l3.2.2.1)) && (t9.2.2.2 == l3.2.2.2)))) (by kernel_rfl) (re_and0 v48) ?_
        exact wpq_sub _ (by kernel_rfl) hk9
      ·refine xO1 (lds := [0, 1, 2]) 14 ?_
       refine xId (lds := [0, 1, 2]) p34.r (eStL b3 0 9) ?_
       rintro _ _ _ - ⟨rfl, rfl⟩
       refine kk (sm [0, 1, 2, 3, 4, 5, 6, 10, 11]) (xT 0 [15] [] (sm [0, 1, 2, 3, 4, 5, 6, 10, 11]) [(6, vp b3 0), (7, vb ((v44 && (t9.2.2.1 == l3.2.2.1)) && (t9.2.2.2 == l3.2.2.2)))] RG p34.r (xAe (lds := [0, 1, 2]) (xW ?_)))
       have w31 := w31.mono (w46.trans p34).b
       have v18 := v18.mono (w46.trans p34).b
       have d26 := d26.mono (w46.trans p34).b
       have d23 := d23.mono (w46.trans p34).b
       have v19 := v19.mono (w46.trans p34).b
       have p22 := p22.mono (w46.trans p34).b
       have d31 := d31.mono p34.b
       have t17 := t17.mono p34.b
       have f26 := f26.mono p34.b
       have p20 := p20.mono p34.b
       have a21 := a21.mono p34.b
       obtain rfl := Option.some.inj hS
       exact xRetC (sm [3, 4, 5, 6, 7, 8]) [(6, 9)] (e6.trans (v47.trans (w46.trans p34))) ⟨l29, a29, a16, p18, w26, v25, l26, t25, l20, j20, t29, p21, v21, v32, v15, f15, w12, p12, v14, f14, d12, f12, j13, p13, by kernel_rfl, by kernel_rfl, w31, v18, d26, d23, v19, p22, d31, t17, f26, p20, a21⟩ (fun _ _ h => h)
    ·have hS := cond_F w49 hS
     have j67 : ¬ (t4 = 2) := ne_of_beq_false_ w49
     refine xSq (xRg (xb 2 [] [0, 4, 5, 6, 65, 148] (xRe (xW ?_))))
     refine xCd ((t4 == 3)) (fun i48 => ?_) (fun i48 => ?_)
     ·have hS := cond_T i48 hS
      have l69 : t4 = 3 := eq_of_beq i48
      refine xSq (xRg (xB 5 [(2, 1), (4, 1)] [(4, vp b1 0), (5, vp b2 0), (6, vp b3 0), (151, vp b_c 0), (153, (aFrame x.frame a3 w4)), (155, vb x.came)] (xSel (sm [3, 4, 5, 6, 7, 8, 0, 1, 2]) ?_)))
      have v5 := v5.mono e6.b
      have z4 := z4.mono e6.b
      have i5 := i5.mono e6.b
      have j5 := j5.mono e6.b
      have v4 := v4.mono e6.b
      have a4 := a4.mono e6.b
      have a5 := a5.mono e6.b
      obtain ⟨v10, l66, hS⟩ := bindO_T hS
      refine xE (eC 6 (fun g' lr eb ln => c26 g' b_c (⟨c.number, c.node, c.sender, c.collector, c.next_, c.cycle, (c.asked), c.want⟩ : Comp) t5 z13 w13 w7 a6 p10 i10 f4 j10 z10 z2 d7 t7 v7 l8 v8 t8 x.frame a3 w4 (x.came) (by rw [eb]; exact v5) (by rw [eb]; exact z4) (by rw [eb]; exact i5) (by rw [eb]; exact j5) (by rw [eb]; exact v4) (by rw [eb]; exact a4) ((a5.mono g5.br).mono lr) l66)) ?_
      rintro _ f72 _ a46 ⟨_, rfl, z30, a30, i17, t18, t23, z26, z25, v26, i19, w21, v29, p23, i21, l33, d40, f40, rfl, rfl, v30, l17, w25, i24, w20, f22, i43⟩
      have z59 := v30.len
      have a49 := l17.len
      have d56 := w25.len
      have l55 := i24.len
      have a52 := w20.len
      have z54 := f22.len
      have i66 := i43.len
      refine xb 4 [] [4, 5, 6, 157, 158, 159] (xE eB ?_)
      rintro _ _ _ - ⟨d50, rfl, rfl, rfl⟩
      refine xBo 3 [(11, 0)] [some ⟨d50, 92, (cSett v10.2.1 d40 f40)⟩, some ⟨b_c, 77, [vi v10.1.number, vp t5 0, vp f4 0, vp z2 0, vi v10.1.next_, vi v10.1.cycle, vb v10.1.asked, vi v10.1.want.base, vi v10.1.want.have_]⟩, some ⟨t5, 126, (cNode v10.1.node z30 a30 i17 t18 t23 z26)⟩, some ⟨f4, 130, [vs z25 v10.1.sender.pieces v26]⟩, some ⟨z2, 132, (cColl v10.1.collector i19 w21 p23 i21)⟩, v29, l33, some ⟨b3, 45, (cRComp (⟨(⟨0, 0, 0, 0, 0, 0, ([] : List UInt8), false, false, (⟨0, 0, (⟨0, 0⟩ : Want), ([] : List UInt8)⟩ : Heard), false, Z0⟩ : RNode), Z3, Z4, false, 0⟩ : RComp) none 0 none 0 none 0 none 0 none 0)⟩, some ⟨b2, 51, (cCallT x w6 z6 a3 w4)⟩, some ⟨b1, 45, (cRComp m d3 j3 p0 i0 l1 v1 l0 v0 i1 d1)⟩] [(4, vp b1 0), (5, vp b2 0), (6, vp b3 0), (24, vp d50 0), (25, vb v10.2.2.1), (26, vi v10.2.2.2)] (xRe (xW (xSq (xRg (xb 5 [(0, 9), (2, 8), (4, 8)] [6, 24, 25, 26, 161, 163, 165] ?_)))))
      have d2 := d2.mono (e6.trans a46).b
      have w0 := w0.mono (e6.trans a46).b
      have j1 := j1.mono (e6.trans a46).b
      have j0 := j0.mono (e6.trans a46).b
      have d0 := d0.mono (e6.trans a46).b
      have a5 := a5.mono a46.b
      obtain ⟨f0, z69, hS⟩ := bindO_T hS
      refine xE (eC 0 (fun g' lr eb ln => c27 g' m d3 j3 p0 i0 l1 v1 l0 v0 i1 d1 x.frame a3 w4 (x.came) (by rw [eb]; exact d2) (by rw [eb]; exact w0) (by rw [eb]; exact j1) (by rw [eb]; exact j0) (by rw [eb]; exact d0) (by rw [eb]; exact a5) z69)) ?_
      rintro _ w74 _ a45 ⟨_, rfl, a13, w14, a8, z9, t11, l11, w10, a9, w11, f10, z40, i39, rfl, rfl, v31, a17, p25, l19, v22, p43⟩
      have t58 := v31.len
      have a48 := a17.len
      have p56 := p25.len
      have f52 := l19.len
      have w54 := v22.len
      have j66 := p43.len
      refine xB 5 [] [(6, vp b3 0), (24, vp d50 0), (25, vb v10.2.2.1), (26, vi v10.2.2.2), (167, (aRComp f0.1 a13 w14 a8 z9 t11 l11 w10 a9 w11 f10)), (168, (aSett f0.2.1 z40 i39)), (169, vb f0.2.2.1), (170, vi f0.2.2.2)] (xE eB ?_)
      rintro _ _ _ - ⟨d65, rfl, rfl, rfl⟩
      refine xE eB ?_
      rintro _ _ _ - ⟨i65, rfl, rfl, rfl⟩
      refine xbo 4 [(13, 1), (14, 0)] [some ⟨i65, 95, (cSett f0.2.1 z40 i39)⟩, some ⟨d65, 45, (cRComp f0.1 a13 w14 a8 z9 t11 l11 w10 a9 w11 f10)⟩, some ⟨d50, 92, (cSett v10.2.1 d40 f40)⟩, some ⟨b_c, 77, [vi v10.1.number, vp t5 0, vp f4 0, vp z2 0, vi v10.1.next_, vi v10.1.cycle, vb v10.1.asked, vi v10.1.want.base, vi v10.1.want.have_]⟩, some ⟨t5, 126, (cNode v10.1.node z30 a30 i17 t18 t23 z26)⟩, some ⟨f4, 130, [vs z25 v10.1.sender.pieces v26]⟩, some ⟨z2, 132, (cColl v10.1.collector i19 w21 p23 i21)⟩, v29, l33, some ⟨b3, 45, (cRComp (⟨(⟨0, 0, 0, 0, 0, 0, ([] : List UInt8), false, false, (⟨0, 0, (⟨0, 0⟩ : Want), ([] : List UInt8)⟩ : Heard), false, Z0⟩ : RNode), Z3, Z4, false, 0⟩ : RComp) none 0 none 0 none 0 none 0 none 0)⟩, some ⟨b2, 51, (cCallT x w6 z6 a3 w4)⟩, some ⟨b1, 45, (cRComp m d3 j3 p0 i0 l1 v1 l0 v0 i1 d1)⟩] [6, 24, 25, 26, 27, 28, 29, 30] (xRe (xW (xSq ?_)))
      refine xDr 0 [0, 1, 3] [16] [some ⟨i65, 95, (cSett f0.2.1 z40 i39)⟩, some ⟨d65, 45, (cRComp f0.1 a13 w14 a8 z9 t11 l11 w10 a9 w11 f10)⟩, some ⟨d50, 92, (cSett v10.2.1 d40 f40)⟩, some ⟨b_c, 77, [vi v10.1.number, vp t5 0, vp f4 0, vp z2 0, vi v10.1.next_, vi v10.1.cycle, vb v10.1.asked, vi v10.1.want.base, vi v10.1.want.have_]⟩, some ⟨t5, 126, (cNode v10.1.node z30 a30 i17 t18 t23 z26)⟩, some ⟨f4, 130, [vs z25 v10.1.sender.pieces v26]⟩, some ⟨z2, 132, (cColl v10.1.collector i19 w21 p23 i21)⟩, some ⟨b2, 51, (cCallT x w6 z6 a3 w4)⟩, some ⟨b1, 45, (cRComp m d3 j3 p0 i0 l1 v1 l0 v0 i1 d1)⟩] 17 (fun RG => ?_) (fun _ _ _ _ _ h => h)
      refine xT 14 [0, 1, 3] [(0, 1), (1, 2), (3, 0)] (sm [0, 1, 2, 3, 4, 5, 6, 10, 11]) [(6, vp b3 0), (25, vb v10.2.2.1), (26, vi v10.2.2.2), (29, vb f0.2.2.1), (30, vi f0.2.2.2), (171, (aRComp f0.1 a13 w14 a8 z9 t11 l11 w10 a9 w11 f10)), (172, (aSett v10.2.1 d40 f40)), (174, (aSett f0.2.1 z40 i39))] RG pR ?_
      have i43 := i43.mono a45.b
      obtain ⟨d70, a66, hS⟩ := letJ_T hS
      refine xO1 (lds := [0, 1, 3]) 2 (xIe (lds := [0, 1, 3]) pR (eC 0 (fun g' lr eb ln => c29 g' v10.2.1 d40 f40 (by rw [eb]; exact i43) a66)) ?_)
      rintro _ v64 _ p28 ⟨_, rfl, w58, j57, rfl, rfl, z47⟩
      refine kk (sm [0, 1, 2, 3, 4, 5, 6, 10, 11]) ?_
      have z66 := z47.len
      have p43 := p43.mono p28.b
      obtain ⟨z45, d68, hS⟩ := letJ_T hS
      refine xO1 (lds := [0, 1, 3]) 4 (xIe (lds := [0, 1, 3]) p28.r (eC 0 (fun g' lr eb ln => c28 g' d70 w58 j57 f0.2.1 z40 i39 ((z47.mono v64.br).mono lr) ((p43.mono v64.br).mono lr) d68)) ?_)
      rintro _ i72 _ j34 ⟨_, rfl, rfl, rfl⟩
      refine kk (sm [0, 1, 2, 3, 4, 5, 6, 10, 11]) (xt 11 [5] [] (sm [0, 1, 2, 3, 4, 5, 6, 10, 11]) [6, 25, 26, 29, 30, 171, 176] RG (p28.trans j34).r ?_)
      refine wpa_grp 7 [true, true, true, true, true, true, true, true, true, true, false, false, false, false, false, false, false] [(6, vp b3 0), (26, vi v10.2.2.2), (30, vi f0.2.2.2), (171, (aRComp f0.1 a13 w14 a8 z9 t11 l11 w10 a9 w11 f10)), (180, vb (z45 && (v10.2.2.1 == f0.2.2.1)))] (fun hk5 => ?_) ?_
      ·refine wpq_split 176 (b := z45) (by kernel_rfl) (fun i63 => ?_) (fun i63 => ?_)
       ·refine xT 7 [6, 7, 8, 9] [] (sm [0, 1, 2, 3, 4, 5, 6, 10, 11]) [(6, vp b3 0), (26, vi v10.2.2.2), (30, vi f0.2.2.2), (171, (aRComp f0.1 a13 w14 a8 z9 t11 l11 w10 a9 w11 f10)), (180, vb (v10.2.2.1 == f0.2.2.1))] RG (p28.trans j34).r ?_
        refine wpq_re 180 (v := vb (v10.2.2.1 == f0.2.2.1)) (Value.bool ((z45 && (v10.2.2.1 == f0.2.2.1)))) (by kernel_rfl) (re_and1 i63) ?_
        exact wpq_sub _ (by kernel_rfl) hk5
       ·refine xt 7 [6, 7, 8, 9] [] (sm [0, 1, 2, 3, 4, 5, 6, 10, 11]) [6, 26, 30, 171, 180] RG (p28.trans j34).r ?_
        refine wpq_re 180 (v := vb false) (Value.bool ((z45 && (v10.2.2.1 == f0.2.2.1)))) (by kernel_rfl) (re_and0 i63) ?_
        exact wpq_sub _ (by kernel_rfl) hk5
      ·refine xT 6 [10] [] (sm [0, 1, 2, 3, 4, 5, 6, 10, 11]) [(6, vp b3 0), (26, vi v10.2.2.2), (30, vi f0.2.2.2), (171, (aRComp f0.1 a13 w14 a8 z9 t11 l11 w10 a9 w11 f10)), (181, vb (z45 && (v10.2.2.1 == f0.2.2.1)))] RG (p28.trans j34).r ?_
       refine wpa_grp 2 [true, true, true, true, true, true, true, true, true, true, true, true, true, true, true, false, false] [(6, vp b3 0), (171, (aRComp f0.1 a13 w14 a8 z9 t11 l11 w10 a9 w11 f10)), (185, vb ((z45 && (v10.2.2.1 == f0.2.2.1)) && (v10.2.2.2 == f0.2.2.2)))] (fun j50 => ?_) ?_
       ·refine wpq_split 181 (b := (z45 && (v10.2.2.1 == f0.2.2.1))) (by kernel_rfl) (fun z50 => ?_) (fun z50 => ?_)
        ·have v71 := (and_true_ z50).1
         have v68 := (and_true_ z50).2
         have f70 : v10.2.2.1 = f0.2.2.1 := eq_of_beq v68
         refine xt 2 [11, 12, 13, 14] [] (sm [0, 1, 2, 3, 4, 5, 6, 10, 11]) [6, 171, 185] RG (p28.trans j34).r (wpq_re 185 (v := vb (v10.2.2.2 == f0.2.2.2)) (Value.bool (((z45 && (v10.2.2.1 == f0.2.2.1)) && (v10.2.2.2 == f0.2.2.2)))) (by kernel_rfl) (re_and1 z50) ?_)
         exact wpq_sub _ (by kernel_rfl) j50
        ·refine xT 2 [11, 12, 13, 14] [] (sm [0, 1, 2, 3, 4, 5, 6, 10, 11]) [(6, vp b3 0), (171, (aRComp f0.1 a13 w14 a8 z9 t11 l11 w10 a9 w11 f10)), (185, vb false)] RG (p28.trans j34).r ?_
         refine wpq_re 185 (v := vb false) (Value.bool (((z45 && (v10.2.2.1 == f0.2.2.1)) && (v10.2.2.2 == f0.2.2.2)))) (by kernel_rfl) (re_and0 z50) ?_
         exact wpq_sub _ (by kernel_rfl) j50
       ·refine xO1 (lds := [0, 1, 3]) 15 ?_
        refine xId (lds := [0, 1, 3]) (p28.trans j34).r (eStL b3 0 9) ?_
        rintro _ _ _ - ⟨rfl, rfl⟩
        refine kk (sm [0, 1, 2, 3, 4, 5, 6, 10, 11]) (xt 0 [16] [] (sm [0, 1, 2, 3, 4, 5, 6, 10, 11]) [6, 7] RG (p28.trans j34).r (xAe (lds := [0, 1, 3]) (xW ?_)))
        have v30 := v30.mono (a45.trans (p28.trans j34)).b
        have l17 := l17.mono (a45.trans (p28.trans j34)).b
        have w25 := w25.mono (a45.trans (p28.trans j34)).b
        have i24 := i24.mono (a45.trans (p28.trans j34)).b
        have w20 := w20.mono (a45.trans (p28.trans j34)).b
        have f22 := f22.mono (a45.trans (p28.trans j34)).b
        have v31 := v31.mono (p28.trans j34).b
        have a17 := a17.mono (p28.trans j34).b
        have p25 := p25.mono (p28.trans j34).b
        have l19 := l19.mono (p28.trans j34).b
        have v22 := v22.mono (p28.trans j34).b
        obtain rfl := Option.some.inj hS
        exact xRetC (sm [3, 4, 5, 6, 7, 8]) [(6, 9)] (e6.trans (a46.trans (a45.trans (p28.trans j34)))) ⟨z30, a30, i17, t18, t23, z26, z25, v26, i19, w21, v29, p23, i21, l33, a13, w14, a8, z9, t11, l11, w10, a9, w11, f10, by kernel_rfl, by kernel_rfl, v30, l17, w25, i24, w20, f22, v31, a17, p25, l19, v22⟩ (fun _ _ h => h)
     ·have hS := cond_F i48 hS
      have l69 : ¬ (t4 = 3) := ne_of_beq_false_ i48
      refine xSq (xRg (xB 2 [] [(0, vp b_c 0), (4, vp b1 0), (5, vp b2 0), (6, vp b3 0), (65, vi t4), (186, vb (t4 == 4))] (xRe (xW ?_))))
      refine xCd ((t4 == 4)) (fun a47 => ?_) (fun a47 => ?_)
      ·have hS := cond_T a47 hS
       have z67 : t4 = 4 := eq_of_beq a47
       refine xSq (xRg (xb 3 [(2, 1)] [4, 5, 6, 189, 191] (xSel (sm [3, 4, 5, 6, 7, 8, 0, 1, 2]) ?_)))
       have v5 := v5.mono e6.b
       have z4 := z4.mono e6.b
       have i5 := i5.mono e6.b
       have j5 := j5.mono e6.b
       have v4 := v4.mono e6.b
       have a4 := a4.mono e6.b
       obtain ⟨v9, i68, hS⟩ := bindO_T hS
       refine xE (eC 6 (fun g' lr eb ln => c30 g' b_c (⟨c.number, c.node, c.sender, c.collector, c.next_, c.cycle, (c.asked), c.want⟩ : Comp) t5 z13 w13 w7 a6 p10 i10 f4 j10 z10 z2 d7 t7 v7 l8 v8 t8 x.targets (by rw [eb]; exact v5) (by rw [eb]; exact z4) (by rw [eb]; exact i5) (by rw [eb]; exact j5) (by rw [eb]; exact v4) (by rw [eb]; exact a4) i68)) ?_
       rintro _ f73 _ t47 ⟨_, rfl, l31, l30, p17, d18, p24, v24, a24, f23, d19, f20, p29, a22, i23, d32, z34, p33, rfl, rfl, w30, f17, j27, d25, z20, f21, v35⟩
       have w59 := w30.len
       have d49 := f17.len
       have j56 := j27.len
       have v55 := d25.len
       have p52 := z20.len
       have d53 := f21.len
       have w64 := v35.len
       refine xB 4 [] [(4, vp b1 0), (5, vp b2 0), (6, vp b3 0), (193, (aFrame v9.2.1 z34 p33)), (194, vb v9.2.2.1), (195, vi v9.2.2.2)] (xE eB ?_)
       rintro _ _ _ - ⟨v50, rfl, rfl, rfl⟩
       refine xbo 3 [(9, 0)] [some ⟨v50, 49, (cFrame v9.2.1 z34 p33)⟩, some ⟨b_c, 77, [vi v9.1.number, vp t5 0, vp f4 0, vp z2 0, vi v9.1.next_, vi v9.1.cycle, vb v9.1.asked, vi v9.1.want.base, vi v9.1.want.have_]⟩, some ⟨t5, 126, (cNode v9.1.node l31 l30 p17 d18 p24 v24)⟩, some ⟨f4, 130, [vs a24 v9.1.sender.pieces f23]⟩, some ⟨z2, 132, (cColl v9.1.collector d19 f20 a22 i23)⟩, p29, d32, some ⟨b3, 45, (cRComp (⟨(⟨0, 0, 0, 0, 0, 0, ([] : List UInt8), false, false, (⟨0, 0, (⟨0, 0⟩ : Want), ([] : List UInt8)⟩ : Heard), false, Z0⟩ : RNode), Z3, Z4, false, 0⟩ : RComp) none 0 none 0 none 0 none 0 none 0)⟩, some ⟨b2, 51, (cCallT x w6 z6 a3 w4)⟩, some ⟨b1, 45, (cRComp m d3 j3 p0 i0 l1 v1 l0 v0 i1 d1)⟩] [4, 5, 6, 31, 32, 33] (xRe (xW (xSq (xRg (xB 3 [(0, 9), (2, 8)] [(6, vp b3 0), (31, vp v50 0), (32, vb v9.2.2.1), (33, vi v9.2.2.2), (197, (aRComp m d3 j3 p0 i0 l1 v1 l0 v0 i1 d1)), (199, (aTargets x.targets))] ?_)))))
       have d2 := d2.mono (e6.trans t47).b
       have w0 := w0.mono (e6.trans t47).b
       have j1 := j1.mono (e6.trans t47).b
       have j0 := j0.mono (e6.trans t47).b
       have d0 := d0.mono (e6.trans t47).b
       obtain ⟨f3, l67, hS⟩ := bindO_T hS
       refine xE (eC 0 (fun g' lr eb ln => c31 g' m d3 j3 p0 i0 l1 v1 l0 v0 i1 d1 x.targets (by rw [eb]; exact d2) (by rw [eb]; exact w0) (by rw [eb]; exact j1) (by rw [eb]; exact j0) (by rw [eb]; exact d0) l67)) ?_
       rintro _ l65 _ f45 ⟨_, rfl, t15, p15, z12, i12, t14, l14, a12, l12, v13, t13, d41, t41, rfl, rfl, d30, l16, a26, z19, i22, w45⟩
       have v59 := d30.len
       have t48 := l16.len
       have w55 := a26.len
       have l52 := z19.len
       have l54 := i22.len
       have l63 := w45.len
       refine xb 5 [] [6, 31, 32, 33, 201, 202, 203, 204] (xE eB ?_)
       rintro _ _ _ - ⟨z61, rfl, rfl, rfl⟩
       refine xE eB ?_
       rintro _ _ _ - ⟨w61, rfl, rfl, rfl⟩
       refine xBo 4 [(11, 1), (12, 0)] [some ⟨w61, 49, (cFrame f3.2.1 d41 t41)⟩, some ⟨z61, 45, (cRComp f3.1 t15 p15 z12 i12 t14 l14 a12 l12 v13 t13)⟩, some ⟨v50, 49, (cFrame v9.2.1 z34 p33)⟩, some ⟨b_c, 77, [vi v9.1.number, vp t5 0, vp f4 0, vp z2 0, vi v9.1.next_, vi v9.1.cycle, vb v9.1.asked, vi v9.1.want.base, vi v9.1.want.have_]⟩, some ⟨t5, 126, (cNode v9.1.node l31 l30 p17 d18 p24 v24)⟩, some ⟨f4, 130, [vs a24 v9.1.sender.pieces f23]⟩, some ⟨z2, 132, (cColl v9.1.collector d19 f20 a22 i23)⟩, p29, d32, some ⟨b3, 45, (cRComp (⟨(⟨0, 0, 0, 0, 0, 0, ([] : List UInt8), false, false, (⟨0, 0, (⟨0, 0⟩ : Want), ([] : List UInt8)⟩ : Heard), false, Z0⟩ : RNode), Z3, Z4, false, 0⟩ : RComp) none 0 none 0 none 0 none 0 none 0)⟩, some ⟨b2, 51, (cCallT x w6 z6 a3 w4)⟩, some ⟨b1, 45, (cRComp m d3 j3 p0 i0 l1 v1 l0 v0 i1 d1)⟩] [(6, vp b3 0), (31, vp v50 0), (32, vb v9.2.2.1), (33, vi v9.2.2.2), (34, vp z61 0), (35, vp w61 0), (36, vb f3.2.2.1), (37, vi f3.2.2.2)] (xRe (xW (xSq ?_)))
       refine xDr 0 [0, 1, 2] [15] [some ⟨w61, 49, (cFrame f3.2.1 d41 t41)⟩, some ⟨z61, 45, (cRComp f3.1 t15 p15 z12 i12 t14 l14 a12 l12 v13 t13)⟩, some ⟨v50, 49, (cFrame v9.2.1 z34 p33)⟩, some ⟨b_c, 77, [vi v9.1.number, vp t5 0, vp f4 0, vp z2 0, vi v9.1.next_, vi v9.1.cycle, vb v9.1.asked, vi v9.1.want.base, vi v9.1.want.have_]⟩, some ⟨t5, 126, (cNode v9.1.node l31 l30 p17 d18 p24 v24)⟩, some ⟨f4, 130, [vs a24 v9.1.sender.pieces f23]⟩, some ⟨z2, 132, (cColl v9.1.collector d19 f20 a22 i23)⟩, some ⟨b2, 51, (cCallT x w6 z6 a3 w4)⟩, some ⟨b1, 45, (cRComp m d3 j3 p0 i0 l1 v1 l0 v0 i1 d1)⟩] 16 (fun RG => ?_) (fun _ _ _ _ _ h => h)
       refine xt 13 [0, 1, 2] [(0, 1), (1, 2), (2, 0)] (sm [0, 1, 2, 3, 4, 5, 6, 10, 11]) [6, 32, 33, 36, 37, 205, 206, 207] RG pR ?_
       have v35 := v35.mono f45.b
       obtain ⟨z44, w69, hS⟩ := letJ_T hS
       refine xO1 (lds := [0, 1, 2]) 3 (xIe (lds := [0, 1, 2]) pR (eC 0 (fun g' lr eb ln => c21 g' v9.2.1 z34 p33 f3.2.1 d41 t41 ((v35.mono l65.br).mono lr) ((w45.mono l65.br).mono lr) w69)) ?_)
       rintro _ a72 _ z33 ⟨_, rfl, rfl, rfl⟩
       refine kk (sm [0, 1, 2, 3, 4, 5, 6, 10, 11]) (xT 11 [4] [] (sm [0, 1, 2, 3, 4, 5, 6, 10, 11]) [(6, vp b3 0), (32, vb v9.2.2.1), (33, vi v9.2.2.2), (36, vb f3.2.2.1), (37, vi f3.2.2.2), (205, (aRComp f3.1 t15 p15 z12 i12 t14 l14 a12 l12 v13 t13)), (209, vb z44)] RG z33.r ?_)
       refine wpa_grp 7 [true, true, true, true, true, true, true, true, true, false, false, false, false, false, false, false] [(6, vp b3 0), (33, vi v9.2.2.2), (37, vi f3.2.2.2), (205, (aRComp f3.1 t15 p15 z12 i12 t14 l14 a12 l12 v13 t13)), (213, vb (z44 && (v9.2.2.1 == f3.2.2.1)))] (fun hk4 => ?_) ?_
       ·refine wpq_split 209 (b := z44) (by kernel_rfl) (fun w63 => ?_) (fun w63 => ?_)
        ·refine xt 7 [5, 6, 7, 8] [] (sm [0, 1, 2, 3, 4, 5, 6, 10, 11]) [6, 33, 37, 205, 213] RG z33.r ?_
         refine wpq_re 213 (v := vb (v9.2.2.1 == f3.2.2.1)) (Value.bool ((z44 && (v9.2.2.1 == f3.2.2.1)))) (by kernel_rfl) (re_and1 w63) ?_
         exact wpq_sub _ (by kernel_rfl) hk4
        ·refine xT 7 [5, 6, 7, 8] [] (sm [0, 1, 2, 3, 4, 5, 6, 10, 11]) [(6, vp b3 0), (33, vi v9.2.2.2), (37, vi f3.2.2.2), (205, (aRComp f3.1 t15 p15 z12 i12 t14 l14 a12 l12 v13 t13)), (213, vb false)] RG z33.r ?_
         refine wpq_re 213 (v := vb false) (Value.bool ((z44 && (v9.2.2.1 == f3.2.2.1)))) (by kernel_rfl) (re_and0 w63) ?_
         exact wpq_sub _ (by kernel_rfl) hk4
       ·refine xt 6 [9] [] (sm [0, 1, 2, 3, 4, 5, 6, 10, 11]) [6, 33, 37, 205, 214] RG z33.r ?_
        refine wpa_grp 2 [true, true, true, true, true, true, true, true, true, true, true, true, true, true, false, false] [(6, vp b3 0), (205, (aRComp f3.1 t15 p15 z12 i12 t14 l14 a12 l12 v13 t13)), (218, vb ((z44 && (v9.2.2.1 == f3.2.2.1)) && (v9.2.2.2 == f3.2.2.2)))] (fun hk9 => ?_) ?_
        ·refine wpq_split 214 (b := (z44 && (v9.2.2.1 == f3.2.2.1))) (by kernel_rfl) (fun f49 => ?_) (fun f49 => ?_)
         ·have p71 := (and_true_ f49).1
          have l68 := (and_true_ f49).2
          have w71 : v9.2.2.1 = f3.2.2.1 := eq_of_beq l68
          refine xT 2 [10, 11, 12, 13] [] (sm [0, 1, 2, 3, 4, 5, 6, 10, 11]) [(6, vp b3 0), (205, (aRComp f3.1 t15 p15 z12 i12 t14 l14 a12 l12 v13 t13)), (218, vb (v9.2.2.2 == f3.2.2.2))] RG z33.r (wpq_re 218 (v := vb (v9.2.2.2 == f3.2.2.2)) (Value.bool (((z44 && (v9.2.2.1 == f3.2.2.1)) && (v9.2.2.2 == f3.2.2.2)))) (by kernel_rfl) (re_and1 f49) ?_)
          exact wpq_sub _ (by kernel_rfl) hk9
         ·refine xt 2 [10, 11, 12, 13] [] (sm [0, 1, 2, 3, 4, 5, 6, 10, 11]) [6, 205, 218] RG z33.r ?_
          refine wpq_re 218 (v := vb false) (Value.bool (((z44 && (v9.2.2.1 == f3.2.2.1)) && (v9.2.2.2 == f3.2.2.2)))) (by kernel_rfl) (re_and0 f49) ?_
          exact wpq_sub _ (by kernel_rfl) hk9
        ·refine xO1 (lds := [0, 1, 2]) 14 ?_
         refine xId (lds := [0, 1, 2]) z33.r (eStL b3 0 9) ?_
         rintro _ _ _ - ⟨rfl, rfl⟩
         refine kk (sm [0, 1, 2, 3, 4, 5, 6, 10, 11]) (xT 0 [15] [] (sm [0, 1, 2, 3, 4, 5, 6, 10, 11]) [(6, vp b3 0), (7, vb ((z44 && (v9.2.2.1 == f3.2.2.1)) && (v9.2.2.2 == f3.2.2.2)))] RG z33.r (xAe (lds := [0, 1, 2]) (xW ?_)))
         have w30 := w30.mono (f45.trans z33).b
         have f17 := f17.mono (f45.trans z33).b
         have j27 := j27.mono (f45.trans z33).b
         have d25 := d25.mono (f45.trans z33).b
         have z20 := z20.mono (f45.trans z33).b
         have f21 := f21.mono (f45.trans z33).b
         have d30 := d30.mono z33.b
         have l16 := l16.mono z33.b
         have a26 := a26.mono z33.b
         have z19 := z19.mono z33.b
         have i22 := i22.mono z33.b
         obtain rfl := Option.some.inj hS
         exact xRetC (sm [3, 4, 5, 6, 7, 8]) [(6, 9)] (e6.trans (t47.trans (f45.trans z33))) ⟨l31, l30, p17, d18, p24, v24, a24, f23, d19, f20, p29, a22, i23, d32, t15, p15, z12, i12, t14, l14, a12, l12, v13, t13, by kernel_rfl, by kernel_rfl, w30, f17, j27, d25, z20, f21, d30, l16, a26, z19, i22⟩ (fun _ _ h => h)
      ·have hS := cond_F a47 hS
       have z67 : ¬ (t4 = 4) := ne_of_beq_false_ a47
       refine xSq (xRg (xb 2 [] [0, 4, 5, 6, 65, 219] (xRe (xW ?_))))
       refine xCd ((t4 == 5)) (fun v49 => ?_) (fun v49 => ?_)
       ·have hS := cond_T v49 hS
        have d66 : t4 = 5 := eq_of_beq v49
        refine xSq (xRg (xB 5 [(2, 1), (4, 1)] [(4, vp b1 0), (5, vp b2 0), (6, vp b3 0), (222, vp b_c 0), (224, (aFrame x.frame a3 w4)), (226, vb x.came)] (xSel (sm [3, 4, 5, 6, 7, 8, 0, 1, 2]) ?_)))
        have v5 := v5.mono e6.b
        have z4 := z4.mono e6.b
        have i5 := i5.mono e6.b
        have j5 := j5.mono e6.b
        have v4 := v4.mono e6.b
        have a4 := a4.mono e6.b
        have a5 := a5.mono e6.b
        obtain ⟨z16, a68, hS⟩ := bindO_T hS
        refine xE (eC 6 (fun g' lr eb ln => c32 g' b_c (⟨c.number, c.node, c.sender, c.collector, c.next_, c.cycle, (c.asked), c.want⟩ : Comp) t5 z13 w13 w7 a6 p10 i10 f4 j10 z10 z2 d7 t7 v7 l8 v8 t8 x.frame a3 w4 (x.came) (by rw [eb]; exact v5) (by rw [eb]; exact z4) (by rw [eb]; exact i5) (by rw [eb]; exact j5) (by rw [eb]; exact v4) (by rw [eb]; exact a4) ((a5.mono g5.br).mono lr) a68)) ?_
        rintro _ a69 _ l46 ⟨_, rfl, a36, v36, v27, z28, i35, v34, w35, d34, z29, a28, f28, w34, i34, l32, rfl, rfl, z31, w17, j24, i26, f19, d22⟩
        have a59 := z31.len
        have d51 := w17.len
        have j55 := j24.len
        have z55 := i26.len
        have d52 := f19.len
        have i53 := d22.len
        refine xb 5 [] [4, 5, 6, 38, 39] (xRe (xW (xSq (xRg (xB 5 [(0, 8), (2, 7), (4, 7)] [(6, vp b3 0), (38, vy z16.2.1), (39, vi z16.2.2), (231, (aRComp m d3 j3 p0 i0 l1 v1 l0 v0 i1 d1)), (233, (aFrame x.frame a3 w4)), (235, vb x.came)] ?_)))))
        have d2 := d2.mono (e6.trans l46).b
        have w0 := w0.mono (e6.trans l46).b
        have j1 := j1.mono (e6.trans l46).b
        have j0 := j0.mono (e6.trans l46).b
        have d0 := d0.mono (e6.trans l46).b
        have a5 := a5.mono l46.b
        obtain ⟨j6, j68, hS⟩ := bindO_T hS
        refine xE (eC 0 (fun g' lr eb ln => c33 g' m d3 j3 p0 i0 l1 v1 l0 v0 i1 d1 x.frame a3 w4 (x.came) (by rw [eb]; exact d2) (by rw [eb]; exact w0) (by rw [eb]; exact j1) (by rw [eb]; exact j0) (by rw [eb]; exact d0) ((a5.mono a69.br).mono lr) j68)) ?_
        rintro _ a71 _ p46 ⟨_, rfl, d16, t16, z15, w15, j16, i16, i15, j15, w16, a15, rfl, rfl, a42, d36, a39, v37, d38⟩
        have d59 := a42.len
        have z51 := d36.len
        have p55 := a39.len
        have j52 := v37.len
        have j54 := d38.len
        refine xb 4 [] [6, 38, 39, 237, 238, 239] (xE eB ?_)
        rintro _ _ _ - ⟨i61, rfl, rfl, rfl⟩
        refine xBo 3 [(11, 0)] [some ⟨i61, 45, (cRComp j6.1 d16 t16 z15 w15 j16 i16 i15 j15 w16 a15)⟩, some ⟨b_c, 77, [vi z16.1.number, vp t5 0, vp f4 0, vp z2 0, vi z16.1.next_, vi z16.1.cycle, vb z16.1.asked, vi z16.1.want.base, vi z16.1.want.have_]⟩, some ⟨t5, 126, (cNode z16.1.node a36 v36 v27 z28 i35 v34)⟩, some ⟨f4, 130, [vs w35 z16.1.sender.pieces d34]⟩, some ⟨z2, 132, (cColl z16.1.collector z29 a28 w34 i34)⟩, f28, l32, some ⟨b3, 45, (cRComp (⟨(⟨0, 0, 0, 0, 0, 0, ([] : List UInt8), false, false, (⟨0, 0, (⟨0, 0⟩ : Want), ([] : List UInt8)⟩ : Heard), false, Z0⟩ : RNode), Z3, Z4, false, 0⟩ : RComp) none 0 none 0 none 0 none 0 none 0)⟩, some ⟨b2, 51, (cCallT x w6 z6 a3 w4)⟩, some ⟨b1, 45, (cRComp m d3 j3 p0 i0 l1 v1 l0 v0 i1 d1)⟩] [(6, vp b3 0), (38, vy z16.2.1), (39, vi z16.2.2), (40, vp i61 0), (41, vy j6.2.1), (42, vi j6.2.2)] (xRe (xW (xSq (xRg (xb 5 [(0, 0)] [6, 39, 42, 240, 244] ?_)))))
        refine wpr_grp 9 [(6, vp b3 0), (240, (aRComp j6.1 d16 t16 z15 w15 j16 i16 i15 j15 w16 a15)), (248, vb ((z16.2.1 == j6.2.1) && (z16.2.2 == j6.2.2)))] (fun hk4 => ?_) ?_
        ·refine wpq_split 244 (b := (z16.2.1 == j6.2.1)) (by kernel_rfl) (fun w50 => ?_) (fun w50 => ?_)
         ·have t68 : z16.2.1 = j6.2.1 := eq_of_beq w50
          refine xB 4 [] [(6, vp b3 0), (240, (aRComp j6.1 d16 t16 z15 w15 j16 i16 i15 j15 w16 a15)), (248, vb (z16.2.2 == j6.2.2))] (wpq_re 248 (v := vb (z16.2.2 == j6.2.2)) (Value.bool (((z16.2.1 == j6.2.1) && (z16.2.2 == j6.2.2)))) (by kernel_rfl) (re_and1 w50) ?_)
          exact wpq_sub _ (by kernel_rfl) hk4
         ·have t68 : ¬ (z16.2.1 = j6.2.1) := ne_of_beq_false_ w50
          refine xb 4 [] [6, 240, 248] (wpq_re 248 (v := vb false) (Value.bool (((z16.2.1 == j6.2.1) && (z16.2.2 == j6.2.2)))) (by kernel_rfl) (re_and0 w50) ?_)
          exact wpq_sub _ (by kernel_rfl) hk4
        ·refine xBo 2 [(9, 7)] [some ⟨i61, 45, (cRComp j6.1 d16 t16 z15 w15 j16 i16 i15 j15 w16 a15)⟩, some ⟨b_c, 77, [vi z16.1.number, vp t5 0, vp f4 0, vp z2 0, vi z16.1.next_, vi z16.1.cycle, vb z16.1.asked, vi z16.1.want.base, vi z16.1.want.have_]⟩, some ⟨t5, 126, (cNode z16.1.node a36 v36 v27 z28 i35 v34)⟩, some ⟨f4, 130, [vs w35 z16.1.sender.pieces d34]⟩, some ⟨z2, 132, (cColl z16.1.collector z29 a28 w34 i34)⟩, f28, l32, some ⟨b3, 45, (cRComp j6.1 d16 t16 z15 w15 j16 i16 i15 j15 w16 a15)⟩, some ⟨b2, 51, (cCallT x w6 z6 a3 w4)⟩, some ⟨b1, 45, (cRComp m d3 j3 p0 i0 l1 v1 l0 v0 i1 d1)⟩] [(6, vp b3 0), (7, vb ((z16.2.1 == j6.2.1) && (z16.2.2 == j6.2.2)))] ?_
         refine xRe (xW ?_)
         have z31 := z31.mono p46.b
         have w17 := w17.mono p46.b
         have j24 := j24.mono p46.b
         have i26 := i26.mono p46.b
         have f19 := f19.mono p46.b
         have d22 := d22.mono p46.b
         obtain rfl := Option.some.inj hS
         exact xRetC (sm [1, 2, 3, 4, 5, 6]) [(6, 7)] (e6.trans (l46.trans p46)) ⟨a36, v36, v27, z28, i35, v34, w35, d34, z29, a28, f28, w34, i34, l32, d16, t16, z15, w15, j16, i16, i15, j15, w16, a15, by kernel_rfl, by kernel_rfl, z31, w17, j24, i26, f19, d22, a42, d36, a39, v37, d38⟩ (fun _ _ h => h)
       ·have hS := cond_F v49 hS
        have d66 : ¬ (t4 = 5) := ne_of_beq_false_ v49
        refine xSq (xRg (xb 2 [] [0, 4, 5, 6, 65, 249] (xRe (xW ?_))))
        refine xCd ((t4 == 6)) (fun j51 => ?_) (fun j51 => ?_)
        ·have hS := cond_T j51 hS
         have i67 : t4 = 6 := eq_of_beq j51
         refine xSq (xRg (xB 3 [(2, 1)] [(4, vp b1 0), (5, vp b2 0), (6, vp b3 0), (252, vp b_c 0), (254, vs w6 x.input z6)] (xSel (sm [3, 4, 5, 6, 7, 8, 0, 1, 2]) ?_)))
         have v5 := v5.mono e6.b
         have z4 := z4.mono e6.b
         have i5 := i5.mono e6.b
         have j5 := j5.mono e6.b
         have v4 := v4.mono e6.b
         have a4 := a4.mono e6.b
         have l10 := l10.mono e6.b
         obtain ⟨t10, v67, hS⟩ := bindO_T hS
         refine xE (eC 6 (fun g' lr eb ln => c34 g' b_c (⟨c.number, c.node, c.sender, c.collector, c.next_, c.cycle, (c.asked), c.want⟩ : Comp) t5 z13 w13 w7 a6 p10 i10 f4 j10 z10 z2 d7 t7 v7 l8 v8 t8 x.input w6 z6 (by rw [eb]; exact v5) (by rw [eb]; exact z4) (by rw [eb]; exact i5) (by rw [eb]; exact j5) (by rw [eb]; exact v4) (by rw [eb]; exact a4) ((l10.mono g5.br).mono lr) v67)) ?_
         rintro _ v70 _ t46 ⟨_, rfl, p31, j31, w18, z18, z24, i25, d24, t24, v20, z21, d29, z23, l21, v33, w33, t32, rfl, rfl, f31, j17, a23, l23, w19, j23, f35⟩
         have a58 := f31.len
         have l48 := j17.len
         have d55 := a23.len
         have w57 := l23.len
         have j53 := w19.len
         have v53 := j23.len
         have j64 := f35.len
         refine xb 4 [] [4, 5, 6, 256, 257, 258] (xE eB ?_)
         rintro _ _ _ - ⟨f48, rfl, rfl, rfl⟩
         refine xBo 3 [(9, 0)] [some ⟨f48, 49, (cFrame t10.2.1 w33 t32)⟩, some ⟨b_c, 77, [vi t10.1.number, vp t5 0, vp f4 0, vp z2 0, vi t10.1.next_, vi t10.1.cycle, vb t10.1.asked, vi t10.1.want.base, vi t10.1.want.have_]⟩, some ⟨t5, 126, (cNode t10.1.node p31 j31 w18 z18 z24 i25)⟩, some ⟨f4, 130, [vs d24 t10.1.sender.pieces t24]⟩, some ⟨z2, 132, (cColl t10.1.collector v20 z21 z23 l21)⟩, d29, v33, some ⟨b3, 45, (cRComp (⟨(⟨0, 0, 0, 0, 0, 0, ([] : List UInt8), false, false, (⟨0, 0, (⟨0, 0⟩ : Want), ([] : List UInt8)⟩ : Heard), false, Z0⟩ : RNode), Z3, Z4, false, 0⟩ : RComp) none 0 none 0 none 0 none 0 none 0)⟩, some ⟨b2, 51, (cCallT x w6 z6 a3 w4)⟩, some ⟨b1, 45, (cRComp m d3 j3 p0 i0 l1 v1 l0 v0 i1 d1)⟩] [(4, vp b1 0), (5, vp b2 0), (6, vp b3 0), (43, vp f48 0), (44, vb t10.2.2.1), (45, vi t10.2.2.2)] (xRe (xW (xSq (xRg (xb 3 [(0, 9), (2, 8)] [6, 43, 44, 45, 260, 262] ?_)))))
         have d2 := d2.mono (e6.trans t46).b
         have w0 := w0.mono (e6.trans t46).b
         have j1 := j1.mono (e6.trans t46).b
         have j0 := j0.mono (e6.trans t46).b
         have d0 := d0.mono (e6.trans t46).b
         have l10 := l10.mono t46.b
         obtain ⟨w1, t67, hS⟩ := bindO_T hS
         refine xE (eC 0 (fun g' lr eb ln => c35 g' m d3 j3 p0 i0 l1 v1 l0 v0 i1 d1 x.input w6 z6 (by rw [eb]; exact d2) (by rw [eb]; exact w0) (by rw [eb]; exact j1) (by rw [eb]; exact j0) (by rw [eb]; exact d0) ((l10.mono v70.br).mono lr) t67)) ?_
         rintro _ f65 _ l45 ⟨_, rfl, f13, l13, w9, j9, v11, d11, l9, f9, z11, a10, z32, d33, rfl, rfl, a31, d17, j25, a19, j21, a44⟩
         have i59 := a31.len
         have t51 := d17.len
         have v56 := j25.len
         have f51 := a19.len
         have p53 := j21.len
         have a63 := a44.len
         refine xB 5 [] [(6, vp b3 0), (43, vp f48 0), (44, vb t10.2.2.1), (45, vi t10.2.2.2), (264, (aRComp w1.1 f13 l13 w9 j9 v11 d11 l9 f9 z11 a10)), (265, (aFrame w1.2.1 z32 d33)), (266, vb w1.2.2.1), (267, vi w1.2.2.2)] (xE eB ?_)
         rintro _ _ _ - ⟨v65, rfl, rfl, rfl⟩
         refine xE eB ?_
         rintro _ _ _ - ⟨z65, rfl, rfl, rfl⟩
         refine xbo 4 [(11, 1), (12, 0)] [some ⟨z65, 49, (cFrame w1.2.1 z32 d33)⟩, some ⟨v65, 45, (cRComp w1.1 f13 l13 w9 j9 v11 d11 l9 f9 z11 a10)⟩, some ⟨f48, 49, (cFrame t10.2.1 w33 t32)⟩, some ⟨b_c, 77, [vi t10.1.number, vp t5 0, vp f4 0, vp z2 0, vi t10.1.next_, vi t10.1.cycle, vb t10.1.asked, vi t10.1.want.base, vi t10.1.want.have_]⟩, some ⟨t5, 126, (cNode t10.1.node p31 j31 w18 z18 z24 i25)⟩, some ⟨f4, 130, [vs d24 t10.1.sender.pieces t24]⟩, some ⟨z2, 132, (cColl t10.1.collector v20 z21 z23 l21)⟩, d29, v33, some ⟨b3, 45, (cRComp (⟨(⟨0, 0, 0, 0, 0, 0, ([] : List UInt8), false, false, (⟨0, 0, (⟨0, 0⟩ : Want), ([] : List UInt8)⟩ : Heard), false, Z0⟩ : RNode), Z3, Z4, false, 0⟩ : RComp) none 0 none 0 none 0 none 0 none 0)⟩, some ⟨b2, 51, (cCallT x w6 z6 a3 w4)⟩, some ⟨b1, 45, (cRComp m d3 j3 p0 i0 l1 v1 l0 v0 i1 d1)⟩] [6, 43, 44, 45, 46, 47, 48, 49] (xRe (xW (xSq ?_)))
         refine xDr 0 [0, 1, 2] [15] [some ⟨z65, 49, (cFrame w1.2.1 z32 d33)⟩, some ⟨v65, 45, (cRComp w1.1 f13 l13 w9 j9 v11 d11 l9 f9 z11 a10)⟩, some ⟨f48, 49, (cFrame t10.2.1 w33 t32)⟩, some ⟨b_c, 77, [vi t10.1.number, vp t5 0, vp f4 0, vp z2 0, vi t10.1.next_, vi t10.1.cycle, vb t10.1.asked, vi t10.1.want.base, vi t10.1.want.have_]⟩, some ⟨t5, 126, (cNode t10.1.node p31 j31 w18 z18 z24 i25)⟩, some ⟨f4, 130, [vs d24 t10.1.sender.pieces t24]⟩, some ⟨z2, 132, (cColl t10.1.collector v20 z21 z23 l21)⟩, some ⟨b2, 51, (cCallT x w6 z6 a3 w4)⟩, some ⟨b1, 45, (cRComp m d3 j3 p0 i0 l1 v1 l0 v0 i1 d1)⟩] 16 (fun RG => ?_) (fun _ _ _ _ _ h => h)
         refine xT 13 [0, 1, 2] [(0, 1), (1, 2), (2, 0)] (sm [0, 1, 2, 3, 4, 5, 6, 10, 11]) [(6, vp b3 0), (44, vb t10.2.2.1), (45, vi t10.2.2.2), (48, vb w1.2.2.1), (49, vi w1.2.2.2), (268, (aRComp w1.1 f13 l13 w9 j9 v11 d11 l9 f9 z11 a10)), (269, (aFrame t10.2.1 w33 t32)), (270, (aFrame w1.2.1 z32 d33))] RG pR ?_
         have f35 := f35.mono l45.b
         obtain ⟨p45, d69, hS⟩ := letJ_T hS
         refine xO1 (lds := [0, 1, 2]) 3 (xIe (lds := [0, 1, 2]) pR (eC 0 (fun g' lr eb ln => c21 g' t10.2.1 w33 t32 w1.2.1 z32 d33 ((f35.mono f65.br).mono lr) ((a44.mono f65.br).mono lr) d69)) ?_)
         rintro _ f71 _ f32 ⟨_, rfl, rfl, rfl⟩
         refine kk (sm [0, 1, 2, 3, 4, 5, 6, 10, 11]) (xt 11 [4] [] (sm [0, 1, 2, 3, 4, 5, 6, 10, 11]) [6, 44, 45, 48, 49, 268, 272] RG f32.r ?_)
         refine wpa_grp 7 [true, true, true, true, true, true, true, true, true, false, false, false, false, false, false, false] [(6, vp b3 0), (45, vi t10.2.2.2), (49, vi w1.2.2.2), (268, (aRComp w1.1 f13 l13 w9 j9 v11 d11 l9 f9 z11 a10)), (276, vb (p45 && (t10.2.2.1 == w1.2.2.1)))] (fun hk4 => ?_) ?_
         ·refine wpq_split 272 (b := p45) (by kernel_rfl) (fun p61 => ?_) (fun p61 => ?_)
          ·refine xT 7 [5, 6, 7, 8] [] (sm [0, 1, 2, 3, 4, 5, 6, 10, 11]) [(6, vp b3 0), (45, vi t10.2.2.2), (49, vi w1.2.2.2), (268, (aRComp w1.1 f13 l13 w9 j9 v11 d11 l9 f9 z11 a10)), (276, vb (t10.2.2.1 == w1.2.2.1))] RG f32.r ?_
           refine wpq_re 276 (v := vb (t10.2.2.1 == w1.2.2.1)) (Value.bool ((p45 && (t10.2.2.1 == w1.2.2.1)))) (by kernel_rfl) (re_and1 p61) ?_
           exact wpq_sub _ (by kernel_rfl) hk4
          ·refine xt 7 [5, 6, 7, 8] [] (sm [0, 1, 2, 3, 4, 5, 6, 10, 11]) [6, 45, 49, 268, 276] RG f32.r ?_
           refine wpq_re 276 (v := vb false) (Value.bool ((p45 && (t10.2.2.1 == w1.2.2.1)))) (by kernel_rfl) (re_and0 p61) ?_
           exact wpq_sub _ (by kernel_rfl) hk4
         ·refine xT 6 [9] [] (sm [0, 1, 2, 3, 4, 5, 6, 10, 11]) [(6, vp b3 0), (45, vi t10.2.2.2), (49, vi w1.2.2.2), (268, (aRComp w1.1 f13 l13 w9 j9 v11 d11 l9 f9 z11 a10)), (277, vb (p45 && (t10.2.2.1 == w1.2.2.1)))] RG f32.r ?_
          refine wpa_grp 2 [true, true, true, true, true, true, true, true, true, true, true, true, true, true, false, false] [(6, vp b3 0), (268, (aRComp w1.1 f13 l13 w9 j9 v11 d11 l9 f9 z11 a10)), (281, vb ((p45 && (t10.2.2.1 == w1.2.2.1)) && (t10.2.2.2 == w1.2.2.2)))] (fun hk9 => ?_) ?_
          ·refine wpq_split 277 (b := (p45 && (t10.2.2.1 == w1.2.2.1))) (by kernel_rfl) (fun t49 => ?_) (fun t49 => ?_)
           ·have d71 := (and_true_ t49).1
            have v66 := (and_true_ t49).2
            have a70 : t10.2.2.1 = w1.2.2.1 := eq_of_beq v66
            refine xt 2 [10, 11, 12, 13] [] (sm [0, 1, 2, 3, 4, 5, 6, 10, 11]) [6, 268, 281] RG f32.r (wpq_re 281 (v := vb (t10.2.2.2 == w1.2.2.2)) (Value.bool (((p45 && (t10.2.2.1 == w1.2.2.1)) && (t10.2.2.2 == w1.2.2.2)))) (by kernel_rfl) (re_and1 t49) ?_)
            exact wpq_sub _ (by kernel_rfl) hk9
           ·refine xT 2 [10, 11, 12, 13] [] (sm [0, 1, 2, 3, 4, 5, 6, 10, 11]) [(6, vp b3 0), (268, (aRComp w1.1 f13 l13 w9 j9 v11 d11 l9 f9 z11 a10)), (281, vb false)] RG f32.r ?_
            refine wpq_re 281 (v := vb false) (Value.bool (((p45 && (t10.2.2.1 == w1.2.2.1)) && (t10.2.2.2 == w1.2.2.2)))) (by kernel_rfl) (re_and0 t49) ?_
            exact wpq_sub _ (by kernel_rfl) hk9
          ·refine xO1 (lds := [0, 1, 2]) 14 ?_
           refine xId (lds := [0, 1, 2]) f32.r (eStL b3 0 9) ?_
           rintro _ _ _ - ⟨rfl, rfl⟩
           refine kk (sm [0, 1, 2, 3, 4, 5, 6, 10, 11]) (xt 0 [15] [] (sm [0, 1, 2, 3, 4, 5, 6, 10, 11]) [6, 7] RG f32.r (xAe (lds := [0, 1, 2]) (xW ?_)))
           have f31 := f31.mono (l45.trans f32).b
           have j17 := j17.mono (l45.trans f32).b
           have a23 := a23.mono (l45.trans f32).b
           have l23 := l23.mono (l45.trans f32).b
           have w19 := w19.mono (l45.trans f32).b
           have j23 := j23.mono (l45.trans f32).b
           have a31 := a31.mono f32.b
           have d17 := d17.mono f32.b
           have j25 := j25.mono f32.b
           have a19 := a19.mono f32.b
           have j21 := j21.mono f32.b
           obtain rfl := Option.some.inj hS
           exact xRetC (sm [3, 4, 5, 6, 7, 8]) [(6, 9)] (e6.trans (t46.trans (l45.trans f32))) ⟨p31, j31, w18, z18, z24, i25, d24, t24, v20, z21, d29, z23, l21, v33, f13, l13, w9, j9, v11, d11, l9, f9, z11, a10, by kernel_rfl, by kernel_rfl, f31, j17, a23, l23, w19, j23, a31, d17, j25, a19, j21⟩ (fun _ _ h => h)
        ·have hS := cond_F j51 hS
         have i67 : ¬ (t4 = 6) := ne_of_beq_false_ j51
         refine xSq (xRg (xB 2 [] [(0, vp b_c 0), (4, vp b1 0), (5, vp b2 0), (6, vp b3 0), (282, vb (t4 == 7))] (xRe (xW ?_))))
         refine xCd ((t4 == 7)) (fun j48 => ?_) (fun j48 => ?_)
         ·have hS := cond_T j48 hS
          have f67 : t4 = 7 := eq_of_beq j48
          refine xSq (xRg (xb 5 [(2, 1), (4, 1)] [4, 5, 6, 285, 287, 289] (xSel (sm [3, 4, 5, 6, 7, 8, 0, 1, 2]) ?_)))
          have v5 := v5.mono e6.b
          have z4 := z4.mono e6.b
          have i5 := i5.mono e6.b
          have j5 := j5.mono e6.b
          have v4 := v4.mono e6.b
          have a4 := a4.mono e6.b
          have a5 := a5.mono e6.b
          obtain ⟨l7, f68, hS⟩ := bindO_T hS
          refine xE (eC 6 (fun g' lr eb ln => c36 g' b_c (⟨c.number, c.node, c.sender, c.collector, c.next_, c.cycle, (c.asked), c.want⟩ : Comp) t5 z13 w13 w7 a6 p10 i10 f4 j10 z10 z2 d7 t7 v7 l8 v8 t8 x.frame a3 w4 (x.came) (by rw [eb]; exact v5) (by rw [eb]; exact z4) (by rw [eb]; exact i5) (by rw [eb]; exact j5) (by rw [eb]; exact v4) (by rw [eb]; exact a4) ((a5.mono g5.br).mono lr) f68)) ?_
          rintro _ i70 _ d46 ⟨_, rfl, t31, i31, f16, i18, v23, l24, f25, t26, a20, p19, l28, t21, t22, a33, t28, d28, w37, p37, rfl, rfl, j30, j18, a25, w24, t20, z22, p35, w42⟩
          have f58 := j30.len
          have v51 := j18.len
          have a54 := a25.len
          have i56 := w24.len
          have i52 := t20.len
          have i54 := z22.len
          have j63 := p35.len
          have l64 := w42.len
          refine xB 4 [] [(4, vp b1 0), (5, vp b2 0), (6, vp b3 0), (291, Value.agg #[vi l7.2.1.base, vs t28 l7.2.1.snapshot d28, vs w37 l7.2.1.sets p37]), (292, vb l7.2.2.1), (293, vi l7.2.2.2)] (xE eB ?_)
          rintro _ _ _ - ⟨d48, rfl, rfl, rfl⟩
          refine xbo 3 [(11, 0)] [some ⟨d48, 110, [vi l7.2.1.base, vs t28 l7.2.1.snapshot d28, vs w37 l7.2.1.sets p37]⟩, some ⟨b_c, 77, [vi l7.1.number, vp t5 0, vp f4 0, vp z2 0, vi l7.1.next_, vi l7.1.cycle, vb l7.1.asked, vi l7.1.want.base, vi l7.1.want.have_]⟩, some ⟨t5, 126, (cNode l7.1.node t31 i31 f16 i18 v23 l24)⟩, some ⟨f4, 130, [vs f25 l7.1.sender.pieces t26]⟩, some ⟨z2, 132, (cColl l7.1.collector a20 p19 t21 t22)⟩, l28, a33, some ⟨b3, 45, (cRComp (⟨(⟨0, 0, 0, 0, 0, 0, ([] : List UInt8), false, false, (⟨0, 0, (⟨0, 0⟩ : Want), ([] : List UInt8)⟩ : Heard), false, Z0⟩ : RNode), Z3, Z4, false, 0⟩ : RComp) none 0 none 0 none 0 none 0 none 0)⟩, some ⟨b2, 51, (cCallT x w6 z6 a3 w4)⟩, some ⟨b1, 45, (cRComp m d3 j3 p0 i0 l1 v1 l0 v0 i1 d1)⟩] [4, 5, 6, 50, 51, 52] (xRe (xW (xSq (xRg (xB 5 [(0, 9), (2, 8), (4, 8)] [(6, vp b3 0), (50, vp d48 0), (51, vb l7.2.2.1), (52, vi l7.2.2.2), (295, (aRComp m d3 j3 p0 i0 l1 v1 l0 v0 i1 d1)), (297, (aFrame x.frame a3 w4)), (299, vb x.came)] ?_)))))
          have d2 := d2.mono (e6.trans d46).b
          have w0 := w0.mono (e6.trans d46).b
          have j1 := j1.mono (e6.trans d46).b
          have j0 := j0.mono (e6.trans d46).b
          have d0 := d0.mono (e6.trans d46).b
          have a5 := a5.mono d46.b
          obtain ⟨z3, t66, hS⟩ := bindO_T hS
          refine xE (eC 0 (fun g' lr eb ln => c37 g' m d3 j3 p0 i0 l1 v1 l0 v0 i1 d1 x.frame a3 w4 (x.came) (by rw [eb]; exact d2) (by rw [eb]; exact w0) (by rw [eb]; exact j1) (by rw [eb]; exact j0) (by rw [eb]; exact d0) ((a5.mono i70.br).mono lr) t66)) ?_
          rintro _ p72 _ v45 ⟨_, rfl, d15, l15, j12, a11, a14, d14, v12, t12, i13, d13, w40, a40, t44, p44, rfl, rfl, p30, v16, w27, j19, d21, d35, a41⟩
          have w60 := p30.len
          have p49 := v16.len
          have z56 := w27.len
          have z52 := j19.len
          have a53 := d21.len
          have v62 := d35.len
          have w66 := a41.len
          refine xb 5 [] [6, 50, 51, 52, 301, 302, 303, 304] (xE eB ?_)
          rintro _ _ _ - ⟨l61, rfl, rfl, rfl⟩
          refine xE eB ?_
          rintro _ _ _ - ⟨t62, rfl, rfl, rfl⟩
          refine xBo 4 [(13, 1), (14, 0)] [some ⟨t62, 114, [vi z3.2.1.base, vs w40 z3.2.1.snapshot a40, vs t44 z3.2.1.sets p44]⟩, some ⟨l61, 45, (cRComp z3.1 d15 l15 j12 a11 a14 d14 v12 t12 i13 d13)⟩, some ⟨d48, 110, [vi l7.2.1.base, vs t28 l7.2.1.snapshot d28, vs w37 l7.2.1.sets p37]⟩, some ⟨b_c, 77, [vi l7.1.number, vp t5 0, vp f4 0, vp z2 0, vi l7.1.next_, vi l7.1.cycle, vb l7.1.asked, vi l7.1.want.base, vi l7.1.want.have_]⟩, some ⟨t5, 126, (cNode l7.1.node t31 i31 f16 i18 v23 l24)⟩, some ⟨f4, 130, [vs f25 l7.1.sender.pieces t26]⟩, some ⟨z2, 132, (cColl l7.1.collector a20 p19 t21 t22)⟩, l28, a33, some ⟨b3, 45, (cRComp (⟨(⟨0, 0, 0, 0, 0, 0, ([] : List UInt8), false, false, (⟨0, 0, (⟨0, 0⟩ : Want), ([] : List UInt8)⟩ : Heard), false, Z0⟩ : RNode), Z3, Z4, false, 0⟩ : RComp) none 0 none 0 none 0 none 0 none 0)⟩, some ⟨b2, 51, (cCallT x w6 z6 a3 w4)⟩, some ⟨b1, 45, (cRComp m d3 j3 p0 i0 l1 v1 l0 v0 i1 d1)⟩] [(6, vp b3 0), (50, vp d48 0), (51, vb l7.2.2.1), (52, vi l7.2.2.2), (53, vp l61 0), (54, vp t62 0), (55, vb z3.2.2.1), (56, vi z3.2.2.2)] (xRe (xW (xSq ?_)))
          refine xDr 0 [0, 1, 3] [16] [some ⟨t62, 114, [vi z3.2.1.base, vs w40 z3.2.1.snapshot a40, vs t44 z3.2.1.sets p44]⟩, some ⟨l61, 45, (cRComp z3.1 d15 l15 j12 a11 a14 d14 v12 t12 i13 d13)⟩, some ⟨d48, 110, [vi l7.2.1.base, vs t28 l7.2.1.snapshot d28, vs w37 l7.2.1.sets p37]⟩, some ⟨b_c, 77, [vi l7.1.number, vp t5 0, vp f4 0, vp z2 0, vi l7.1.next_, vi l7.1.cycle, vb l7.1.asked, vi l7.1.want.base, vi l7.1.want.have_]⟩, some ⟨t5, 126, (cNode l7.1.node t31 i31 f16 i18 v23 l24)⟩, some ⟨f4, 130, [vs f25 l7.1.sender.pieces t26]⟩, some ⟨z2, 132, (cColl l7.1.collector a20 p19 t21 t22)⟩, some ⟨b2, 51, (cCallT x w6 z6 a3 w4)⟩, some ⟨b1, 45, (cRComp m d3 j3 p0 i0 l1 v1 l0 v0 i1 d1)⟩] 17 (fun RG => ?_) (fun _ _ _ _ _ h => h)
          refine xt 14 [0, 1, 3] [(0, 1), (1, 2), (3, 0)] (sm [0, 1, 2, 3, 4, 5, 6, 10, 11]) [6, 51, 52, 55, 56, 305, 306, 308] RG pR ?_
          have p35 := p35.mono v45.b
          have w42 := w42.mono v45.b
          obtain ⟨j70, w68, hS⟩ := bindO_T hS
          refine xO1 (lds := [0, 1, 3]) 2 (xIe (lds := [0, 1, 3]) pR (eC 0 (fun g' lr eb ln => c39 g' l7.2.1 t28 d28 w37 p37 (by rw [eb]; exact p35) (by rw [eb]; exact w42) w68)) ?_)
          rintro _ j58 _ d27 ⟨_, rfl, j47, i47, f53, f54, rfl, rfl, w44, j46⟩
          refine kk (sm [0, 1, 2, 3, 4, 5, 6, 10, 11]) ?_
          have l60 := w44.len
          have t64 := j46.len
          have d35 := d35.mono d27.b
          have a41 := a41.mono d27.b
          obtain ⟨j44, v69, hS⟩ := bindO_T hS
          refine xO1 (lds := [0, 1, 3]) 4 (xIe (lds := [0, 1, 3]) d27.r (eC 0 (fun g' lr eb ln => c38 g' j70 j47 i47 f53 f54 z3.2.1 w40 a40 t44 p44 ((w44.mono j58.br).mono lr) ((j46.mono j58.br).mono lr) ((d35.mono j58.br).mono lr) ((a41.mono j58.br).mono lr) v69)) ?_)
          rintro _ v73 _ p32 ⟨_, rfl, rfl, rfl⟩
          refine kk (sm [0, 1, 2, 3, 4, 5, 6, 10, 11]) (xT 11 [5] [] (sm [0, 1, 2, 3, 4, 5, 6, 10, 11]) [(6, vp b3 0), (51, vb l7.2.2.1), (52, vi l7.2.2.2), (55, vb z3.2.2.1), (56, vi z3.2.2.2), (305, (aRComp z3.1 d15 l15 j12 a11 a14 d14 v12 t12 i13 d13)), (310, vb j44)] RG (d27.trans p32).r ?_)
          refine wpa_grp 7 [true, true, true, true, true, true, true, true, true, true, false, false, false, false, false, false, false] [(6, vp b3 0), (52, vi l7.2.2.2), (56, vi z3.2.2.2), (305, (aRComp z3.1 d15 l15 j12 a11 a14 d14 v12 t12 i13 d13)), (314, vb (j44 && (l7.2.2.1 == z3.2.2.1)))] (fun hk5 => ?_) ?_
          ·refine wpq_split 310 (b := j44) (by kernel_rfl) (fun v63 => ?_) (fun v63 => ?_)
           ·refine xt 7 [6, 7, 8, 9] [] (sm [0, 1, 2, 3, 4, 5, 6, 10, 11]) [6, 52, 56, 305, 314] RG (d27.trans p32).r ?_
            refine wpq_re 314 (v := vb (l7.2.2.1 == z3.2.2.1)) (Value.bool ((j44 && (l7.2.2.1 == z3.2.2.1)))) (by kernel_rfl) (re_and1 v63) ?_
            exact wpq_sub _ (by kernel_rfl) hk5
           ·refine xT 7 [6, 7, 8, 9] [] (sm [0, 1, 2, 3, 4, 5, 6, 10, 11]) [(6, vp b3 0), (52, vi l7.2.2.2), (56, vi z3.2.2.2), (305, (aRComp z3.1 d15 l15 j12 a11 a14 d14 v12 t12 i13 d13)), (314, vb false)] RG (d27.trans p32).r ?_
            refine wpq_re 314 (v := vb false) (Value.bool ((j44 && (l7.2.2.1 == z3.2.2.1)))) (by kernel_rfl) (re_and0 v63) ?_
            exact wpq_sub _ (by kernel_rfl) hk5
          ·refine xt 6 [10] [] (sm [0, 1, 2, 3, 4, 5, 6, 10, 11]) [6, 52, 56, 305, 315] RG (d27.trans p32).r ?_
           refine wpa_grp 2 [true, true, true, true, true, true, true, true, true, true, true, true, true, true, true, false, false] [(6, vp b3 0), (305, (aRComp z3.1 d15 l15 j12 a11 a14 d14 v12 t12 i13 d13)), (319, vb ((j44 && (l7.2.2.1 == z3.2.2.1)) && (l7.2.2.2 == z3.2.2.2)))] (fun j50 => ?_) ?_
           ·refine wpq_split 315 (b := (j44 && (l7.2.2.1 == z3.2.2.1))) (by kernel_rfl) (fun p48 => ?_) (fun p48 => ?_)
            ·have t71 := (and_true_ p48).1
             have a67 := (and_true_ p48).2
             have z71 : l7.2.2.1 = z3.2.2.1 := eq_of_beq a67
             refine xT 2 [11, 12, 13, 14] [] (sm [0, 1, 2, 3, 4, 5, 6, 10, 11]) [(6, vp b3 0), (305, (aRComp z3.1 d15 l15 j12 a11 a14 d14 v12 t12 i13 d13)), (319, vb (l7.2.2.2 == z3.2.2.2))] RG (d27.trans p32).r (wpq_re 319 (v := vb (l7.2.2.2 == z3.2.2.2)) (Value.bool (((j44 && (l7.2.2.1 == z3.2.2.1)) && (l7.2.2.2 == z3.2.2.2)))) (by kernel_rfl) (re_and1 p48) ?_)
             exact wpq_sub _ (by kernel_rfl) j50
            ·refine xt 2 [11, 12, 13, 14] [] (sm [0, 1, 2, 3, 4, 5, 6, 10, 11]) [6, 305, 319] RG (d27.trans p32).r ?_
             refine wpq_re 319 (v := vb false) (Value.bool (((j44 && (l7.2.2.1 == z3.2.2.1)) && (l7.2.2.2 == z3.2.2.2)))) (by kernel_rfl) (re_and0 p48) ?_
             exact wpq_sub _ (by kernel_rfl) j50
           ·refine xO1 (lds := [0, 1, 3]) 15 ?_
            refine xId (lds := [0, 1, 3]) (d27.trans p32).r (eStL b3 0 9) ?_
            rintro _ _ _ - ⟨rfl, rfl⟩
            refine kk (sm [0, 1, 2, 3, 4, 5, 6, 10, 11]) (xT 0 [16] [] (sm [0, 1, 2, 3, 4, 5, 6, 10, 11]) [(6, vp b3 0), (7, vb ((j44 && (l7.2.2.1 == z3.2.2.1)) && (l7.2.2.2 == z3.2.2.2)))] RG (d27.trans p32).r (xAe (lds := [0, 1, 3]) (xW ?_)))
            have j30 := j30.mono (v45.trans (d27.trans p32)).b
            have j18 := j18.mono (v45.trans (d27.trans p32)).b
            have a25 := a25.mono (v45.trans (d27.trans p32)).b
            have w24 := w24.mono (v45.trans (d27.trans p32)).b
            have t20 := t20.mono (v45.trans (d27.trans p32)).b
            have z22 := z22.mono (v45.trans (d27.trans p32)).b
            have p30 := p30.mono (d27.trans p32).b
            have v16 := v16.mono (d27.trans p32).b
            have w27 := w27.mono (d27.trans p32).b
            have j19 := j19.mono (d27.trans p32).b
            have d21 := d21.mono (d27.trans p32).b
            obtain rfl := Option.some.inj hS
            exact xRetC (sm [3, 4, 5, 6, 7, 8]) [(6, 9)] (e6.trans (d46.trans (v45.trans (d27.trans p32)))) ⟨t31, i31, f16, i18, v23, l24, f25, t26, a20, p19, l28, t21, t22, a33, d15, l15, j12, a11, a14, d14, v12, t12, i13, d13, by kernel_rfl, by kernel_rfl, j30, j18, a25, w24, t20, z22, p30, v16, w27, j19, d21⟩ (fun _ _ h => h)
         ·have hS := cond_F j48 hS
          have f67 : ¬ (t4 = 7) := ne_of_beq_false_ j48
          refine xSk (wpq_blockN (xW (xc [0, 4, 6] (xSq (xRg (xB 1 [] [(4, vp b1 0), (6, vp b3 0), (320, vp b_c 0)] (xSel (sm [3, 4, 5, 6, 7, 8, 0, 1, 2]) ?_)))))))
          have v5 := v5.mono e6.b
          have z4 := z4.mono e6.b
          have i5 := i5.mono e6.b
          have j5 := j5.mono e6.b
          have v4 := v4.mono e6.b
          have a4 := a4.mono e6.b
          obtain ⟨i45, p69, hS⟩ := letJ_T hS
          refine xE (eC 6 (fun g' lr eb ln => c40 g' b_c (⟨c.number, c.node, c.sender, c.collector, c.next_, c.cycle, (c.asked), c.want⟩ : Comp) t5 z13 w13 w7 a6 p10 i10 f4 j10 z10 z2 d7 t7 v7 l8 v8 t8 (by rw [eb]; exact v5) (by rw [eb]; exact z4) (by rw [eb]; exact i5) (by rw [eb]; exact j5) (by rw [eb]; exact v4) (by rw [eb]; exact a4) p69)) ?_
          rintro _ j74 _ d47 ⟨_, rfl, w43, j43, a35, i36, v39, l39, i40, j39, t37, i37, z37, w38, a38, w39, rfl, rfl, t30, f18, j26, z27, a18, j22⟩
          have l59 := t30.len
          have l49 := f18.len
          have w56 := j26.len
          have f56 := z27.len
          have v52 := a18.len
          have v54 := j22.len
          refine xRe (xW (xc [4, 6] (xSq (xRg (xB 1 [(0, 8)] [(6, vp b3 0), (322, (aRComp m d3 j3 p0 i0 l1 v1 l0 v0 i1 d1))] ?_)))))
          have d2 := d2.mono (e6.trans d47).b
          have w0 := w0.mono (e6.trans d47).b
          have j1 := j1.mono (e6.trans d47).b
          have j0 := j0.mono (e6.trans d47).b
          have d0 := d0.mono (e6.trans d47).b
          obtain ⟨t70, z68, hS⟩ := letJ_T hS
          refine xE (eC 0 (fun g' lr eb ln => c41 g' m d3 j3 p0 i0 l1 v1 l0 v0 i1 d1 (by rw [eb]; exact d2) (by rw [eb]; exact w0) (by rw [eb]; exact j1) (by rw [eb]; exact j0) (by rw [eb]; exact d0) z68)) ?_
          rintro _ t73 _ f46 ⟨_, rfl, f42, v42, w36, p36, t40, t39, d37, l37, l38, z38, rfl, rfl, l42, z36, p39, j37, t38⟩
          have j59 := l42.len
          have z48 := z36.len
          have t56 := p39.len
          have a51 := j37.len
          have t54 := t38.len
          refine xbo 2 [(2, 6)] [some ⟨b_c, 77, [vi i45.number, vp t5 0, vp f4 0, vp z2 0, vi i45.next_, vi i45.cycle, vb i45.asked, vi i45.want.base, vi i45.want.have_]⟩, some ⟨t5, 126, (cNode i45.node w43 j43 a35 i36 v39 l39)⟩, some ⟨f4, 130, [vs i40 i45.sender.pieces j39]⟩, some ⟨z2, 132, (cColl i45.collector t37 i37 w38 a38)⟩, z37, w39, some ⟨b3, 45, (cRComp t70 f42 v42 w36 p36 t40 t39 d37 l37 l38 z38)⟩, some ⟨b2, 51, (cCallT x w6 z6 a3 w4)⟩, some ⟨b1, 45, (cRComp m d3 j3 p0 i0 l1 v1 l0 v0 i1 d1)⟩] [6, 7] (xRe (xW ?_))
          have t30 := t30.mono f46.b
          have f18 := f18.mono f46.b
          have j26 := j26.mono f46.b
          have z27 := z27.mono f46.b
          have a18 := a18.mono f46.b
          have j22 := j22.mono f46.b
          obtain rfl := Option.some.inj hS
          exact xRetC (sm [0, 1, 2, 3, 4, 5]) [(6, 6)] (e6.trans (d47.trans f46)) ⟨w43, j43, a35, i36, v39, l39, i40, j39, t37, i37, z37, w38, a38, w39, f42, v42, w36, p36, t40, t39, d37, l37, l38, z38, by kernel_rfl, by kernel_rfl, t30, f18, j26, z27, a18, j22, l42, z36, p39, j37, t38⟩ (fun _ _ h => h)
 ·intro uu4 hS hN4
  refine xCd (x.next_) (fun f60 => ?_) (fun f60 => ?_)
  ·have hS := cond_T f60 hS
   refine xRg (xB 3 [(1, 2)] [(0, vp b_c 0), (4, vp b1 0), (5, vp b2 0), (6, vp b3 0), (8, vi m.stage)] (xRe (xc [0, 4, 5, 6, 8] ?_)))
   have eS := hS.symm
   exact hN4 _ eS _ _ _ gR ⟨by kernel_rfl, by kernel_rfl⟩
  ·have hS := cond_F f60 hS
   refine xSk (xSub [(0, vp b_c 0), (4, vp b1 0), (5, vp b2 0), (6, vp b3 0), (8, vi (Int.tmod (IntKind.i64.wrap x.kind) 9))] ?_)
   have eS := hS.symm
   exact hN4 _ eS _ _ _ gR ⟨by kernel_rfl, by kernel_rfl⟩

end Go.Proofs.YtnidomdebhekiaaGreat
