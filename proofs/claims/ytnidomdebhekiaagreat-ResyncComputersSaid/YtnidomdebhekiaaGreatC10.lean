/-
Walks, printed by wip/gen, with half of their indentation. Conditions: each theorem's own.
-/
import Derived.Test.YtnidomdebhekiaaGreatC9
namespace Go.Proofs.YtnidomdebhekiaaGreat
set_option linter.unusedVariables false
set_option linter.unusedSimpArgs false
open Go.RowKit
set_option maxRecDepth 100000
def o76 (c : Coll) (p : Piece) : Option (Coll) :=
 (bindO (o70 p) fun y4 => (cond ((y4.2 != 0)) (some (c)) (cond ((((decide ((((c.parts).length : Nat) : Int) > 0) && (p.base == c.base)) && (p.count == c.count)) && (p.index == (((c.parts).length : Nat) : Int)))) (grd (decide ((0 + (c.parts).length) * 24 ≤ 140737488355328)) (grd (decide (((c.parts).length + (([p.data] : List (List UInt8))).length) * 24 ≤ 140737488355328)) (some (({ c with parts := (c.parts ++ ([p.data] : List (List UInt8))) }))))) (cond ((p.index == 0)) (some (({ p with parts := ([p.data] : List (List UInt8)), sets := ([] : List Sett) }))) (some (c))))))
theorem c76 (g : Gh) (c : Coll) (l0 : OA) (f0 : Nat) (v0 : OA) (d0 : Nat) (p : Piece) (i0 : OA) (j0 : Nat) (w0 : Arr g.b (tyArr tyU8) l0 f0 c.parts) (w1 : Arr g.b tySett v0 d0 c.sets) (p0 : Arr g.b tyU8 i0 j0 p.data) {r : Coll} (hS : o76 c p = some r) :
  Ctr Tryz.prog 76 [(aColl c l0 f0 v0 d0), (aPiece p i0 j0)] g [] (fun v ψ o => ∃ (j1 : OA) (z1 : Nat) (i1 : OA) (d1 : Nat), v = (aColl r j1 z1 i1 d1) ∧ o = [] ∧ Arr ψ (tyArr tyU8) j1 z1 r.parts ∧ Arr ψ tySett i1 d1 r.sets) := by
 unfold o76 at hS
 refine xFn Tryz.f76 (Tryz.f76.body.getD .skip) 63 ?_
 have i6 := w0.len
 have v6 := w1.len
 have t7 := p0.len
 refine xSq (xRg (xE eB ?_))
 rintro _ _ _ - ⟨b1, rfl, rfl, rfl⟩
 refine xE eB ?_
 rintro _ _ _ - ⟨b2, rfl, rfl, rfl⟩
 refine xE eB ?_
 rintro _ _ _ - ⟨b3, rfl, rfl, rfl⟩
 refine xRe (xW (xc [2, 3, 4] (xSq (xRg (xb 1 [(0, 1)] [2, 3, 4, 8] ?_)))))
 obtain ⟨y4, hy4, hS⟩ := bindO_T hS
 refine xE (eC 0 (fun g' lr eb ln => c70 g' p i0 j0 ((p0.mono g.br).mono lr) hy4)) ?_
 rintro _ g5 _ e6 ⟨_, rfl, w11, f10, t1, rfl, rfl, i8⟩
 have j10 := i8.len
 refine xb 5 [] [2, 3, 4, 6] (xRe (xW (xSq (xSq (xRg (xb 2 [] [2, 3, 4, 13] (xRe (xW ?_))))))))
 refine xCd ((y4.2 != 0)) (fun h7 => ?_) (fun h7 => ?_)
 ·have hS := cond_T h7 hS
  have h7p : ¬ (y4.2 = 0) := ne_of_bne_ h7
  refine xSq (xRg (xbo 2 [(0, 3), (1, 1)] [t1, some ⟨b3, 43, (cColl c l0 f0 v0 d0)⟩, some ⟨b2, 161, (cPiece p i0 j0)⟩, some ⟨b1, 43, (cColl c l0 f0 v0 d0)⟩] [4] (xRe (xW ?_))))
  have w0 := w0.mono e6.b
  have w1 := w1.mono e6.b
  obtain rfl := Option.some.inj hS
  exact xRetC [] [(4, 1)] e6 ⟨l0, f0, v0, d0, by kernel_rfl, by kernel_rfl, w0, w1⟩ (fun _ _ h => h)
 ·have hS := cond_F h7 hS
  have h7p : y4.2 = 0 := eq_of_bne_false_ h7
  refine xSk (xW (xc [2, 3, 4] (xSq (xSq (xRg (xb 5 [(1, 3)] [2, 3, 4, 19] ?_))))))
  refine wpr_grp 11 [(2, vp b1 0), (3, vp b2 0), (4, vp b3 0), (25, vb (decide ((((c.parts).length : Nat) : Int) > 0) && (p.base == c.base)))] (fun hk4 => ?_) ?_
  ·refine wpq_split 19 (b := decide ((((c.parts).length : Nat) : Int) > 0)) (by kernel_rfl) (fun q8 => ?_) (fun q8 => ?_)
   ·have q8p := of_decide_eq_true q8
    refine xb 6 [(6, 2), (8, 3)] [2, 3, 4, 25] (wpq_re 25 (v := vb (p.base == c.base)) (Value.bool ((decide ((((c.parts).length : Nat) : Int) > 0) && (p.base == c.base)))) (by kernel_rfl) (re_and1 q8) ?_)
    exact wpq_sub _ (by kernel_rfl) hk4
   ·have q8p := of_decide_eq_false q8
    refine xb 6 [] [2, 3, 4, 25] (wpq_re 25 (v := vb false) (Value.bool ((decide ((((c.parts).length : Nat) : Int) > 0) && (p.base == c.base)))) (by kernel_rfl) (re_and0 q8) ?_)
    exact wpq_sub _ (by kernel_rfl) hk4
  ·refine xb 1 [] [2, 3, 4, 26] ?_
   refine wpr_grp 18 [(2, vp b1 0), (3, vp b2 0), (4, vp b3 0), (32, vb ((decide ((((c.parts).length : Nat) : Int) > 0) && (p.base == c.base)) && (p.count == c.count)))] (fun f4 => ?_) ?_
   ·refine wpq_split 26 (b := (decide ((((c.parts).length : Nat) : Int) > 0) && (p.base == c.base))) (by kernel_rfl) (fun q9 => ?_) (fun q9 => ?_)
    ·have q9l := (and_true_ q9).1
     have q9r := (and_true_ q9).2
     have z11 := of_decide_eq_true q9l
     have i11 : p.base = c.base := eq_of_beq q9r
     refine xb 6 [(13, 2), (15, 3)] [2, 3, 4, 32] (wpq_re 32 (v := vb (p.count == c.count)) (Value.bool (((decide ((((c.parts).length : Nat) : Int) > 0) && (p.base == c.base)) && (p.count == c.count)))) (by kernel_rfl) (re_and1 q9) ?_)
     exact wpq_sub _ (by kernel_rfl) f4
    ·refine xb 6 [] [2, 3, 4, 32] ?_
     refine wpq_re 32 (v := vb false) (Value.bool (((decide ((((c.parts).length : Nat) : Int) > 0) && (p.base == c.base)) && (p.count == c.count)))) (by kernel_rfl) (re_and0 q9) ?_
     exact wpq_sub _ (by kernel_rfl) f4
   ·refine xb 1 [] [2, 3, 4, 33] ?_
    refine wpr_grp 26 [(2, vp b1 0), (3, vp b2 0), (4, vp b3 0), (40, vb (((decide ((((c.parts).length : Nat) : Int) > 0) && (p.base == c.base)) && (p.count == c.count)) && (p.index == (((c.parts).length : Nat) : Int))))] (fun i4 => ?_) ?_
    ·refine wpq_split 33 (b := ((decide ((((c.parts).length : Nat) : Int) > 0) && (p.base == c.base)) && (p.count == c.count))) (by kernel_rfl) (fun q10 => ?_) (fun q10 => ?_)
     ·have t3 := (and_true_ q10).1
      have f6 := (and_true_ q10).2
      have z6 := (and_true_ t3).1
      have j6 := (and_true_ t3).2
      have w9 := of_decide_eq_true z6
      have f8 : p.base = c.base := eq_of_beq j6
      have z10 : p.count = c.count := eq_of_beq f6
      refine xb 7 [(20, 2), (22, 3)] [2, 3, 4, 40] (wpq_re 40 (v := vb (p.index == (((c.parts).length : Nat) : Int))) (Value.bool ((((decide ((((c.parts).length : Nat) : Int) > 0) && (p.base == c.base)) && (p.count == c.count)) && (p.index == (((c.parts).length : Nat) : Int))))) (by kernel_rfl) (re_and1 q10) ?_)
      exact wpq_sub _ (by kernel_rfl) i4
     ·refine xb 7 [] [2, 3, 4, 40] ?_
      refine wpq_re 40 (v := vb false) (Value.bool ((((decide ((((c.parts).length : Nat) : Int) > 0) && (p.base == c.base)) && (p.count == c.count)) && (p.index == (((c.parts).length : Nat) : Int))))) (by kernel_rfl) (re_and0 q10) ?_
      exact wpq_sub _ (by kernel_rfl) i4
    ·refine xRe ?_
     refine xW ?_
     refine xCd ((((decide ((((c.parts).length : Nat) : Int) > 0) && (p.base == c.base)) && (p.count == c.count)) && (p.index == (((c.parts).length : Nat) : Int)))) (fun h11 => ?_) (fun h11 => ?_)
     ·have hS := cond_T h11 hS
      have w4 := (and_true_ h11).1
      have a7 := (and_true_ h11).2
      have f2 := (and_true_ w4).1
      have f5 := (and_true_ w4).2
      have v3 := (and_true_ f2).1
      have d3 := (and_true_ f2).2
      have v8 := of_decide_eq_true v3
      have l8 : p.base = c.base := eq_of_beq d3
      have a8 : p.count = c.count := eq_of_beq f5
      have t9 : p.index = (((c.parts).length : Nat) : Int) := eq_of_beq a7
      refine xSq ?_
      refine xDr 0 [2, 5] [9, 8] [some ⟨b3, 43, (cColl Z4 none 0 none 0)⟩, some ⟨b2, 161, (cPiece p i0 j0)⟩, some ⟨b1, 43, (cColl c l0 f0 v0 d0)⟩] 10 (fun RG => ?_) (fun _ _ _ _ _ h => h)
      refine xt 6 [1, 2, 4, 5] [(2, 2), (5, 1)] (sm [1, 2, 3]) [2, 4, 43, 46] RG pR ?_
      obtain ⟨q15, hS⟩ := grd_T hS
      have p10 := of_decide_eq_true q15
      refine wpa_meet (fun g own sl => ∃ (A14 : OA) (c14 : Nat) (k14 : OB) (A16 : OA) (c16 : Nat) (k16 : OB), own = [k16, k14, t1, some ⟨b3, 43, (cColl Z4 none 0 none 0)⟩, some ⟨b2, 161, (cPiece p i0 j0)⟩, some ⟨b1, 43, (cColl c l0 f0 v0 d0)⟩] ∧ sl = [(2, vp b1 0), (4, vp b3 0), (44, vs A14 c.parts c14), (47, vs A16 ([p.data] : List (List UInt8)) c16)] ∧ Buf g.b (tyArr tyU8) 28 (.slice A14 (c.parts).length c14) k14 c.parts ∧ Buf g.b (tyArr tyU8) 28 (.slice A16 (([p.data] : List (List UInt8))).length c16) k16 ([p.data] : List (List UInt8))) 3 [true, true, true, true, true, true, true, false, false, false] ?_ (fun v2 => ?_)
      ·rintro j3 _ _ v1 ⟨A14, c14, k14, A16, c16, k16, rfl, rfl, h14, h16⟩
       have p11 := h14.len
       have d10 := h16.len
       obtain ⟨w10, v5, l5⟩ := h16.srcO (g := j3)
       obtain ⟨p6, hS⟩ := grd_T hS
       have v9 := of_decide_eq_true p6
       refine xO1 (lds := [2, 5]) 7 (xIe (lds := [2, 5]) v1.r (eApp (T := (tyArr tyU8)) (p := j3.b) (et := 28) (bytes := 24) (xs := (c.parts : List (List UInt8))) (ys := (([p.data] : List (List UInt8)) : List (List UInt8))) 1 h14 rfl (fun w hs => l5 0 w _ hs (by kernel_rfl)) v5 (by first | omega | (simp only [List.length_cons, List.length_nil] at *; omega)) (by first | omega | (simp only [List.length_cons, List.length_nil] at *; omega))) ?_)
       rintro _ _ _ - ⟨j2, d2, d7, rfl, rfl, rfl, w3⟩
       refine kk (sm [3, 4, 5]) ?_
       have f9 := w3.len
       have p9 : ((c.parts ++ ([p.data] : List (List UInt8))) : List (List UInt8)).length = (c.parts).length + (([p.data] : List (List UInt8))).length := List.length_append
       refine xt 1 [8] [] (sm [3, 4, 5]) [2, 4, 48, 49] RG v1.r (xO1 (lds := [2, 5]) 9 (xId (lds := [2, 5]) v1.r (eStL b1 2 5) ?_))
       rintro _ _ _ - ⟨rfl, rfl⟩
       refine kf (xAe (lds := [2, 5]) (xW (xc [2, 4] (xSq (xRg (xbo 2 [(0, 5), (1, 3)] [k16, d7, t1, some ⟨b3, 43, (cColl ({ c with parts := (c.parts ++ ([p.data] : List (List UInt8))) }) j2 d2 v0 d0)⟩, some ⟨b2, 161, (cPiece p i0 j0)⟩, some ⟨b1, 43, (cColl ({ c with parts := (c.parts ++ ([p.data] : List (List UInt8))) }) j2 d2 v0 d0)⟩] [4] (xRe (xW ?_))))))))
       refine wpq_freeze 1 (by kernel_rfl) w3 (fun d11 t4 t6 => ?_)
       have w1 := w1.mono (e6.trans (v1.trans t4)).b
       obtain rfl := Option.some.inj hS
       exact xRetC [] [(4, 3)] (e6.trans (v1.trans t4)) ⟨j2, d2, v0, d0, by kernel_rfl, by kernel_rfl, t6, w1⟩ (fun _ _ h => h)
      ·refine xO2 (lds := [2, 5]) 0 6 ?_ ?_
       ·refine xIe (lds := [2, 5]) pR (eBs (T := (tyArr tyU8)) (p := g5.b) (et := 28) (xs := ([] : List (List UInt8))) reps_nil (by simp)) ?_
        rintro _ _ _ - ⟨t10, j11, v10, rfl, rfl, rfl, f3⟩
        refine kk (sm [2, 3, 4]) ?_
        refine xO2 (lds := [2, 5]) 3 6 ?_ ?_
        ·have w0 := w0.mono e6.b
         obtain ⟨d9, d5, a5⟩ := w0.srcB
         refine xIe (lds := [2, 5]) pR (eApp (T := (tyArr tyU8)) (p := g5.b) (et := 28) (bytes := 24) (xs := ([] : List (List UInt8))) (ys := (c.parts : List (List UInt8))) 0 f3 rfl (fun w hs => a5 w _ hs) d5 (by first | omega | (simp only [List.length_cons, List.length_nil] at *; omega)) (by first | omega | (simp only [List.length_cons, List.length_nil] at *; omega))) ?_
         rintro _ _ _ - ⟨a2, l3, v4, rfl, rfl, rfl, z2⟩
         refine kk (sm [2, 3, 4]) ?_
         have z2 : Buf g5.b (tyArr tyU8) 28 (.slice a2 ((c.parts : List (List UInt8))).length l3) v4 (c.parts : List (List UInt8)) := z2
         have a9 := z2.len
         have p0 := p0.mono e6.b
         refine xO1 (lds := [2, 5]) 6 (xIe (lds := [2, 5]) pR (eBs (T := (tyArr tyU8)) (p := g5.b) (et := 28) (xs := ([p.data] : List (List UInt8))) (reps_cons (c := [vs i0 p.data j0]) ⟨i0, j0, rfl, p0⟩ reps_nil) (by simp)) ?_)
         rintro _ _ _ - ⟨d6, w7, t8, rfl, rfl, rfl, z8⟩
         refine kk (sm [3, 4, 5]) (xc [2, 4, 44, 47] ?_)
         exact v2 _ _ _ gR ⟨a2, l3, v4, d6, w7, t8, by kernel_rfl, by kernel_rfl, z2, z8⟩
        ·have p0 := p0.mono e6.b
         refine xIe (lds := [2, 5]) pR (eBs (T := (tyArr tyU8)) (p := g5.b) (et := 28) (xs := ([p.data] : List (List UInt8))) (reps_cons (c := [vs i0 p.data j0]) ⟨i0, j0, rfl, p0⟩ reps_nil) (by simp)) ?_
         rintro _ _ _ - ⟨z7, v7, a6, rfl, rfl, rfl, j7⟩
         refine kk (sm [3, 4, 5]) ?_
         have w0 := w0.mono e6.b
         obtain ⟨i9, w6, z5⟩ := w0.srcB
         refine xO1 (lds := [2, 5]) 3 (xIe (lds := [2, 5]) pR (eApp (T := (tyArr tyU8)) (p := g5.b) (et := 28) (bytes := 24) (xs := ([] : List (List UInt8))) (ys := (c.parts : List (List UInt8))) 1 f3 rfl (fun w hs => z5 w _ hs) w6 (by first | omega | (simp only [List.length_cons, List.length_nil] at *; omega)) (by first | omega | (simp only [List.length_cons, List.length_nil] at *; omega))) ?_)
         rintro _ _ _ - ⟨a3, d4, l4, rfl, rfl, rfl, f1⟩
         refine kk (sm [3, 4, 5]) ?_
         have f1 : Buf g5.b (tyArr tyU8) 28 (.slice a3 ((c.parts : List (List UInt8))).length d4) l4 (c.parts : List (List UInt8)) := f1
         have z9 := f1.len
         refine xc [2, 4, 44, 47] ?_
         exact v2 _ _ _ gR ⟨a3, d4, l4, z7, v7, a6, by kernel_rfl, by kernel_rfl, f1, j7⟩
       ·have p0 := p0.mono e6.b
        refine xIe (lds := [2, 5]) pR (eBs (T := (tyArr tyU8)) (p := g5.b) (et := 28) (xs := ([p.data] : List (List UInt8))) (reps_cons (c := [vs i0 p.data j0]) ⟨i0, j0, rfl, p0⟩ reps_nil) (by simp)) ?_
        rintro _ _ _ - ⟨l7, p7, p8, rfl, rfl, rfl, l6⟩
        refine kk (sm [2, 3, 4]) (xO1 (lds := [2, 5]) 0 (xIe (lds := [2, 5]) pR (eBs (T := (tyArr tyU8)) (p := g5.b) (et := 28) (xs := ([] : List (List UInt8))) reps_nil (by simp)) ?_))
        rintro _ _ _ - ⟨a10, t11, i10, rfl, rfl, rfl, d8⟩
        refine kk (sm [3, 4, 5]) ?_
        have w0 := w0.mono e6.b
        obtain ⟨j9, t5, j5⟩ := w0.srcB
        refine xO1 (lds := [2, 5]) 3 (xIe (lds := [2, 5]) pR (eApp (T := (tyArr tyU8)) (p := g5.b) (et := 28) (bytes := 24) (xs := ([] : List (List UInt8))) (ys := (c.parts : List (List UInt8))) 0 d8 rfl (fun w hs => j5 w _ hs) t5 (by first | omega | (simp only [List.length_cons, List.length_nil] at *; omega)) (by first | omega | (simp only [List.length_cons, List.length_nil] at *; omega))) ?_)
        rintro _ _ _ - ⟨j4, a4, w5, rfl, rfl, rfl, w2⟩
        refine kk (sm [3, 4, 5]) ?_
        have w2 : Buf g5.b (tyArr tyU8) 28 (.slice j4 ((c.parts : List (List UInt8))).length a4) w5 (c.parts : List (List UInt8)) := w2
        have l9 := w2.len
        refine xSel (sm [1, 0, 2, 3, 4, 5]) (xc [2, 4, 44, 47] ?_)
        exact v2 _ _ _ gR ⟨j4, a4, w5, l7, p7, p8, by kernel_rfl, by kernel_rfl, w2, l6⟩
     ·have hS := cond_F h11 hS
      refine xSk (xW (xc [2, 3, 4] (xSq (xSq (xRg (xb 3 [(1, 2)] [2, 3, 4, 53] (xRe (xW ?_))))))))
      refine xCd ((p.index == 0)) (fun l1 => ?_) (fun l1 => ?_)
      ·have hS := cond_T l1 hS
       have i5 : p.index = 0 := eq_of_beq l1
       refine xSq (xRg (xb 6 [(1, 2), (3, 2), (5, 2)] [4, 55, 57, 59] ?_))
       have p0 := p0.mono e6.b
       refine xE (eBs (T := (tyArr tyU8)) (p := g5.b) (et := 28) (xs := ([p.data] : List (List UInt8))) (reps_cons (c := [vs i0 p.data j0]) ⟨i0, j0, rfl, p0⟩ reps_nil) (by simp)) ?_
       rintro _ _ _ - ⟨z3, z4, i7, rfl, rfl, rfl, w8⟩
       refine xbo 2 [(8, 2)] [i7, t1, some ⟨b3, 43, (cColl ({ p with parts := ([p.data] : List (List UInt8)), sets := ([] : List Sett) }) z3 z4 none 0)⟩, some ⟨b2, 161, (cPiece p i0 j0)⟩, some ⟨b1, 43, (cColl c l0 f0 v0 d0)⟩] [4] (xRe (xW ?_))
       refine wpq_freeze 0 (by kernel_rfl) w8 (fun l10 f7 j8 => ?_)
       obtain rfl := Option.some.inj hS
       exact xRetC [] [(4, 2)] (e6.trans f7) ⟨z3, z4, none, 0, by kernel_rfl, by kernel_rfl, j8, Arr.nil⟩ (fun _ _ h => h)
      ·have hS := cond_F l1 hS
       have i5 : ¬ (p.index = 0) := ne_of_beq_false_ l1
       refine xSk (xW (xc [2, 4] (xSq (xRg (xbo 2 [(0, 3), (1, 1)] [t1, some ⟨b3, 43, (cColl c l0 f0 v0 d0)⟩, some ⟨b2, 161, (cPiece p i0 j0)⟩, some ⟨b1, 43, (cColl c l0 f0 v0 d0)⟩] [4] (xRe (xW ?_)))))))
       have w0 := w0.mono e6.b
       have w1 := w1.mono e6.b
       obtain rfl := Option.some.inj hS
       exact xRetC [] [(4, 1)] e6 ⟨l0, f0, v0, d0, by kernel_rfl, by kernel_rfl, w0, w1⟩ (fun _ _ h => h)

def o77_L0 (c : Coll) (s14 : Nat × (List UInt8)) : Option (Ctl (Nat × (List UInt8)) ((List UInt8))) :=
 (cond (decide ((s14.1 : Int) < (((c.parts).length : Nat) : Int))) (grd (decide (((s14.2).length + ((List.getD c.parts s14.1 [])).length) * 1 ≤ 140737488355328)) (grd (decide ((s14.1 : Int) + 1 ≤ 9223372036854775807)) (some (Ctl.go ((s14.1 + 1), ((s14.2 ++ (List.getD c.parts s14.1 [])) : List UInt8)))))) (some (Ctl.done (s14.2))))
def o77 (c : Coll) : Option (Job × Bool) :=
 (cond ((((((c.parts).length : Nat) : Int) == 0) || decide ((((c.parts).length : Nat) : Int) < c.count))) (some (((⟨0, ([] : List UInt8), ([] : List Sett)⟩ : Job), (false)))) (bindO (τ := (List UInt8)) (loopO (σ := Nat × (List UInt8)) (ρ := (List UInt8)) fuelN (o77_L0 c) (0, ([] : List UInt8))) fun t6 => (some ((({ c with snapshot := t6 }), (true))))))
theorem c77 (g : Gh) (c : Coll) (i0 : OA) (p0 : Nat) (j0 : OA) (w0 : Nat) (d0 : Arr g.b (tyArr tyU8) i0 p0 c.parts) (f0 : Arr g.b tySett j0 w0 c.sets) {r : Job × Bool} (hS : o77 c = some r) :
  Ctr Tryz.prog 77 [(aColl c i0 p0 j0 w0)] g [] (fun v ψ o => ∃ (v0 : OA) (l0 : Nat) (j1 : OA) (i1 : Nat), v = Value.tuple #[Value.agg #[vi r.1.base, vs v0 r.1.snapshot l0, vs j1 r.1.sets i1], vb r.2] ∧ o = [] ∧ Arr ψ tyU8 v0 l0 r.1.snapshot ∧ Arr ψ tySett j1 i1 r.1.sets) := by
 unfold o77 at hS
 refine xFn Tryz.f77 (Tryz.f77.body.getD .skip) 39 ?_
 have z2 := d0.len
 have d2 := f0.len
 refine xSq (xRg (xE eB ?_))
 rintro _ _ _ - ⟨b1, rfl, rfl, rfl⟩
 refine xE eB ?_
 rintro _ _ _ - ⟨b2, rfl, rfl, rfl⟩
 refine xb 1 [] [1, 2] (xRe (xW (xSq (xSq (xRg (xb 5 [(1, 1)] [1, 2, 11] ?_))))))
 refine wpr_grp 12 [(1, vp b1 0), (2, vp b2 0), (18, vb (((((c.parts).length : Nat) : Int) == 0) || decide ((((c.parts).length : Nat) : Int) < c.count)))] (fun hk4 => ?_) ?_
 ·refine wpq_split 11 (b := ((((c.parts).length : Nat) : Int) == 0)) (by kernel_rfl) (fun q3 => ?_) (fun q3 => ?_)
  ·have q3p : (((c.parts).length : Nat) : Int) = 0 := eq_of_beq q3
   refine xb 7 [] [1, 2, 18] (wpq_re 18 (v := vb true) (Value.bool ((((((c.parts).length : Nat) : Int) == 0) || decide ((((c.parts).length : Nat) : Int) < c.count)))) (by kernel_rfl) (re_or1 q3) ?_)
   exact wpq_sub _ (by kernel_rfl) hk4
  ·have q3p : ¬ ((((c.parts).length : Nat) : Int) = 0) := ne_of_beq_false_ q3
   refine xb 7 [(6, 1), (9, 1)] [1, 2, 18] (wpq_re 18 (v := vb (decide ((((c.parts).length : Nat) : Int) < c.count))) (Value.bool ((((((c.parts).length : Nat) : Int) == 0) || decide ((((c.parts).length : Nat) : Int) < c.count)))) (by kernel_rfl) (re_or0 q3) ?_)
   exact wpq_sub _ (by kernel_rfl) hk4
 ·refine xRe ?_
  refine xW ?_
  refine xCd ((((((c.parts).length : Nat) : Int) == 0) || decide ((((c.parts).length : Nat) : Int) < c.count))) (fun h4 => ?_) (fun h4 => ?_)
  ·have hS := cond_T h4 hS
   refine xSq (xRg (xbo 3 [(1, 0)] [some ⟨b2, 114, [vi 0, vS0, vS0]⟩, some ⟨b1, 43, (cColl c i0 p0 j0 w0)⟩] [2, 3] (xRe (xW ?_))))
   obtain rfl := Option.some.inj hS
   exact xRetC [] [(2, 0)] gR ⟨none, 0, none, 0, by kernel_rfl, by kernel_rfl, Arr.nil, Arr.nil⟩ (fun _ _ h => h)
  ·have hS := cond_F h4 hS
   have h4l := (or_false_ h4).1
   have h4r := (or_false_ h4).2
   have l4 : ¬ ((((c.parts).length : Nat) : Int) = 0) := ne_of_beq_false_ h4l
   have a3 := of_decide_eq_false h4r
   refine xSk (xW (xc [1, 2] (xSq (xRg (xb 5 [(1, 1), (3, 1)] [1, 2, 24] (xE eB ?_))))))
   rintro _ _ _ - ⟨b5, rfl, rfl, rfl⟩
   refine xbo 1 [(6, 0)] [some ⟨b5, 114, [vi c.base, vS0, vs j0 c.sets w0]⟩, some ⟨b2, 114, [vi 0, vS0, vS0]⟩, some ⟨b1, 43, (cColl c i0 p0 j0 w0)⟩] [1, 2, 4] (xRe (xW (xSq (xSq (xRg (xb 4 [(1, 2)] [2, 4, 26, 27, 28] (xRe (xW ?_))))))))
   refine xBindO hS (fun g own sl t6 => ∃ (z1 : OA) (w1 : Nat) (l1 : OB), own = [some ⟨b5, 114, [vi c.base, vs z1 t6 w1, vs j0 c.sets w0]⟩, some ⟨b2, 114, [vi 0, vS0, vS0]⟩, l1] ∧ sl = [(2, vp b2 0), (4, vp b5 0)] ∧ Buf g.b tyU8 5 (.slice z1 (t6).length w1) l1 t6) ?_ ?_
   ·rintro g7 _ _ t6 e8 ⟨z1, w1, l1, rfl, rfl, w2⟩ hS
    have l3 := w2.len
    refine xW (xSq (xRg (xbo 3 [(0, 0), (1, 1)] [some ⟨b5, 114, [vi c.base, vs z1 t6 w1, vs j0 c.sets w0]⟩, some ⟨b2, 114, [vi c.base, vs z1 t6 w1, vs j0 c.sets w0]⟩, l1] [2, 3] (xRe (xW ?_)))))
    refine wpq_freeze 2 (by kernel_rfl) w2 (fun g9 e10 f11 => ?_)
    have f0 := f0.mono (e8.trans e10).b
    obtain rfl := Option.some.inj hS
    exact xRetC [] [(2, 1)] (e8.trans e10) ⟨z1, w1, j0, w0, by kernel_rfl, by kernel_rfl, f11, f0⟩ (fun _ _ h => h)
   ·intro uu6 hS hN6
    refine xBl 0 (xSel [some 0, some 1, none] (xc [2, 4, 26, 27, 28] (xLo hS (fun g own sl s14 => ∃ (t1 : OA) (v1 : Nat) (d1 : OB), own = [some ⟨b5, 114, [vi c.base, vs t1 s14.2 v1, vs j0 c.sets w0]⟩, some ⟨b2, 114, [vi 0, vS0, vS0]⟩, d1] ∧ sl = [(2, vp b2 0), (4, vp b5 0), (26, vs i0 c.parts p0), (27, vi (((c.parts).length : Nat) : Int)), (28, vi (s14.1 : Int))] ∧ Buf g.b tyU8 5 (.slice t1 (s14.2).length v1) d1 s14.2) ⟨none, 0, none, by kernel_rfl, by kernel_rfl, Buf.nil⟩ ?_)))
    rintro g15 _ _ s14 f3 e16 ⟨t1, v1, d1, rfl, rfl, f1⟩ hS j4 v2 f2
    have v3 := f1.len
    unfold o77_L0 at hS
    refine xSq (xRg (xb 1 [] [2, 4, 26, 27, 28, 29] (xRe (xW (xSq ?_)))))
    refine xCd (decide ((s14.1 : Int) < (((c.parts).length : Nat) : Int))) (fun h17 => ?_) (fun h17 => ?_)
    ·have hS := cond_T h17 hS
     have z3 := of_decide_eq_true h17
     refine xSk (xW (xc [2, 4, 26, 27, 28] (xSq (xBl 1 (xSq (xRg ?_))))))
     have d0 := d0.mono e16.b
     have i19 : s14.1 < (c.parts).length := by omega
     obtain ⟨a2, z4, d3, j3, w3⟩ := d0.at_ (get_getD (d := []) i19)
     obtain ⟨A18, c18, rfl, f18⟩ := j3
     have f4 := f18.len
     refine xV (qIx s14.1 1 d3 rfl i19) (xV (qLdP (Addr.add a2 (s14.1 * 1)) 0 (w3.mono g15.br)) (xb 1 [] [2, 4, 6, 26, 27, 28] (xRe (xW (xRg (xb 3 [(1, 0)] [2, 4, 26, 27, 28, 33, 34] ?_))))))
     obtain ⟨t4, t3, j2⟩ := f18.srcB
     obtain ⟨q21, hS⟩ := grd_T hS
     have i4 := of_decide_eq_true q21
     refine xE (eApp (T := tyU8) (p := g15.b) (et := 5) (bytes := 1) (xs := s14.2) (ys := ((List.getD c.parts s14.1 []) : List UInt8)) 2 f1 rfl (fun w hs => j2 w _ hs) t3 (by first | omega | (simp only [List.length_cons, List.length_nil] at *; omega)) (by first | omega | (simp only [List.length_cons, List.length_nil] at *; omega))) ?_
     rintro _ _ _ - ⟨A20, c20, k20, rfl, rfl, rfl, h20⟩
     have d4 := h20.len
     have w4 : ((s14.2 ++ (List.getD c.parts s14.1 [])) : List UInt8).length = (s14.2).length + ((List.getD c.parts s14.1 [])).length := List.length_append
     refine xbo 2 [(5, 0)] [some ⟨b5, 114, [vi c.base, vs A20 (s14.2 ++ (List.getD c.parts s14.1 [])) c20, vs j0 c.sets w0]⟩, some ⟨b2, 114, [vi 0, vS0, vS0]⟩, k20] [2, 4, 26, 27, 28] (xRe (wpq_blockN (xW (xRg ?_))))
     obtain ⟨q22, hS⟩ := grd_T hS
     have v4 := of_decide_eq_true q22
     refine xV (qAdd .i64 ((s14.1 : Int)) (1) (wr64 (by omega))) (xb 1 [] [2, 4, 26, 27, 28] (xRe (wpq_thenN (xc [2, 4, 26, 27, 28] ?_))))
     have eS := (Option.some.inj hS).symm
     exact v2 _ eS _ _ _ gR ⟨A20, c20, k20, by kernel_rfl, by kernel_rfl, h20⟩
    ·have hS := cond_F h17 hS
     have z3 := of_decide_eq_false h17
     refine xEx 0 (wpq_thenX (wpq_thenX (wpq_blockE (xc [2, 4] ?_))))
     have eS := (Option.some.inj hS).symm
     have eS := (f2 _ eS).symm
     exact hN6 _ eS _ _ _ e16 ⟨t1, v1, d1, by kernel_rfl, by kernel_rfl, f1⟩

def o78 (n : RNode) (steps : Int) : RNode × Int :=
 (cond (((n.stage != 0) || (n.role != 1))) ((n, (8 : Int))) (cond ((decide (steps < 1) || decide (steps > 4611686018427387904))) ((n, (1 : Int))) ((({ n with role := 3, steps := steps }), (0 : Int)))))
theorem c78 (g : Gh) (n : RNode) (i0 : OA) (p0 : Nat) (w0 : OA) (j0 : Nat) (steps : Int) (f0 : Arr g.b tyU8 i0 p0 n.input) (d0 : Arr g.b tyU8 w0 j0 n.heard.input) {r : RNode × Int} (hS : o78 n steps = r) :
  Ctr Tryz.prog 78 [(aRNode n i0 p0 w0 j0), vi steps] g [] (fun v ψ o => ∃ (w1 : OA) (z1 : Nat) (v0 : OA) (l0 : Nat), v = Value.tuple #[(aRNode r.1 w1 z1 v0 l0), vi r.2] ∧ o = [] ∧ Arr ψ tyU8 w1 z1 r.1.input ∧ Arr ψ tyU8 v0 l0 r.1.heard.input) := by
 unfold o78 at hS
 refine xFn Tryz.f78 (Tryz.f78.body.getD .skip) 26 (xSq (xRg (xE eB ?_)))
 rintro _ _ _ - ⟨b1, rfl, rfl, rfl⟩
 refine xE eB ?_
 rintro _ _ _ - ⟨b2, rfl, rfl, rfl⟩
 refine xb 1 [] [1, 2, 4] (xRe (xW (xSq (xSq (xRg (xb 4 [(1, 1)] [1, 2, 4, 9] ?_))))))
 refine wpr_grp 8 [(1, vi steps), (2, vp b1 0), (4, vp b2 0), (13, vb ((n.stage != 0) || (n.role != 1)))] (fun hk3 => ?_) ?_
 ·refine wpq_split 9 (b := (n.stage != 0)) (by kernel_rfl) (fun q3 => ?_) (fun q3 => ?_)
  ·have q3p : ¬ (n.stage = 0) := ne_of_bne_ q3
   refine xb 4 [] [1, 2, 4, 13] (wpq_re 13 (v := vb true) (Value.bool (((n.stage != 0) || (n.role != 1)))) (by kernel_rfl) (re_or1 q3) ?_)
   exact wpq_sub _ (by kernel_rfl) hk3
  ·have q3p : n.stage = 0 := eq_of_bne_false_ q3
   refine xb 4 [(5, 1)] [1, 2, 4, 13] (wpq_re 13 (v := vb (n.role != 1)) (Value.bool (((n.stage != 0) || (n.role != 1)))) (by kernel_rfl) (re_or0 q3) ?_)
   exact wpq_sub _ (by kernel_rfl) hk3
 ·refine xRe ?_
  refine xW ?_
  refine xCd (((n.stage != 0) || (n.role != 1))) (fun h4 => ?_) (fun h4 => ?_)
  ·have hS := cond_T h4 hS
   refine xSq (xRg (xbo 3 [(0, 1), (1, 0)] [some ⟨b2, 36, (cRNode n i0 p0 w0 j0)⟩, some ⟨b1, 36, (cRNode n i0 p0 w0 j0)⟩] [4, 5] (xRe (xW ?_))))
   have eS := hS.symm
   subst eS
   exact xRetC [] [(4, 0)] gR ⟨i0, p0, w0, j0, by kernel_rfl, by kernel_rfl, f0, d0⟩ (fun _ _ h => h)
  ·have hS := cond_F h4 hS
   have h4l := (or_false_ h4).1
   have h4r := (or_false_ h4).2
   have i1 : n.stage = 0 := eq_of_bne_false_ h4l
   have j1 : n.role = 1 := eq_of_bne_false_ h4r
   refine xSk (xW (xc [1, 2, 4] (xSq (xSq (xRg (xb 3 [] [1, 2, 4, 17] ?_))))))
   refine wpr_grp 6 [(1, vi steps), (2, vp b1 0), (4, vp b2 0), (20, vb (decide (steps < 1) || decide (steps > 4611686018427387904)))] (fun hk2 => ?_) ?_
   ·refine wpq_split 17 (b := decide (steps < 1)) (by kernel_rfl) (fun q5 => ?_) (fun q5 => ?_)
    ·have q5p := of_decide_eq_true q5
     refine xb 3 [] [1, 2, 4, 20] (wpq_re 20 (v := vb true) (Value.bool ((decide (steps < 1) || decide (steps > 4611686018427387904)))) (by kernel_rfl) (re_or1 q5) ?_)
     exact wpq_sub _ (by kernel_rfl) hk2
    ·have q5p := of_decide_eq_false q5
     refine xb 3 [] [1, 2, 4, 20] (wpq_re 20 (v := vb (decide (steps > 4611686018427387904))) (Value.bool ((decide (steps < 1) || decide (steps > 4611686018427387904)))) (by kernel_rfl) (re_or0 q5) ?_)
     exact wpq_sub _ (by kernel_rfl) hk2
   ·refine xRe ?_
    refine xW ?_
    refine xCd ((decide (steps < 1) || decide (steps > 4611686018427387904))) (fun h6 => ?_) (fun h6 => ?_)
    ·have hS := cond_T h6 hS
     refine xSq (xRg (xbo 3 [(0, 1), (1, 0)] [some ⟨b2, 36, (cRNode n i0 p0 w0 j0)⟩, some ⟨b1, 36, (cRNode n i0 p0 w0 j0)⟩] [4, 5] (xRe (xW ?_))))
     have eS := hS.symm
     subst eS
     exact xRetC [] [(4, 0)] gR ⟨i0, p0, w0, j0, by kernel_rfl, by kernel_rfl, f0, d0⟩ (fun _ _ h => h)
    ·have hS := cond_F h6 hS
     refine xSk (xW (xc [1, 2, 4] (xSq (xRg (xbo 5 [(2, 1), (4, 1)] [some ⟨b2, 36, (cRNode (⟨0, 0, 0, 0, 0, 0, ([] : List UInt8), false, false, (⟨0, 0, (⟨0, 0⟩ : Want), ([] : List UInt8)⟩ : Heard), false, Z0⟩ : RNode) none 0 none 0)⟩, some ⟨b1, 36, (cRNode ({ n with role := 3, steps := steps }) i0 p0 w0 j0)⟩] [2, 4] (xRe (xW (xSq (xRg (xbo 3 [(0, 1), (1, 0)] [some ⟨b2, 36, (cRNode ({ n with role := 3, steps := steps }) i0 p0 w0 j0)⟩, some ⟨b1, 36, (cRNode ({ n with role := 3, steps := steps }) i0 p0 w0 j0)⟩] [4, 5] (xRe (xW ?_))))))))))))
     have eS := hS.symm
     subst eS
     exact xRetC [] [(4, 0)] gR ⟨i0, p0, w0, j0, by kernel_rfl, by kernel_rfl, f0, d0⟩ (fun _ _ h => h)

def o37 (c : RComp) (f : Frame) (came : Bool) : Option (RComp × Job × Bool × Int) :=
 (cond ((c.stage != 7)) (some ((c, (⟨0, ([] : List UInt8), ([] : List Sett)⟩ : Job), (false), (8 : Int)))) (cond ((c.node.role != 1)) (some ((({ c with stage := 0 }), (⟨0, ([] : List UInt8), ([] : List Sett)⟩ : Job), (false), (0 : Int)))) (letJ (o60 c.node f (came) (4 : Int)) fun y7 => (bindO (τ := Coll) (cond (y7) (bindO (o75 f.payload) fun y22 => (bindO (τ := Coll) (cond ((y22.2 == 0)) (bindO (o76 c.collector y22.1) fun y30 => (some ((y30 : Coll)))) (some (c.collector))) fun t26 => (some ((t26 : Coll))))) (some (c.collector))) fun t10 => (bindO (o77 t10) fun y13 => (cond ((!y13.2)) (some ((({ c with collector := t10, stage := 0 }), (⟨0, ([] : List UInt8), ([] : List Sett)⟩ : Job), (false), (0 : Int)))) (letJ (o78 c.node ((IntKind.i64.wrap (y13.1.base + (((y13.1.sets).length : Nat) : Int))) : Int)) fun y18 => (some (((⟨y18.1, (⟨([] : List Piece)⟩ : Sender), (⟨0, 0, ([] : List (List UInt8)), ([] : List Sett)⟩ : Coll), c.asked, 0⟩ : RComp), y13.1, (true), (0 : Int)))))))))))
theorem c37 (g : Gh) (c : RComp) (d0 : OA) (v0 : Nat) (j0 : OA) (w0 : Nat) (p0 : OA) (i0 : Nat) (l0 : OA) (f0 : Nat) (z1 : OA) (w1 : Nat) (f : Frame) (j2 : OA) (f1 : Nat) (came : Bool) (t1 : Arr g.b tyU8 d0 v0 c.node.input) (d1 : Arr g.b tyU8 j0 w0 c.node.heard.input) (f2 : Arr g.b tyPiece p0 i0 c.sender.pieces) (j1 : Arr g.b (tyArr tyU8) l0 f0 c.collector.parts) (i1 : Arr g.b tySett z1 w1 c.collector.sets) (z5 : Arr g.r tyU8 j2 f1 f.payload) {r : RComp × Job × Bool × Int} (hS : o37 c f came = some r) :
  Ctr Tryz.prog 37 [(aRComp c d0 v0 j0 w0 p0 i0 l0 f0 z1 w1), (aFrame f j2 f1), vb came] g [] (fun v ψ o => ∃ (i5 : OA) (j5 : Nat) (t3 : OA) (d3 : Nat) (v4 : OA) (l4 : Nat) (v3 : OA) (l3 : Nat) (f3 : OA) (a3 : Nat) (l5 : OA) (f5 : Nat) (p6 : OA) (d6 : Nat), v = Value.tuple #[(aRComp r.1 i5 j5 t3 d3 v4 l4 v3 l3 f3 a3), Value.agg #[vi r.2.1.base, vs l5 r.2.1.snapshot f5, vs p6 r.2.1.sets d6], vb r.2.2.1, vi r.2.2.2] ∧ o = [] ∧ Arr ψ tyU8 i5 j5 r.1.node.input ∧ Arr ψ tyU8 t3 d3 r.1.node.heard.input ∧ Arr ψ tyPiece v4 l4 r.1.sender.pieces ∧ Arr ψ (tyArr tyU8) v3 l3 r.1.collector.parts ∧ Arr ψ tySett f3 a3 r.1.collector.sets ∧ Arr ψ tyU8 l5 f5 r.2.1.snapshot ∧ Arr ψ tySett p6 d6 r.2.1.sets) := by
 unfold o37 at hS
 refine xFn Tryz.f37 (Tryz.f37.body.getD .skip) 73 (xSq (xRg (xE eB ?_)))
 rintro _ _ _ - ⟨b1, rfl, rfl, rfl⟩
 refine xE eB ?_
 rintro _ _ _ - ⟨b2, rfl, rfl, rfl⟩
 refine xE eB ?_
 rintro _ _ _ - ⟨b3, rfl, rfl, rfl⟩
 refine xE eB ?_
 rintro _ _ _ - ⟨b4, rfl, rfl, rfl⟩
 refine xb 2 [] [2, 3, 4, 6, 7] (xRe (xW (xSq (xSq (xRg (xb 3 [(1, 3)] [2, 3, 4, 6, 7, 16] (xRe (xW ?_))))))))
 refine xCd ((c.stage != 7)) (fun h5 => ?_) (fun h5 => ?_)
 ·have hS := cond_T h5 hS
  have h5p : ¬ (c.stage = 7) := ne_of_bne_ h5
  refine xSq (xRg (xbo 6 [(0, 3), (2, 1), (3, 0)] [some ⟨b4, 114, [vi 0, vS0, vS0]⟩, some ⟨b3, 45, (cRComp c d0 v0 j0 w0 p0 i0 l0 f0 z1 w1)⟩, some ⟨b2, 49, (cFrame f j2 f1)⟩, some ⟨b1, 45, (cRComp c d0 v0 j0 w0 p0 i0 l0 f0 z1 w1)⟩] [6, 7, 8, 9] (xRe (xW ?_))))
  obtain rfl := Option.some.inj hS
  exact xRetC [] [(6, 1), (7, 0)] gR ⟨d0, v0, j0, w0, p0, i0, l0, f0, z1, w1, none, 0, none, 0, by kernel_rfl, by kernel_rfl, t1, d1, f2, j1, i1, Arr.nil, Arr.nil⟩ (fun _ _ h => h)
 ·have hS := cond_F h5 hS
  have h5p : c.stage = 7 := eq_of_bne_false_ h5
  refine xSk (xW (xc [2, 3, 4, 6, 7] (xSq (xRg (xbo 2 [(1, 3)] [some ⟨b4, 114, [vi 0, vS0, vS0]⟩, some ⟨b3, 45, (cRComp (⟨(⟨0, 0, 0, 0, 0, 0, ([] : List UInt8), false, false, (⟨0, 0, (⟨0, 0⟩ : Want), ([] : List UInt8)⟩ : Heard), false, Z0⟩ : RNode), Z3, Z4, false, 0⟩ : RComp) none 0 none 0 none 0 none 0 none 0)⟩, some ⟨b2, 49, (cFrame f j2 f1)⟩, some ⟨b1, 45, (cRComp ({ c with stage := 0 }) d0 v0 j0 w0 p0 i0 l0 f0 z1 w1)⟩] [2, 3, 4, 6, 7] (xRe (xW (xSq (xSq (xRg (xb 4 [(2, 3)] [2, 3, 4, 6, 7, 23] (xRe (xW ?_)))))))))))))
  refine xCd ((c.node.role != 1)) (fun h6 => ?_) (fun h6 => ?_)
  ·have hS := cond_T h6 hS
   have h6p : ¬ (c.node.role = 1) := ne_of_bne_ h6
   refine xSq (xRg (xbo 6 [(0, 3), (2, 1), (3, 0)] [some ⟨b4, 114, [vi 0, vS0, vS0]⟩, some ⟨b3, 45, (cRComp ({ c with stage := 0 }) d0 v0 j0 w0 p0 i0 l0 f0 z1 w1)⟩, some ⟨b2, 49, (cFrame f j2 f1)⟩, some ⟨b1, 45, (cRComp ({ c with stage := 0 }) d0 v0 j0 w0 p0 i0 l0 f0 z1 w1)⟩] [6, 7, 8, 9] (xRe (xW ?_))))
   obtain rfl := Option.some.inj hS
   exact xRetC [] [(6, 1), (7, 0)] gR ⟨d0, v0, j0, w0, p0, i0, l0, f0, z1, w1, none, 0, none, 0, by kernel_rfl, by kernel_rfl, t1, d1, f2, j1, i1, Arr.nil, Arr.nil⟩ (fun _ _ h => h)
  ·have hS := cond_F h6 hS
   have h6p : c.node.role = 1 := eq_of_bne_false_ h6
   refine xSk (xW (xc [2, 3, 4, 6, 7] (xSq (xSq (xRg (xb 4 [(1, 3), (2, 2)] [3, 4, 6, 7, 27, 28, 29] ?_))))))
   obtain ⟨y7, hy7, hS⟩ := letJ_T hS
   refine xE (eC 0 (fun g' lr eb ln => c60 g' c.node d0 v0 j0 w0 f j2 f1 (came) (4 : Int) ((t1.mono g.br).mono lr) ((d1.mono g.br).mono lr) (z5.mono lr) hy7)) ?_
   rintro _ g8 _ e9 ⟨_, rfl, rfl, rfl⟩
   refine xRe (xW (xc [3, 4, 6, 7, 30] ?_))
   refine xBindO hS (fun g own sl t10 => ∃ (v1 : OA) (l1 : Nat) (w2 : OA) (z2 : Nat), own = [some ⟨b4, 114, [vi 0, vS0, vS0]⟩, some ⟨b3, 45, (cRComp (⟨(⟨0, 0, 0, 0, 0, 0, ([] : List UInt8), false, false, (⟨0, 0, (⟨0, 0⟩ : Want), ([] : List UInt8)⟩ : Heard), false, Z0⟩ : RNode), Z3, Z4, false, 0⟩ : RComp) none 0 none 0 none 0 none 0 none 0)⟩, some ⟨b1, 45, (cRComp ({ c with collector := t10, stage := 0 }) d0 v0 j0 w0 p0 i0 v1 l1 w2 z2)⟩] ∧ sl = [(3, vp b1 0), (6, vp b3 0), (7, vp b4 0)] ∧ Arr g.b (tyArr tyU8) v1 l1 t10.parts ∧ Arr g.b tySett w2 z2 t10.sets) ?_ ?_
   ·rintro g11 _ _ t10 e12 ⟨v1, l1, w2, z2, rfl, rfl, j4, f4⟩ hS
    refine xW (xSq (xRg (xb 2 [(1, 2)] [3, 6, 7, 46] ?_)))
    obtain ⟨y13, z7, hS⟩ := bindO_T hS
    refine xE (eC 0 (fun g' lr eb ln => c77 g' t10 v1 l1 w2 z2 (by rw [eb]; exact j4) (by rw [eb]; exact f4) z7)) ?_
    rintro _ g14 _ e15 ⟨_, rfl, d2, v2, z3, j3, rfl, rfl, w4, t5⟩
    refine xb 3 [] [3, 6, 7, 48, 49] (xE eB ?_)
    rintro _ _ _ - ⟨b16, rfl, rfl, rfl⟩
    refine xbo 2 [(7, 0)] [some ⟨b16, 114, [vi y13.1.base, vs d2 y13.1.snapshot v2, vs z3 y13.1.sets j3]⟩, some ⟨b4, 114, [vi 0, vS0, vS0]⟩, some ⟨b3, 45, (cRComp (⟨(⟨0, 0, 0, 0, 0, 0, ([] : List UInt8), false, false, (⟨0, 0, (⟨0, 0⟩ : Want), ([] : List UInt8)⟩ : Heard), false, Z0⟩ : RNode), Z3, Z4, false, 0⟩ : RComp) none 0 none 0 none 0 none 0 none 0)⟩, some ⟨b1, 45, (cRComp ({ c with collector := t10, stage := 0 }) d0 v0 j0 w0 p0 i0 v1 l1 w2 z2)⟩] [3, 6, 7, 12, 13] (xRe (xW (xSq (xSq (xRg (xb 2 [] [3, 6, 7, 12, 51] (xRe (xW ?_))))))))
    refine xCd ((!y13.2)) (fun h17 => ?_) (fun h17 => ?_)
    ·have hS := cond_T h17 hS
     refine xSq (xRg (xbo 6 [(0, 3), (2, 2), (3, 1)] [some ⟨b16, 114, [vi y13.1.base, vs d2 y13.1.snapshot v2, vs z3 y13.1.sets j3]⟩, some ⟨b4, 114, [vi 0, vS0, vS0]⟩, some ⟨b3, 45, (cRComp ({ c with collector := t10, stage := 0 }) d0 v0 j0 w0 p0 i0 v1 l1 w2 z2)⟩, some ⟨b1, 45, (cRComp ({ c with collector := t10, stage := 0 }) d0 v0 j0 w0 p0 i0 v1 l1 w2 z2)⟩] [6, 7, 8, 9] (xRe (xW ?_))))
     have t1 := t1.mono (e9.trans (e12.trans e15)).b
     have d1 := d1.mono (e9.trans (e12.trans e15)).b
     have f2 := f2.mono (e9.trans (e12.trans e15)).b
     have j4 := j4.mono e15.b
     have f4 := f4.mono e15.b
     obtain rfl := Option.some.inj hS
     exact xRetC [] [(6, 2), (7, 1)] (e9.trans (e12.trans e15)) ⟨d0, v0, j0, w0, p0, i0, v1, l1, w2, z2, none, 0, none, 0, by kernel_rfl, by kernel_rfl, t1, d1, f2, j4, f4, Arr.nil, Arr.nil⟩ (fun _ _ h => h)
    ·have hS := cond_F h17 hS
     refine xSk (xW (xc [3, 6, 7, 12] (xSq (xRg (xb 8 [(1, 3), (3, 0), (5, 0)] [3, 6, 7, 12, 56, 62] ?_)))))
     have t1 := t1.mono (e9.trans (e12.trans e15)).b
     have d1 := d1.mono (e9.trans (e12.trans e15)).b
     obtain ⟨y18, d7, hS⟩ := letJ_T hS
     refine xE (eC 0 (fun g' lr eb ln => c78 g' c.node d0 v0 j0 w0 ((IntKind.i64.wrap (y13.1.base + (((y13.1.sets).length : Nat) : Int))) : Int) (by rw [eb]; exact t1) (by rw [eb]; exact d1) d7)) ?_
     rintro _ g19 _ e20 ⟨_, rfl, t4, d4, a2, w3, rfl, rfl, l6, a5⟩
     refine xbo 5 [(13, 3)] [some ⟨b16, 114, [vi y13.1.base, vs d2 y13.1.snapshot v2, vs z3 y13.1.sets j3]⟩, some ⟨b4, 114, [vi 0, vS0, vS0]⟩, some ⟨b3, 45, (cRComp (⟨(⟨0, 0, 0, 0, 0, 0, ([] : List UInt8), false, false, (⟨0, 0, (⟨0, 0⟩ : Want), ([] : List UInt8)⟩ : Heard), false, Z0⟩ : RNode), Z3, Z4, false, 0⟩ : RComp) none 0 none 0 none 0 none 0 none 0)⟩, some ⟨b1, 45, (cRComp (⟨y18.1, c.sender, t10, c.asked, 0⟩ : RComp) t4 d4 a2 w3 p0 i0 v1 l1 w2 z2)⟩] [3, 6, 7, 12] (xRe (xW (xSq (xRg (xbo 6 [(3, 3), (5, 3)] [some ⟨b16, 114, [vi y13.1.base, vs d2 y13.1.snapshot v2, vs z3 y13.1.sets j3]⟩, some ⟨b4, 114, [vi 0, vS0, vS0]⟩, some ⟨b3, 45, (cRComp (⟨(⟨0, 0, 0, 0, 0, 0, ([] : List UInt8), false, false, (⟨0, 0, (⟨0, 0⟩ : Want), ([] : List UInt8)⟩ : Heard), false, Z0⟩ : RNode), Z3, Z4, false, 0⟩ : RComp) none 0 none 0 none 0 none 0 none 0)⟩, some ⟨b1, 45, (cRComp (⟨y18.1, Z3, Z4, c.asked, 0⟩ : RComp) t4 d4 a2 w3 none 0 none 0 none 0)⟩] [3, 6, 7, 12] (xRe (xW (xSq ?_))))))))
     refine xDr 0 [0, 1] [3, 4, 5] [some ⟨b16, 114, [vi y13.1.base, vs d2 y13.1.snapshot v2, vs z3 y13.1.sets j3]⟩, some ⟨b1, 45, (cRComp (⟨y18.1, Z3, Z4, c.asked, 0⟩ : RComp) t4 d4 a2 w3 none 0 none 0 none 0)⟩] 6 (fun RG => ?_) (fun _ _ _ _ _ h => h)
     refine xt 4 [0, 1] [(0, 1), (1, 0)] [some 0, some 3] [6, 7, 71, 72] RG pR (xO1 (lds := [0, 1]) 2 (xId (lds := [0, 1]) pR (eStL b3 0 2) ?_))
     rintro _ _ _ - ⟨rfl, rfl⟩
     refine kk [some 0, some 3] (xO1 (lds := [0, 1]) 3 (xId (lds := [0, 1]) pR (eStL b4 0 1) ?_))
     rintro _ _ _ - ⟨rfl, rfl⟩
     refine kf (xt 0 [4, 5] [] [some 0, some 3] [6, 7, 8, 9] RG pR (xAe (lds := [0, 1]) (xW ?_)))
     have w4 := w4.mono e20.b
     have t5 := t5.mono e20.b
     obtain rfl := Option.some.inj hS
     exact xRetC [] [(6, 2), (7, 1)] (e9.trans (e12.trans (e15.trans e20))) ⟨t4, d4, a2, w3, none, 0, none, 0, none, 0, d2, v2, z3, j3, by kernel_rfl, by kernel_rfl, l6, a5, Arr.nil, Arr.nil, Arr.nil, w4, t5⟩ (fun _ _ h => h)
   ·intro uu10 hS hN10
    refine xCd (y7) (fun h21 => ?_) (fun h21 => ?_)
    ·have hS := cond_T h21 hS
     refine xSq (xRg (xb 2 [(1, 2)] [3, 6, 7, 33] ?_))
     have z5 := z5.mono e9.r
     obtain ⟨y22, j7, hS⟩ := bindO_T hS
     refine xE (eC 0 (fun g' lr eb ln => c75 g' f.payload j2 f1 (z5.mono lr) j7)) ?_
     rintro _ g23 _ e24 ⟨_, rfl, d5, v5, rfl, rfl, a6⟩
     refine xb 3 [] [3, 6, 7, 35, 36] (xE eB ?_)
     rintro _ _ _ - ⟨b25, rfl, rfl, rfl⟩
     refine xbo 2 [(7, 0)] [some ⟨b25, 161, (cPiece y22.1 d5 v5)⟩, some ⟨b4, 114, [vi 0, vS0, vS0]⟩, some ⟨b3, 45, (cRComp (⟨(⟨0, 0, 0, 0, 0, 0, ([] : List UInt8), false, false, (⟨0, 0, (⟨0, 0⟩ : Want), ([] : List UInt8)⟩ : Heard), false, Z0⟩ : RNode), Z3, Z4, false, 0⟩ : RComp) none 0 none 0 none 0 none 0 none 0)⟩, some ⟨b2, 49, (cFrame f j2 f1)⟩, some ⟨b1, 45, (cRComp ({ c with stage := 0 }) d0 v0 j0 w0 p0 i0 l0 f0 z1 w1)⟩] [3, 6, 7, 10, 11] (xRe (xW (xSq (xRg (xb 2 [] [3, 6, 7, 10, 38] (xRe (xW ?_)))))))
     refine xBindO hS (fun g own sl t26 => ∃ (z4 : OA) (i4 : Nat) (a4 : OA) (w5 : Nat), own = [some ⟨b4, 114, [vi 0, vS0, vS0]⟩, some ⟨b3, 45, (cRComp (⟨(⟨0, 0, 0, 0, 0, 0, ([] : List UInt8), false, false, (⟨0, 0, (⟨0, 0⟩ : Want), ([] : List UInt8)⟩ : Heard), false, Z0⟩ : RNode), Z3, Z4, false, 0⟩ : RComp) none 0 none 0 none 0 none 0 none 0)⟩, some ⟨b1, 45, (cRComp ({ c with collector := t26, stage := 0 }) d0 v0 j0 w0 p0 i0 z4 i4 a4 w5)⟩] ∧ sl = [(3, vp b1 0), (6, vp b3 0), (7, vp b4 0)] ∧ Arr g.b (tyArr tyU8) z4 i4 t26.parts ∧ Arr g.b tySett a4 w5 t26.sets) ?_ ?_
     ·rintro g27 _ _ t26 e28 ⟨z4, i4, a4, w5, rfl, rfl, t6, f6⟩ hS
      refine xc [3, 6, 7] ?_
      have eS := (Option.some.inj hS).symm
      exact hN10 _ eS _ _ _ (e24.trans e28) ⟨z4, i4, a4, w5, by kernel_rfl, by kernel_rfl, t6, f6⟩
     ·intro uu26 hS hN26
      refine xCd ((y22.2 == 0)) (fun h29 => ?_) (fun h29 => ?_)
      ·have hS := cond_T h29 hS
       have p7 : y22.2 = 0 := eq_of_beq h29
       refine xRg (xb 3 [(1, 4), (2, 0)] [3, 6, 7, 40, 41] ?_)
       have j1 := j1.mono (e9.trans e24).b
       have i1 := i1.mono (e9.trans e24).b
       obtain ⟨y30, i7, hS⟩ := bindO_T hS
       refine xE (eC 0 (fun g' lr eb ln => c76 g' c.collector l0 f0 z1 w1 y22.1 d5 v5 (by rw [eb]; exact j1) (by rw [eb]; exact i1) (by rw [eb]; exact a6) i7)) ?_
       rintro _ g31 _ e32 ⟨_, rfl, w6, z6, i6, j6, rfl, rfl, v6, w7⟩
       refine xbo 2 [(5, 4)] [some ⟨b25, 161, (cPiece y22.1 d5 v5)⟩, some ⟨b4, 114, [vi 0, vS0, vS0]⟩, some ⟨b3, 45, (cRComp (⟨(⟨0, 0, 0, 0, 0, 0, ([] : List UInt8), false, false, (⟨0, 0, (⟨0, 0⟩ : Want), ([] : List UInt8)⟩ : Heard), false, Z0⟩ : RNode), Z3, Z4, false, 0⟩ : RComp) none 0 none 0 none 0 none 0 none 0)⟩, some ⟨b2, 49, (cFrame f j2 f1)⟩, some ⟨b1, 45, (cRComp ({ c with collector := y30, stage := 0 }) d0 v0 j0 w0 p0 i0 w6 z6 i6 j6)⟩] [3, 6, 7] (xRe (xSel (sm [1, 2, 4]) (xc [3, 6, 7] ?_)))
       have eS := (Option.some.inj hS).symm
       exact hN26 _ eS _ _ _ e32 ⟨w6, z6, i6, j6, by kernel_rfl, by kernel_rfl, v6, w7⟩
      ·have hS := cond_F h29 hS
       have p7 : ¬ (y22.2 = 0) := ne_of_beq_false_ h29
       refine xSk ?_
       have j1 := j1.mono (e9.trans e24).b
       have i1 := i1.mono (e9.trans e24).b
       refine xSel (sm [1, 2, 4]) (xc [3, 6, 7] ?_)
       have eS := (Option.some.inj hS).symm
       exact hN26 _ eS _ _ _ gR ⟨l0, f0, z1, w1, by kernel_rfl, by kernel_rfl, j1, i1⟩
    ·have hS := cond_F h21 hS
     refine xSk ?_
     have j1 := j1.mono e9.b
     have i1 := i1.mono e9.b
     refine xSel (sm [0, 1, 3]) (xc [3, 6, 7] ?_)
     have eS := (Option.some.inj hS).symm
     exact hN10 _ eS _ _ _ gR ⟨l0, f0, z1, w1, by kernel_rfl, by kernel_rfl, j1, i1⟩

def o39_L0 (j : Job) (s12 : Nat × (List Sett)) : Option (Ctl (Nat × (List Sett)) ((List Sett))) :=
 (cond (decide ((s12.1 : Int) < (((j.sets).length : Nat) : Int))) (letJ (o29 (List.getD j.sets s12.1 default)) fun y19 => (grd (decide (((s12.2).length + (([y19] : List Sett)).length) * 48 ≤ 140737488355328)) (grd (decide ((s12.1 : Int) + 1 ≤ 9223372036854775807)) (some (Ctl.go ((s12.1 + 1), ((s12.2 ++ ([y19] : List Sett)) : List Sett))))))) (some (Ctl.done (s12.2))))
def o39 (j : Job) : Option (Job) :=
 (bindO (τ := (List Sett)) (loopO (σ := Nat × (List Sett)) (ρ := (List Sett)) fuelN (o39_L0 j) (0, ([] : List Sett))) fun t4 => (some (({ j with sets := t4 }))))
theorem c39 (g : Gh) (j : Job) (w0 : OA) (j0 : Nat) (l0 : OA) (v0 : Nat) (i0 : Arr g.b tyU8 w0 j0 j.snapshot) (z1 : Arr g.b tySett l0 v0 j.sets) {r : Job} (hS : o39 j = some r) :
  Ctr Tryz.prog 39 [Value.agg #[vi j.base, vs w0 j.snapshot j0, vs l0 j.sets v0]] g [] (fun v ψ o => ∃ (p0 : OA) (d0 : Nat) (z2 : OA) (j2 : Nat), v = Value.agg #[vi r.base, vs p0 r.snapshot d0, vs z2 r.sets j2] ∧ o = [] ∧ Arr ψ tyU8 p0 d0 r.snapshot ∧ Arr ψ tySett z2 j2 r.sets) := by
 unfold o39 at hS
 refine xFn Tryz.f39 (Tryz.f39.body.getD .skip) 27 ?_
 have w3 := i0.len
 have t3 := z1.len
 refine xSq (xRg (xE eB ?_))
 rintro _ _ _ - ⟨b1, rfl, rfl, rfl⟩
 refine xE eB ?_
 rintro _ _ _ - ⟨b2, rfl, rfl, rfl⟩
 refine xRe (xW (xc [1, 2] (xSq (xRg (xb 5 [(1, 1), (3, 1)] [1, 2, 10] (xE eB ?_))))))
 rintro _ _ _ - ⟨b3, rfl, rfl, rfl⟩
 refine xbo 1 [(6, 0)] [some ⟨b3, 114, [vi j.base, vs w0 j.snapshot j0, vS0]⟩, some ⟨b2, 114, [vi 0, vS0, vS0]⟩, some ⟨b1, 110, [vi j.base, vs w0 j.snapshot j0, vs l0 j.sets v0]⟩] [1, 2, 3] (xRe (xW (xSq (xSq (xRg (xb 4 [(1, 2)] [2, 3, 12, 13, 14] (xRe (xW ?_))))))))
 refine xBindO hS (fun g own sl t4 => ∃ (d1 : OA) (l1 : Nat) (f2 : OB), own = [some ⟨b3, 114, [vi j.base, vs w0 j.snapshot j0, vs d1 t4 l1]⟩, some ⟨b2, 114, [vi 0, vS0, vS0]⟩, f2] ∧ sl = [(2, vp b2 0), (3, vp b3 0)] ∧ Buf g.b tySett 95 (.slice d1 (t4).length l1) f2 t4) ?_ ?_
 ·rintro g5 _ _ t4 e6 ⟨d1, l1, f2, rfl, rfl, a2⟩ hS
  have l4 := a2.len
  refine xW (xSq (xRg (xbo 2 [(0, 0), (1, 1)] [some ⟨b3, 114, [vi j.base, vs w0 j.snapshot j0, vs d1 t4 l1]⟩, some ⟨b2, 114, [vi j.base, vs w0 j.snapshot j0, vs d1 t4 l1]⟩, f2] [2] (xRe (xW ?_)))))
  refine wpq_freeze 2 (by kernel_rfl) a2 (fun g7 e8 f9 => ?_)
  have i0 := i0.mono (e6.trans e8).b
  obtain rfl := Option.some.inj hS
  exact xRetC [] [(2, 1)] (e6.trans e8) ⟨w0, j0, d1, l1, by kernel_rfl, by kernel_rfl, i0, f9⟩ (fun _ _ h => h)
 ·intro uu4 hS hN4
  refine xBl 0 (xSel [some 0, some 1, none] (xc [2, 3, 12, 13, 14] (xLo hS (fun g own sl s12 => ∃ (w1 : OA) (f0 : Nat) (i1 : OB), own = [some ⟨b3, 114, [vi j.base, vs w0 j.snapshot j0, vs w1 s12.2 f0]⟩, some ⟨b2, 114, [vi 0, vS0, vS0]⟩, i1] ∧ sl = [(2, vp b2 0), (3, vp b3 0), (12, vs l0 j.sets v0), (13, vi (((j.sets).length : Nat) : Int)), (14, vi (s12.1 : Int))] ∧ Buf g.b tySett 95 (.slice w1 (s12.2).length f0) i1 s12.2) ⟨none, 0, none, by kernel_rfl, by kernel_rfl, Buf.nil⟩ ?_)))
  rintro g13 _ _ s12 d5 e14 ⟨w1, f0, i1, rfl, rfl, j1⟩ hS w5 j3 i4
  have v4 := j1.len
  unfold o39_L0 at hS
  refine xSq (xRg (xb 1 [] [2, 3, 12, 13, 14, 15] (xRe (xW (xSq ?_)))))
  refine xCd (decide ((s12.1 : Int) < (((j.sets).length : Nat) : Int))) (fun h15 => ?_) (fun h15 => ?_)
  ·have hS := cond_T h15 hS
   have d4 := of_decide_eq_true h15
   refine xSk (xW (xc [2, 3, 12, 13, 14] (xSq (xBl 1 (xSq (xRg ?_))))))
   have z1 := z1.mono e14.b
   have i17 : s12.1 < (j.sets).length := by omega
   obtain ⟨a3, t5, d3, v3, f3⟩ := z1.at_ (get_getD (d := default) i17)
   obtain ⟨v1, t1, rfl, v2⟩ := v3
   have l3 := v2.len
   refine xV (qIx s12.1 4 d3 rfl i17) (xV (qLdP (Addr.add a3 (s12.1 * 4)) 0 (f3.mono g13.br)) (xE eB ?_))
   rintro _ _ _ - ⟨b18, rfl, rfl, rfl⟩
   refine xbo 1 [(3, 0)] [some ⟨b18, 92, (cSett (List.getD j.sets s12.1 default) v1 t1)⟩, some ⟨b3, 114, [vi j.base, vs w0 j.snapshot j0, vs w1 s12.2 f0]⟩, some ⟨b2, 114, [vi 0, vS0, vS0]⟩, i1] [2, 3, 5, 12, 13, 14] (xRe (xW ?_))
   refine xDr 0 [1, 2] [7, 6] [some ⟨b18, 92, (cSett (List.getD j.sets s12.1 default) v1 t1)⟩, some ⟨b3, 114, [vi j.base, vs w0 j.snapshot j0, vs w1 s12.2 f0]⟩, some ⟨b2, 114, [vi 0, vS0, vS0]⟩] 8 (fun RG => ?_) (fun _ _ _ _ _ h => h)
   refine xt 5 [0, 1, 2] [(1, 1), (2, 0)] (sm [0, 1, 2]) [2, 3, 12, 13, 14, 19, 20] RG pR ?_
   obtain ⟨y19, j4, hS⟩ := letJ_T hS
   refine xO1 (lds := [1, 2]) 3 (xIe (lds := [1, 2]) pR (eC 0 (fun g' lr eb ln => c29 g' (List.getD j.sets s12.1 default) v1 t1 (by rw [eb]; exact v2) j4)) ?_)
   rintro _ g20 _ e21 ⟨_, rfl, w2, f1, rfl, rfl, d2⟩
   refine kk (sm [0, 1, 2]) ?_
   have z3 := d2.len
   refine xO1 (lds := [1, 2]) 4 (xIe (lds := [1, 2]) e21.r (eBs (T := tySett) (p := g20.b) (et := 95) (xs := ([y19] : List Sett)) (reps_cons (c := [vi y19.steps, vi y19.cycle, vb y19.fresh, vs w2 y19.in_ f1]) (show tySett.rep _ _ y19 from ⟨w2, f1, rfl, d2⟩) reps_nil) (by simp)) ?_)
   rintro _ _ _ - ⟨A22, c22, k22, rfl, rfl, rfl, h22⟩
   refine kk (sm [1, 2, 3]) ?_
   have j1 := j1.mono e21.b
   obtain ⟨j5, z4, w4⟩ := h22.srcO (g := g20)
   obtain ⟨q24, hS⟩ := grd_T hS
   have a4 := of_decide_eq_true q24
   refine xO1 (lds := [1, 2]) 5 (xIe (lds := [1, 2]) e21.r (eApp (T := tySett) (p := g20.b) (et := 95) (bytes := 48) (xs := s12.2) (ys := (([y19] : List Sett) : List Sett)) 4 j1 rfl (fun w hs => w4 0 w _ hs (by kernel_rfl)) z4 (by first | omega | (simp only [List.length_cons, List.length_nil] at *; omega)) (by first | omega | (simp only [List.length_cons, List.length_nil] at *; omega))) ?_)
   rintro _ _ _ - ⟨A23, c23, k23, rfl, rfl, rfl, h23⟩
   refine kk (sm [1, 2, 3]) ?_
   have i5 := h23.len
   have z5 : ((s12.2 ++ ([y19] : List Sett)) : List Sett).length = (s12.2).length + (([y19] : List Sett)).length := List.length_append
   refine xt 1 [6] [] (sm [1, 2, 3]) [2, 3, 12, 13, 14, 23, 24] RG e21.r (xO1 (lds := [1, 2]) 7 (xId (lds := [1, 2]) e21.r (eStL b3 2 2) ?_))
   rintro _ _ _ - ⟨rfl, rfl⟩
   refine kf (xAe (lds := [1, 2]) (wpq_blockN (xW (xc [2, 3, 12, 13, 14] (xRg ?_)))))
   obtain ⟨q25, hS⟩ := grd_T hS
   have f4 := of_decide_eq_true q25
   refine xV (qAdd .i64 ((s12.1 : Int)) (1) (wr64 (by omega))) (xb 1 [] [2, 3, 12, 13, 14] (xRe (wpq_thenN (xSel (sm [2, 3, 4]) (xc [2, 3, 12, 13, 14] ?_)))))
   have eS := (Option.some.inj hS).symm
   exact j3 _ eS _ _ _ e21 ⟨A23, c23, k23, by kernel_rfl, by kernel_rfl, h23⟩
  ·have hS := cond_F h15 hS
   have d4 := of_decide_eq_false h15
   refine xEx 0 (wpq_thenX (wpq_thenX (wpq_blockE (xc [2, 3] ?_))))
   have eS := (Option.some.inj hS).symm
   have eS := (i4 _ eS).symm
   exact hN4 _ eS _ _ _ e14 ⟨w1, f0, i1, by kernel_rfl, by kernel_rfl, j1⟩

def o38_L0 (a : Job) (b : Job) (s11 : Nat) : Option (Ctl (Nat) (Ctl (Unit) (Bool))) :=
 (cond (decide (((s11 : Nat) : Int) < (((a.sets).length : Nat) : Int))) (grd (decide (s11 < (b.sets).length)) (letJ (o28 (List.getD a.sets s11 default) (List.getD b.sets s11 default)) fun y19 => (cond ((!y19)) (some (Ctl.done (Ctl.done ((false))))) (grd (decide (((s11 : Nat) : Int) + 1 ≤ 9223372036854775807)) (some (Ctl.go (s11 + 1))))))) (some (Ctl.done (Ctl.go ()))))
def o38 (a : Job) (b : Job) : Option (Bool) :=
 (cond ((((a.base != b.base) || (!(a.snapshot == b.snapshot))) || ((((a.sets).length : Nat) : Int) != (((b.sets).length : Nat) : Int)))) (some ((false))) (joinO (τ := Unit) (ρ := Bool) (loopO (σ := Nat) (ρ := Ctl (Unit) (Bool)) fuelN (o38_L0 a b) (0)) fun t6 => (some ((true)))))
theorem c38 (g : Gh) (a : Job) (i0 : OA) (p0 : Nat) (z1 : OA) (v0 : Nat) (b : Job) (w0 : OA) (j0 : Nat) (d0 : OA) (f0 : Nat) (i1 : Arr g.r tyU8 i0 p0 a.snapshot) (l0 : Arr g.r tySett z1 v0 a.sets) (j1 : Arr g.r tyU8 w0 j0 b.snapshot) (w1 : Arr g.r tySett d0 f0 b.sets) {r : Bool} (hS : o38 a b = some r) :
  Ctr Tryz.prog 38 [Value.agg #[vi a.base, vs i0 a.snapshot p0, vs z1 a.sets v0], Value.agg #[vi b.base, vs w0 b.snapshot j0, vs d0 b.sets f0]] g [] (fun v ψ o => v = vb r ∧ o = []) := by
 unfold o38 at hS
 refine xFn Tryz.f38 (Tryz.f38.body.getD .skip) 48 ?_
 have v2 := i1.len
 have t3 := l0.len
 have f2 := j1.len
 have t4 := w1.len
 refine xSq (xRg (xE eB ?_))
 rintro _ _ _ - ⟨b1, rfl, rfl, rfl⟩
 refine xE eB ?_
 rintro _ _ _ - ⟨b2, rfl, rfl, rfl⟩
 refine xb 1 [] [2, 3] (xRe (xW (xSq (xSq (xRg (xb 6 [(1, 1), (3, 0)] [2, 3, 11] ?_))))))
 refine wpr_grp 14 [(2, vp b1 0), (3, vp b2 0), (19, vb ((a.base != b.base) || (!(a.snapshot == b.snapshot))))] (fun hk5 => ?_) ?_
 ·refine wpq_split 11 (b := (a.base != b.base)) (by kernel_rfl) (fun q3 => ?_) (fun q3 => ?_)
  ·have q3p : ¬ (a.base = b.base) := ne_of_bne_ q3
   refine xb 8 [] [2, 3, 19] (wpq_re 19 (v := vb true) (Value.bool (((a.base != b.base) || (!(a.snapshot == b.snapshot))))) (by kernel_rfl) (re_or1 q3) ?_)
   exact wpq_sub _ (by kernel_rfl) hk5
  ·have q3p : a.base = b.base := eq_of_bne_false_ q3
   refine xb 2 [(7, 1)] [2, 3, 11, 13] (xV (qStr i1) (xb 2 [(10, 0)] [2, 3, 11, 14, 16] (xV (qStr j1) (xV (qNeS (a.snapshot) (b.snapshot)) (xb 1 [] [2, 3, 19] (wpq_re 19 (v := vb (!(a.snapshot == b.snapshot))) (Value.bool (((a.base != b.base) || (!(a.snapshot == b.snapshot))))) (by kernel_rfl) (re_or0 q3) ?_))))))
   exact wpq_sub _ (by kernel_rfl) hk5
 ·refine xb 1 [] [2, 3, 20] ?_
  refine wpr_grp 23 [(2, vp b1 0), (3, vp b2 0), (28, vb (((a.base != b.base) || (!(a.snapshot == b.snapshot))) || ((((a.sets).length : Nat) : Int) != (((b.sets).length : Nat) : Int))))] (fun d2 => ?_) ?_
  ·refine wpq_split 20 (b := ((a.base != b.base) || (!(a.snapshot == b.snapshot)))) (by kernel_rfl) (fun q4 => ?_) (fun q4 => ?_)
   ·refine xb 8 [] [2, 3, 28] ?_
    refine wpq_re 28 (v := vb true) (Value.bool ((((a.base != b.base) || (!(a.snapshot == b.snapshot))) || ((((a.sets).length : Nat) : Int) != (((b.sets).length : Nat) : Int))))) (by kernel_rfl) (re_or1 q4) ?_
    exact wpq_sub _ (by kernel_rfl) d2
   ·have q4l := (or_false_ q4).1
    have q4r := (or_false_ q4).2
    have a5 : a.base = b.base := eq_of_bne_false_ q4l
    have l3 := not_eq_false_ q4r
    have z5 : a.snapshot = b.snapshot := eq_of_beq l3
    refine xb 8 [(16, 1), (19, 0)] [2, 3, 28] (wpq_re 28 (v := vb ((((a.sets).length : Nat) : Int) != (((b.sets).length : Nat) : Int))) (Value.bool ((((a.base != b.base) || (!(a.snapshot == b.snapshot))) || ((((a.sets).length : Nat) : Int) != (((b.sets).length : Nat) : Int))))) (by kernel_rfl) (re_or0 q4) ?_)
    exact wpq_sub _ (by kernel_rfl) d2
  ·refine xRe ?_
   refine xW ?_
   refine xCd ((((a.base != b.base) || (!(a.snapshot == b.snapshot))) || ((((a.sets).length : Nat) : Int) != (((b.sets).length : Nat) : Int)))) (fun h5 => ?_) (fun h5 => ?_)
   ·have hS := cond_T h5 hS
    refine xSq (xRg (xb 1 [] [4] (xRe (xW ?_))))
    obtain rfl := Option.some.inj hS
    exact xRet [] [4] gR ⟨by kernel_rfl, by kernel_rfl⟩ (fun _ _ h => h)
   ·have hS := cond_F h5 hS
    have h5l := (or_false_ h5).1
    have h5r := (or_false_ h5).2
    have a4 := (or_false_ h5l).1
    have i4 := (or_false_ h5l).2
    have j5 : a.base = b.base := eq_of_bne_false_ a4
    have a2 := not_eq_false_ i4
    have w5 : a.snapshot = b.snapshot := eq_of_beq a2
    have t5 : (((a.sets).length : Nat) : Int) = (((b.sets).length : Nat) : Int) := eq_of_bne_false_ h5r
    refine xSk (xW (xc [2, 3] (xSq (xSq (xRg (xb 4 [(1, 1)] [2, 3, 31, 32] (xRe (xW ?_))))))))
    refine xJoinO hS (fun g own sl t6 => own = [] ∧ sl = []) ?_ ?_
    ·rintro g7 _ _ t6 e8 ⟨rfl, rfl⟩ hS
     refine xW (xSq (xRg (xb 1 [] [4] (xRe (xW ?_)))))
     obtain rfl := Option.some.inj hS
     exact xRet [] [4] e8 ⟨by kernel_rfl, by kernel_rfl⟩ (fun _ _ h => h)
    ·intro uu6 hS hN6 hD6
     refine xBl 0 (xc [2, 3, 31, 32] (xLo hS (fun g own sl s11 => own = [some ⟨b2, 114, [vi b.base, vs w0 b.snapshot j0, vs d0 b.sets f0]⟩, some ⟨b1, 114, [vi a.base, vs i0 a.snapshot p0, vs z1 a.sets v0]⟩] ∧ sl = [(2, vp b1 0), (3, vp b2 0), (31, vi (((a.sets).length : Nat) : Int)), (32, vi (s11 : Int))]) ⟨by kernel_rfl, by kernel_rfl⟩ ?_))
     rintro g12 _ _ s11 l5 e13 ⟨rfl, rfl⟩ hS v5 z4 j2
     unfold o38_L0 at hS
     refine xSq (xRg (xb 1 [] [2, 3, 31, 32, 33] (xRe (xW (xSq ?_)))))
     refine xCd (decide ((s11 : Int) < (((a.sets).length : Nat) : Int))) (fun h14 => ?_) (fun h14 => ?_)
     ·have hS := cond_T h14 hS
      have j4 := of_decide_eq_true h14
      refine xSk (xW (xc [2, 3, 31, 32] (xSq (xBl 1 (xSq (xRg (xb 2 [] [2, 3, 5, 31, 32] (xRe (xW (xSq ?_))))))))))
      refine xDr 0 [1, 4, 6, 9] [] [some ⟨b2, 114, [vi b.base, vs w0 b.snapshot j0, vs d0 b.sets f0]⟩, some ⟨b1, 114, [vi a.base, vs i0 a.snapshot p0, vs z1 a.sets v0]⟩] 12 (fun RG => ?_) (fun _ _ _ _ _ h => h)
      have l0 := l0.mono e13.r
      have i16 : s11 < (a.sets).length := by omega
      obtain ⟨f3, i5, d3, z3, d4⟩ := l0.at_ (get_getD (d := default) i16)
      obtain ⟨l1, w2, rfl, t1⟩ := z3
      have l4 := t1.len
      refine xt 9 [0, 1, 2] [(1, 1)] [some 0, some 1] [2, 3, 5, 31, 32, 36, 37] RG pR (xTp 3 RG (fun _ => (qIx s11 4 d3 rfl i16)) (xTv 4 [some 0, some 1] RG pR (qLdP (Addr.add f3 (s11 * 4)) 0 d4) ?_))
      have w1 := w1.mono e13.r
      obtain ⟨q18, hS⟩ := grd_T hS
      have z2 := of_decide_eq_true q18
      obtain ⟨v3, d5, a3, j3, v4⟩ := w1.at_ (get_getD (d := default) z2)
      obtain ⟨v1, f1, rfl, d1⟩ := j3
      have w3 := d1.len
      refine xt 4 [5, 6, 7] [(6, 0)] [some 0, some 1] [2, 3, 31, 32, 39, 41, 42] RG pR (xTp 8 RG (fun _ => (qIx s11 4 a3 rfl z2)) (xTv 9 [some 0, some 1] RG pR (qLdP (Addr.add v3 (s11 * 4)) 0 v4) ?_))
      obtain ⟨y19, w4, hS⟩ := letJ_T hS
      refine xO1 (lds := [1, 4, 6, 9]) 10 (xIe (lds := [1, 4, 6, 9]) pR (eC 0 (fun g' lr eb ln => c28 g' (List.getD a.sets s11 default) l1 w2 (List.getD b.sets s11 default) v1 f1 (t1.mono lr) (d1.mono lr) w4)) ?_)
      rintro _ g20 _ e21 ⟨_, rfl, rfl, rfl⟩
      refine kk [some 0, some 1] (xt 0 [11] [] [some 0, some 1] [2, 3, 31, 32, 46] RG e21.r (xAe (lds := [1, 4, 6, 9]) (xW ?_)))
      refine xCd ((!y19)) (fun h22 => ?_) (fun h22 => ?_)
      ·have hS := cond_T h22 hS
       have f4 := not_eq_true_ h22
       refine xSq (xRg (xb 1 [] [4] (xRe (xW ?_))))
       have eS := (Option.some.inj hS).symm
       have eS := (j2 _ eS).symm
       have eS := (hD6 _ eS).symm
       subst eS
       exact xRet [] [4] (e13.trans e21) ⟨by kernel_rfl, by kernel_rfl⟩ (fun _ _ h => h)
      ·have hS := cond_F h22 hS
       have f4 := not_eq_false_ h22
       refine xSk (wpq_blockN (xW (xc [2, 3, 31, 32] (xRg ?_))))
       obtain ⟨q23, hS⟩ := grd_T hS
       have f5 := of_decide_eq_true q23
       refine xV (qAdd .i64 ((s11 : Int)) (1) (wr64 (by omega))) (xb 1 [] [2, 3, 31, 32] (xRe (wpq_thenN (xc [2, 3, 31, 32] ?_))))
       have eS := (Option.some.inj hS).symm
       exact z4 _ eS _ _ _ e21 ⟨by kernel_rfl, by kernel_rfl⟩
     ·have hS := cond_F h14 hS
      have j4 := of_decide_eq_false h14
      refine xEx 0 (wpq_thenX (wpq_thenX (wpq_blockE (xSel [] (xc [] ?_)))))
      have eS := (Option.some.inj hS).symm
      have eS := (j2 _ eS).symm
      exact hN6 _ eS _ _ _ e13 ⟨by kernel_rfl, by kernel_rfl⟩

def o79 (n : Node) : Node :=
 (letJ (o88 n) fun y1 => (({ y1 with next_ := 0 })))
theorem c79 (g : Gh) (b_n : Nat) (n : Node) (v1 : OA) (t1 : Nat) (w0 : OA) (j0 : Nat) (f0 : OA) (l0 : Nat) (a2 : Arr g.b tyU8 v1 t1 n.input) (j2 : Arr g.b tyU8 w0 j0 n.heard.input) (v2 : Arr g.b tyU8 f0 l0 n.set_.in_) {r : Node} (hS : o79 n = r) :
  Ctr Tryz.prog 79 [vp b_n 0] g [some ⟨b_n, 126, (cNode n v1 t1 w0 j0 f0 l0)⟩] (fun v ψ o => ∃ (w2 : OA) (z2 : Nat) (i0 : OA) (v0 : Nat) (j1 : OA) (z1 : Nat), v = Value.tuple #[] ∧ o = [some ⟨b_n, 126, (cNode r w2 z2 i0 v0 j1 z1)⟩] ∧ Arr ψ tyU8 w2 z2 r.input ∧ Arr ψ tyU8 i0 v0 r.heard.input ∧ Arr ψ tyU8 j1 z1 r.set_.in_) := by
 unfold o79 at hS
 refine xFn Tryz.f79 (Tryz.f79.body.getD .skip) 9 (xSq (xRg (xb 2 [] [0, 3] (xRe (xW (xCt (xSq (xRg (xb 1 [] [0, 4] ?_)))))))))
 obtain ⟨y1, hy1, hS⟩ := letJ_T hS
 refine xE (eC 1 (fun g' lr eb ln => c88 g' b_n n v1 t1 w0 j0 f0 l0 (by rw [eb]; exact a2) (by rw [eb]; exact j2) (by rw [eb]; exact v2) hy1)) ?_
 rintro _ g2 _ e3 ⟨_, rfl, f1, l1, d0, p0, i1, w1, rfl, rfl, f2, d1, d2⟩
 refine xRe (xW (xc [0] (xRg (xbo 4 [(3, 0)] [some ⟨b_n, 126, (cNode ({ y1 with next_ := 0 }) f1 l1 d0 p0 i1 w1)⟩] [] (xRe ?_)))))
 have eS := hS.symm
 subst eS
 exact xFin [some 0] [] e3 ⟨f1, l1, d0, p0, i1, w1, by kernel_rfl, by kernel_rfl, f2, d1, d2⟩

def o40 (c : Comp) : Comp :=
 (letJ (o79 c.node) fun y1 => (letJ (o52 (⟨c.number, y1, c.sender, c.collector, (0 : Int), c.cycle, (c.asked), c.want⟩ : Comp)) fun y4 => ((⟨y4.number, y4.node, y4.sender, y4.collector, y4.next_, y4.cycle, (y4.asked), y4.want⟩ : Comp))))
theorem c40 (g : Gh) (b_c : Nat) (c : Comp) (z2 : Nat) (l3 : OA) (f3 : Nat) (j1 : OA) (z1 : Nat) (f1 : OA) (l1 : Nat) (i1 : Nat) (w1 : OA) (f0 : Nat) (w0 : Nat) (j0 : OA) (i0 : Nat) (p0 : OB) (l0 : OA) (v0 : Nat) (d0 : OB) (a6 : Arr g.b tyU8 l3 f3 c.node.input) (t5 : Arr g.b tyU8 j1 z1 c.node.heard.input) (i6 : Arr g.b tyU8 f1 l1 c.node.set_.in_) (v1 : Arr g.b tyPiece w1 f0 c.sender.pieces) (d1 : Buf g.b (tyArr tyU8) 28 (.slice j0 (c.collector.parts).length i0) p0 c.collector.parts) (t1 : Buf g.b tySett 92 (.slice l0 (c.collector.sets).length v0) d0 c.collector.sets) {r : Comp} (hS : o40 c = r) :
  Ctr Tryz.prog 40 [vp b_c 0] g [some ⟨b_c, 77, [vi c.number, vp z2 0, vp i1 0, vp w0 0, vi c.next_, vi c.cycle, vb c.asked, vi c.want.base, vi c.want.have_]⟩, some ⟨z2, 126, (cNode c.node l3 f3 j1 z1 f1 l1)⟩, some ⟨i1, 130, [vs w1 c.sender.pieces f0]⟩, some ⟨w0, 132, (cColl c.collector j0 i0 l0 v0)⟩, p0, d0] (fun v ψ o => ∃ (z4 : OA) (j4 : Nat) (j2 : OA) (w2 : Nat) (j3 : OA) (t3 : Nat) (v3 : OA) (d3 : Nat) (v2 : OA) (f2 : Nat) (d2 : OB) (w3 : OA) (z3 : Nat) (a2 : OB), v = Value.tuple #[] ∧ o = [some ⟨b_c, 77, [vi r.number, vp z2 0, vp i1 0, vp w0 0, vi r.next_, vi r.cycle, vb r.asked, vi r.want.base, vi r.want.have_]⟩, some ⟨z2, 126, (cNode r.node z4 j4 j2 w2 j3 t3)⟩, some ⟨i1, 130, [vs v3 r.sender.pieces d3]⟩, some ⟨w0, 132, (cColl r.collector v2 f2 w3 z3)⟩, d2, a2] ∧ Arr ψ tyU8 z4 j4 r.node.input ∧ Arr ψ tyU8 j2 w2 r.node.heard.input ∧ Arr ψ tyU8 j3 t3 r.node.set_.in_ ∧ Arr ψ tyPiece v3 d3 r.sender.pieces ∧ Buf ψ (tyArr tyU8) 28 (.slice v2 (r.collector.parts).length f2) d2 r.collector.parts ∧ Buf ψ tySett 92 (.slice w3 (r.collector.sets).length z3) a2 r.collector.sets) := by
 unfold o40 at hS
 refine xFn Tryz.f40 (Tryz.f40.body.getD .skip) 14 (xSq (xRg (xb 2 [] [0, 3] (xRe (xW (xCt (xSq (xRg (xb 4 [(3, 0)] [0, 7] (xSel (sm [1, 0, 2, 3, 4, 5]) ?_))))))))))
 obtain ⟨y1, hy1, hS⟩ := letJ_T hS
 refine xE (eC 1 (fun g' lr eb ln => c79 g' z2 c.node l3 f3 j1 z1 f1 l1 (by rw [eb]; exact a6) (by rw [eb]; exact t5) (by rw [eb]; exact i6) hy1)) ?_
 rintro _ g2 _ e3 ⟨_, rfl, l6, t6, w4, a3, z5, w5, rfl, rfl, z7, p6, w7⟩
 refine xRe (xW (xc [0] (xSq (xRg (xbo 4 [(3, 1)] [some ⟨z2, 126, (cNode y1 l6 t6 w4 a3 z5 w5)⟩, some ⟨b_c, 77, [vi c.number, vp z2 0, vp i1 0, vp w0 0, vi 0, vi c.cycle, vb c.asked, vi c.want.base, vi c.want.have_]⟩, some ⟨i1, 130, [vs w1 c.sender.pieces f0]⟩, some ⟨w0, 132, (cColl c.collector j0 i0 l0 v0)⟩, p0, d0] [0] (xRe (xW (xRg (xb 1 [] [12] (xSel (sm [1, 0, 2, 3, 4, 5]) ?_))))))))))
 have v1 := v1.mono e3.b
 have d1 := d1.mono e3.b
 have t1 := t1.mono e3.b
 obtain ⟨y4, hy4, hS⟩ := letJ_T hS
 refine xE (eC 6 (fun g' lr eb ln => c52 g' b_c (⟨c.number, y1, c.sender, c.collector, (0 : Int), c.cycle, (c.asked), c.want⟩ : Comp) z2 l6 t6 w4 a3 z5 w5 i1 w1 f0 w0 j0 i0 p0 l0 v0 d0 (by rw [eb]; exact z7) (by rw [eb]; exact p6) (by rw [eb]; exact w7) (by rw [eb]; exact v1) (by rw [eb]; exact d1) (by rw [eb]; exact t1) hy4)) ?_
 rintro _ g5 _ e6 ⟨_, rfl, f6, d6, d4, i4, l5, j6, a5, f5, l4, f4, a4, j5, v5, d5, rfl, rfl, v6, t4, z6, w6, v4, i5⟩
 refine xRe ?_
 have eS := hS.symm
 subst eS
 exact xFin (sm [0, 1, 2, 3, 4, 5]) [] (e3.trans e6) ⟨f6, d6, d4, i4, l5, j6, a5, f5, l4, f4, a4, j5, v5, d5, by kernel_rfl, by kernel_rfl, v6, t4, z6, w6, v4, i5⟩

def o80 (n : RNode) : RNode :=
 (({ n with role := 1, steps := 0, stage := 0 }))
theorem c80 (g : Gh) (n : RNode) (p0 : OA) (i0 : Nat) (w0 : OA) (j0 : Nat) (z1 : Arr g.b tyU8 p0 i0 n.input) (w1 : Arr g.b tyU8 w0 j0 n.heard.input) {r : RNode} (hS : o80 n = r) :
  Ctr Tryz.prog 80 [(aRNode n p0 i0 w0 j0)] g [] (fun v ψ o => ∃ (l0 : OA) (f0 : Nat) (d0 : OA) (v0 : Nat), v = (aRNode r l0 f0 d0 v0) ∧ o = [] ∧ Arr ψ tyU8 l0 f0 r.input ∧ Arr ψ tyU8 d0 v0 r.heard.input) := by
 unfold o80 at hS
 refine xFn Tryz.f80 (Tryz.f80.body.getD .skip) 7 (xSq (xRg (xE eB ?_)))
 rintro _ _ _ - ⟨b1, rfl, rfl, rfl⟩
 refine xE eB ?_
 rintro _ _ _ - ⟨b2, rfl, rfl, rfl⟩
 refine xRe (xW (xc [1, 2] (xSq (xRg (xbo 6 [(1, 1), (3, 1), (5, 1)] [some ⟨b2, 36, (cRNode (⟨0, 0, 0, 0, 0, 0, ([] : List UInt8), false, false, (⟨0, 0, (⟨0, 0⟩ : Want), ([] : List UInt8)⟩ : Heard), false, Z0⟩ : RNode) none 0 none 0)⟩, some ⟨b1, 36, (cRNode ({ n with role := 1, steps := 0, stage := 0 }) p0 i0 w0 j0)⟩] [1, 2] (xRe (xW (xSq (xRg (xbo 2 [(0, 1), (1, 0)] [some ⟨b2, 36, (cRNode ({ n with role := 1, steps := 0, stage := 0 }) p0 i0 w0 j0)⟩, some ⟨b1, 36, (cRNode ({ n with role := 1, steps := 0, stage := 0 }) p0 i0 w0 j0)⟩] [2] (xRe (xW ?_))))))))))))
 have eS := hS.symm
 subst eS
 exact xRetC [] [(2, 0)] gR ⟨p0, i0, w0, j0, by kernel_rfl, by kernel_rfl, z1, w1⟩ (fun _ _ h => h)

def o41 (c : RComp) : RComp :=
 (letJ (o80 c.node) fun y3 => ((⟨y3, (⟨([] : List Piece)⟩ : Sender), (⟨0, 0, ([] : List (List UInt8)), ([] : List Sett)⟩ : Coll), false, 0⟩ : RComp)))
theorem c41 (g : Gh) (c : RComp) (v1 : OA) (l1 : Nat) (p0 : OA) (i0 : Nat) (v2 : OA) (d2 : Nat) (t1 : OA) (d1 : Nat) (f1 : OA) (w2 : Nat) (j3 : Arr g.b tyU8 v1 l1 c.node.input) (w3 : Arr g.b tyU8 p0 i0 c.node.heard.input) (l3 : Arr g.b tyPiece v2 d2 c.sender.pieces) (t3 : Arr g.b (tyArr tyU8) t1 d1 c.collector.parts) (v3 : Arr g.b tySett f1 w2 c.collector.sets) {r : RComp} (hS : o41 c = r) :
  Ctr Tryz.prog 41 [(aRComp c v1 l1 p0 i0 v2 d2 t1 d1 f1 w2)] g [] (fun v ψ o => ∃ (f2 : OA) (a2 : Nat) (v0 : OA) (d0 : Nat) (j1 : OA) (i1 : Nat) (l0 : OA) (f0 : Nat) (z1 : OA) (w1 : Nat), v = (aRComp r f2 a2 v0 d0 j1 i1 l0 f0 z1 w1) ∧ o = [] ∧ Arr ψ tyU8 f2 a2 r.node.input ∧ Arr ψ tyU8 v0 d0 r.node.heard.input ∧ Arr ψ tyPiece j1 i1 r.sender.pieces ∧ Arr ψ (tyArr tyU8) l0 f0 r.collector.parts ∧ Arr ψ tySett z1 w1 r.collector.sets) := by
 unfold o41 at hS
 refine xFn Tryz.f41 (Tryz.f41.body.getD .skip) 14 (xSq (xRg (xE eB ?_)))
 rintro _ _ _ - ⟨b1, rfl, rfl, rfl⟩
 refine xE eB ?_
 rintro _ _ _ - ⟨b2, rfl, rfl, rfl⟩
 refine xRe (xW (xc [1, 2] (xSq (xRg (xb 2 [(1, 1)] [1, 2, 4] ?_)))))
 obtain ⟨y3, hy3, hS⟩ := letJ_T hS
 refine xE (eC 0 (fun g' lr eb ln => c80 g' c.node v1 l1 p0 i0 (by rw [eb]; exact j3) (by rw [eb]; exact w3) hy3)) ?_
 rintro _ g4 _ e5 ⟨_, rfl, z2, j2, w0, j0, rfl, rfl, d3, z3⟩
 refine xbo 12 [(6, 1), (8, 1), (10, 1), (12, 1), (14, 1)] [some ⟨b2, 45, (cRComp (⟨(⟨0, 0, 0, 0, 0, 0, ([] : List UInt8), false, false, (⟨0, 0, (⟨0, 0⟩ : Want), ([] : List UInt8)⟩ : Heard), false, Z0⟩ : RNode), Z3, Z4, false, 0⟩ : RComp) none 0 none 0 none 0 none 0 none 0)⟩, some ⟨b1, 45, (cRComp (⟨y3, Z3, Z4, false, 0⟩ : RComp) z2 j2 w0 j0 none 0 none 0 none 0)⟩] [1, 2] (xRe (xW (xSq (xRg (xbo 2 [(0, 1), (1, 0)] [some ⟨b2, 45, (cRComp (⟨y3, Z3, Z4, false, 0⟩ : RComp) z2 j2 w0 j0 none 0 none 0 none 0)⟩, some ⟨b1, 45, (cRComp (⟨y3, Z3, Z4, false, 0⟩ : RComp) z2 j2 w0 j0 none 0 none 0 none 0)⟩] [2] (xRe (xW ?_)))))))
 have eS := hS.symm
 subst eS
 exact xRetC [] [(2, 0)] e5 ⟨z2, j2, w0, j0, none, 0, none, 0, none, 0, by kernel_rfl, by kernel_rfl, d3, z3, Arr.nil, Arr.nil, Arr.nil⟩ (fun _ _ h => h)

end Go.Proofs.YtnidomdebhekiaaGreat
