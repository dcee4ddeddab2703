/-
Walks, printed by wip/gen, with half of their indentation. Conditions: each theorem's own.
-/
import Derived.Test.YtnidomdebhekiaaGreatC5
namespace Go.Proofs.YtnidomdebhekiaaGreat
set_option linter.unusedVariables false
set_option linter.unusedSimpArgs false
open Go.RowKit
set_option maxRecDepth 100000
def o62 (c : Coll) (x : Sett) (came : Bool) : Option (Coll) :=
 (cond (((((c.parts).length : Nat) : Int) == 0)) (some (c)) (cond (((((!came) || (x.steps != (IntKind.i64.wrap (c.base + (((c.sets).length : Nat) : Int))))) || x.fresh) || decide ((((c.sets).length : Nat) : Int) ≥ (((c.parts).length : Nat) : Int)))) (some ((⟨0, 0, ([] : List (List UInt8)), ([] : List Sett)⟩ : Coll))) (grd (decide ((0 + (c.sets).length) * 48 ≤ 140737488355328)) (grd (decide (((c.sets).length + (([x] : List Sett)).length) * 48 ≤ 140737488355328)) (some (({ c with sets := (c.sets ++ ([x] : List Sett)) })))))))
theorem c62 (g : Gh) (c : Coll) (w0 : OA) (j0 : Nat) (v0 : OA) (d0 : Nat) (x : Sett) (p0 : OA) (i0 : Nat) (came : Bool) (l0 : Arr g.b (tyArr tyU8) w0 j0 c.parts) (f0 : Arr g.b tySett v0 d0 c.sets) (z1 : Arr g.b tyU8 p0 i0 x.in_) {r : Coll} (hS : o62 c x came = some r) :
  Ctr Tryz.prog 62 [(aColl c w0 j0 v0 d0), (aSett x p0 i0), vb came] g [] (fun v ψ o => ∃ (j1 : OA) (w1 : Nat) (i1 : OA) (d1 : Nat), v = (aColl r j1 w1 i1 d1) ∧ o = [] ∧ Arr ψ (tyArr tyU8) j1 w1 r.parts ∧ Arr ψ tySett i1 d1 r.sets) := by
 unfold o62 at hS
 refine xFn Tryz.f62 (Tryz.f62.body.getD .skip) 48 ?_
 have i5 := l0.len
 have v5 := f0.len
 have j7 := z1.len
 refine xSq (xRg (xE eB ?_))
 rintro _ _ _ - ⟨b1, rfl, rfl, rfl⟩
 refine xE eB ?_
 rintro _ _ _ - ⟨b2, rfl, rfl, rfl⟩
 refine xE eB ?_
 rintro _ _ _ - ⟨b3, rfl, rfl, rfl⟩
 refine xRe (xW (xc [2, 3, 4, 6] (xSq (xSq (xRg (xb 4 [(1, 2)] [2, 3, 4, 6, 10] (xRe (xW ?_))))))))
 refine xCd (((((c.parts).length : Nat) : Int) == 0)) (fun h4 => ?_) (fun h4 => ?_)
 ·have hS := cond_T h4 hS
  have h4p : (((c.parts).length : Nat) : Int) = 0 := eq_of_beq h4
  refine xSq (xRg (xbo 2 [(0, 2), (1, 0)] [some ⟨b3, 43, (cColl c w0 j0 v0 d0)⟩, some ⟨b2, 95, (cSett x p0 i0)⟩, some ⟨b1, 43, (cColl c w0 j0 v0 d0)⟩] [6] (xRe (xW ?_))))
  obtain rfl := Option.some.inj hS
  exact xRetC [] [(6, 0)] gR ⟨w0, j0, v0, d0, by kernel_rfl, by kernel_rfl, l0, f0⟩ (fun _ _ h => h)
 ·have hS := cond_F h4 hS
  have h4p : ¬ ((((c.parts).length : Nat) : Int) = 0) := ne_of_beq_false_ h4
  refine xSk (xW (xc [2, 3, 4, 6] (xSq (xSq (xRg (xb 3 [] [3, 4, 6, 14] ?_))))))
  refine wpr_grp 13 [(3, vp b1 0), (4, vp b2 0), (6, vp b3 0), (24, vb ((!came) || (x.steps != (IntKind.i64.wrap (c.base + (((c.sets).length : Nat) : Int))))))] (fun hk2 => ?_) ?_
  ·refine wpq_split 14 (b := (!came)) (by kernel_rfl) (fun q5 => ?_) (fun q5 => ?_)
   ·have q5n := not_eq_true_ q5
    refine xb 10 [] [3, 4, 6, 24] (wpq_re 24 (v := vb true) (Value.bool (((!came) || (x.steps != (IntKind.i64.wrap (c.base + (((c.sets).length : Nat) : Int))))))) (by kernel_rfl) (re_or1 q5) ?_)
    exact wpq_sub _ (by kernel_rfl) hk2
   ·have q5n := not_eq_false_ q5
    have z2 := i64_in_ (c.base + (((c.sets).length : Nat) : Int))
    refine xb 10 [(4, 1), (6, 2), (8, 2)] [3, 4, 6, 24] (wpq_re 24 (v := vb (x.steps != (IntKind.i64.wrap (c.base + (((c.sets).length : Nat) : Int))))) (Value.bool (((!came) || (x.steps != (IntKind.i64.wrap (c.base + (((c.sets).length : Nat) : Int))))))) (by kernel_rfl) (re_or0 q5) ?_)
    exact wpq_sub _ (by kernel_rfl) hk2
  ·refine xb 1 [] [3, 4, 6, 25] ?_
   refine wpr_grp 17 [(3, vp b1 0), (4, vp b2 0), (6, vp b3 0), (28, vb (((!came) || (x.steps != (IntKind.i64.wrap (c.base + (((c.sets).length : Nat) : Int))))) || x.fresh))] (fun t3 => ?_) ?_
   ·refine wpq_split 25 (b := ((!came) || (x.steps != (IntKind.i64.wrap (c.base + (((c.sets).length : Nat) : Int)))))) (by kernel_rfl) (fun q6 => ?_) (fun q6 => ?_)
    ·refine xb 3 [] [3, 4, 6, 28] ?_
     refine wpq_re 28 (v := vb true) (Value.bool ((((!came) || (x.steps != (IntKind.i64.wrap (c.base + (((c.sets).length : Nat) : Int))))) || x.fresh))) (by kernel_rfl) (re_or1 q6) ?_
     exact wpq_sub _ (by kernel_rfl) t3
    ·have q6l := (or_false_ q6).1
     have q6r := (or_false_ q6).2
     have t9 := not_eq_false_ q6l
     have v9 : x.steps = (IntKind.i64.wrap (c.base + (((c.sets).length : Nat) : Int))) := eq_of_bne_false_ q6r
     refine xb 3 [(15, 1)] [3, 4, 6, 28] (wpq_re 28 (v := vb x.fresh) (Value.bool ((((!came) || (x.steps != (IntKind.i64.wrap (c.base + (((c.sets).length : Nat) : Int))))) || x.fresh))) (by kernel_rfl) (re_or0 q6) ?_)
     exact wpq_sub _ (by kernel_rfl) t3
   ·refine xb 1 [] [3, 4, 6, 29] ?_
    refine wpr_grp 26 [(3, vp b1 0), (4, vp b2 0), (6, vp b3 0), (37, vb ((((!came) || (x.steps != (IntKind.i64.wrap (c.base + (((c.sets).length : Nat) : Int))))) || x.fresh) || decide ((((c.sets).length : Nat) : Int) ≥ (((c.parts).length : Nat) : Int))))] (fun j4 => ?_) ?_
    ·refine wpq_split 29 (b := (((!came) || (x.steps != (IntKind.i64.wrap (c.base + (((c.sets).length : Nat) : Int))))) || x.fresh)) (by kernel_rfl) (fun q7 => ?_) (fun q7 => ?_)
     ·refine xb 8 [] [3, 4, 6, 37] ?_
      refine wpq_re 37 (v := vb true) (Value.bool (((((!came) || (x.steps != (IntKind.i64.wrap (c.base + (((c.sets).length : Nat) : Int))))) || x.fresh) || decide ((((c.sets).length : Nat) : Int) ≥ (((c.parts).length : Nat) : Int))))) (by kernel_rfl) (re_or1 q7) ?_
      exact wpq_sub _ (by kernel_rfl) j4
     ·have q7l := (or_false_ q7).1
      have q7r := (or_false_ q7).2
      have t5 := (or_false_ q7l).1
      have v6 := (or_false_ q7l).2
      have j8 := not_eq_false_ t5
      have i8 : x.steps = (IntKind.i64.wrap (c.base + (((c.sets).length : Nat) : Int))) := eq_of_bne_false_ v6
      refine xb 8 [(19, 2), (22, 2)] [3, 4, 6, 37] (wpq_re 37 (v := vb (decide ((((c.sets).length : Nat) : Int) ≥ (((c.parts).length : Nat) : Int)))) (Value.bool (((((!came) || (x.steps != (IntKind.i64.wrap (c.base + (((c.sets).length : Nat) : Int))))) || x.fresh) || decide ((((c.sets).length : Nat) : Int) ≥ (((c.parts).length : Nat) : Int))))) (by kernel_rfl) (re_or0 q7) ?_)
      exact wpq_sub _ (by kernel_rfl) j4
    ·refine xRe ?_
     refine xW ?_
     refine xCd (((((!came) || (x.steps != (IntKind.i64.wrap (c.base + (((c.sets).length : Nat) : Int))))) || x.fresh) || decide ((((c.sets).length : Nat) : Int) ≥ (((c.parts).length : Nat) : Int)))) (fun h8 => ?_) (fun h8 => ?_)
     ·have hS := cond_T h8 hS
      refine xSq (xRg (xbo 2 [(1, 0)] [some ⟨b3, 43, (cColl Z4 none 0 none 0)⟩, some ⟨b2, 95, (cSett x p0 i0)⟩, some ⟨b1, 43, (cColl c w0 j0 v0 d0)⟩] [6] (xRe (xW ?_))))
      obtain rfl := Option.some.inj hS
      exact xRetC [] [(6, 0)] gR ⟨none, 0, none, 0, by kernel_rfl, by kernel_rfl, Arr.nil, Arr.nil⟩ (fun _ _ h => h)
     ·have hS := cond_F h8 hS
      have h8l := (or_false_ h8).1
      have h8r := (or_false_ h8).2
      have d2 := (or_false_ h8l).1
      have d9 := (or_false_ h8l).2
      have i4 := (or_false_ d2).1
      have t4 := (or_false_ d2).2
      have p7 := not_eq_false_ i4
      have i7 : x.steps = (IntKind.i64.wrap (c.base + (((c.sets).length : Nat) : Int))) := eq_of_bne_false_ t4
      have l9 := of_decide_eq_false h8r
      refine xSk (xW (xc [3, 4, 6] (xSq ?_)))
      refine xDr 0 [2, 4] [8, 7] [some ⟨b3, 43, (cColl Z4 none 0 none 0)⟩, some ⟨b2, 95, (cSett x p0 i0)⟩, some ⟨b1, 43, (cColl c w0 j0 v0 d0)⟩] 9 (fun RG => ?_) (fun _ _ _ _ _ h => h)
      refine xt 6 [1, 2, 4] [(2, 2), (4, 1)] (sm [0, 1, 2]) [3, 6, 41, 43] RG pR ?_
      obtain ⟨q12, hS⟩ := grd_T hS
      have t8 := of_decide_eq_true q12
      refine wpa_meet (fun g own sl => ∃ (A11 : OA) (c11 : Nat) (k11 : OB) (A13 : OA) (c13 : Nat) (k13 : OB), own = [k13, k11, some ⟨b3, 43, (cColl Z4 none 0 none 0)⟩, some ⟨b2, 95, (cSett x p0 i0)⟩, some ⟨b1, 43, (cColl c w0 j0 v0 d0)⟩] ∧ sl = [(3, vp b1 0), (6, vp b3 0), (42, vs A11 c.sets c11), (44, vs A13 ([x] : List Sett) c13)] ∧ Buf g.b tySett 95 (.slice A11 (c.sets).length c11) k11 c.sets ∧ Buf g.b tySett 95 (.slice A13 (([x] : List Sett)).length c13) k13 ([x] : List Sett)) 3 [true, true, true, true, true, true, false, false, false] ?_ (fun hD9 => ?_)
      ·rintro v2 _ _ t1 ⟨A11, c11, k11, A13, c13, k13, rfl, rfl, h11, h13⟩
       have j9 := h11.len
       have w9 := h13.len
       obtain ⟨d8, w5, d4⟩ := h13.srcO (g := v2)
       obtain ⟨a6, hS⟩ := grd_T hS
       have d7 := of_decide_eq_true a6
       refine xO1 (lds := [2, 4]) 6 (xIe (lds := [2, 4]) t1.r (eApp (T := tySett) (p := v2.b) (et := 95) (bytes := 48) (xs := c.sets) (ys := (([x] : List Sett) : List Sett)) 1 h11 rfl (fun w hs => d4 0 w _ hs (by kernel_rfl)) w5 (by first | omega | (simp only [List.length_cons, List.length_nil] at *; omega)) (by first | omega | (simp only [List.length_cons, List.length_nil] at *; omega))) ?_)
       rintro _ _ _ - ⟨j2, w2, f6, rfl, rfl, rfl, w4⟩
       refine kk (sm [2, 3, 4]) ?_
       have t7 := w4.len
       have p8 : ((c.sets ++ ([x] : List Sett)) : List Sett).length = (c.sets).length + (([x] : List Sett)).length := List.length_append
       refine xt 1 [7] [] (sm [2, 3, 4]) [3, 6, 45, 46] RG t1.r (xO1 (lds := [2, 4]) 8 (xId (lds := [2, 4]) t1.r (eStL b1 3 4) ?_))
       rintro _ _ _ - ⟨rfl, rfl⟩
       refine kf (xAe (lds := [2, 4]) (xW (xc [3, 6] (xSq (xRg (xbo 2 [(0, 4), (1, 2)] [k13, f6, some ⟨b3, 43, (cColl ({ c with sets := (c.sets ++ ([x] : List Sett)) }) w0 j0 j2 w2)⟩, some ⟨b2, 95, (cSett x p0 i0)⟩, some ⟨b1, 43, (cColl ({ c with sets := (c.sets ++ ([x] : List Sett)) }) w0 j0 j2 w2)⟩] [6] (xRe (xW ?_))))))))
       refine wpq_freeze 1 (by kernel_rfl) w4 (fun l8 z4 z7 => ?_)
       have l0 := l0.mono (t1.trans z4).b
       obtain rfl := Option.some.inj hS
       exact xRetC [] [(6, 2)] (t1.trans z4) ⟨w0, j0, j2, w2, by kernel_rfl, by kernel_rfl, l0, z7⟩ (fun _ _ h => h)
      ·refine xO2 (lds := [2, 4]) 0 5 ?_ ?_
       ·refine xIe (lds := [2, 4]) pR (eBs (T := tySett) (p := g.b) (et := 95) (xs := ([] : List Sett)) reps_nil (by simp)) ?_
        rintro _ _ _ - ⟨v8, f8, z9, rfl, rfl, rfl, z3⟩
        refine kk (sm [1, 2, 3]) ?_
        refine xO2 (lds := [2, 4]) 3 5 ?_ ?_
        ·obtain ⟨a7, z5, a4⟩ := f0.srcB
         refine xIe (lds := [2, 4]) pR (eApp (T := tySett) (p := g.b) (et := 95) (bytes := 48) (xs := ([] : List Sett)) (ys := c.sets) 0 z3 rfl (fun w hs => a4 w _ hs) z5 (by first | omega | (simp only [List.length_cons, List.length_nil] at *; omega)) (by first | omega | (simp only [List.length_cons, List.length_nil] at *; omega))) ?_
         rintro _ _ _ - ⟨f3, w3, l3, rfl, rfl, rfl, l1⟩
         refine kk (sm [1, 2, 3]) ?_
         have l1 : Buf g.b tySett 95 (.slice f3 (c.sets).length w3) l3 c.sets := l1
         have v7 := l1.len
         refine xO1 (lds := [2, 4]) 5 (xIe (lds := [2, 4]) pR (eBs (T := tySett) (p := g.b) (et := 95) (xs := ([x] : List Sett)) (reps_cons (c := [vi x.steps, vi x.cycle, vb x.fresh, vs p0 x.in_ i0]) (show tySett.rep _ _ x from ⟨p0, i0, rfl, z1⟩) reps_nil) (by simp)) ?_)
         rintro _ _ _ - ⟨z6, d6, j6, rfl, rfl, rfl, i6⟩
         refine kk (sm [2, 3, 4]) (xc [3, 6, 42, 44] ?_)
         exact hD9 _ _ _ gR ⟨f3, w3, l3, z6, d6, j6, by kernel_rfl, by kernel_rfl, l1, i6⟩
        ·refine xIe (lds := [2, 4]) pR (eBs (T := tySett) (p := g.b) (et := 95) (xs := ([x] : List Sett)) (reps_cons (c := [vi x.steps, vi x.cycle, vb x.fresh, vs p0 x.in_ i0]) (show tySett.rep _ _ x from ⟨p0, i0, rfl, z1⟩) reps_nil) (by simp)) ?_
         rintro _ _ _ - ⟨d5, w6, l6, rfl, rfl, rfl, w7⟩
         refine kk (sm [2, 3, 4]) ?_
         obtain ⟨z8, j5, f4⟩ := f0.srcB
         refine xO1 (lds := [2, 4]) 3 (xIe (lds := [2, 4]) pR (eApp (T := tySett) (p := g.b) (et := 95) (bytes := 48) (xs := ([] : List Sett)) (ys := c.sets) 1 z3 rfl (fun w hs => f4 w _ hs) j5 (by first | omega | (simp only [List.length_cons, List.length_nil] at *; omega)) (by first | omega | (simp only [List.length_cons, List.length_nil] at *; omega))) ?_)
         rintro _ _ _ - ⟨a2, d3, f2, rfl, rfl, rfl, f1⟩
         refine kk (sm [2, 3, 4]) ?_
         have f1 : Buf g.b tySett 95 (.slice a2 (c.sets).length d3) f2 c.sets := f1
         have w8 := f1.len
         refine xc [3, 6, 42, 44] ?_
         exact hD9 _ _ _ gR ⟨a2, d3, f2, d5, w6, l6, by kernel_rfl, by kernel_rfl, f1, w7⟩
       ·refine xIe (lds := [2, 4]) pR (eBs (T := tySett) (p := g.b) (et := 95) (xs := ([x] : List Sett)) (reps_cons (c := [vi x.steps, vi x.cycle, vb x.fresh, vs p0 x.in_ i0]) (show tySett.rep _ _ x from ⟨p0, i0, rfl, z1⟩) reps_nil) (by simp)) ?_
        rintro _ _ _ - ⟨f5, p6, l5, rfl, rfl, rfl, a5⟩
        refine kk (sm [1, 2, 3]) (xO1 (lds := [2, 4]) 0 (xIe (lds := [2, 4]) pR (eBs (T := tySett) (p := g.b) (et := 95) (xs := ([] : List Sett)) reps_nil (by simp)) ?_))
        rintro _ _ _ - ⟨a8, i9, p9, rfl, rfl, rfl, t6⟩
        refine kk (sm [2, 3, 4]) ?_
        obtain ⟨l7, l4, v4⟩ := f0.srcB
        refine xO1 (lds := [2, 4]) 3 (xIe (lds := [2, 4]) pR (eApp (T := tySett) (p := g.b) (et := 95) (bytes := 48) (xs := ([] : List Sett)) (ys := c.sets) 0 t6 rfl (fun w hs => v4 w _ hs) l4 (by first | omega | (simp only [List.length_cons, List.length_nil] at *; omega)) (by first | omega | (simp only [List.length_cons, List.length_nil] at *; omega))) ?_)
        rintro _ _ _ - ⟨v3, j3, a3, rfl, rfl, rfl, v1⟩
        refine kk (sm [2, 3, 4]) ?_
        have v1 : Buf g.b tySett 95 (.slice v3 (c.sets).length j3) a3 c.sets := v1
        have f7 := v1.len
        refine xSel (sm [1, 0, 2, 3, 4]) (xc [3, 6, 42, 44] ?_)
        exact hD9 _ _ _ gR ⟨v3, j3, a3, f5, p6, l5, by kernel_rfl, by kernel_rfl, v1, a5⟩

def o27 (c : RComp) (f : Frame) (came : Bool) : Option (RComp × Sett × Bool × Int) :=
 (cond ((c.stage != 3)) (some ((c, (⟨0, 0, false, ([] : List UInt8)⟩ : Sett), (false), (8 : Int)))) (bindO (o59 c.node f (came)) fun y6 => (bindO (τ := (List Piece) × Coll) (cond ((y6.1.role == 1)) (letJ (τ := (List Piece) × Coll) (cond ((c.node.role != 1)) ((([] : List Piece), ((⟨0, 0, ([] : List (List UInt8)), ([] : List Sett)⟩ : Coll) : Coll))) ((c.sender.pieces, c.collector))) fun t15 => (letJ (o60 y6.1 f (came) (2 : Int)) fun y19 => (bindO (τ := Int × Sett) (cond (y19) (bindO (o61 y6.1.cycle f.payload) fun y29 => (some ((y29.2, y29.1)))) (some ((4, ((⟨0, 0, false, ([] : List UInt8)⟩ : Sett) : Sett))))) fun t22 => (bindO (o62 t15.2 t22.2 ((t22.1 == 0))) fun y25 => (some ((t15.1, (y25 : Coll)))))))) (some ((c.sender.pieces, c.collector)))) fun t11 => (some (((⟨y6.1, (⟨t11.1⟩ : Sender), t11.2, c.asked, 4⟩ : RComp), y6.2.1, (y6.2.2.1), (0 : Int)))))))
theorem c27 (g : Gh) (c : RComp) (j2 : OA) (z2 : Nat) (i1 : OA) (j1 : Nat) (z1 : OA) (w1 : Nat) (d0 : OA) (v0 : Nat) (f0 : OA) (l0 : Nat) (f : Frame) (l1 : OA) (v1 : Nat) (came : Bool) (v5 : Arr g.b tyU8 j2 z2 c.node.input) (t4 : Arr g.b tyU8 i1 j1 c.node.heard.input) (f1 : Arr g.b tyPiece z1 w1 c.sender.pieces) (d1 : Arr g.b (tyArr tyU8) d0 v0 c.collector.parts) (t1 : Arr g.b tySett f0 l0 c.collector.sets) (w3 : Arr g.b tyU8 l1 v1 f.payload) {r : RComp × Sett × Bool × Int} (hS : o27 c f came = some r) :
  Ctr Tryz.prog 27 [(aRComp c j2 z2 i1 j1 z1 w1 d0 v0 f0 l0), (aFrame f l1 v1), vb came] g [] (fun v ψ o => ∃ (i5 : OA) (z5 : Nat) (l3 : OA) (f3 : Nat) (f4 : OA) (a4 : Nat) (w4 : OA) (j4 : Nat) (d4 : OA) (i4 : Nat) (v6 : OA) (t6 : Nat), v = Value.tuple #[(aRComp r.1 i5 z5 l3 f3 f4 a4 w4 j4 d4 i4), (aSett r.2.1 v6 t6), vb r.2.2.1, vi r.2.2.2] ∧ o = [] ∧ Arr ψ tyU8 i5 z5 r.1.node.input ∧ Arr ψ tyU8 l3 f3 r.1.node.heard.input ∧ Arr ψ tyPiece f4 a4 r.1.sender.pieces ∧ Arr ψ (tyArr tyU8) w4 j4 r.1.collector.parts ∧ Arr ψ tySett d4 i4 r.1.collector.sets ∧ Arr ψ tyU8 v6 t6 r.2.1.in_) := by
 unfold o27 at hS
 refine xFn Tryz.f27 (Tryz.f27.body.getD .skip) 70 (xSq (xRg (xE eB ?_)))
 rintro _ _ _ - ⟨b1, rfl, rfl, rfl⟩
 refine xE eB ?_
 rintro _ _ _ - ⟨b2, rfl, rfl, rfl⟩
 refine xE eB ?_
 rintro _ _ _ - ⟨b3, rfl, rfl, rfl⟩
 refine xE eB ?_
 rintro _ _ _ - ⟨b4, rfl, rfl, rfl⟩
 refine xb 2 [] [2, 3, 4, 6, 7] (xRe (xW (xSq (xSq (xRg (xb 3 [(1, 3)] [2, 3, 4, 6, 7, 19] (xRe (xW ?_))))))))
 refine xCd ((c.stage != 3)) (fun h5 => ?_) (fun h5 => ?_)
 ·have hS := cond_T h5 hS
  have h5p : ¬ (c.stage = 3) := ne_of_bne_ h5
  refine xSq (xRg (xbo 6 [(0, 3), (2, 1), (3, 0)] [some ⟨b4, 95, (cSett Z2 none 0)⟩, some ⟨b3, 45, (cRComp c j2 z2 i1 j1 z1 w1 d0 v0 f0 l0)⟩, some ⟨b2, 49, (cFrame f l1 v1)⟩, some ⟨b1, 45, (cRComp c j2 z2 i1 j1 z1 w1 d0 v0 f0 l0)⟩] [6, 7, 8, 9] (xRe (xW ?_))))
  obtain rfl := Option.some.inj hS
  exact xRetC [] [(6, 1), (7, 0)] gR ⟨j2, z2, i1, j1, z1, w1, d0, v0, f0, l0, none, 0, by kernel_rfl, by kernel_rfl, v5, t4, f1, d1, t1, Arr.nil⟩ (fun _ _ h => h)
 ·have hS := cond_F h5 hS
  have h5p : c.stage = 3 := eq_of_bne_false_ h5
  refine xSk (xW (xc [2, 3, 4, 6, 7] (xSq (xRg (xb 4 [(2, 3)] [2, 3, 4, 6, 7, 10] (xRe (xW (xSq (xRg (xb 4 [(1, 3), (2, 2)] [2, 3, 4, 6, 7, 10, 27, 28, 29] ?_))))))))))
  obtain ⟨y6, hy6, hS⟩ := bindO_T hS
  refine xE (eC 0 (fun g' lr eb ln => c59 g' c.node j2 z2 i1 j1 f l1 v1 (came) (by rw [eb]; exact v5) (by rw [eb]; exact t4) (by rw [eb]; exact w3) hy6)) ?_
  rintro _ g7 _ e8 ⟨_, rfl, p0, i0, w0, j0, d2, v2, rfl, rfl, d3, w2, a5⟩
  refine xb 5 [] [2, 3, 4, 6, 7, 10, 31, 32, 33, 34] (xE eB ?_)
  rintro _ _ _ - ⟨b9, rfl, rfl, rfl⟩
  refine xE eB ?_
  rintro _ _ _ - ⟨b10, rfl, rfl, rfl⟩
  refine xbo 4 [(12, 1), (13, 0)] [some ⟨b10, 95, (cSett y6.2.1 d2 v2)⟩, some ⟨b9, 36, (cRNode y6.1 p0 i0 w0 j0)⟩, some ⟨b4, 95, (cSett Z2 none 0)⟩, some ⟨b3, 45, (cRComp (⟨(⟨0, 0, 0, 0, 0, 0, ([] : List UInt8), false, false, (⟨0, 0, (⟨0, 0⟩ : Want), ([] : List UInt8)⟩ : Heard), false, Z0⟩ : RNode), Z3, Z4, false, 0⟩ : RComp) none 0 none 0 none 0 none 0 none 0)⟩, some ⟨b2, 49, (cFrame f l1 v1)⟩, some ⟨b1, 45, (cRComp c j2 z2 i1 j1 z1 w1 d0 v0 f0 l0)⟩] [2, 3, 4, 6, 7, 10, 11, 12, 13] (xRe (xW (xSq (xRg (xbo 5 [(0, 1), (2, 5), (4, 5)] [some ⟨b10, 95, (cSett y6.2.1 d2 v2)⟩, some ⟨b9, 36, (cRNode y6.1 p0 i0 w0 j0)⟩, some ⟨b4, 95, (cSett Z2 none 0)⟩, some ⟨b3, 45, (cRComp (⟨(⟨0, 0, 0, 0, 0, 0, ([] : List UInt8), false, false, (⟨0, 0, (⟨0, 0⟩ : Want), ([] : List UInt8)⟩ : Heard), false, Z0⟩ : RNode), Z3, Z4, false, 0⟩ : RComp) none 0 none 0 none 0 none 0 none 0)⟩, some ⟨b2, 49, (cFrame f l1 v1)⟩, some ⟨b1, 45, (cRComp ({ c with node := y6.1, stage := 4 }) p0 i0 w0 j0 z1 w1 d0 v0 f0 l0)⟩] [2, 3, 4, 6, 7, 10, 11, 12, 13] (xRe (xW (xSq (xSq (xRg (xb 3 [(1, 1)] [2, 3, 4, 6, 7, 10, 11, 12, 13, 40] (xRe (xW ?_)))))))))))))
  refine xBindO hS (fun g own sl t11 => ∃ (w6 : OA) (i6 : Nat) (t3 : OA) (v3 : Nat) (a3 : OA) (z4 : Nat), own = [some ⟨b10, 95, (cSett y6.2.1 d2 v2)⟩, some ⟨b4, 95, (cSett Z2 none 0)⟩, some ⟨b3, 45, (cRComp (⟨(⟨0, 0, 0, 0, 0, 0, ([] : List UInt8), false, false, (⟨0, 0, (⟨0, 0⟩ : Want), ([] : List UInt8)⟩ : Heard), false, Z0⟩ : RNode), Z3, Z4, false, 0⟩ : RComp) none 0 none 0 none 0 none 0 none 0)⟩, some ⟨b1, 45, (cRComp (⟨y6.1, (⟨t11.1⟩ : Sender), t11.2, c.asked, 4⟩ : RComp) p0 i0 w0 j0 w6 i6 t3 v3 a3 z4)⟩] ∧ sl = [(3, vp b1 0), (6, vp b3 0), (7, vp b4 0), (12, vp b10 0), (13, vb y6.2.2.1)] ∧ Arr g.b tyPiece w6 i6 t11.1 ∧ Arr g.b (tyArr tyU8) t3 v3 t11.2.parts ∧ Arr g.b tySett a3 z4 t11.2.sets) ?_ ?_
  ·rintro g12 _ _ t11 e13 ⟨w6, i6, t3, v3, a3, z4, rfl, rfl, p7, f6, w7⟩ hS
   refine xW (xSq ?_)
   refine xDr 0 [0, 1] [4, 5, 6] [some ⟨b10, 95, (cSett y6.2.1 d2 v2)⟩, some ⟨b1, 45, (cRComp (⟨y6.1, (⟨t11.1⟩ : Sender), t11.2, c.asked, 4⟩ : RComp) p0 i0 w0 j0 w6 i6 t3 v3 a3 z4)⟩] 7 (fun RG => ?_) (fun _ _ _ _ _ h => h)
   refine xt 4 [0, 1, 2] [(0, 1), (1, 0)] [some 0, some 3] [6, 7, 67, 68, 69] RG pR (xO1 (lds := [0, 1]) 3 (xId (lds := [0, 1]) pR (eStL b3 0 2) ?_))
   rintro _ _ _ - ⟨rfl, rfl⟩
   refine kk [some 0, some 3] (xO1 (lds := [0, 1]) 4 (xId (lds := [0, 1]) pR (eStL b4 0 1) ?_))
   rintro _ _ _ - ⟨rfl, rfl⟩
   refine kf (xt 0 [5, 6] [] [some 0, some 3] [6, 7, 8, 9] RG pR (xAe (lds := [0, 1]) (xW ?_)))
   have d3 := d3.mono e13.b
   have w2 := w2.mono e13.b
   have a5 := a5.mono e13.b
   obtain rfl := Option.some.inj hS
   exact xRetC [] [(6, 2), (7, 1)] (e8.trans e13) ⟨p0, i0, w0, j0, w6, i6, t3, v3, a3, z4, d2, v2, by kernel_rfl, by kernel_rfl, d3, w2, p7, f6, w7, a5⟩ (fun _ _ h => h)
  ·intro uu11 hS hN11
   refine xCd ((y6.1.role == 1)) (fun h14 => ?_) (fun h14 => ?_)
   ·have hS := cond_T h14 hS
    have f7 : y6.1.role = 1 := eq_of_beq h14
    refine xSq (xSq (xRg (xb 2 [] [2, 3, 4, 6, 7, 11, 12, 13, 42] (xRe (xW ?_)))))
    refine xLetJ hS (fun g own sl t15 => ∃ (w5 : OA) (j5 : Nat) (a2 : OA) (f2 : Nat) (z3 : OA) (j3 : Nat), own = [some ⟨b10, 95, (cSett y6.2.1 d2 v2)⟩, some ⟨b9, 36, (cRNode y6.1 p0 i0 w0 j0)⟩, some ⟨b4, 95, (cSett Z2 none 0)⟩, some ⟨b3, 45, (cRComp (⟨(⟨0, 0, 0, 0, 0, 0, ([] : List UInt8), false, false, (⟨0, 0, (⟨0, 0⟩ : Want), ([] : List UInt8)⟩ : Heard), false, Z0⟩ : RNode), Z3, Z4, false, 0⟩ : RComp) none 0 none 0 none 0 none 0 none 0)⟩, some ⟨b2, 49, (cFrame f l1 v1)⟩, some ⟨b1, 45, (cRComp (⟨y6.1, (⟨t15.1⟩ : Sender), t15.2, c.asked, 4⟩ : RComp) p0 i0 w0 j0 w5 j5 a2 f2 z3 j3)⟩] ∧ sl = [(2, vb came), (3, vp b1 0), (4, vp b2 0), (6, vp b3 0), (7, vp b4 0), (11, vp b9 0), (12, vp b10 0), (13, vb y6.2.2.1)] ∧ Arr g.b tyPiece w5 j5 t15.1 ∧ Arr g.b (tyArr tyU8) a2 f2 t15.2.parts ∧ Arr g.b tySett z3 j3 t15.2.sets) ?_ ?_
    ·rintro g16 _ _ t15 e17 ⟨w5, j5, a2, f2, z3, j3, rfl, rfl, z7, d5, t5⟩ hS
     refine xW (xSq (xRg (xb 1 [] [2, 3, 4, 6, 7, 11, 12, 13, 47] (xE eB ?_))))
     rintro _ _ _ - ⟨b18, rfl, rfl, rfl⟩
     refine xbo 2 [(2, 0)] [some ⟨b18, 95, (cSett Z2 none 0)⟩, some ⟨b10, 95, (cSett y6.2.1 d2 v2)⟩, some ⟨b9, 36, (cRNode y6.1 p0 i0 w0 j0)⟩, some ⟨b4, 95, (cSett Z2 none 0)⟩, some ⟨b3, 45, (cRComp (⟨(⟨0, 0, 0, 0, 0, 0, ([] : List UInt8), false, false, (⟨0, 0, (⟨0, 0⟩ : Want), ([] : List UInt8)⟩ : Heard), false, Z0⟩ : RNode), Z3, Z4, false, 0⟩ : RComp) none 0 none 0 none 0 none 0 none 0)⟩, some ⟨b2, 49, (cFrame f l1 v1)⟩, some ⟨b1, 45, (cRComp (⟨y6.1, (⟨t15.1⟩ : Sender), t15.2, c.asked, 4⟩ : RComp) p0 i0 w0 j0 w5 j5 a2 f2 z3 j3)⟩] [2, 3, 4, 6, 7, 11, 12, 13, 15, 16] (xRe (xW (xSq (xSq (xRg (xb 3 [(0, 2), (1, 5)] [3, 4, 6, 7, 11, 12, 13, 15, 16, 48, 49, 50] ?_))))))
     have d3 := d3.mono e17.b
     have w2 := w2.mono e17.b
     have w3 := w3.mono (e8.trans e17).b
     obtain ⟨y19, l7, hS⟩ := letJ_T hS
     refine xE (eC 0 (fun g' lr eb ln => c60 g' y6.1 p0 i0 w0 j0 f l1 v1 (came) (2 : Int) ((d3.mono g16.br).mono lr) ((w2.mono g16.br).mono lr) ((w3.mono g16.br).mono lr) l7)) ?_
     rintro _ g20 _ e21 ⟨_, rfl, rfl, rfl⟩
     refine xRe (xW (xc [3, 4, 6, 7, 11, 12, 13, 15, 16, 51] ?_))
     refine xBindO hS (fun g own sl t22 => ∃ (l4 : OA) (v4 : Nat), own = [some ⟨b18, 95, (cSett t22.2 l4 v4)⟩, some ⟨b10, 95, (cSett y6.2.1 d2 v2)⟩, some ⟨b4, 95, (cSett Z2 none 0)⟩, some ⟨b3, 45, (cRComp (⟨(⟨0, 0, 0, 0, 0, 0, ([] : List UInt8), false, false, (⟨0, 0, (⟨0, 0⟩ : Want), ([] : List UInt8)⟩ : Heard), false, Z0⟩ : RNode), Z3, Z4, false, 0⟩ : RComp) none 0 none 0 none 0 none 0 none 0)⟩, some ⟨b1, 45, (cRComp (⟨y6.1, (⟨t15.1⟩ : Sender), t15.2, c.asked, 4⟩ : RComp) p0 i0 w0 j0 w5 j5 a2 f2 z3 j3)⟩] ∧ sl = [(3, vp b1 0), (6, vp b3 0), (7, vp b4 0), (12, vp b10 0), (13, vb y6.2.2.1), (15, vp b18 0), (16, vi t22.1)] ∧ Arr g.b tyU8 l4 v4 t22.2.in_) ?_ ?_
     ·rintro g23 _ _ t22 e24 ⟨l4, v4, rfl, rfl, i7⟩ hS
      refine xW (xRg (xb 5 [(1, 4), (2, 0)] [3, 6, 7, 12, 13, 61, 62, 64] ?_))
      have d5 := d5.mono (e21.trans e24).b
      have t5 := t5.mono (e21.trans e24).b
      obtain ⟨y25, v7, hS⟩ := bindO_T hS
      refine xE (eC 0 (fun g' lr eb ln => c62 g' t15.2 a2 f2 z3 j3 t22.2 l4 v4 ((t22.1 == 0)) (by rw [eb]; exact d5) (by rw [eb]; exact t5) (by rw [eb]; exact i7) v7)) ?_
      rintro _ g26 _ e27 ⟨_, rfl, l5, f5, z6, j6, rfl, rfl, l6, a6⟩
      refine xbo 2 [(7, 4)] [some ⟨b18, 95, (cSett t22.2 l4 v4)⟩, some ⟨b10, 95, (cSett y6.2.1 d2 v2)⟩, some ⟨b4, 95, (cSett Z2 none 0)⟩, some ⟨b3, 45, (cRComp (⟨(⟨0, 0, 0, 0, 0, 0, ([] : List UInt8), false, false, (⟨0, 0, (⟨0, 0⟩ : Want), ([] : List UInt8)⟩ : Heard), false, Z0⟩ : RNode), Z3, Z4, false, 0⟩ : RComp) none 0 none 0 none 0 none 0 none 0)⟩, some ⟨b1, 45, (cRComp (⟨y6.1, (⟨t15.1⟩ : Sender), y25, c.asked, 4⟩ : RComp) p0 i0 w0 j0 w5 j5 l5 f5 z6 j6)⟩] [3, 6, 7, 12, 13] (xRe ?_)
      have z7 := z7.mono (e21.trans (e24.trans e27)).b
      refine xSel (sm [1, 2, 3, 4]) (xc [3, 6, 7, 12, 13] ?_)
      have eS := (Option.some.inj hS).symm
      exact hN11 _ eS _ _ _ (e17.trans (e21.trans (e24.trans e27))) ⟨w5, j5, l5, f5, z6, j6, by kernel_rfl, by kernel_rfl, z7, l6, a6⟩
     ·intro uu22 hS hN22
      refine xCd (y19) (fun h28 => ?_) (fun h28 => ?_)
      ·have hS := cond_T h28 hS
       refine xRg (xb 4 [(1, 2), (3, 5)] [3, 6, 7, 12, 13, 15, 16, 54, 56] ?_)
       have w3 := w3.mono e21.b
       obtain ⟨y29, t7, hS⟩ := bindO_T hS
       refine xE (eC 0 (fun g' lr eb ln => c61 g' y6.1.cycle f.payload l1 v1 (by rw [eb]; exact w3) t7)) ?_
       rintro _ g30 _ e31 ⟨_, rfl, d6, p6, rfl, rfl, j7⟩
       refine xbo 5 [(8, 0)] [some ⟨b18, 95, (cSett y29.1 d6 p6)⟩, some ⟨b10, 95, (cSett y6.2.1 d2 v2)⟩, some ⟨b9, 36, (cRNode y6.1 p0 i0 w0 j0)⟩, some ⟨b4, 95, (cSett Z2 none 0)⟩, some ⟨b3, 45, (cRComp (⟨(⟨0, 0, 0, 0, 0, 0, ([] : List UInt8), false, false, (⟨0, 0, (⟨0, 0⟩ : Want), ([] : List UInt8)⟩ : Heard), false, Z0⟩ : RNode), Z3, Z4, false, 0⟩ : RComp) none 0 none 0 none 0 none 0 none 0)⟩, some ⟨b2, 49, (cFrame f l1 v1)⟩, some ⟨b1, 45, (cRComp (⟨y6.1, (⟨t15.1⟩ : Sender), t15.2, c.asked, 4⟩ : RComp) p0 i0 w0 j0 w5 j5 a2 f2 z3 j3)⟩] [3, 6, 7, 12, 13, 15, 16] (xRe (xSel (sm [0, 1, 3, 4, 6]) (xc [3, 6, 7, 12, 13, 15, 16] ?_)))
       have eS := (Option.some.inj hS).symm
       exact hN22 _ eS _ _ _ e31 ⟨d6, p6, by kernel_rfl, by kernel_rfl, j7⟩
      ·have hS := cond_F h28 hS
       refine xSk (xSel (sm [0, 1, 3, 4, 6]) (xc [3, 6, 7, 12, 13, 15, 16] ?_))
       have eS := (Option.some.inj hS).symm
       exact hN22 _ eS _ _ _ gR ⟨none, 0, by kernel_rfl, by kernel_rfl, Arr.nil⟩
    ·intro uu15 hS hN15
     refine xCd ((c.node.role != 1)) (fun h32 => ?_) (fun h32 => ?_)
     ·have hS := cond_T h32 hS
      have d7 : ¬ (c.node.role = 1) := ne_of_bne_ h32
      refine xRg (xbo 6 [(3, 5), (5, 5)] [some ⟨b10, 95, (cSett y6.2.1 d2 v2)⟩, some ⟨b9, 36, (cRNode y6.1 p0 i0 w0 j0)⟩, some ⟨b4, 95, (cSett Z2 none 0)⟩, some ⟨b3, 45, (cRComp (⟨(⟨0, 0, 0, 0, 0, 0, ([] : List UInt8), false, false, (⟨0, 0, (⟨0, 0⟩ : Want), ([] : List UInt8)⟩ : Heard), false, Z0⟩ : RNode), Z3, Z4, false, 0⟩ : RComp) none 0 none 0 none 0 none 0 none 0)⟩, some ⟨b2, 49, (cFrame f l1 v1)⟩, some ⟨b1, 45, (cRComp (⟨y6.1, Z3, Z4, c.asked, 4⟩ : RComp) p0 i0 w0 j0 none 0 none 0 none 0)⟩] [2, 3, 4, 6, 7, 11, 12, 13] (xRe (xc [2, 3, 4, 6, 7, 11, 12, 13] ?_)))
      have eS := hS.symm
      exact hN15 _ eS _ _ _ gR ⟨none, 0, none, 0, none, 0, by kernel_rfl, by kernel_rfl, Arr.nil, Arr.nil, Arr.nil⟩
     ·have hS := cond_F h32 hS
      have d7 : c.node.role = 1 := eq_of_bne_false_ h32
      refine xSk ?_
      have f1 := f1.mono e8.b
      have d1 := d1.mono e8.b
      have t1 := t1.mono e8.b
      refine xc [2, 3, 4, 6, 7, 11, 12, 13] ?_
      have eS := hS.symm
      exact hN15 _ eS _ _ _ gR ⟨z1, w1, d0, v0, f0, l0, by kernel_rfl, by kernel_rfl, f1, d1, t1⟩
   ·have hS := cond_F h14 hS
    have f7 : ¬ (y6.1.role = 1) := ne_of_beq_false_ h14
    refine xSk ?_
    have f1 := f1.mono e8.b
    have d1 := d1.mono e8.b
    have t1 := t1.mono e8.b
    refine xSel (sm [0, 2, 3, 5]) (xc [3, 6, 7, 12, 13] ?_)
    have eS := (Option.some.inj hS).symm
    exact hN11 _ eS _ _ _ gR ⟨z1, w1, d0, v0, f0, l0, by kernel_rfl, by kernel_rfl, f1, d1, t1⟩

def o29 (x : Sett) : Sett :=
 (x)
theorem c29 (g : Gh) (x : Sett) (w0 : OA) (j0 : Nat) (d0 : Arr g.b tyU8 w0 j0 x.in_) {r : Sett} (hS : o29 x = r) :
  Ctr Tryz.prog 29 [(aSett x w0 j0)] g [] (fun v ψ o => ∃ (p0 : OA) (i0 : Nat), v = (aSett r p0 i0) ∧ o = [] ∧ Arr ψ tyU8 p0 i0 r.in_) := by
 unfold o29 at hS
 refine xFn Tryz.f29 (Tryz.f29.body.getD .skip) 12 (xSq (xRg (xE eB ?_)))
 rintro _ _ _ - ⟨b1, rfl, rfl, rfl⟩
 refine xE eB ?_
 rintro _ _ _ - ⟨b2, rfl, rfl, rfl⟩
 refine xRe (xW (xc [1, 2] (xSq (xRg (xbo 10 [(1, 1), (3, 1), (5, 1), (7, 1), (9, 0)] [some ⟨b2, 95, (cSett x w0 j0)⟩, some ⟨b1, 92, (cSett x w0 j0)⟩] [2] (xRe (xW ?_)))))))
 have eS := hS.symm
 subst eS
 exact xRetC [] [(2, 0)] gR ⟨w0, j0, by kernel_rfl, by kernel_rfl, d0⟩ (fun _ _ h => h)

def o28 (a : Sett) (b : Sett) : Bool :=
 ((((((a.steps == b.steps) && (a.cycle == b.cycle)) && (a.fresh == b.fresh)) && (a.in_ == b.in_))))
theorem c28 (g : Gh) (a : Sett) (p0 : OA) (j0 : Nat) (b : Sett) (i0 : OA) (w0 : Nat) (f0 : Arr g.r tyU8 p0 j0 a.in_) (l0 : Arr g.r tyU8 i0 w0 b.in_) {r : Bool} (hS : o28 a b = r) :
  Ctr Tryz.prog 28 [(aSett a p0 j0), (aSett b i0 w0)] g [] (fun v ψ o => v = vb r ∧ o = []) := by
 unfold o28 at hS
 refine xFn Tryz.f28 (Tryz.f28.body.getD .skip) 33 (xSq (xRg (xE eB ?_)))
 rintro _ _ _ - ⟨b1, rfl, rfl, rfl⟩
 refine xE eB ?_
 rintro _ _ _ - ⟨b2, rfl, rfl, rfl⟩
 refine xb 1 [] [2, 3] (xRe (xW (xSq (xRg (xb 6 [(1, 1), (3, 0)] [2, 3, 10] ?_)))))
 refine wpr_grp 12 [(2, vp b1 0), (3, vp b2 0), (16, vb ((a.steps == b.steps) && (a.cycle == b.cycle)))] (fun hk5 => ?_) ?_
 ·refine wpq_split 10 (b := (a.steps == b.steps)) (by kernel_rfl) (fun q3 => ?_) (fun q3 => ?_)
  ·have q3p : a.steps = b.steps := eq_of_beq q3
   refine xb 6 [(7, 1), (9, 0)] [2, 3, 16] (wpq_re 16 (v := vb (a.cycle == b.cycle)) (Value.bool (((a.steps == b.steps) && (a.cycle == b.cycle)))) (by kernel_rfl) (re_and1 q3) ?_)
   exact wpq_sub _ (by kernel_rfl) hk5
  ·have q3p : ¬ (a.steps = b.steps) := ne_of_beq_false_ q3
   refine xb 6 [] [2, 3, 16] (wpq_re 16 (v := vb false) (Value.bool (((a.steps == b.steps) && (a.cycle == b.cycle)))) (by kernel_rfl) (re_and0 q3) ?_)
   exact wpq_sub _ (by kernel_rfl) hk5
 ·refine xb 1 [] [2, 3, 17] ?_
  refine wpr_grp 19 [(2, vp b1 0), (3, vp b2 0), (23, vb (((a.steps == b.steps) && (a.cycle == b.cycle)) && (a.fresh == b.fresh)))] (fun v0 => ?_) ?_
  ·refine wpq_split 17 (b := ((a.steps == b.steps) && (a.cycle == b.cycle))) (by kernel_rfl) (fun q4 => ?_) (fun q4 => ?_)
   ·have q4l := (and_true_ q4).1
    have q4r := (and_true_ q4).2
    have v1 : a.steps = b.steps := eq_of_beq q4l
    have t1 : a.cycle = b.cycle := eq_of_beq q4r
    refine xb 6 [(14, 1), (16, 0)] [2, 3, 23] (wpq_re 23 (v := vb (a.fresh == b.fresh)) (Value.bool ((((a.steps == b.steps) && (a.cycle == b.cycle)) && (a.fresh == b.fresh)))) (by kernel_rfl) (re_and1 q4) ?_)
    exact wpq_sub _ (by kernel_rfl) v0
   ·refine xb 6 [] [2, 3, 23] ?_
    refine wpq_re 23 (v := vb false) (Value.bool ((((a.steps == b.steps) && (a.cycle == b.cycle)) && (a.fresh == b.fresh)))) (by kernel_rfl) (re_and0 q4) ?_
    exact wpq_sub _ (by kernel_rfl) v0
  ·refine xb 1 [] [2, 3, 24] ?_
   refine wpr_grp 28 [(32, vb ((((a.steps == b.steps) && (a.cycle == b.cycle)) && (a.fresh == b.fresh)) && (a.in_ == b.in_)))] (fun d0 => ?_) ?_
   ·refine wpq_split 24 (b := (((a.steps == b.steps) && (a.cycle == b.cycle)) && (a.fresh == b.fresh))) (by kernel_rfl) (fun q5 => ?_) (fun q5 => ?_)
    ·have q5l := (and_true_ q5).1
     have q5r := (and_true_ q5).2
     have z1 := (and_true_ q5l).1
     have w1 := (and_true_ q5l).2
     have j1 : a.steps = b.steps := eq_of_beq z1
     have i1 : a.cycle = b.cycle := eq_of_beq w1
     have d1 : a.fresh = b.fresh := eq_of_beq q5r
     refine xb 2 [(21, 1)] [3, 24, 26] (xV (qStr f0) (xb 2 [(24, 0)] [24, 27, 29] (xV (qStr l0) (xV (qEqS (a.in_) (b.in_)) (xb 1 [] [32] (wpq_re 32 (v := vb (a.in_ == b.in_)) (Value.bool (((((a.steps == b.steps) && (a.cycle == b.cycle)) && (a.fresh == b.fresh)) && (a.in_ == b.in_)))) (by kernel_rfl) (re_and1 q5) ?_))))))
     exact wpq_sub _ (by kernel_rfl) d0
    ·refine xb 8 [] [32] ?_
     refine wpq_re 32 (v := vb false) (Value.bool (((((a.steps == b.steps) && (a.cycle == b.cycle)) && (a.fresh == b.fresh)) && (a.in_ == b.in_)))) (by kernel_rfl) (re_and0 q5) ?_
     exact wpq_sub _ (by kernel_rfl) d0
   ·refine xb 1 [] [4] ?_
    refine xRe (xW ?_)
    have eS := hS.symm
    subst eS
    exact xRet [] [4] gR ⟨by kernel_rfl, by kernel_rfl⟩ (fun _ _ h => h)

def o101_L0 (r_ : Result) (s214 : (List UInt8) × Nat) : Option (Ctl ((List UInt8) × Nat) ((List UInt8))) :=
 (cond (decide ((s214.2 : Int) < (((([r_.targets.bank, r_.targets.speed, r_.targets.alt, r_.targets.vs] : List Int)).length : Nat) : Int))) (bindO (o111 s214.1 ((List.getD ([r_.targets.bank, r_.targets.speed, r_.targets.alt, r_.targets.vs] : List Int) s214.2 0) : Int) (8 : Int)) fun y220 => (grd (decide ((s214.2 : Int) + 1 ≤ 9223372036854775807)) (some (Ctl.go ((y220 : List UInt8), (s214.2 + 1)))))) (some (Ctl.done (s214.1))))
def o101 (r_ : Result) : Option ((List UInt8)) :=
 (bindO (o111 ([] : List UInt8) r_.steps (8 : Int)) fun y4 => (grd (decide (0 ≤ r_.targets.lateral ∧ r_.targets.lateral ≤ 255)) (grd (decide (0 ≤ r_.targets.vertical ∧ r_.targets.vertical ≤ 255)) (grd (decide (0 ≤ r_.targets.phase ∧ r_.targets.phase ≤ 255)) (grd (decide (((y4).length + (([(u8 r_.targets.lateral), (u8 r_.targets.vertical), (u8 r_.targets.phase)] : List UInt8)).length) * 1 ≤ 140737488355328)) (bindO (τ := (List UInt8)) (loopO (σ := (List UInt8) × Nat) (ρ := (List UInt8)) fuelN (o101_L0 r_) (((y4 ++ ([(u8 r_.targets.lateral), (u8 r_.targets.vertical), (u8 r_.targets.phase)] : List UInt8)) : List UInt8), 0)) fun t209 => (some ((t209 : List UInt8)))))))))
theorem c101 (g : Gh) (r_ : Result) {r : (List UInt8)} (hS : o101 r_ = some r) :
  Ctr Tryz.prog 101 [(aResult r_)] g [] (fun v ψ o => ∃ (j3 : OA) (f2 : Nat) (d3 : OB), v = vs j3 r f2 ∧ o = [d3] ∧ Buf ψ tyU8 5 (.slice j3 (r).length f2) d3 r) := by
 unfold o101 at hS
 refine xFn Tryz.f101 (Tryz.f101.body.getD .skip) 39 (xSq (xRg (xE eB ?_)))
 rintro _ _ _ - ⟨b1, rfl, rfl, rfl⟩
 refine xb 1 [] [1] (xRe (xW (xSq (xRg (xb 2 [(1, 0)] [1, 8] (xE eB ?_))))))
 rintro _ _ _ - ⟨b2, rfl, rfl, rfl⟩
 refine xbo 1 [(3, 0)] [some ⟨b2, 34, (cTargets r_.targets)⟩, some ⟨b1, 124, (cResult r_)⟩] [1, 3] (xRe (xW (xSq ?_)))
 refine xDr 0 [1, 4, 6, 8] [11] [some ⟨b2, 34, (cTargets r_.targets)⟩, some ⟨b1, 124, (cResult r_)⟩] 12 (fun RG => ?_) (fun _ _ _ _ _ h => h)
 refine xt 4 [0, 1, 3, 4, 5, 6, 7, 8] [(1, 1), (4, 0), (6, 0), (8, 0)] [some 0, some 1] [3, 10, 13, 15, 17] RG pR ?_
 obtain ⟨y4, hy4, hS⟩ := bindO_T hS
 obtain ⟨q7, hS⟩ := grd_T hS
 have q7p := of_decide_eq_true q7
 obtain ⟨q8, hS⟩ := grd_T hS
 have q8p := of_decide_eq_true q8
 obtain ⟨q9, hS⟩ := grd_T hS
 have q9p := of_decide_eq_true q9
 refine wpa_meet (fun g own sl => ∃ (v0 : OA) (f0 : Nat) (l0 : OB) (A10 : OA) (c10 : Nat) (k10 : OB), own = [k10, l0, some ⟨b2, 34, (cTargets r_.targets)⟩, some ⟨b1, 124, (cResult r_)⟩] ∧ sl = [(3, vp b2 0), (11, vs v0 y4 f0), (18, vs A10 ([(u8 r_.targets.lateral), (u8 r_.targets.vertical), (u8 r_.targets.phase)] : List UInt8) c10)] ∧ Buf g.b tyU8 5 (.slice v0 (y4).length f0) l0 y4 ∧ Buf g.b tyU8 5 (.slice A10 (([(u8 r_.targets.lateral), (u8 r_.targets.vertical), (u8 r_.targets.phase)] : List UInt8)).length c10) k10 ([(u8 r_.targets.lateral), (u8 r_.targets.vertical), (u8 r_.targets.phase)] : List UInt8)) 2 [true, true, true, true, true, true, true, true, true, true, false, false] ?_ (fun hD3 => ?_)
 ·rintro z2 _ _ j2 ⟨v0, f0, l0, A10, c10, k10, rfl, rfl, p0, h10⟩
  have v2 := p0.len
  have z8 := h10.len
  obtain ⟨l7, t4, j4⟩ := h10.srcO (g := z2)
  obtain ⟨a5, hS⟩ := grd_T hS
  have i7 := of_decide_eq_true a5
  refine xO1 (lds := [1, 4, 6, 8]) 10 (xIe (lds := [1, 4, 6, 8]) j2.r (eApp (T := tyU8) (p := z2.b) (et := 5) (bytes := 1) (xs := (y4 : List UInt8)) (ys := (([(u8 r_.targets.lateral), (u8 r_.targets.vertical), (u8 r_.targets.phase)] : List UInt8) : List UInt8)) 1 p0 rfl (fun w hs => j4 0 w _ hs (by kernel_rfl)) t4 (by first | omega | (simp only [List.length_cons, List.length_nil] at *; omega)) (by first | omega | (simp only [List.length_cons, List.length_nil] at *; omega))) ?_)
  rintro _ _ _ - ⟨f5, f6, v6, rfl, rfl, rfl, l3⟩
  refine kk [some 2, some 3] ?_
  have j7 := l3.len
  have v7 : ((y4 ++ ([(u8 r_.targets.lateral), (u8 r_.targets.vertical), (u8 r_.targets.phase)] : List UInt8)) : List UInt8).length = (y4).length + (([(u8 r_.targets.lateral), (u8 r_.targets.vertical), (u8 r_.targets.phase)] : List UInt8)).length := List.length_append
  refine xt 0 [11] [] [some 2, some 3] [3, 4] RG j2.r (xAe (lds := [1, 4, 6, 8]) (xW (xSq (xSq (xRg (xb 8 [(1, 2), (3, 2), (5, 2), (7, 2)] [4, 21, 23, 25, 27] (xE (eBs (T := (tyI .i64)) (p := z2.b) (et := 2) (xs := ([r_.targets.bank, r_.targets.speed, r_.targets.alt, r_.targets.vs] : List Int)) (reps_cons (c := [vi r_.targets.bank]) (show (tyI .i64).rep _ _ _ from rfl) (reps_cons (c := [vi r_.targets.speed]) (show (tyI .i64).rep _ _ _ from rfl) (reps_cons (c := [vi r_.targets.alt]) (show (tyI .i64).rep _ _ _ from rfl) (reps_cons (c := [vi r_.targets.vs]) (show (tyI .i64).rep _ _ _ from rfl) reps_nil)))) (by simp)) ?_)))))))
  rintro _ _ _ - ⟨t6, d5, p6, rfl, rfl, rfl, w2⟩
  refine xb 2 [] [4, 28, 29, 30] (xRe (xW ?_))
  refine xBindO hS (fun g own sl v1 => ∃ (z1 : OA) (w1 : Nat) (j1 : OB), own = [j1] ∧ sl = [(4, vs z1 v1 w1)] ∧ Buf g.b tyU8 5 (.slice z1 (v1).length w1) j1 v1) ?_ ?_
  ·rintro f7 _ _ v1 v5 ⟨z1, w1, j1, rfl, rfl, f1⟩ hS
   have w7 := f1.len
   refine xW (xSq (xRg (xb 2 [] [2] (xRe (xW ?_)))))
   obtain rfl := Option.some.inj hS
   exact xRet [some 0] [2] (j2.trans v5) ⟨z1, w1, j1, by kernel_rfl, by kernel_rfl, f1⟩ (fun _ _ h => h)
  ·intro uu209 hS hN209
   refine xBl 0 (xSel [some 2, some 0] (xc [4, 28, 29, 30] (xLo hS (fun g own sl w0 => ∃ (d0 : OA) (i0 : Nat) (j0 : OB), own = [j0, p6] ∧ sl = [(4, vs d0 w0.1 i0), (28, vs t6 ([r_.targets.bank, r_.targets.speed, r_.targets.alt, r_.targets.vs] : List Int) d5), (29, vi (((([r_.targets.bank, r_.targets.speed, r_.targets.alt, r_.targets.vs] : List Int)).length : Nat) : Int)), (30, vi (w0.2 : Int))] ∧ Buf g.b tyU8 5 (.slice d0 (w0.1).length i0) j0 w0.1) ⟨f5, f6, v6, by kernel_rfl, by kernel_rfl, l3⟩ ?_)))
   rintro a7 _ _ w0 t7 w3 ⟨d0, i0, j0, rfl, rfl, d1⟩ hS d7 f4 l4
   have a6 := d1.len
   unfold o101_L0 at hS
   refine xSq (xRg (xb 1 [] [4, 28, 29, 30, 31] (xRe (xW (xSq ?_)))))
   refine xCd (decide ((w0.2 : Int) < (((([r_.targets.bank, r_.targets.speed, r_.targets.alt, r_.targets.vs] : List Int)).length : Nat) : Int))) (fun i1 => ?_) (fun i1 => ?_)
   ·have hS := cond_T i1 hS
    have i4 := of_decide_eq_true i1
    refine xSk (xW (xc [4, 28, 29, 30] (xSq (xBl 1 (xSq (xRg ?_))))))
    have w2 := w2.mono w3.b
    have f3 : w0.2 < (([r_.targets.bank, r_.targets.speed, r_.targets.alt, r_.targets.vs] : List Int)).length := by omega
    obtain ⟨w4, z5, v4, a4, t1, d4⟩ := w2.open_ f3 0
    obtain ⟨z4, rfl⟩ : ∃ z, z = w4 := ⟨_, rfl⟩
    subst a4
    have t1 : z5 = [vi (List.getD ([r_.targets.bank, r_.targets.speed, r_.targets.alt, r_.targets.vs] : List Int) w0.2 0)] := t1
    subst t1
    refine xV (qIxB w0.2 1 z4.g v4 rfl f3) (xV (qLdB w0.2 1 0 1 d4) (xb 1 [] [4, 6, 28, 29, 30] (xRe (xW (xRg (xb 2 [] [4, 28, 29, 30, 34, 35] ?_))))))
    obtain ⟨i8, w5, hS⟩ := bindO_T hS
    refine xE (eC 1 (fun g' lr eb ln => c111 g' w0.1 d0 i0 j0 ((List.getD ([r_.targets.bank, r_.targets.speed, r_.targets.alt, r_.targets.vs] : List Int) w0.2 0) : Int) (8 : Int) (by rw [eb]; exact d1) w5)) ?_
    rintro _ j8 _ z6 ⟨_, rfl, v3, a3, a2, rfl, rfl, l1⟩
    have z7 := l1.len
    refine xb 1 [] [4, 28, 29, 30] (xRe (wpq_blockN (xW (xRg ?_))))
    obtain ⟨l5, hS⟩ := grd_T hS
    have p7 := of_decide_eq_true l5
    refine xV (qAdd .i64 ((w0.2 : Int)) (1) (wr64 (by omega))) (xb 1 [] [4, 28, 29, 30] (xRe (wpq_thenN (xc [4, 28, 29, 30] ?_))))
    have eS := (Option.some.inj hS).symm
    exact f4 _ eS _ _ _ z6 ⟨v3, a3, a2, by kernel_rfl, by kernel_rfl, l1⟩
   ·have hS := cond_F i1 hS
    have i4 := of_decide_eq_false i1
    refine xEx 0 (wpq_thenX (wpq_thenX (wpq_blockE (xSel [some 0] (xc [4] ?_)))))
    have eS := (Option.some.inj hS).symm
    have eS := (l4 _ eS).symm
    exact hN209 _ eS _ _ _ w3 ⟨d0, i0, j0, by kernel_rfl, by kernel_rfl, d1⟩
 ·refine xO2 (lds := [1, 4, 6, 8]) 2 9 ?_ ?_
  ·refine xSel [none, some 0, some 1] ?_
   refine xIe (lds := [1, 4, 6, 8]) pR (eC 1 (fun g' lr eb ln => c111 g' ([] : List UInt8) none 0 none r_.steps (8 : Int) Buf.nil hy4)) ?_
   rintro _ d6 _ z3 ⟨_, rfl, v0, f0, l0, rfl, rfl, p0⟩
   refine kk [some 1, some 2] ?_
   have v2 := p0.len
   refine xO1 (lds := [1, 4, 6, 8]) 9 (xIe (lds := [1, 4, 6, 8]) z3.r (eBs (T := tyU8) (p := d6.b) (et := 5) (xs := ([(u8 r_.targets.lateral), (u8 r_.targets.vertical), (u8 r_.targets.phase)] : List UInt8)) (reps_cons (c := [vy r_.targets.lateral]) (u8_rep (by omega)) (reps_cons (c := [vy r_.targets.vertical]) (u8_rep (by omega)) (reps_cons (c := [vy r_.targets.phase]) (u8_rep (by omega)) reps_nil))) (by simp)) ?_)
   rintro _ _ _ - ⟨j5, w6, j6, rfl, rfl, rfl, t5⟩
   refine kk [some 2, some 3] (xc [3, 11, 18] ?_)
   exact hD3 _ _ _ z3 ⟨v0, f0, l0, j5, w6, j6, by kernel_rfl, by kernel_rfl, p0, t5⟩
  ·refine xIe (lds := [1, 4, 6, 8]) pR (eBs (T := tyU8) (p := g.b) (et := 5) (xs := ([(u8 r_.targets.lateral), (u8 r_.targets.vertical), (u8 r_.targets.phase)] : List UInt8)) (reps_cons (c := [vy r_.targets.lateral]) (u8_rep (by omega)) (reps_cons (c := [vy r_.targets.vertical]) (u8_rep (by omega)) (reps_cons (c := [vy r_.targets.phase]) (u8_rep (by omega)) reps_nil))) (by simp)) ?_
   rintro _ _ _ - ⟨i6, l6, i5, rfl, rfl, rfl, d2⟩
   refine kk [some 1, some 2] (xSel [none, some 0, some 1, some 2] (xO1 (lds := [1, 4, 6, 8]) 2 (xIe (lds := [1, 4, 6, 8]) pR (eC 1 (fun g' lr eb ln => c111 g' ([] : List UInt8) none 0 none r_.steps (8 : Int) Buf.nil hy4)) ?_)))
   rintro _ w8 _ t3 ⟨_, rfl, v0, f0, l0, rfl, rfl, p0⟩
   refine kk [some 2, some 3] ?_
   have v2 := p0.len
   refine xSel (sm [1, 0, 2, 3]) (xc [3, 11, 18] ?_)
   have d2 := d2.mono t3.b
   exact hD3 _ _ _ t3 ⟨v0, f0, l0, i6, l6, i5, by kernel_rfl, by kernel_rfl, p0, d2⟩

def o63 (n : Node) (t : Targets) : Option (Node × Frame × Bool × Int) :=
 (letJ (o81 n (4 : Int)) fun y3 => (cond ((y3 != 0)) (some ((n, (⟨0, 0, 0, ([] : List UInt8)⟩ : Frame), (false), (y3 : Int)))) (cond ((!n.has)) (some ((({ n with next_ := 5 }), (⟨0, 0, 0, ([] : List UInt8)⟩ : Frame), (false), (0 : Int)))) (bindO (o101 ({ n with targets := t })) fun y8 => (letJ (o83 ({ n with next_ := 5, told := { n with targets := t } }) (3 : Int) (y8 : List UInt8)) fun y14 => (some ((({ n with next_ := 5, told := { n with targets := t } }), y14, (true), (0 : Int)))))))))
theorem c63 (g : Gh) (b_n : Nat) (n : Node) (f0 : OA) (l0 : Nat) (w0 : OA) (j0 : Nat) (d0 : OA) (p0 : Nat) (t : Targets) (w1 : Arr g.b tyU8 f0 l0 n.input) (i0 : Arr g.b tyU8 w0 j0 n.heard.input) (v0 : Arr g.b tyU8 d0 p0 n.set_.in_) {r : Node × Frame × Bool × Int} (hS : o63 n t = some r) :
  Ctr Tryz.prog 63 [vp b_n 0, (aTargets t)] g [some ⟨b_n, 126, (cNode n f0 l0 w0 j0 d0 p0)⟩] (fun v ψ o => ∃ (w2 : OA) (z2 : Nat) (z1 : OA) (j1 : Nat) (v1 : OA) (t1 : Nat) (l1 : OA) (f1 : Nat), v = Value.tuple #[(aFrame r.2.1 l1 f1), vb r.2.2.1, vi r.2.2.2] ∧ o = [some ⟨b_n, 126, (cNode r.1 w2 z2 z1 j1 v1 t1)⟩] ∧ Arr ψ tyU8 w2 z2 r.1.input ∧ Arr ψ tyU8 z1 j1 r.1.heard.input ∧ Arr ψ tyU8 v1 t1 r.1.set_.in_ ∧ Arr ψ tyU8 l1 f1 r.2.1.payload) := by
 unfold o63 at hS
 refine xFn Tryz.f63 (Tryz.f63.body.getD .skip) 39 (xSq (xRg (xE eB ?_)))
 rintro _ _ _ - ⟨b1, rfl, rfl, rfl⟩
 refine xE eB ?_
 rintro _ _ _ - ⟨b2, rfl, rfl, rfl⟩
 refine xb 2 [] [0, 3, 4] (xRe (xW (xSq (xSq (xRg (xb 1 [] [0, 3, 4, 8] ?_))))))
 obtain ⟨y3, hy3, hS⟩ := letJ_T hS
 refine xE (eC 0 (fun g' lr eb ln => c81 g' ⟨b_n, 0, none⟩ n f0 l0 w0 j0 d0 p0 (4 : Int) (cells_lent' 2 b_n 0 (cNode n f0 l0 w0 j0 d0 p0) ln) ((w1.mono g.br).mono lr) ((i0.mono g.br).mono lr) ((v0.mono g.br).mono lr) hy3)) ?_
 rintro _ g4 _ e5 ⟨_, rfl, rfl, rfl⟩
 refine xb 1 [] [0, 3, 4, 7] (xRe (xW (xSq (xRg (xb 2 [] [0, 3, 4, 7, 11] (xRe (xW ?_)))))))
 refine xCd ((y3 != 0)) (fun h6 => ?_) (fun h6 => ?_)
 ·have hS := cond_T h6 hS
  have h6p : ¬ (y3 = 0) := ne_of_bne_ h6
  refine xSq (xRg (xbo 5 [(2, 0)] [some ⟨b2, 49, (cFrame Z5 none 0)⟩, some ⟨b1, 34, (cTargets t)⟩, some ⟨b_n, 126, (cNode n f0 l0 w0 j0 d0 p0)⟩] [4, 5, 6] (xRe (xW ?_))))
  have w1 := w1.mono e5.b
  have i0 := i0.mono e5.b
  have v0 := v0.mono e5.b
  obtain rfl := Option.some.inj hS
  exact xRetC [some 2] [(4, 0)] e5 ⟨f0, l0, w0, j0, d0, p0, none, 0, by kernel_rfl, by kernel_rfl, w1, i0, v0, Arr.nil⟩ (fun _ _ h => h)
 ·have hS := cond_F h6 hS
  have h6p : y3 = 0 := eq_of_bne_false_ h6
  refine xSk (xW (xc [0, 3, 4] (xSq (xRg (xbo 4 [(3, 2)] [some ⟨b2, 49, (cFrame Z5 none 0)⟩, some ⟨b1, 34, (cTargets t)⟩, some ⟨b_n, 126, (cNode ({ n with next_ := 5 }) f0 l0 w0 j0 d0 p0)⟩] [0, 3, 4] (xRe (xW (xSq (xSq (xRg (xb 5 [(3, 2)] [0, 3, 4, 21] (xRe (xW ?_)))))))))))))
  refine xCd ((!n.has)) (fun h7 => ?_) (fun h7 => ?_)
  ·have hS := cond_T h7 hS
   refine xSq (xRg (xbo 4 [(1, 0)] [some ⟨b2, 49, (cFrame Z5 none 0)⟩, some ⟨b1, 34, (cTargets t)⟩, some ⟨b_n, 126, (cNode ({ n with next_ := 5 }) f0 l0 w0 j0 d0 p0)⟩] [4, 5, 6] (xRe (xW ?_))))
   have w1 := w1.mono e5.b
   have i0 := i0.mono e5.b
   have v0 := v0.mono e5.b
   obtain rfl := Option.some.inj hS
   exact xRetC [some 2] [(4, 0)] e5 ⟨f0, l0, w0, j0, d0, p0, none, 0, by kernel_rfl, by kernel_rfl, w1, i0, v0, Arr.nil⟩ (fun _ _ h => h)
  ·have hS := cond_F h7 hS
   refine xSk (xW (xc [0, 3, 4] (xSq ?_)))
   refine xDr 0 [4, 5] [9, 6, 7, 8] [some ⟨b2, 49, (cFrame Z5 none 0)⟩, some ⟨b1, 34, (cTargets t)⟩, some ⟨b_n, 126, (cNode ({ n with next_ := 5 }) f0 l0 w0 j0 d0 p0)⟩] 10 (fun RG => ?_) (fun _ _ _ _ _ h => h)
   refine xt 1 [0, 1, 2, 3, 4, 5, 6, 7, 8] [(4, 2), (5, 1)] (sm [0, 1, 2]) [0, 4, 29, 31] RG pR (xO1 (lds := [4, 5]) 9 (xId (lds := [4, 5]) pR (eStL b_n 19 2) ?_))
   rintro _ _ _ - ⟨rfl, rfl⟩
   refine kf (xAe (lds := [4, 5]) (xW (xc [0, 4] (xSq (xRg (xb 5 [(4, 2)] [4, 32, 36] ?_))))))
   obtain ⟨y8, hy8, hS⟩ := bindO_T hS
   refine xE (eC 0 (fun g' lr eb ln => c101 g' ({ n with targets := t }) hy8)) ?_
   rintro _ g9 _ e10 ⟨_, rfl, v2, a2, w3, rfl, rfl, d2⟩
   refine wpq_freeze 0 (by kernel_rfl) d2 (fun g11 e12 f13 => ?_)
   have w1 := w1.mono (e5.trans (e10.trans e12)).b
   have i0 := i0.mono (e5.trans (e10.trans e12)).b
   have v0 := v0.mono (e5.trans (e10.trans e12)).b
   obtain ⟨y14, f2, hS⟩ := letJ_T hS
   refine xE (eC 0 (fun g' lr eb ln => c83 g' ⟨b_n, 0, none⟩ ({ n with next_ := 5, told := { n with targets := t } }) f0 l0 w0 j0 d0 p0 (3 : Int) (y8 : List UInt8) v2 a2 (cells_lent' 3 b_n 0 (cNode ({ n with next_ := 5, told := { n with targets := t } }) f0 l0 w0 j0 d0 p0) ln) ((w1.mono g11.br).mono lr) ((i0.mono g11.br).mono lr) ((v0.mono g11.br).mono lr) (by rw [eb]; exact f13) f2)) ?_
   rintro _ g15 _ e16 ⟨_, rfl, i1, d1, rfl, rfl, j2⟩
   refine xbo 3 [(7, 1)] [none, some ⟨b2, 49, (cFrame y14 i1 d1)⟩, some ⟨b1, 34, (cTargets t)⟩, some ⟨b_n, 126, (cNode ({ n with next_ := 5, told := { n with targets := t } }) f0 l0 w0 j0 d0 p0)⟩] [4, 5, 6] (xRe (xW ?_))
   have w1 := w1.mono e16.b
   have i0 := i0.mono e16.b
   have v0 := v0.mono e16.b
   obtain rfl := Option.some.inj hS
   exact xRetC [some 3] [(4, 1)] (e5.trans (e10.trans (e12.trans e16))) ⟨f0, l0, w0, j0, d0, p0, i1, d1, by kernel_rfl, by kernel_rfl, w1, i0, v0, j2⟩ (fun _ _ h => h)

def o30 (c : Comp) (t : Targets) : Option (Comp × Frame × Bool × Int) :=
 (letJ (o45 (⟨c.number, c.node, c.sender, c.collector, c.next_, c.cycle, (c.asked), c.want⟩ : Comp) (4 : Int)) fun y3 => (cond ((y3.2 != 0)) (some (((⟨y3.1.number, y3.1.node, y3.1.sender, y3.1.collector, y3.1.next_, y3.1.cycle, (y3.1.asked), y3.1.want⟩ : Comp), (⟨0, 0, 0, ([] : List UInt8)⟩ : Frame), (false), y3.2))) (bindO (o63 y3.1.node t) fun y7 => (some (((⟨y3.1.number, y7.1, y3.1.sender, y3.1.collector, (5 : Int), y3.1.cycle, (y3.1.asked), y3.1.want⟩ : Comp), y7.2.1, (y7.2.2.1), y7.2.2.2))))))
theorem c30 (g : Gh) (b_c : Nat) (c : Comp) (w2 : Nat) (i5 : OA) (d5 : Nat) (j2 : OA) (z2 : Nat) (v3 : OA) (t3 : Nat) (v0 : Nat) (f3 : OA) (l3 : Nat) (w0 : Nat) (f2 : OA) (a2 : Nat) (w3 : OB) (d3 : OA) (j3 : Nat) (z3 : OB) (t : Targets) (l6 : Arr g.b tyU8 i5 d5 c.node.input) (f5 : Arr g.b tyU8 j2 z2 c.node.heard.input) (p6 : Arr g.b tyU8 v3 t3 c.node.set_.in_) (i6 : Arr g.b tyPiece f3 l3 c.sender.pieces) (a5 : Buf g.b (tyArr tyU8) 28 (.slice f2 (c.collector.parts).length a2) w3 c.collector.parts) (j6 : Buf g.b tySett 92 (.slice d3 (c.collector.sets).length j3) z3 c.collector.sets) {r : Comp × Frame × Bool × Int} (hS : o30 c t = some r) :
  Ctr Tryz.prog 30 [vp b_c 0, (aTargets t)] g [some ⟨b_c, 77, [vi c.number, vp w2 0, vp v0 0, vp w0 0, vi c.next_, vi c.cycle, vb c.asked, vi c.want.base, vi c.want.have_]⟩, some ⟨w2, 126, (cNode c.node i5 d5 j2 z2 v3 t3)⟩, some ⟨v0, 130, [vs f3 c.sender.pieces l3]⟩, some ⟨w0, 132, (cColl c.collector f2 a2 d3 j3)⟩, w3, z3] (fun v ψ o => ∃ (t5 : OA) (v5 : Nat) (z4 : OA) (w4 : Nat) (a4 : OA) (z5 : Nat) (j5 : OA) (w5 : Nat) (i4 : OA) (d4 : Nat) (j4 : OB) (v4 : OA) (l4 : Nat) (t4 : OB) (w6 : OA) (z6 : Nat), v = Value.tuple #[(aFrame r.2.1 w6 z6), vb r.2.2.1, vi r.2.2.2] ∧ o = [some ⟨b_c, 77, [vi r.1.number, vp w2 0, vp v0 0, vp w0 0, vi r.1.next_, vi r.1.cycle, vb r.1.asked, vi r.1.want.base, vi r.1.want.have_]⟩, some ⟨w2, 126, (cNode r.1.node t5 v5 z4 w4 a4 z5)⟩, some ⟨v0, 130, [vs j5 r.1.sender.pieces w5]⟩, some ⟨w0, 132, (cColl r.1.collector i4 d4 v4 l4)⟩, j4, t4] ∧ Arr ψ tyU8 t5 v5 r.1.node.input ∧ Arr ψ tyU8 z4 w4 r.1.node.heard.input ∧ Arr ψ tyU8 a4 z5 r.1.node.set_.in_ ∧ Arr ψ tyPiece j5 w5 r.1.sender.pieces ∧ Buf ψ (tyArr tyU8) 28 (.slice i4 (r.1.collector.parts).length d4) j4 r.1.collector.parts ∧ Buf ψ tySett 92 (.slice v4 (r.1.collector.sets).length l4) t4 r.1.collector.sets ∧ Arr ψ tyU8 w6 z6 r.2.1.payload) := by
 unfold o30 at hS
 refine xFn Tryz.f30 (Tryz.f30.body.getD .skip) 26 (xSq (xRg (xE eB ?_)))
 rintro _ _ _ - ⟨b1, rfl, rfl, rfl⟩
 refine xE eB ?_
 rintro _ _ _ - ⟨b2, rfl, rfl, rfl⟩
 refine xb 2 [] [0, 3, 4] (xRe (xW (xSq (xSq (xRg (xb 1 [] [0, 3, 4, 8] (xSel (sm [2, 3, 4, 5, 6, 7, 0, 1]) ?_)))))))
 obtain ⟨y3, hy3, hS⟩ := letJ_T hS
 refine xE (eC 6 (fun g' lr eb ln => c45 g' b_c (⟨c.number, c.node, c.sender, c.collector, c.next_, c.cycle, (c.asked), c.want⟩ : Comp) w2 i5 d5 j2 z2 v3 t3 v0 f3 l3 w0 f2 a2 w3 d3 j3 z3 (4 : Int) (by rw [eb]; exact l6) (by rw [eb]; exact f5) (by rw [eb]; exact p6) (by rw [eb]; exact i6) (by rw [eb]; exact a5) (by rw [eb]; exact j6) hy3)) ?_
 rintro _ g4 _ e5 ⟨_, rfl, d2, v2, z1, w1, f1, l1, l0, f0, j0, i0, i1, d0, p0, t1, rfl, rfl, l5, a3, f4, v1, j1, d1⟩
 refine xb 1 [] [0, 3, 4, 7] (xRe (xW (xSq (xRg (xb 2 [] [0, 3, 4, 7, 11] (xRe (xW ?_)))))))
 refine xCd ((y3.2 != 0)) (fun h6 => ?_) (fun h6 => ?_)
 ·have hS := cond_T h6 hS
  have h6p : ¬ (y3.2 = 0) := ne_of_bne_ h6
  refine xSq (xRg (xbo 5 [(2, 6)] [some ⟨b_c, 77, [vi y3.1.number, vp w2 0, vp v0 0, vp w0 0, vi y3.1.next_, vi y3.1.cycle, vb y3.1.asked, vi y3.1.want.base, vi y3.1.want.have_]⟩, some ⟨w2, 126, (cNode y3.1.node d2 v2 z1 w1 f1 l1)⟩, some ⟨v0, 130, [vs l0 y3.1.sender.pieces f0]⟩, some ⟨w0, 132, (cColl y3.1.collector j0 i0 d0 p0)⟩, i1, t1, some ⟨b2, 49, (cFrame Z5 none 0)⟩, some ⟨b1, 34, (cTargets t)⟩] [4, 5, 6] (xRe (xW ?_))))
  obtain rfl := Option.some.inj hS
  exact xRetC (sm [0, 1, 2, 3, 4, 5]) [(4, 6)] e5 ⟨d2, v2, z1, w1, f1, l1, l0, f0, j0, i0, i1, d0, p0, t1, none, 0, by kernel_rfl, by kernel_rfl, l5, a3, f4, v1, j1, d1, Arr.nil⟩ (fun _ _ h => h)
 ·have hS := cond_F h6 hS
  have h6p : y3.2 = 0 := eq_of_bne_false_ h6
  refine xSk (xW (xc [0, 3, 4] (xSq (xRg (xbo 4 [(3, 0)] [some ⟨b_c, 77, [vi y3.1.number, vp w2 0, vp v0 0, vp w0 0, vi 5, vi y3.1.cycle, vb y3.1.asked, vi y3.1.want.base, vi y3.1.want.have_]⟩, some ⟨w2, 126, (cNode y3.1.node d2 v2 z1 w1 f1 l1)⟩, some ⟨v0, 130, [vs l0 y3.1.sender.pieces f0]⟩, some ⟨w0, 132, (cColl y3.1.collector j0 i0 d0 p0)⟩, i1, t1, some ⟨b2, 49, (cFrame Z5 none 0)⟩, some ⟨b1, 34, (cTargets t)⟩] [0, 3, 4] (xRe (xW (xSq ?_))))))))
  refine xDr 0 [3, 4] [9, 10, 11] [some ⟨b_c, 77, [vi y3.1.number, vp w2 0, vp v0 0, vp w0 0, vi 5, vi y3.1.cycle, vb y3.1.asked, vi y3.1.want.base, vi y3.1.want.have_]⟩, some ⟨v0, 130, [vs l0 y3.1.sender.pieces f0]⟩, some ⟨w0, 132, (cColl y3.1.collector j0 i0 d0 p0)⟩, some ⟨b1, 34, (cTargets t)⟩] 12 (fun RG => ?_) (fun _ _ _ _ _ h => h)
  refine xt 7 [0, 1, 2, 3, 4] [(3, 0), (4, 3)] (sm [0, 2, 3, 7]) [4, 20, 21] RG pR (xSel (sm [1, 0, 2, 3, 4, 5, 6, 7]) ?_)
  obtain ⟨y7, hy7, hS⟩ := bindO_T hS
  refine xO1 (lds := [3, 4]) 5 (xIe (lds := [3, 4]) pR (eC 1 (fun g' lr eb ln => c63 g' w2 y3.1.node d2 v2 z1 w1 f1 l1 t (by rw [eb]; exact l5) (by rw [eb]; exact a3) (by rw [eb]; exact f4) hy7)) ?_)
  rintro _ g8 _ e9 ⟨_, rfl, p7, t7, t6, v6, f6, w7, z7, j7, rfl, rfl, d7, d6, a6, i7⟩
  refine kk (sm [1, 2, 3, 7]) (xt 3 [6, 7, 8] [] (sm [1, 2, 3, 7]) [4, 23, 24, 25] RG e9.r (xO1 (lds := [3, 4]) 9 (xId (lds := [3, 4]) e9.r (eStL b2 0 6) ?_)))
  rintro _ _ _ - ⟨rfl, rfl⟩
  refine kf (xt 0 [10, 11] [] (sm [1, 2, 3, 7]) [4, 5, 6] RG e9.r (xAe (lds := [3, 4]) (xW ?_)))
  have v1 := v1.mono e9.b
  have j1 := j1.mono e9.b
  have d1 := d1.mono e9.b
  obtain rfl := Option.some.inj hS
  exact xRetC (sm [1, 0, 2, 3, 4, 5]) [(4, 6)] (e5.trans e9) ⟨p7, t7, t6, v6, f6, w7, l0, f0, j0, i0, i1, d0, p0, t1, z7, j7, by kernel_rfl, by kernel_rfl, d7, d6, a6, v1, j1, d1, i7⟩ (fun _ _ h => h)

def o102 (r_ : Result) : Option ((List UInt8)) :=
 (bindO (o108 r_.steps (8 : Int)) fun y4 => (grd (decide (0 ≤ r_.targets.lateral ∧ r_.targets.lateral ≤ 255)) (grd (decide (0 ≤ r_.targets.vertical ∧ r_.targets.vertical ≤ 255)) (grd (decide (0 ≤ r_.targets.phase ∧ r_.targets.phase ≤ 255)) (grd (decide (((y4).length + (([(u8 r_.targets.lateral), (u8 r_.targets.vertical), (u8 r_.targets.phase)] : List UInt8)).length) * 1 ≤ 140737488355328)) (bindO (o108 r_.targets.bank (8 : Int)) fun y208 => (grd (decide ((((y4 ++ ([(u8 r_.targets.lateral), (u8 r_.targets.vertical), (u8 r_.targets.phase)] : List UInt8))).length + (y208).length) * 1 ≤ 140737488355328)) (bindO (o108 r_.targets.speed (8 : Int)) fun y213 => (grd (decide (((((y4 ++ ([(u8 r_.targets.lateral), (u8 r_.targets.vertical), (u8 r_.targets.phase)] : List UInt8)) ++ y208)).length + (y213).length) * 1 ≤ 140737488355328)) (bindO (o108 r_.targets.alt (8 : Int)) fun y218 => (grd (decide ((((((y4 ++ ([(u8 r_.targets.lateral), (u8 r_.targets.vertical), (u8 r_.targets.phase)] : List UInt8)) ++ y208) ++ y213)).length + (y218).length) * 1 ≤ 140737488355328)) (bindO (o108 r_.targets.vs (8 : Int)) fun y223 => (grd (decide (((((((y4 ++ ([(u8 r_.targets.lateral), (u8 r_.targets.vertical), (u8 r_.targets.phase)] : List UInt8)) ++ y208) ++ y213) ++ y218)).length + (y223).length) * 1 ≤ 140737488355328)) (some (((((((y4 ++ ([(u8 r_.targets.lateral), (u8 r_.targets.vertical), (u8 r_.targets.phase)] : List UInt8)) ++ y208) ++ y213) ++ y218) ++ y223) : List UInt8))))))))))))))))
theorem c102 (g : Gh) (r_ : Result) {r : (List UInt8)} (hS : o102 r_ = some r) :
  Ctr Tryz.prog 102 [(aResult r_)] g [] (fun v ψ o => ∃ (t3 : OA) (j2 : Nat) (v3 : OB), v = vs t3 r j2 ∧ o = [v3] ∧ Buf ψ tyU8 5 (.slice t3 (r).length j2) v3 r) := by
 unfold o102 at hS
 refine xFn Tryz.f102 (Tryz.f102.body.getD .skip) 38 (xSq (xRg (xE eB ?_)))
 rintro _ _ _ - ⟨b1, rfl, rfl, rfl⟩
 refine xb 1 [] [1] (xRe (xW (xSq (xRg (xb 2 [(1, 0)] [1, 6] (xE eB ?_))))))
 rintro _ _ _ - ⟨b2, rfl, rfl, rfl⟩
 refine xbo 1 [(3, 0)] [some ⟨b2, 34, (cTargets r_.targets)⟩, some ⟨b1, 200, (cResult r_)⟩] [1, 3] (xRe (xW (xSq ?_)))
 refine xDr 0 [1, 4, 6, 8] [11] [some ⟨b2, 34, (cTargets r_.targets)⟩, some ⟨b1, 200, (cResult r_)⟩] 12 (fun RG => ?_) (fun _ _ _ _ _ h => h)
 refine xt 4 [0, 1, 3, 4, 5, 6, 7, 8] [(1, 1), (4, 0), (6, 0), (8, 0)] [some 0, some 1] [3, 8, 11, 13, 15] RG pR ?_
 obtain ⟨y4, hy4, hS⟩ := bindO_T hS
 obtain ⟨q7, hS⟩ := grd_T hS
 have q7p := of_decide_eq_true q7
 obtain ⟨q8, hS⟩ := grd_T hS
 have q8p := of_decide_eq_true q8
 obtain ⟨q9, hS⟩ := grd_T hS
 have q9p := of_decide_eq_true q9
 refine wpa_meet (fun g own sl => ∃ (v0 : OA) (d0 : Nat) (p0 : OB) (A10 : OA) (c10 : Nat) (k10 : OB), own = [k10, p0, some ⟨b2, 34, (cTargets r_.targets)⟩, some ⟨b1, 200, (cResult r_)⟩] ∧ sl = [(3, vp b2 0), (9, vs v0 y4 d0), (16, vs A10 ([(u8 r_.targets.lateral), (u8 r_.targets.vertical), (u8 r_.targets.phase)] : List UInt8) c10)] ∧ Buf g.b tyU8 5 (.slice v0 (y4).length d0) p0 y4 ∧ Buf g.b tyU8 5 (.slice A10 (([(u8 r_.targets.lateral), (u8 r_.targets.vertical), (u8 r_.targets.phase)] : List UInt8)).length c10) k10 ([(u8 r_.targets.lateral), (u8 r_.targets.vertical), (u8 r_.targets.phase)] : List UInt8)) 2 [true, true, true, true, true, true, true, true, true, true, false, false] ?_ (fun hD3 => ?_)
 ·rintro v2 _ _ f1 ⟨v0, d0, p0, A10, c10, k10, rfl, rfl, i0, h10⟩
  have z2 := i0.len
  have z11 := h10.len
  obtain ⟨w10, w5, v4⟩ := h10.srcO (g := v2)
  obtain ⟨p6, hS⟩ := grd_T hS
  have a8 := of_decide_eq_true p6
  refine xO1 (lds := [1, 4, 6, 8]) 10 (xIe (lds := [1, 4, 6, 8]) f1.r (eApp (T := tyU8) (p := v2.b) (et := 5) (bytes := 1) (xs := (y4 : List UInt8)) (ys := (([(u8 r_.targets.lateral), (u8 r_.targets.vertical), (u8 r_.targets.phase)] : List UInt8) : List UInt8)) 1 i0 rfl (fun w hs => v4 0 w _ hs (by kernel_rfl)) w5 (by first | omega | (simp only [List.length_cons, List.length_nil] at *; omega)) (by first | omega | (simp only [List.length_cons, List.length_nil] at *; omega))) ?_)
  rintro _ _ _ - ⟨v10, d11, w11, rfl, rfl, rfl, z1⟩
  refine kk [some 2, some 3] ?_
  have i9 := z1.len
  have a9 : ((y4 ++ ([(u8 r_.targets.lateral), (u8 r_.targets.vertical), (u8 r_.targets.phase)] : List UInt8)) : List UInt8).length = (y4).length + (([(u8 r_.targets.lateral), (u8 r_.targets.vertical), (u8 r_.targets.phase)] : List UInt8)).length := List.length_append
  refine xt 0 [11] [] [some 2, some 3] [3, 4] RG f1.r (xAe (lds := [1, 4, 6, 8]) (xW (xSq (xRg (xb 3 [(2, 2)] [3, 4, 18, 20] ?_)))))
  obtain ⟨w0, z4, hS⟩ := bindO_T hS
  refine xE (eC 0 (fun g' lr eb ln => c108 g' r_.targets.bank (8 : Int) z4)) ?_
  rintro _ f2 _ d3 ⟨_, rfl, p7, l7, i8, rfl, rfl, i1⟩
  have z7 := i1.len
  have z1 := z1.mono d3.b
  obtain ⟨d8, j5, j4⟩ := i1.srcO (g := f2)
  obtain ⟨l6, hS⟩ := grd_T hS
  have t9 := of_decide_eq_true l6
  refine xE (eApp (T := tyU8) (p := f2.b) (et := 5) (bytes := 1) (xs := ((y4 ++ ([(u8 r_.targets.lateral), (u8 r_.targets.vertical), (u8 r_.targets.phase)] : List UInt8)) : List UInt8)) (ys := (w0 : List UInt8)) 2 z1 rfl (fun w hs => j4 0 w _ hs (by kernel_rfl)) j5 (by first | omega | (simp only [List.length_cons, List.length_nil] at *; omega)) (by first | omega | (simp only [List.length_cons, List.length_nil] at *; omega))) ?_
  rintro _ _ _ - ⟨t10, d10, f10, rfl, rfl, rfl, w1⟩
  have v9 := w1.len
  have z10 : (((y4 ++ ([(u8 r_.targets.lateral), (u8 r_.targets.vertical), (u8 r_.targets.phase)] : List UInt8)) ++ w0) : List UInt8).length = ((y4 ++ ([(u8 r_.targets.lateral), (u8 r_.targets.vertical), (u8 r_.targets.phase)] : List UInt8))).length + (w0).length := List.length_append
  refine xb 1 [] [3, 4] (xRe (xW (xSq (xRg (xb 3 [(2, 3)] [3, 4, 23, 25] ?_)))))
  obtain ⟨j0, z5, hS⟩ := bindO_T hS
  refine xE (eC 0 (fun g' lr eb ln => c108 g' r_.targets.speed (8 : Int) z5)) ?_
  rintro _ w3 _ a3 ⟨_, rfl, w8, f7, v7, rfl, rfl, v1⟩
  have i7 := v1.len
  have w1 := w1.mono a3.b
  obtain ⟨p9, d5, f4⟩ := v1.srcO (g := w3)
  obtain ⟨f6, hS⟩ := grd_T hS
  have w9 := of_decide_eq_true f6
  refine xE (eApp (T := tyU8) (p := w3.b) (et := 5) (bytes := 1) (xs := (((y4 ++ ([(u8 r_.targets.lateral), (u8 r_.targets.vertical), (u8 r_.targets.phase)] : List UInt8)) ++ w0) : List UInt8)) (ys := (j0 : List UInt8)) 3 w1 rfl (fun w hs => f4 0 w _ hs (by kernel_rfl)) d5 (by first | omega | (simp only [List.length_cons, List.length_nil] at *; omega)) (by first | omega | (simp only [List.length_cons, List.length_nil] at *; omega))) ?_
  rintro _ _ _ - ⟨l10, i10, p11, rfl, rfl, rfl, f0⟩
  have j10 := f0.len
  have l8 : ((((y4 ++ ([(u8 r_.targets.lateral), (u8 r_.targets.vertical), (u8 r_.targets.phase)] : List UInt8)) ++ w0) ++ j0) : List UInt8).length = (((y4 ++ ([(u8 r_.targets.lateral), (u8 r_.targets.vertical), (u8 r_.targets.phase)] : List UInt8)) ++ w0)).length + (j0).length := List.length_append
  refine xb 1 [] [3, 4] (xRe (xW (xSq (xRg (xb 3 [(2, 4)] [3, 4, 28, 30] ?_)))))
  obtain ⟨l0, l4, hS⟩ := bindO_T hS
  refine xE (eC 0 (fun g' lr eb ln => c108 g' r_.targets.alt (8 : Int) l4)) ?_
  rintro _ j3 _ a2 ⟨_, rfl, a7, p8, t7, rfl, rfl, d1⟩
  have w7 := d1.len
  have f0 := f0.mono a2.b
  obtain ⟨j9, i4, a4⟩ := d1.srcO (g := j3)
  obtain ⟨t6, hS⟩ := grd_T hS
  have f8 := of_decide_eq_true t6
  refine xE (eApp (T := tyU8) (p := j3.b) (et := 5) (bytes := 1) (xs := ((((y4 ++ ([(u8 r_.targets.lateral), (u8 r_.targets.vertical), (u8 r_.targets.phase)] : List UInt8)) ++ w0) ++ j0) : List UInt8)) (ys := (l0 : List UInt8)) 4 f0 rfl (fun w hs => a4 0 w _ hs (by kernel_rfl)) i4 (by first | omega | (simp only [List.length_cons, List.length_nil] at *; omega)) (by first | omega | (simp only [List.length_cons, List.length_nil] at *; omega))) ?_
  rintro _ _ _ - ⟨p10, a10, i11, rfl, rfl, rfl, j1⟩
  have f9 := j1.len
  have z9 : (((((y4 ++ ([(u8 r_.targets.lateral), (u8 r_.targets.vertical), (u8 r_.targets.phase)] : List UInt8)) ++ w0) ++ j0) ++ l0) : List UInt8).length = ((((y4 ++ ([(u8 r_.targets.lateral), (u8 r_.targets.vertical), (u8 r_.targets.phase)] : List UInt8)) ++ w0) ++ j0)).length + (l0).length := List.length_append
  refine xb 1 [] [3, 4] (xRe (xW (xSq (xRg (xb 3 [(2, 5)] [33, 35] ?_)))))
  obtain ⟨w2, i5, hS⟩ := bindO_T hS
  refine xE (eC 0 (fun g' lr eb ln => c108 g' r_.targets.vs (8 : Int) i5)) ?_
  rintro _ l3 _ z3 ⟨_, rfl, j8, z8, d7, rfl, rfl, t1⟩
  have j7 := t1.len
  have j1 := j1.mono z3.b
  obtain ⟨t8, t4, d4⟩ := t1.srcO (g := l3)
  obtain ⟨a5, hS⟩ := grd_T hS
  have l9 := of_decide_eq_true a5
  refine xE (eApp (T := tyU8) (p := l3.b) (et := 5) (bytes := 1) (xs := (((((y4 ++ ([(u8 r_.targets.lateral), (u8 r_.targets.vertical), (u8 r_.targets.phase)] : List UInt8)) ++ w0) ++ j0) ++ l0) : List UInt8)) (ys := (w2 : List UInt8)) 5 j1 rfl (fun w hs => d4 0 w _ hs (by kernel_rfl)) t4 (by first | omega | (simp only [List.length_cons, List.length_nil] at *; omega)) (by first | omega | (simp only [List.length_cons, List.length_nil] at *; omega))) ?_
  rintro _ _ _ - ⟨w6, v5, j6, rfl, rfl, rfl, d2⟩
  have v8 := d2.len
  have d9 : ((((((y4 ++ ([(u8 r_.targets.lateral), (u8 r_.targets.vertical), (u8 r_.targets.phase)] : List UInt8)) ++ w0) ++ j0) ++ l0) ++ w2) : List UInt8).length = (((((y4 ++ ([(u8 r_.targets.lateral), (u8 r_.targets.vertical), (u8 r_.targets.phase)] : List UInt8)) ++ w0) ++ j0) ++ l0)).length + (w2).length := List.length_append
  refine xb 1 [] [2] (xRe (xW ?_))
  obtain rfl := Option.some.inj hS
  exact xRet [some 5] [2] (f1.trans (d3.trans (a3.trans (a2.trans z3)))) ⟨w6, v5, j6, by kernel_rfl, by kernel_rfl, d2⟩ (fun _ _ h => h)
 ·refine xO2 (lds := [1, 4, 6, 8]) 2 9 ?_ ?_
  ·refine xIe (lds := [1, 4, 6, 8]) pR (eC 0 (fun g' lr eb ln => c108 g' r_.steps (8 : Int) hy4)) ?_
   rintro _ d6 _ w4 ⟨_, rfl, v0, d0, p0, rfl, rfl, i0⟩
   refine kk [some 1, some 2] ?_
   have z2 := i0.len
   refine xO1 (lds := [1, 4, 6, 8]) 9 (xIe (lds := [1, 4, 6, 8]) w4.r (eBs (T := tyU8) (p := d6.b) (et := 5) (xs := ([(u8 r_.targets.lateral), (u8 r_.targets.vertical), (u8 r_.targets.phase)] : List UInt8)) (reps_cons (c := [vy r_.targets.lateral]) (u8_rep (by omega)) (reps_cons (c := [vy r_.targets.vertical]) (u8_rep (by omega)) (reps_cons (c := [vy r_.targets.phase]) (u8_rep (by omega)) reps_nil))) (by simp)) ?_)
   rintro _ _ _ - ⟨l5, z6, i6, rfl, rfl, rfl, v6⟩
   refine kk [some 2, some 3] (xc [3, 9, 16] ?_)
   exact hD3 _ _ _ w4 ⟨v0, d0, p0, l5, z6, i6, by kernel_rfl, by kernel_rfl, i0, v6⟩
  ·refine xIe (lds := [1, 4, 6, 8]) pR (eBs (T := tyU8) (p := g.b) (et := 5) (xs := ([(u8 r_.targets.lateral), (u8 r_.targets.vertical), (u8 r_.targets.phase)] : List UInt8)) (reps_cons (c := [vy r_.targets.lateral]) (u8_rep (by omega)) (reps_cons (c := [vy r_.targets.vertical]) (u8_rep (by omega)) (reps_cons (c := [vy r_.targets.phase]) (u8_rep (by omega)) reps_nil))) (by simp)) ?_
   rintro _ _ _ - ⟨t5, a6, f5, rfl, rfl, rfl, l1⟩
   refine kk [some 1, some 2] (xO1 (lds := [1, 4, 6, 8]) 2 (xIe (lds := [1, 4, 6, 8]) pR (eC 0 (fun g' lr eb ln => c108 g' r_.steps (8 : Int) hy4)) ?_))
   rintro _ j11 _ f3 ⟨_, rfl, v0, d0, p0, rfl, rfl, i0⟩
   refine kk [some 2, some 3] ?_
   have z2 := i0.len
   refine xSel (sm [1, 0, 2, 3]) (xc [3, 9, 16] ?_)
   have l1 := l1.mono f3.b
   exact hD3 _ _ _ f3 ⟨v0, d0, p0, t5, a6, f5, by kernel_rfl, by kernel_rfl, i0, l1⟩

def o64 (n : RNode) (t : Targets) : Option (RNode × Frame × Bool × Int) :=
 (cond ((n.stage != 4)) (some ((n, (⟨0, 0, 0, ([] : List UInt8)⟩ : Frame), (false), (8 : Int)))) (cond ((!n.stepped)) (some ((({ n with stage := 5 }), (⟨0, 0, 0, ([] : List UInt8)⟩ : Frame), (false), (0 : Int)))) (bindO (o102 ({ n with targets := t })) fun y7 => (some ((({ n with stage := 5, told := t }), (⟨3, (IntKind.u8.wrap n.number), n.cycle, y7⟩ : Frame), (true), (0 : Int)))))))
theorem c64 (g : Gh) (n : RNode) (p0 : OA) (i0 : Nat) (w0 : OA) (j0 : Nat) (t : Targets) (f0 : Arr g.b tyU8 p0 i0 n.input) (d0 : Arr g.b tyU8 w0 j0 n.heard.input) {r : RNode × Frame × Bool × Int} (hS : o64 n t = some r) :
  Ctr Tryz.prog 64 [(aRNode n p0 i0 w0 j0), (aTargets t)] g [] (fun v ψ o => ∃ (j1 : OA) (i1 : Nat) (v0 : OA) (l0 : Nat) (w1 : OA) (z1 : Nat), v = Value.tuple #[(aRNode r.1 j1 i1 v0 l0), (aFrame r.2.1 w1 z1), vb r.2.2.1, vi r.2.2.2] ∧ o = [] ∧ Arr ψ tyU8 j1 i1 r.1.input ∧ Arr ψ tyU8 v0 l0 r.1.heard.input ∧ Arr ψ tyU8 w1 z1 r.2.1.payload) := by
 unfold o64 at hS
 refine xFn Tryz.f64 (Tryz.f64.body.getD .skip) 33 (xSq (xRg (xE eB ?_)))
 rintro _ _ _ - ⟨b1, rfl, rfl, rfl⟩
 refine xE eB ?_
 rintro _ _ _ - ⟨b2, rfl, rfl, rfl⟩
 refine xE eB ?_
 rintro _ _ _ - ⟨b3, rfl, rfl, rfl⟩
 refine xE eB ?_
 rintro _ _ _ - ⟨b4, rfl, rfl, rfl⟩
 refine xb 2 [] [2, 3, 4, 5] (xRe (xW (xSq (xSq (xRg (xb 3 [(1, 3)] [2, 3, 4, 5, 10] (xRe (xW ?_))))))))
 refine xCd ((n.stage != 4)) (fun h5 => ?_) (fun h5 => ?_)
 ·have hS := cond_T h5 hS
  have h5p : ¬ (n.stage = 4) := ne_of_bne_ h5
  refine xSq (xRg (xbo 6 [(0, 3), (2, 1), (3, 0)] [some ⟨b4, 49, (cFrame Z5 none 0)⟩, some ⟨b3, 36, (cRNode n p0 i0 w0 j0)⟩, some ⟨b2, 34, (cTargets t)⟩, some ⟨b1, 36, (cRNode n p0 i0 w0 j0)⟩] [4, 5, 6, 7] (xRe (xW ?_))))
  obtain rfl := Option.some.inj hS
  exact xRetC [] [(4, 1), (5, 0)] gR ⟨p0, i0, w0, j0, none, 0, by kernel_rfl, by kernel_rfl, f0, d0, Arr.nil⟩ (fun _ _ h => h)
 ·have hS := cond_F h5 hS
  have h5p : n.stage = 4 := eq_of_bne_false_ h5
  refine xSk (xW (xc [2, 3, 4, 5] (xSq (xRg (xbo 2 [(1, 3)] [some ⟨b4, 49, (cFrame Z5 none 0)⟩, some ⟨b3, 36, (cRNode (⟨0, 0, 0, 0, 0, 0, ([] : List UInt8), false, false, (⟨0, 0, (⟨0, 0⟩ : Want), ([] : List UInt8)⟩ : Heard), false, Z0⟩ : RNode) none 0 none 0)⟩, some ⟨b2, 34, (cTargets t)⟩, some ⟨b1, 36, (cRNode ({ n with stage := 5 }) p0 i0 w0 j0)⟩] [2, 3, 4, 5] (xRe (xW (xSq (xSq (xRg (xb 3 [(1, 3)] [2, 3, 4, 5, 16] (xRe (xW ?_)))))))))))))
  refine xCd ((!n.stepped)) (fun h6 => ?_) (fun h6 => ?_)
  ·have hS := cond_T h6 hS
   refine xSq (xRg (xbo 6 [(0, 3), (2, 1), (3, 0)] [some ⟨b4, 49, (cFrame Z5 none 0)⟩, some ⟨b3, 36, (cRNode ({ n with stage := 5 }) p0 i0 w0 j0)⟩, some ⟨b2, 34, (cTargets t)⟩, some ⟨b1, 36, (cRNode ({ n with stage := 5 }) p0 i0 w0 j0)⟩] [4, 5, 6, 7] (xRe (xW ?_))))
   obtain rfl := Option.some.inj hS
   exact xRetC [] [(4, 1), (5, 0)] gR ⟨p0, i0, w0, j0, none, 0, by kernel_rfl, by kernel_rfl, f0, d0, Arr.nil⟩ (fun _ _ h => h)
  ·have hS := cond_F h6 hS
   refine xSk (xW (xc [2, 3, 4, 5] (xSq (xRg (xbo 3 [(0, 2), (2, 3)] [some ⟨b4, 49, (cFrame Z5 none 0)⟩, some ⟨b3, 36, (cRNode (⟨0, 0, 0, 0, 0, 0, ([] : List UInt8), false, false, (⟨0, 0, (⟨0, 0⟩ : Want), ([] : List UInt8)⟩ : Heard), false, Z0⟩ : RNode) none 0 none 0)⟩, some ⟨b2, 34, (cTargets t)⟩, some ⟨b1, 36, (cRNode ({ n with stage := 5, told := t }) p0 i0 w0 j0)⟩] [2, 3, 4, 5] (xRe (xW (xSq ?_))))))))
   refine xDr 0 [0, 2, 5, 7, 8] [13, 14, 15] [some ⟨b2, 34, (cTargets t)⟩, some ⟨b1, 36, (cRNode ({ n with stage := 5, told := t }) p0 i0 w0 j0)⟩] 16 (fun RG => ?_) (fun _ _ _ _ _ h => h)
   refine xt 6 [0, 1, 2, 3, 4, 5, 6, 7, 8, 9] [(0, 1), (2, 1), (5, 1), (7, 1), (8, 0)] [some 2, some 3] [4, 5, 21, 24, 26, 30] RG pR ?_
   obtain ⟨y7, hy7, hS⟩ := bindO_T hS
   refine xO1 (lds := [0, 2, 5, 7, 8]) 10 (xIe (lds := [0, 2, 5, 7, 8]) pR (eC 0 (fun g' lr eb ln => c102 g' ({ n with targets := t }) hy7)) ?_)
   rintro _ g8 _ e9 ⟨_, rfl, v1, t1, l1, rfl, rfl, d1⟩
   refine kk [some 3, some 4] (xt 4 [11] [] [some 3, some 4] [4, 5, 21, 32] RG e9.r (xO1 (lds := [0, 2, 5, 7, 8]) 12 (xId (lds := [0, 2, 5, 7, 8]) e9.r (eStL b3 0 2) ?_)))
   rintro _ _ _ - ⟨rfl, rfl⟩
   refine kk [some 3, some 4] (xO1 (lds := [0, 2, 5, 7, 8]) 13 (xId (lds := [0, 2, 5, 7, 8]) e9.r (eStL b4 0 1) ?_))
   rintro _ _ _ - ⟨rfl, rfl⟩
   refine kf (xt 0 [14, 15] [] [some 3, some 4] [4, 5, 6, 7] RG e9.r (xAe (lds := [0, 2, 5, 7, 8]) (xW ?_)))
   refine wpq_freeze 0 (by kernel_rfl) d1 (fun g10 e11 f12 => ?_)
   have f0 := f0.mono (e9.trans e11).b
   have d0 := d0.mono (e9.trans e11).b
   obtain rfl := Option.some.inj hS
   exact xRetC [] [(4, 2), (5, 1)] (e9.trans e11) ⟨p0, i0, w0, j0, v1, t1, by kernel_rfl, by kernel_rfl, f0, d0, f12⟩ (fun _ _ h => h)

def o31 (c : RComp) (t : Targets) : Option (RComp × Frame × Bool × Int) :=
 (cond ((c.stage != 4)) (some ((c, (⟨0, 0, 0, ([] : List UInt8)⟩ : Frame), (false), (8 : Int)))) (bindO (o64 c.node t) fun y6 => (some ((({ c with node := y6.1, stage := 5 }), y6.2.1, (y6.2.2.1), (0 : Int))))))
theorem c31 (g : Gh) (c : RComp) (j1 : OA) (i1 : Nat) (f0 : OA) (l0 : Nat) (v0 : OA) (d0 : Nat) (w0 : OA) (j0 : Nat) (p0 : OA) (i0 : Nat) (t : Targets) (l3 : Arr g.b tyU8 j1 i1 c.node.input) (w3 : Arr g.b tyU8 f0 l0 c.node.heard.input) (v1 : Arr g.b tyPiece v0 d0 c.sender.pieces) (d1 : Arr g.b (tyArr tyU8) w0 j0 c.collector.parts) (t1 : Arr g.b tySett p0 i0 c.collector.sets) {r : RComp × Frame × Bool × Int} (hS : o31 c t = some r) :
  Ctr Tryz.prog 31 [(aRComp c j1 i1 f0 l0 v0 d0 w0 j0 p0 i0), (aTargets t)] g [] (fun v ψ o => ∃ (v3 : OA) (t3 : Nat) (z2 : OA) (w2 : Nat) (j3 : OA) (d3 : Nat) (j2 : OA) (f2 : Nat) (a2 : OA) (z3 : Nat) (f3 : OA) (a3 : Nat), v = Value.tuple #[(aRComp r.1 v3 t3 z2 w2 j3 d3 j2 f2 a2 z3), (aFrame r.2.1 f3 a3), vb r.2.2.1, vi r.2.2.2] ∧ o = [] ∧ Arr ψ tyU8 v3 t3 r.1.node.input ∧ Arr ψ tyU8 z2 w2 r.1.node.heard.input ∧ Arr ψ tyPiece j3 d3 r.1.sender.pieces ∧ Arr ψ (tyArr tyU8) j2 f2 r.1.collector.parts ∧ Arr ψ tySett a2 z3 r.1.collector.sets ∧ Arr ψ tyU8 f3 a3 r.2.1.payload) := by
 unfold o31 at hS
 refine xFn Tryz.f31 (Tryz.f31.body.getD .skip) 32 (xSq (xRg (xE eB ?_)))
 rintro _ _ _ - ⟨b1, rfl, rfl, rfl⟩
 refine xE eB ?_
 rintro _ _ _ - ⟨b2, rfl, rfl, rfl⟩
 refine xE eB ?_
 rintro _ _ _ - ⟨b3, rfl, rfl, rfl⟩
 refine xE eB ?_
 rintro _ _ _ - ⟨b4, rfl, rfl, rfl⟩
 refine xb 2 [] [2, 3, 4, 5] (xRe (xW (xSq (xSq (xRg (xb 3 [(1, 3)] [2, 3, 4, 5, 14] (xRe (xW ?_))))))))
 refine xCd ((c.stage != 4)) (fun h5 => ?_) (fun h5 => ?_)
 ·have hS := cond_T h5 hS
  have h5p : ¬ (c.stage = 4) := ne_of_bne_ h5
  refine xSq (xRg (xbo 6 [(0, 3), (2, 1), (3, 0)] [some ⟨b4, 49, (cFrame Z5 none 0)⟩, some ⟨b3, 45, (cRComp c j1 i1 f0 l0 v0 d0 w0 j0 p0 i0)⟩, some ⟨b2, 34, (cTargets t)⟩, some ⟨b1, 45, (cRComp c j1 i1 f0 l0 v0 d0 w0 j0 p0 i0)⟩] [4, 5, 6, 7] (xRe (xW ?_))))
  obtain rfl := Option.some.inj hS
  exact xRetC [] [(4, 1), (5, 0)] gR ⟨j1, i1, f0, l0, v0, d0, w0, j0, p0, i0, none, 0, by kernel_rfl, by kernel_rfl, l3, w3, v1, d1, t1, Arr.nil⟩ (fun _ _ h => h)
 ·have hS := cond_F h5 hS
  have h5p : c.stage = 4 := eq_of_bne_false_ h5
  refine xSk (xW (xc [2, 3, 4, 5] (xSq (xRg (xb 3 [(1, 3), (2, 2)] [2, 4, 5, 19, 20] ?_)))))
  obtain ⟨y6, hy6, hS⟩ := bindO_T hS
  refine xE (eC 0 (fun g' lr eb ln => c64 g' c.node j1 i1 f0 l0 t (by rw [eb]; exact l3) (by rw [eb]; exact w3) hy6)) ?_
  rintro _ g7 _ e8 ⟨_, rfl, l1, f1, w1, z1, v2, d2, rfl, rfl, j4, w4, z4⟩
  refine xb 5 [] [2, 4, 5, 22, 23, 24, 25] (xE eB ?_)
  rintro _ _ _ - ⟨b9, rfl, rfl, rfl⟩
  refine xE eB ?_
  rintro _ _ _ - ⟨b10, rfl, rfl, rfl⟩
  refine xbo 4 [(11, 1), (12, 0)] [some ⟨b10, 49, (cFrame y6.2.1 v2 d2)⟩, some ⟨b9, 36, (cRNode y6.1 l1 f1 w1 z1)⟩, some ⟨b4, 49, (cFrame Z5 none 0)⟩, some ⟨b3, 45, (cRComp (⟨(⟨0, 0, 0, 0, 0, 0, ([] : List UInt8), false, false, (⟨0, 0, (⟨0, 0⟩ : Want), ([] : List UInt8)⟩ : Heard), false, Z0⟩ : RNode), Z3, Z4, false, 0⟩ : RComp) none 0 none 0 none 0 none 0 none 0)⟩, some ⟨b2, 34, (cTargets t)⟩, some ⟨b1, 45, (cRComp c j1 i1 f0 l0 v0 d0 w0 j0 p0 i0)⟩] [2, 4, 5, 8, 9, 10] (xRe (xW (xSq (xRg (xbo 5 [(0, 1), (2, 5), (4, 5)] [some ⟨b10, 49, (cFrame y6.2.1 v2 d2)⟩, some ⟨b9, 36, (cRNode y6.1 l1 f1 w1 z1)⟩, some ⟨b4, 49, (cFrame Z5 none 0)⟩, some ⟨b3, 45, (cRComp (⟨(⟨0, 0, 0, 0, 0, 0, ([] : List UInt8), false, false, (⟨0, 0, (⟨0, 0⟩ : Want), ([] : List UInt8)⟩ : Heard), false, Z0⟩ : RNode), Z3, Z4, false, 0⟩ : RComp) none 0 none 0 none 0 none 0 none 0)⟩, some ⟨b2, 34, (cTargets t)⟩, some ⟨b1, 45, (cRComp ({ c with node := y6.1, stage := 5 }) l1 f1 w1 z1 v0 d0 w0 j0 p0 i0)⟩] [2, 4, 5, 9, 10] (xRe (xW (xSq ?_))))))))
  refine xDr 0 [0, 1] [4, 5, 6] [some ⟨b10, 49, (cFrame y6.2.1 v2 d2)⟩, some ⟨b9, 36, (cRNode y6.1 l1 f1 w1 z1)⟩, some ⟨b2, 34, (cTargets t)⟩, some ⟨b1, 45, (cRComp ({ c with node := y6.1, stage := 5 }) l1 f1 w1 z1 v0 d0 w0 j0 p0 i0)⟩] 7 (fun RG => ?_) (fun _ _ _ _ _ h => h)
  refine xt 4 [0, 1, 2] [(0, 3), (1, 0)] (sm [0, 1, 4, 5]) [4, 5, 29, 30, 31] RG pR (xO1 (lds := [0, 1]) 3 (xId (lds := [0, 1]) pR (eStL b3 0 3) ?_))
  rintro _ _ _ - ⟨rfl, rfl⟩
  refine kk (sm [0, 1, 4, 5]) (xO1 (lds := [0, 1]) 4 (xId (lds := [0, 1]) pR (eStL b4 0 2) ?_))
  rintro _ _ _ - ⟨rfl, rfl⟩
  refine kf (xt 0 [5, 6] [] (sm [0, 1, 4, 5]) [4, 5, 6, 7] RG pR (xAe (lds := [0, 1]) (xW ?_)))
  have v1 := v1.mono e8.b
  have d1 := d1.mono e8.b
  have t1 := t1.mono e8.b
  obtain rfl := Option.some.inj hS
  exact xRetC [] [(4, 3), (5, 2)] e8 ⟨l1, f1, w1, z1, v0, d0, w0, j0, p0, i0, v2, d2, by kernel_rfl, by kernel_rfl, j4, w4, v1, d1, t1, z4⟩ (fun _ _ h => h)

def o103 (p : List UInt8) : Option (Result × Int) :=
 (cond (((((p).length : Nat) : Int) != 43)) (some (((⟨0, (⟨0, 0, 0, 0, 0, 0, 0⟩ : Targets)⟩ : Result), (4 : Int)))) (bindO (o98 (p : List UInt8) (8 : Int)) fun y13 => (bindO (o98 ((List.drop 11 p) : List UInt8) (8 : Int)) fun y16 => (bindO (o98 ((List.drop 19 p) : List UInt8) (8 : Int)) fun y19 => (bindO (o98 ((List.drop 27 p) : List UInt8) (8 : Int)) fun y22 => (bindO (o98 ((List.drop 35 p) : List UInt8) (8 : Int)) fun y25 => (some (((⟨y13, (⟨((List.getD p 8 0).toNat : Int), ((List.getD p 9 0).toNat : Int), ((List.getD p 10 0).toNat : Int), y16, y19, y22, y25⟩ : Targets)⟩ : Result), (0 : Int))))))))))
theorem c103 (g : Gh) (p : List UInt8) (Ap : OA) (cp : Nat) (fp : Arr g.r tyU8 Ap cp p) {r : Result × Int} (hS : o103 p = some r) :
  Ctr Tryz.prog 103 [vs Ap p cp] g [] (fun v ψ o => v = Value.tuple #[(aResult r.1), vi r.2] ∧ o = []) := by
 unfold o103 at hS
 refine xFn Tryz.f103 (Tryz.f103.body.getD .skip) 33 ?_
 have nfp := fp.len
 refine xSq (xRg (xE eB ?_))
 rintro _ _ _ - ⟨b1, rfl, rfl, rfl⟩
 refine xb 1 [] [0, 2] (xRe (xW (xSq (xSq (xRg (xb 3 [] [0, 2, 6] (xRe (xW ?_))))))))
 refine xCd (((((p).length : Nat) : Int) != 43)) (fun h2 => ?_) (fun h2 => ?_)
 ·have hS := cond_T h2 hS
  have h2p : ¬ ((((p).length : Nat) : Int) = 43) := ne_of_bne_ h2
  refine xSq (xRg (xbo 3 [(1, 0)] [some ⟨b1, 124, (cResult (⟨0, Z0⟩ : Result))⟩] [2, 3] (xRe (xW ?_))))
  obtain rfl := Option.some.inj hS
  exact xRetC [] [(2, 0)] gR ⟨by kernel_rfl, by kernel_rfl⟩ (fun _ _ h => h)
 ·have hS := cond_F h2 hS
  have h2p : (((p).length : Nat) : Int) = 43 := eq_of_bne_false_ h2
  refine xSk (xW (xc [0, 2] (xSq ?_)))
  refine xDr 0 [4, 7, 10] [25, 23, 26] [] 27 (fun RG => ?_) (fun _ _ _ _ _ h => h)
  have i4 : 8 < (p).length := by omega
  obtain ⟨ad3, cs3, hA3, hr3, hc3⟩ := fp.at_ (get_getD (d := 0) i4)
  have hr3 : cs3 = [vy ((List.getD p 8 0).toNat : Int)] := hr3
  subst hr3
  have nb3 := UInt8.toNat_lt (List.getD p 8 0)
  refine xt 25 [0, 2] [] [] [0, 2, 8, 10] RG pR (xTp 3 RG (fun _ => (qIx 8 1 hA3 rfl i4)) (xTv 4 [] RG pR (qLdP (Addr.add ad3 (8 * 1)) 0 hc3) ?_))
  have i6 : 9 < (p).length := by omega
  obtain ⟨ad5, cs5, hA5, hr5, hc5⟩ := fp.at_ (get_getD (d := 0) i6)
  have hr5 : cs5 = [vy ((List.getD p 9 0).toNat : Int)] := hr5
  subst hr5
  have nb5 := UInt8.toNat_lt (List.getD p 9 0)
  refine xt 22 [5] [] [] [0, 2, 8, 12, 13] RG pR (xTp 6 RG (fun _ => (qIx 9 1 hA5 rfl i6)) (xTv 7 [] RG pR (qLdP (Addr.add ad5 (9 * 1)) 0 hc5) ?_))
  have i8 : 10 < (p).length := by omega
  obtain ⟨ad7, cs7, hA7, hr7, hc7⟩ := fp.at_ (get_getD (d := 0) i8)
  have hr7 : cs7 = [vy ((List.getD p 10 0).toNat : Int)] := hr7
  subst hr7
  have nb7 := UInt8.toNat_lt (List.getD p 10 0)
  refine xt 19 [8] [] [] [0, 2, 8, 12, 15, 16] RG pR (xTp 9 RG (fun _ => (qIx 10 1 hA7 rfl i8)) (xTv 10 [] RG pR (qLdP (Addr.add ad7 (10 * 1)) 0 hc7) ?_))
  have d1 := fp.cap
  have f9 : Arr g.r tyU8 (offA Ap cp 11 1) (cp - 11) (List.drop 11 p) := fp.cut_from 11 (by omega)
  have nf9 := f9.len
  have d0 : (p).length - 11 = ((List.drop 11 p)).length := by simp only [List.length_take, List.length_drop] <;> omega
  have f1 : ((((List.drop 11 p)).length : Nat) : Int) = (((p).length : Nat) : Int) - 11 := by omega
  refine xt 16 [11] [] [] [0, 2, 8, 12, 15, 18, 19] RG pR (xTp 12 RG (fun _ => (qSl (m := 1) (A := Ap) (len := (p).length) (c := cp) 11 (p).length (some 11) none ((List.drop 11 p)).length rfl rfl (by omega) (by omega) d0)) ?_)
  have i1 := fp.cap
  have f10 : Arr g.r tyU8 (offA Ap cp 19 1) (cp - 19) (List.drop 19 p) := fp.cut_from 19 (by omega)
  have z2 := f10.len
  have j0 : (p).length - 19 = ((List.drop 19 p)).length := by simp only [List.length_take, List.length_drop] <;> omega
  have t1 : ((((List.drop 19 p)).length : Nat) : Int) = (((p).length : Nat) : Int) - 19 := by omega
  refine xt 14 [14] [] [] [0, 2, 8, 12, 15, 18, 20, 22] RG pR (xTp 15 RG (fun _ => (qSl (m := 1) (A := Ap) (len := (p).length) (c := cp) 19 (p).length (some 19) none ((List.drop 19 p)).length rfl rfl (by omega) (by omega) j0)) ?_)
  have j1 := fp.cap
  have f11 : Arr g.r tyU8 (offA Ap cp 27 1) (cp - 27) (List.drop 27 p) := fp.cut_from 27 (by omega)
  have w2 := f11.len
  have w0 : (p).length - 27 = ((List.drop 27 p)).length := by simp only [List.length_take, List.length_drop] <;> omega
  have l1 : ((((List.drop 27 p)).length : Nat) : Int) = (((p).length : Nat) : Int) - 27 := by omega
  refine xt 12 [17] [] [] [0, 2, 8, 12, 15, 18, 20, 23, 25] RG pR (xTp 18 RG (fun _ => (qSl (m := 1) (A := Ap) (len := (p).length) (c := cp) 27 (p).length (some 27) none ((List.drop 27 p)).length rfl rfl (by omega) (by omega) w0)) ?_)
  have z1 := fp.cap
  have f12 : Arr g.r tyU8 (offA Ap cp 35 1) (cp - 35) (List.drop 35 p) := fp.cut_from 35 (by omega)
  have j2 := f12.len
  have i0 : (p).length - 35 = ((List.drop 35 p)).length := by simp only [List.length_take, List.length_drop] <;> omega
  have v1 : ((((List.drop 35 p)).length : Nat) : Int) = (((p).length : Nat) : Int) - 35 := by omega
  refine xt 10 [20] [] [] [2, 8, 12, 15, 18, 20, 23, 26, 28] RG pR (xTp 21 RG (fun _ => (qSl (m := 1) (A := Ap) (len := (p).length) (c := cp) 35 (p).length (some 35) none ((List.drop 35 p)).length rfl rfl (by omega) (by omega) i0)) ?_)
  obtain ⟨y13, p0, hS⟩ := bindO_T hS
  refine xO1 (lds := [4, 7, 10]) 1 (xIe (lds := [4, 7, 10]) pR (eC 0 (fun g' lr eb ln => c98 g' (p : List UInt8) Ap cp (8 : Int) (fp.mono lr) p0)) ?_)
  rintro _ g14 _ e15 ⟨_, rfl, rfl, rfl⟩
  refine kk [] ?_
  have f9 := f9.mono e15.r
  obtain ⟨y16, v0, hS⟩ := bindO_T hS
  refine xO1 (lds := [4, 7, 10]) 13 (xIe (lds := [4, 7, 10]) e15.r (eC 0 (fun g' lr eb ln => c98 g' ((List.drop 11 p) : List UInt8) (offA Ap cp 11 1) (cp - 11) (8 : Int) (f9.mono lr) v0)) ?_)
  rintro _ g17 _ e18 ⟨_, rfl, rfl, rfl⟩
  refine kk [] ?_
  have f10 := f10.mono (e15.trans e18).r
  obtain ⟨y19, w1, hS⟩ := bindO_T hS
  refine xO1 (lds := [4, 7, 10]) 16 (xIe (lds := [4, 7, 10]) (e15.trans e18).r (eC 0 (fun g' lr eb ln => c98 g' ((List.drop 19 p) : List UInt8) (offA Ap cp 19 1) (cp - 19) (8 : Int) (f10.mono lr) w1)) ?_)
  rintro _ g20 _ e21 ⟨_, rfl, rfl, rfl⟩
  refine kk [] ?_
  have f11 := f11.mono (e15.trans (e18.trans e21)).r
  obtain ⟨y22, l0, hS⟩ := bindO_T hS
  refine xO1 (lds := [4, 7, 10]) 19 (xIe (lds := [4, 7, 10]) (e15.trans (e18.trans e21)).r (eC 0 (fun g' lr eb ln => c98 g' ((List.drop 27 p) : List UInt8) (offA Ap cp 27 1) (cp - 27) (8 : Int) (f11.mono lr) l0)) ?_)
  rintro _ g23 _ e24 ⟨_, rfl, rfl, rfl⟩
  refine kk [] ?_
  have f12 := f12.mono (e15.trans (e18.trans (e21.trans e24))).r
  obtain ⟨y25, f0, hS⟩ := bindO_T hS
  refine xO1 (lds := [4, 7, 10]) 22 (xIe (lds := [4, 7, 10]) (e15.trans (e18.trans (e21.trans e24))).r (eC 0 (fun g' lr eb ln => c98 g' ((List.drop 35 p) : List UInt8) (offA Ap cp 35 1) (cp - 35) (8 : Int) (f12.mono lr) f0)) ?_)
  rintro _ g26 _ e27 ⟨_, rfl, rfl, rfl⟩
  refine kk [] (xt 2 [23, 24] [] [] [2, 32] RG (e15.trans (e18.trans (e21.trans (e24.trans e27)))).r (xO1 (lds := [4, 7, 10]) 25 (xId (lds := [4, 7, 10]) (e15.trans (e18.trans (e21.trans (e24.trans e27)))).r (eStL b1 0 0) ?_)))
  rintro _ _ _ - ⟨rfl, rfl⟩
  refine kf (xt 0 [26] [] [] [2, 3] RG (e15.trans (e18.trans (e21.trans (e24.trans e27)))).r (xAe (lds := [4, 7, 10]) (xW ?_)))
  obtain rfl := Option.some.inj hS
  exact xRetC [] [(2, 0)] (e15.trans (e18.trans (e21.trans (e24.trans e27)))) ⟨by kernel_rfl, by kernel_rfl⟩ (fun _ _ h => h)

end Go.Proofs.YtnidomdebhekiaaGreat
