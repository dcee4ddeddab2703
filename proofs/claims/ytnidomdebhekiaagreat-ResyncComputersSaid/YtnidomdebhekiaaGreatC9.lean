/-
Walks, printed by wip/gen, with half of their indentation. Conditions: each theorem's own.
-/
import Derived.Test.YtnidomdebhekiaaGreatC8
namespace Go.Proofs.YtnidomdebhekiaaGreat
set_option linter.unusedVariables false
set_option linter.unusedSimpArgs false
open Go.RowKit
set_option maxRecDepth 100000
def o110_L0 (slices : List (List UInt8)) (s12 : (List UInt8) × Nat) : Option (Ctl ((List UInt8) × Nat) ((List UInt8))) :=
 (cond (decide ((s12.2 : Int) < (((slices).length : Nat) : Int))) (grd (decide (((s12.1).length + ((List.getD slices s12.2 [])).length) * 1 ≤ 140737488355328)) (grd (decide ((s12.2 : Int) + 1 ≤ 9223372036854775807)) (some (Ctl.go (((s12.1 ++ (List.getD slices s12.2 [])) : List UInt8), (s12.2 + 1)))))) (some (Ctl.done (s12.1))))
def o110_L1 (slices : List (List UInt8)) (s23 : Nat × Nat) : Option (Ctl (Nat × Nat) (Nat)) :=
 (cond (decide ((s23.2 : Int) < (((slices).length : Nat) : Int))) (grd (decide ((s23.1 : Int) + ((((List.getD slices s23.2 [])).length : Nat) : Int) ≤ 9223372036854775807)) (cond (decide (((s23.1 : Int) + ((((List.getD slices s23.2 [])).length : Nat) : Int)) < 0)) none (grd (decide ((s23.2 : Int) + 1 ≤ 9223372036854775807)) (some (Ctl.go ((s23.1 + ((List.getD slices s23.2 [])).length), (s23.2 + 1))))))) (some (Ctl.done (s23.1))))
def o110 (slices : List (List UInt8)) : Option ((List UInt8)) :=
 (bindO (τ := Nat) (loopO (σ := Nat × Nat) (ρ := Nat) fuelN (o110_L1 slices) (0, 0)) fun t1 => (bindO (o116k (((t1 : Nat) : Int) : Int)) fun y4 => (bindO (τ := (List UInt8)) (loopO (σ := (List UInt8) × Nat) (ρ := (List UInt8)) fuelN (o110_L0 slices) ((y4 : List UInt8), 0)) fun t7 => (some ((t7 : List UInt8))))))
theorem c110 (g : Gh) (slices : List (List UInt8)) (j0 : OA) (i0 : Nat) (w0 : Arr g.r (tyArr tyU8) j0 i0 slices) {r : (List UInt8)} (hS : o110 slices = some r) :
  Ctr Tryz.prog 110 [vs j0 slices i0] g [] (fun v ψ o => ∃ (d1 : OA) (i1 : Nat) (v1 : OB), v = vs d1 r i1 ∧ o = [v1] ∧ Buf ψ tyU8 5 (.slice d1 (r).length i1) v1 r) := by
 unfold o110 at hS
 refine xFn Tryz.f110 (Tryz.f110.body.getD .skip) 36 ?_
 have l3 := w0.len
 refine xSq (xRg (xb 1 [] [0] (xRe (xW (xSq (xRg (xb 1 [] [0, 3] (xRe (xW (xSq (xSq (xRg (xb 3 [] [0, 3, 9, 10, 11] (xRe (xW ?_)))))))))))))))
 refine xBindO hS (fun g own sl t1 => own = [] ∧ sl = [(0, vs j0 slices i0), (3, vi (t1 : Int))]) ?_ ?_
 ·rintro g2 _ _ t1 e3 ⟨rfl, rfl⟩ hS
  refine xW (xSq (xRg (xb 1 [] [0, 23] ?_)))
  obtain ⟨y4, hy4, hS⟩ := bindO_T hS
  refine xE (eC 0 (fun g' lr eb ln => c116k g' ((t1 : Int) : Int) hy4)) ?_
  rintro _ g5 _ e6 ⟨_, rfl, w2, w4, v3, rfl, rfl, l1⟩
  have v4 := l1.len
  refine xb 1 [] [0, 6] (xRe (xW (xSq (xSq (xRg (xb 3 [] [6, 25, 26, 27] (xRe (xW ?_))))))))
  refine xBindO hS (fun g own sl t7 => ∃ (z1 : OA) (w1 : Nat) (f0 : OB), own = [f0] ∧ sl = [(6, vs z1 t7 w1)] ∧ Buf g.b tyU8 5 (.slice z1 (t7).length w1) f0 t7) ?_ ?_
  ·rintro g8 _ _ t7 e9 ⟨z1, w1, f0, rfl, rfl, j1⟩ hS
   have t4 := j1.len
   refine xW (xSq (xRg (xb 2 [] [2] (xRe (xW ?_)))))
   obtain rfl := Option.some.inj hS
   exact xRet [some 0] [2] (e3.trans (e6.trans e9)) ⟨z1, w1, f0, by kernel_rfl, by kernel_rfl, j1⟩ (fun _ _ h => h)
  ·intro uu7 hS hN7
   refine xBl 2 (xc [6, 25, 26, 27] (xLo hS (fun g own sl s12 => ∃ (p0 : OA) (d0 : Nat) (v0 : OB), own = [v0] ∧ sl = [(6, vs p0 s12.1 d0), (25, vs j0 slices i0), (26, vi (((slices).length : Nat) : Int)), (27, vi (s12.2 : Int))] ∧ Buf g.b tyU8 5 (.slice p0 (s12.1).length d0) v0 s12.1) ⟨w2, w4, v3, by kernel_rfl, by kernel_rfl, l1⟩ ?_))
   rintro g13 _ _ s12 l5 e14 ⟨p0, d0, v0, rfl, rfl, l0⟩ hS z5 z2 t3
   have d4 := l0.len
   unfold o110_L0 at hS
   refine xSq (xRg (xb 1 [] [6, 25, 26, 27, 28] (xRe (xW (xSq ?_)))))
   refine xCd (decide ((s12.2 : Int) < (((slices).length : Nat) : Int))) (fun h15 => ?_) (fun h15 => ?_)
   ·have hS := cond_T h15 hS
    have i4 := of_decide_eq_true h15
    refine xSk (xW (xc [6, 25, 26, 27] (xSq (xBl 3 (xSq (xRg ?_))))))
    have w0 := w0.mono (e3.trans (e6.trans e14)).r
    have i17 : s12.2 < (slices).length := by omega
    obtain ⟨j3, w6, j2, a2, z3⟩ := w0.at_ (get_getD (d := []) i17)
    obtain ⟨A16, c16, rfl, f16⟩ := a2
    have l4 := f16.len
    refine xV (qIx s12.2 1 j2 rfl i17) (xV (qLdP (Addr.add j3 (s12.2 * 1)) 0 z3) (xb 1 [] [6, 8, 25, 26, 27] (xRe (xW (xRg (xb 2 [] [6, 25, 26, 27, 31, 32] ?_))))))
    obtain ⟨v5, a3, z4⟩ := f16.srcR
    obtain ⟨q19, hS⟩ := grd_T hS
    have t5 := of_decide_eq_true q19
    refine xE (eApp (T := tyU8) (p := g13.b) (et := 5) (bytes := 1) (xs := s12.1) (ys := ((List.getD slices s12.2 []) : List UInt8)) 0 l0 rfl (fun w hs => z4 w _ hs) (flatU8.reps a3) (by first | omega | (simp only [List.length_cons, List.length_nil] at *; omega)) (by first | omega | (simp only [List.length_cons, List.length_nil] at *; omega))) ?_
    rintro _ _ _ - ⟨A18, c18, k18, rfl, rfl, rfl, h18⟩
    have z6 := h18.len
    have w5 : ((s12.1 ++ (List.getD slices s12.2 [])) : List UInt8).length = (s12.1).length + ((List.getD slices s12.2 [])).length := List.length_append
    refine xb 1 [] [6, 25, 26, 27] (xRe (wpq_blockN (xW (xRg ?_))))
    obtain ⟨q20, hS⟩ := grd_T hS
    have d5 := of_decide_eq_true q20
    refine xV (qAdd .i64 ((s12.2 : Int)) (1) (wr64 (by omega))) (xb 1 [] [6, 25, 26, 27] (xRe (wpq_thenN (xc [6, 25, 26, 27] ?_))))
    have eS := (Option.some.inj hS).symm
    exact z2 _ eS _ _ _ gR ⟨A18, c18, k18, by kernel_rfl, by kernel_rfl, h18⟩
   ·have hS := cond_F h15 hS
    have i4 := of_decide_eq_false h15
    refine xEx 2 (wpq_thenX (wpq_thenX (wpq_blockE (xc [6] ?_))))
    have eS := (Option.some.inj hS).symm
    have eS := (t3 _ eS).symm
    exact hN7 _ eS _ _ _ e14 ⟨p0, d0, v0, by kernel_rfl, by kernel_rfl, l0⟩
 ·intro uu1 hS hN1
  refine xBl 0 (xc [0, 3, 9, 10, 11] (xLo hS (fun g own sl s23 => own = [] ∧ sl = [(0, vs j0 slices i0), (3, vi (s23.1 : Int)), (9, vs j0 slices i0), (10, vi (((slices).length : Nat) : Int)), (11, vi (s23.2 : Int))]) ⟨by kernel_rfl, by kernel_rfl⟩ ?_))
  rintro g24 _ _ s23 a4 e25 ⟨rfl, rfl⟩ hS f4 f2 d3
  unfold o110_L1 at hS
  refine xSq (xRg (xb 1 [] [0, 3, 9, 10, 11, 12] (xRe (xW (xSq ?_)))))
  refine xCd (decide ((s23.2 : Int) < (((slices).length : Nat) : Int))) (fun h26 => ?_) (fun h26 => ?_)
  ·have hS := cond_T h26 hS
   have j4 := of_decide_eq_true h26
   refine xSk (xW (xc [0, 3, 9, 10, 11] (xSq (xBl 1 (xSq (xRg ?_))))))
   have w0 := w0.mono e25.r
   have i28 : s23.2 < (slices).length := by omega
   obtain ⟨d2, i5, f1, v2, f3⟩ := w0.at_ (get_getD (d := []) i28)
   obtain ⟨A27, c27, rfl, f27⟩ := v2
   have a5 := f27.len
   refine xV (qIx s23.2 1 f1 rfl i28) (xV (qLdP (Addr.add d2 (s23.2 * 1)) 0 f3) (xb 1 [] [0, 3, 5, 9, 10, 11] (xRe (xW (xSq (xRg ?_))))))
   obtain ⟨q29, hS⟩ := grd_T hS
   have j5 := of_decide_eq_true q29
   refine xb 3 [] [0, 3, 9, 10, 11, 15, 17] (xV (qAdd .i64 ((s23.1 : Int)) (((((List.getD slices s23.2 [])).length : Nat) : Int)) (wr64 (by omega))) (xb 1 [] [0, 3, 9, 10, 11] (xRe (xW (xSq (xRg (xb 2 [] [0, 3, 9, 10, 11, 20] (xRe (xW ?_)))))))))
   refine xCd (decide (((s23.1 : Int) + ((((List.getD slices s23.2 [])).length : Nat) : Int)) < 0)) (fun h30 => ?_) (fun h30 => ?_)
   ·have hS := cond_T h30 hS
    have w3 := of_decide_eq_true h30
    refine xRg ?_
    cases hS
   ·have hS := cond_F h30 hS
    have w3 := of_decide_eq_false h30
    refine xSk (wpq_blockN (xW (xc [0, 3, 9, 10, 11] (xRg ?_))))
    obtain ⟨q31, hS⟩ := grd_T hS
    have f5 := of_decide_eq_true q31
    refine xV (qAdd .i64 ((s23.2 : Int)) (1) (wr64 (by omega))) (xb 1 [] [0, 3, 9, 10, 11] (xRe (wpq_thenN (xc [0, 3, 9, 10, 11] ?_))))
    have eS := (Option.some.inj hS).symm
    exact f2 _ eS _ _ _ gR ⟨by kernel_rfl, by kernel_rfl⟩
  ·have hS := cond_F h26 hS
   have j4 := of_decide_eq_false h26
   refine xEx 0 (wpq_thenX (wpq_thenX (wpq_blockE (xc [0, 3] ?_))))
   have eS := (Option.some.inj hS).symm
   have eS := (d3 _ eS).symm
   exact hN1 _ eS _ _ _ e25 ⟨by kernel_rfl, by kernel_rfl⟩

def o73_L0 (y4 : (List Sett)) (s21 : (List Sett) × Nat) : Option (Ctl ((List Sett) × Nat) ((List Sett))) :=
 (cond (decide ((s21.2 : Int) < (((y4).length : Nat) : Int))) (grd (decide (s21.2 < (s21.1).length)) (letJ (o43 ((List.getD s21.1 s21.2 default).in_ : List UInt8)) fun y27 => (grd (decide (s21.2 < (s21.1).length)) (grd (decide ((s21.2 : Int) + 1 ≤ 9223372036854775807)) (some (Ctl.go (((List.set s21.1 s21.2 ({ (List.getD s21.1 s21.2 default) with in_ := y27 })) : List Sett), (s21.2 + 1)))))))) (some (Ctl.done (s21.1))))
def o73 (c : Coll) : Option (Job × Bool) :=
 (cond ((((((c.parts).length : Nat) : Int) == 0) || ((((c.parts).length : Nat) : Int) != c.count))) (some (((⟨0, ([] : List UInt8), ([] : List Sett)⟩ : Job), (false)))) (bindO (o109 c.sets) fun y4 => (bindO (τ := (List Sett)) (loopO (σ := (List Sett) × Nat) (ρ := (List Sett)) fuelN (o73_L0 y4) ((y4 : List Sett), 0)) fun t7 => (bindO (o110 (c.parts : List (List UInt8))) fun y10 => (some (((⟨c.base, y10, t7⟩ : Job), (true))))))))
theorem c73 (g : Gh) (a_c : Addr) (c : Coll) (f0 : OA) (w1 : Nat) (j1 : OA) (z1 : Nat) (l0 : Cells g.r a_c (cColl c f0 w1 j1 z1)) (j0 : ArrM g.r g.b (tyArr tyU8) f0 w1 c.parts) (v1 : ArrM g.r g.b tySett j1 z1 c.sets) {r : Job × Bool} (hS : o73 c = some r) :
  Ctr Tryz.prog 73 [Value.pointer (some a_c)] g [] (fun v ψ o => ∃ (i0 : OA) (p0 : Nat) (i1 : OA) (d1 : Nat), v = Value.tuple #[Value.agg #[vi r.1.base, vs i0 r.1.snapshot p0, vs i1 r.1.sets d1], vb r.2] ∧ o = [] ∧ Arr ψ tyU8 i0 p0 r.1.snapshot ∧ Arr ψ tySett i1 d1 r.1.sets) := by
 unfold o73 at hS
 refine xFn Tryz.f73 (Tryz.f73.body.getD .skip) 61 ?_
 have w4 := j0.len
 have i4 := v1.len
 refine xSq (xRg (xE eB ?_))
 rintro _ _ _ - ⟨b1, rfl, rfl, rfl⟩
 refine xb 1 [] [0, 2] (xRe (xW (xSq (xSq ?_))))
 refine xDr 0 [6, 14, 19] [] [some ⟨b1, 110, [vi 0, vS0, vS0]⟩] 22 (fun RG => ?_) (fun _ _ _ _ _ h => h)
 refine xt 16 [0, 1, 2, 3, 4, 5] [] [some 0] [0, 2, 8, 11] RG pR (xTv 6 [some 0] RG pR (qLdP a_c 2 l0) (xt 11 [7, 8, 9, 10] [] [some 0] [0, 2, 16] RG pR ?_))
 refine wpa_grp 0 [true, true, true, true, true, true, true, true, true, true, true, true, true, true, true, true, true, true, true, true, true, true] [(0, Value.pointer (some a_c)), (2, vp b1 0), (27, vb (((((c.parts).length : Nat) : Int) == 0) || ((((c.parts).length : Nat) : Int) != c.count)))] (fun l3 => ?_) ?_
 ·refine wpq_split 16 (b := ((((c.parts).length : Nat) : Int) == 0)) (by kernel_rfl) (fun q2 => ?_) (fun q2 => ?_)
  ·have q2p : (((c.parts).length : Nat) : Int) = 0 := eq_of_beq q2
   refine xt 0 [11, 12, 13, 14, 15, 16, 17, 18, 19, 20, 21] [] [some 0] [0, 2, 27] RG pR (wpq_re 27 (v := vb true) (Value.bool ((((((c.parts).length : Nat) : Int) == 0) || ((((c.parts).length : Nat) : Int) != c.count)))) (by kernel_rfl) (re_or1 q2) ?_)
   exact wpq_sub _ (by kernel_rfl) l3
  ·have q2p : ¬ ((((c.parts).length : Nat) : Int) = 0) := ne_of_beq_false_ q2
   refine xt 8 [11, 12, 13] [] [some 0] [0, 2, 16, 19] RG pR (xTv 14 [some 0] RG pR (qLdP a_c 2 l0) (xt 3 [15, 16, 17, 18] [] [some 0] [0, 2, 16, 21, 24] RG pR (xTv 19 [some 0] RG pR (qLdP a_c 1 l0) (xt 0 [20, 21] [] [some 0] [0, 2, 27] RG pR (wpq_re 27 (v := vb ((((c.parts).length : Nat) : Int) != c.count)) (Value.bool ((((((c.parts).length : Nat) : Int) == 0) || ((((c.parts).length : Nat) : Int) != c.count)))) (by kernel_rfl) (re_or0 q2) ?_)))))
   exact wpq_sub _ (by kernel_rfl) l3
 ·refine xAe (lds := [6, 14, 19]) ?_
  refine xW ?_
  refine xCd ((((((c.parts).length : Nat) : Int) == 0) || ((((c.parts).length : Nat) : Int) != c.count))) (fun h3 => ?_) (fun h3 => ?_)
  ·have hS := cond_T h3 hS
   refine xSq (xRg (xbo 3 [(1, 0)] [some ⟨b1, 110, [vi 0, vS0, vS0]⟩] [2, 3] (xRe (xW ?_))))
   obtain rfl := Option.some.inj hS
   exact xRetC [] [(2, 0)] gR ⟨none, 0, none, 0, by kernel_rfl, by kernel_rfl, Arr.nil, Arr.nil⟩ (fun _ _ h => h)
  ·have hS := cond_F h3 hS
   have h3l := (or_false_ h3).1
   have h3r := (or_false_ h3).2
   have w7 : ¬ ((((c.parts).length : Nat) : Int) = 0) := ne_of_beq_false_ h3l
   have i7 : (((c.parts).length : Nat) : Int) = c.count := eq_of_bne_false_ h3r
   refine xSk (xW (xc [0, 2] (xSq (xRg (xb 3 [] [0, 2, 31] (xV (qLdP a_c 3 l0) ?_))))))
   obtain ⟨y4, hy4, hS⟩ := bindO_T hS
   refine xE (eC 0 (fun g' lr eb ln => c109 g' c.sets j1 z1 (ArrM.lent v1 lr eb) hy4)) ?_
   rintro _ g5 _ e6 ⟨_, rfl, d0, v0, z5, rfl, rfl, d3⟩
   have v6 := d3.len
   refine xb 1 [] [0, 2, 4] (xRe (xW (xSq (xSq (xRg (xb 3 [] [0, 2, 4, 35, 36] (xRe (xW ?_))))))))
   refine xBindO hS (fun g own sl t7 => ∃ (w2 : OB), own = [some ⟨b1, 110, [vi 0, vS0, vS0]⟩, w2] ∧ sl = [(0, Value.pointer (some a_c)), (2, vp b1 0), (4, vs d0 t7 v0)] ∧ Buf g.b tySett 92 (.slice d0 (t7).length v0) w2 t7) ?_ ?_
   ·rintro g8 _ _ t7 e9 ⟨w2, rfl, rfl, f1⟩ hS
    have t6 := f1.len
    refine xW (xSq ?_)
    refine xDr 0 [3, 7] [11, 12] [] 13 (fun RG => ?_) (fun _ _ _ _ _ h => h)
    have l0 := l0.mono (e6.trans e9).r
    refine xt 10 [0, 1, 2] [] [] [0, 2, 4, 52] RG pR (xTv 3 [] RG pR (qLdP a_c 0 l0) (xt 6 [4, 5, 6] [] [] [2, 4, 53, 56] RG pR (xTv 7 [] RG pR (qLdP a_c 2 l0) (xt 4 [9] [] [] [2, 53, 57, 59] RG pR ?_))))
    have j0 := j0.mono (e6.trans e9).r (e6.trans e9).b
    obtain ⟨y10, j4, hS⟩ := bindO_T hS
    refine xO1 (lds := [3, 7]) 8 (xIe (lds := [3, 7]) pR (eC 0 (fun g' lr eb ln => c110 g' (c.parts : List (List UInt8)) f0 w1 ((j0.toArr g8.br).mono lr) j4)) ?_)
    rintro _ g11 _ e12 ⟨_, rfl, a3, f3, p6, rfl, rfl, j2⟩
    refine kk [] ?_
    have j6 := j2.len
    refine xt 2 [10] [] [] [2, 60] RG e12.r (xO1 (lds := [3, 7]) 11 (xId (lds := [3, 7]) e12.r (eStL b1 0 1) ?_))
    rintro _ _ _ - ⟨rfl, rfl⟩
    refine kf (xt 0 [12] [] [] [2, 3] RG e12.r (xAe (lds := [3, 7]) (xW ?_)))
    refine wpq_freeze 0 (by kernel_rfl) j2 (fun g13 e14 f15 => ?_)
    have f1 := f1.mono (e12.trans e14).b
    refine wpq_freeze 2 (by kernel_rfl) f1 (fun g16 e17 f18 => ?_)
    have f15 := f15.mono e17.b
    obtain rfl := Option.some.inj hS
    exact xRetC [] [(2, 1)] (e6.trans (e9.trans (e12.trans (e14.trans e17)))) ⟨a3, f3, d0, v0, by kernel_rfl, by kernel_rfl, f15, f18⟩ (fun _ _ h => h)
   ·intro uu7 hS hN7
    refine xBl 0 (xSel [some 1, some 0] (xc [0, 2, 4, 35, 36] (xLo hS (fun g own sl s21 => ∃ (t1 : OB), own = [some ⟨b1, 110, [vi 0, vS0, vS0]⟩, t1] ∧ sl = [(0, Value.pointer (some a_c)), (2, vp b1 0), (4, vs d0 s21.1 v0), (35, vi (((y4).length : Nat) : Int)), (36, vi (s21.2 : Int))] ∧ Buf g.b tySett 92 (.slice d0 (s21.1).length v0) t1 s21.1) ⟨z5, by kernel_rfl, by kernel_rfl, d3⟩ ?_)))
    rintro g22 _ _ s21 a6 e23 ⟨t1, rfl, rfl, w0⟩ hS z7 i5 w5
    have z6 := w0.len
    unfold o73_L0 at hS
    refine xSq (xRg (xb 1 [] [0, 2, 4, 35, 36, 37] (xRe (xW (xSq ?_)))))
    refine xCd (decide ((s21.2 : Int) < (((y4).length : Nat) : Int))) (fun h24 => ?_) (fun h24 => ?_)
    ·have hS := cond_T h24 hS
     have f5 := of_decide_eq_true h24
     refine xSk (xW (xc [0, 2, 4, 35, 36] (xSq (xBl 1 (xSq (xRg (xb 2 [] [0, 2, 4, 5, 35, 36] (xRe (xW (xRg ?_))))))))))
     obtain ⟨q26, hS⟩ := grd_T hS
     have j3 := of_decide_eq_true q26
     obtain ⟨f4, l6, a4, v5, d4, t4⟩ := w0.open_ j3 default
     obtain ⟨t3, rfl⟩ : ∃ z, z = f4 := ⟨_, rfl⟩
     subst v5
     obtain ⟨a2, z3, rfl, l1⟩ := d4
     have l4 := l1.len
     refine xb 4 [] [0, 2, 4, 35, 36, 39, 40, 41, 42] (xV (qIxB s21.2 4 t3.g a4 rfl j3) (xb 1 [] [0, 2, 4, 35, 36, 39, 40, 44] (xV (qLdB s21.2 4 3 1 t4) ?_)))
     obtain ⟨y27, z4, hS⟩ := letJ_T hS
     refine xE (eC 0 (fun g' lr eb ln => c43 g' ((List.getD s21.1 s21.2 default).in_ : List UInt8) a2 z3 ((l1.mono g22.br).mono lr) z4)) ?_
     rintro _ g28 _ e29 ⟨_, rfl, d2, v2, d6, rfl, rfl, f2⟩
     have i6 := f2.len
     have w0 := w0.mono e29.b
     obtain ⟨q31, hS⟩ := grd_T hS
     have z2 := of_decide_eq_true q31
     obtain ⟨p7, f6, t5, d5, v4, j5⟩ := w0.open_ z2 default
     cases d5
     obtain ⟨w6, a5, rfl, w3⟩ := v4
     have l5 := w3.len
     refine xV (qIxB s21.2 4 t3.g t5 rfl z2) (xb 1 [] [0, 2, 4, 35, 36, 46, 48] ?_)
     refine wpq_freeze 0 (by kernel_rfl) f2 (fun g33 e34 f35 => ?_)
     have w0 := w0.mono e34.b
     refine xD (eStB s21.2 4 3 2 [vs d2 y27 v2] w0 rfl j5 (show tySett.rep _ _ ({ (List.getD s21.1 s21.2 default) with in_ := y27 }) from ⟨d2, v2, rfl, f35⟩) z2) ?_
     rintro _ _ _ - ⟨k32, rfl, rfl, h32⟩
     have v3 : (s21.1).length = ((List.set s21.1 s21.2 ({ (List.getD s21.1 s21.2 default) with in_ := y27 }))).length := by simp
     refine xRe (wpq_blockN (xW (xc [0, 2, 4, 35, 36] (xRg ?_))))
     obtain ⟨q36, hS⟩ := grd_T hS
     have j7 := of_decide_eq_true q36
     refine xV (qAdd .i64 ((s21.2 : Int)) (1) (wr64 (by omega))) (xb 1 [] [0, 2, 4, 35, 36] (xRe (wpq_thenN (wpq_re 4 (v := Value.slice d0 ((s21.1).length) v0) (vs d0 (List.set s21.1 s21.2 ({ (List.getD s21.1 s21.2 default) with in_ := y27 })) v0) (by kernel_rfl) (congrArg (fun z => Value.slice d0 z v0) v3) ?_))))
     have h32 := Buf.re h32 v3 (rfl : (List.set s21.1 s21.2 ({ (List.getD s21.1 s21.2 default) with in_ := y27 })) = _)
     refine xSel [some 1, some 2] (xc [0, 2, 4, 35, 36] ?_)
     have eS := (Option.some.inj hS).symm
     exact i5 _ eS _ _ _ (e29.trans e34) ⟨k32, by kernel_rfl, by kernel_rfl, h32⟩
    ·have hS := cond_F h24 hS
     have f5 := of_decide_eq_false h24
     refine xEx 0 (wpq_thenX (wpq_thenX (wpq_blockE (xc [0, 2, 4] ?_))))
     have eS := (Option.some.inj hS).symm
     have eS := (w5 _ eS).symm
     exact hN7 _ eS _ _ _ e23 ⟨t1, by kernel_rfl, by kernel_rfl, w0⟩

def o74 (n : Node) (steps : Int) : Node × Int :=
 (cond (((n.next_ != 0) || (n.role != 1))) ((n, (8 : Int))) (cond ((decide (steps < 1) || decide (steps > 4611686018427387904))) ((n, (1 : Int))) ((({ n with role := 3, steps := steps }), (0 : Int)))))
theorem c74 (g : Gh) (b_n : Nat) (n : Node) (l0 : OA) (v0 : Nat) (w0 : OA) (j0 : Nat) (p0 : OA) (i0 : Nat) (steps : Int) (d1 : Arr g.b tyU8 l0 v0 n.input) (d0 : Arr g.b tyU8 w0 j0 n.heard.input) (z1 : Arr g.b tyU8 p0 i0 n.set_.in_) {r : Node × Int} (hS : o74 n steps = r) :
  Ctr Tryz.prog 74 [vp b_n 0, vi steps] g [some ⟨b_n, 126, (cNode n l0 v0 w0 j0 p0 i0)⟩] (fun v ψ o => ∃ (t1 : OA) (v1 : Nat) (f0 : OA) (w1 : Nat) (i1 : OA) (j1 : Nat), v = vi r.2 ∧ o = [some ⟨b_n, 126, (cNode r.1 t1 v1 f0 w1 i1 j1)⟩] ∧ Arr ψ tyU8 t1 v1 r.1.input ∧ Arr ψ tyU8 f0 w1 r.1.heard.input ∧ Arr ψ tyU8 i1 j1 r.1.set_.in_) := by
 unfold o74 at hS
 refine xFn Tryz.f74 (Tryz.f74.body.getD .skip) 32 (xSq (xRg (xb 1 [] [0, 1] (xRe (xW (xSq (xSq (xRg (xb 2 [] [0, 1, 6] (xRe (xW (xCf (xSk (xW (xc [0, 1] (xSq (xSq (xRg (xb 6 [(3, 0)] [0, 1, 12] ?_)))))))))))))))))))
 refine wpr_grp 12 [(0, vp b_n 0), (1, vi steps), (18, vb ((n.next_ != 0) || (n.role != 1)))] (fun hk5 => ?_) ?_
 ·refine wpq_split 12 (b := (n.next_ != 0)) (by kernel_rfl) (fun q1 => ?_) (fun q1 => ?_)
  ·have q1p : ¬ (n.next_ = 0) := ne_of_bne_ q1
   refine xb 6 [] [0, 1, 18] (wpq_re 18 (v := vb true) (Value.bool (((n.next_ != 0) || (n.role != 1)))) (by kernel_rfl) (re_or1 q1) ?_)
   exact wpq_sub _ (by kernel_rfl) hk5
  ·have q1p : n.next_ = 0 := eq_of_bne_false_ q1
   refine xb 6 [(9, 0)] [0, 1, 18] (wpq_re 18 (v := vb (n.role != 1)) (Value.bool (((n.next_ != 0) || (n.role != 1)))) (by kernel_rfl) (re_or0 q1) ?_)
   exact wpq_sub _ (by kernel_rfl) hk5
 ·refine xRe ?_
  refine xW ?_
  refine xCd (((n.next_ != 0) || (n.role != 1))) (fun h2 => ?_) (fun h2 => ?_)
  ·have hS := cond_T h2 hS
   refine xSq (xRg (xb 1 [] [4] (xRe (xW ?_))))
   have eS := hS.symm
   subst eS
   exact xRet [some 0] [4] gR ⟨l0, v0, w0, j0, p0, i0, by kernel_rfl, by kernel_rfl, d1, d0, z1⟩ (fun _ _ h => h)
  ·have hS := cond_F h2 hS
   have h2l := (or_false_ h2).1
   have h2r := (or_false_ h2).2
   have f1 : n.next_ = 0 := eq_of_bne_false_ h2l
   have l1 : n.role = 1 := eq_of_bne_false_ h2r
   refine xSk (xW (xc [0, 1] (xSq (xSq (xRg (xb 3 [] [0, 1, 21] ?_))))))
   refine wpr_grp 6 [(0, vp b_n 0), (1, vi steps), (24, vb (decide (steps < 1) || decide (steps > 4611686018427387904)))] (fun hk2 => ?_) ?_
   ·refine wpq_split 21 (b := decide (steps < 1)) (by kernel_rfl) (fun q3 => ?_) (fun q3 => ?_)
    ·have q3p := of_decide_eq_true q3
     refine xb 3 [] [0, 1, 24] (wpq_re 24 (v := vb true) (Value.bool ((decide (steps < 1) || decide (steps > 4611686018427387904)))) (by kernel_rfl) (re_or1 q3) ?_)
     exact wpq_sub _ (by kernel_rfl) hk2
    ·have q3p := of_decide_eq_false q3
     refine xb 3 [] [0, 1, 24] (wpq_re 24 (v := vb (decide (steps > 4611686018427387904))) (Value.bool ((decide (steps < 1) || decide (steps > 4611686018427387904)))) (by kernel_rfl) (re_or0 q3) ?_)
     exact wpq_sub _ (by kernel_rfl) hk2
   ·refine xRe ?_
    refine xW ?_
    refine xCd ((decide (steps < 1) || decide (steps > 4611686018427387904))) (fun h4 => ?_) (fun h4 => ?_)
    ·have hS := cond_T h4 hS
     refine xSq (xRg (xb 1 [] [4] (xRe (xW ?_))))
     have eS := hS.symm
     subst eS
     exact xRet [some 0] [4] gR ⟨l0, v0, w0, j0, p0, i0, by kernel_rfl, by kernel_rfl, d1, d0, z1⟩ (fun _ _ h => h)
    ·have hS := cond_F h4 hS
     refine xSk (xW (xc [0, 1] (xSq (xRg (xbo 9 [(5, 0), (8, 0)] [some ⟨b_n, 126, (cNode ({ n with role := 3, steps := steps }) l0 v0 w0 j0 p0 i0)⟩] [] (xRe (xW (xSq (xRg (xb 1 [] [4] (xRe (xW ?_))))))))))))
     have eS := hS.symm
     subst eS
     exact xRet [some 0] [4] gR ⟨l0, v0, w0, j0, p0, i0, by kernel_rfl, by kernel_rfl, d1, d0, z1⟩ (fun _ _ h => h)

def o36 (c : Comp) (f : Frame) (came : Bool) : Option (Comp × Job × Bool × Int) :=
 (letJ (o45 (⟨c.number, c.node, c.sender, c.collector, c.next_, c.cycle, (c.asked), c.want⟩ : Comp) (7 : Int)) fun y3 => (cond ((y3.2 != 0)) (some (((⟨y3.1.number, y3.1.node, y3.1.sender, y3.1.collector, y3.1.next_, y3.1.cycle, (y3.1.asked), y3.1.want⟩ : Comp), (⟨0, ([] : List UInt8), ([] : List Sett)⟩ : Job), (false), y3.2))) (letJ (o46 (⟨y3.1.number, y3.1.node, y3.1.sender, y3.1.collector, (0 : Int), y3.1.cycle, (y3.1.asked), y3.1.want⟩ : Comp)) fun y7 => (cond ((!y7.2)) (some (((⟨y7.1.number, y7.1.node, y7.1.sender, y7.1.collector, y7.1.next_, y7.1.cycle, (y7.1.asked), y7.1.want⟩ : Comp), (⟨0, ([] : List UInt8), ([] : List Sett)⟩ : Job), (false), (0 : Int)))) (bindO (τ := Coll) (cond ((((came && (f.label == 4)) && (f.from_ == (IntKind.u8.wrap (IntKind.i64.wrap (3 - y7.1.number))))) && (f.cycle == y7.1.cycle))) (bindO (o71 f.payload) fun y33 => (bindO (τ := Coll) (cond ((y33.2 == 0)) (bindO (o72 y7.1.collector y33.1) fun y41 => (some ((y41 : Coll)))) (some (y7.1.collector))) fun t37 => (some ((t37 : Coll))))) (some (y7.1.collector))) fun t14 => (bindO (o73 t14) fun y17 => (letJ (τ := Bool × Node) (cond ((!y17.2)) (true, y7.1.node) (letJ (o74 y7.1.node ((IntKind.i64.wrap (y17.1.base + (((y17.1.sets).length : Nat) : Int))) : Int)) fun y29 => ((y29.2 != 0), y29.1))) fun t21 => (cond (t21.1) (some (((⟨y7.1.number, t21.2, y7.1.sender, t14, y7.1.next_, y7.1.cycle, (y7.1.asked), y7.1.want⟩ : Comp), (⟨0, ([] : List UInt8), ([] : List Sett)⟩ : Job), (false), (0 : Int)))) (letJ (o52 (⟨y7.1.number, t21.2, y7.1.sender, t14, y7.1.next_, y7.1.cycle, (y7.1.asked), y7.1.want⟩ : Comp)) fun y25 => (some (((⟨y25.number, y25.node, y25.sender, y25.collector, y25.next_, y25.cycle, (y25.asked), y25.want⟩ : Comp), y17.1, (true), (0 : Int)))))))))))))
theorem c36 (g : Gh) (b_c : Nat) (c : Comp) (d0 : Nat) (t10 : OA) (d10 : Nat) (i6 : OA) (j6 : Nat) (t7 : OA) (d7 : Nat) (j0 : Nat) (p7 : OA) (i7 : Nat) (w0 : Nat) (t6 : OA) (v6 : Nat) (l6 : OB) (w7 : OA) (a6 : Nat) (f6 : OB) (f : Frame) (i4 : OA) (z4 : Nat) (came : Bool) (a13 : Arr g.b tyU8 t10 d10 c.node.input) (d12 : Arr g.b tyU8 i6 j6 c.node.heard.input) (i13 : Arr g.b tyU8 t7 d7 c.node.set_.in_) (j13 : Arr g.b tyPiece p7 i7 c.sender.pieces) (v12 : Buf g.b (tyArr tyU8) 28 (.slice t6 (c.collector.parts).length v6) l6 c.collector.parts) (f12 : Buf g.b tySett 92 (.slice w7 (c.collector.sets).length a6) f6 c.collector.sets) (f11 : Arr g.r tyU8 i4 z4 f.payload) {r : Comp × Job × Bool × Int} (hS : o36 c f came = some r) :
  Ctr Tryz.prog 36 [vp b_c 0, (aFrame f i4 z4), vb came] g [some ⟨b_c, 77, [vi c.number, vp d0 0, vp j0 0, vp w0 0, vi c.next_, vi c.cycle, vb c.asked, vi c.want.base, vi c.want.have_]⟩, some ⟨d0, 126, (cNode c.node t10 d10 i6 j6 t7 d7)⟩, some ⟨j0, 130, [vs p7 c.sender.pieces i7]⟩, some ⟨w0, 132, (cColl c.collector t6 v6 w7 a6)⟩, l6, f6] (fun v ψ o => ∃ (p11 : OA) (j11 : Nat) (a7 : OA) (w8 : Nat) (w10 : OA) (i10 : Nat) (p10 : OA) (z10 : Nat) (l8 : OA) (d8 : Nat) (p8 : OB) (w9 : OA) (z9 : Nat) (i9 : OB) (j12 : OA) (i12 : Nat) (l13 : OA) (f13 : Nat), v = Value.tuple #[Value.agg #[vi r.2.1.base, vs j12 r.2.1.snapshot i12, vs l13 r.2.1.sets f13], vb r.2.2.1, vi r.2.2.2] ∧ o = [some ⟨b_c, 77, [vi r.1.number, vp d0 0, vp j0 0, vp w0 0, vi r.1.next_, vi r.1.cycle, vb r.1.asked, vi r.1.want.base, vi r.1.want.have_]⟩, some ⟨d0, 126, (cNode r.1.node p11 j11 a7 w8 w10 i10)⟩, some ⟨j0, 130, [vs p10 r.1.sender.pieces z10]⟩, some ⟨w0, 132, (cColl r.1.collector l8 d8 w9 z9)⟩, p8, i9] ∧ Arr ψ tyU8 p11 j11 r.1.node.input ∧ Arr ψ tyU8 a7 w8 r.1.node.heard.input ∧ Arr ψ tyU8 w10 i10 r.1.node.set_.in_ ∧ Arr ψ tyPiece p10 z10 r.1.sender.pieces ∧ Buf ψ (tyArr tyU8) 28 (.slice l8 (r.1.collector.parts).length d8) p8 r.1.collector.parts ∧ Buf ψ tySett 92 (.slice w9 (r.1.collector.sets).length z9) i9 r.1.collector.sets ∧ Arr ψ tyU8 j12 i12 r.2.1.snapshot ∧ Arr ψ tySett l13 f13 r.2.1.sets) := by
 unfold o36 at hS
 refine xFn Tryz.f36 (Tryz.f36.body.getD .skip) 95 (xSq (xRg (xE eB ?_)))
 rintro _ _ _ - ⟨b1, rfl, rfl, rfl⟩
 refine xE eB ?_
 rintro _ _ _ - ⟨b2, rfl, rfl, rfl⟩
 refine xb 2 [] [0, 2, 4, 6] (xRe (xW (xSq (xSq (xRg (xb 1 [] [0, 2, 4, 6, 14] (xSel (sm [2, 3, 4, 5, 6, 7, 0, 1]) ?_)))))))
 obtain ⟨y3, hy3, hS⟩ := letJ_T hS
 refine xE (eC 6 (fun g' lr eb ln => c45 g' b_c (⟨c.number, c.node, c.sender, c.collector, c.next_, c.cycle, (c.asked), c.want⟩ : Comp) d0 t10 d10 i6 j6 t7 d7 j0 p7 i7 w0 t6 v6 l6 w7 a6 f6 (7 : Int) (by rw [eb]; exact a13) (by rw [eb]; exact d12) (by rw [eb]; exact i13) (by rw [eb]; exact j13) (by rw [eb]; exact v12) (by rw [eb]; exact f12) hy3)) ?_
 rintro _ g4 _ e5 ⟨_, rfl, p6, d6, f3, a3, t5, i5, j5, d5, w4, d4, j4, f4, a4, w5, rfl, rfl, i11, v7, a9, j10, j8, j9⟩
 refine xb 1 [] [0, 2, 4, 6, 9] (xRe (xW (xSq (xRg (xb 2 [] [0, 2, 4, 6, 9, 17] (xRe (xW ?_)))))))
 refine xCd ((y3.2 != 0)) (fun h6 => ?_) (fun h6 => ?_)
 ·have hS := cond_T h6 hS
  have h6p : ¬ (y3.2 = 0) := ne_of_bne_ h6
  refine xSq (xRg (xbo 5 [(2, 6)] [some ⟨b_c, 77, [vi y3.1.number, vp d0 0, vp j0 0, vp w0 0, vi y3.1.next_, vi y3.1.cycle, vb y3.1.asked, vi y3.1.want.base, vi y3.1.want.have_]⟩, some ⟨d0, 126, (cNode y3.1.node p6 d6 f3 a3 t5 i5)⟩, some ⟨j0, 130, [vs j5 y3.1.sender.pieces d5]⟩, some ⟨w0, 132, (cColl y3.1.collector w4 d4 f4 a4)⟩, j4, w5, some ⟨b2, 110, [vi 0, vS0, vS0]⟩, some ⟨b1, 49, (cFrame f i4 z4)⟩] [6, 7, 8] (xRe (xW ?_))))
  obtain rfl := Option.some.inj hS
  exact xRetC (sm [0, 1, 2, 3, 4, 5]) [(6, 6)] e5 ⟨p6, d6, f3, a3, t5, i5, j5, d5, w4, d4, j4, f4, a4, w5, none, 0, none, 0, by kernel_rfl, by kernel_rfl, i11, v7, a9, j10, j8, j9, Arr.nil, Arr.nil⟩ (fun _ _ h => h)
 ·have hS := cond_F h6 hS
  have h6p : y3.2 = 0 := eq_of_bne_false_ h6
  refine xSk (xW (xc [0, 2, 4, 6] (xSq (xRg (xbo 4 [(3, 0)] [some ⟨b_c, 77, [vi y3.1.number, vp d0 0, vp j0 0, vp w0 0, vi 0, vi y3.1.cycle, vb y3.1.asked, vi y3.1.want.base, vi y3.1.want.have_]⟩, some ⟨d0, 126, (cNode y3.1.node p6 d6 f3 a3 t5 i5)⟩, some ⟨j0, 130, [vs j5 y3.1.sender.pieces d5]⟩, some ⟨w0, 132, (cColl y3.1.collector w4 d4 f4 a4)⟩, j4, w5, some ⟨b2, 110, [vi 0, vS0, vS0]⟩, some ⟨b1, 49, (cFrame f i4 z4)⟩] [0, 2, 4, 6] (xRe (xW (xSq (xSq (xRg (xb 1 [] [0, 2, 4, 6, 23] ?_)))))))))))
  obtain ⟨y7, hy7, hS⟩ := letJ_T hS
  refine xE (eC 6 (fun g' lr eb ln => c46 g' b_c (⟨y3.1.number, y3.1.node, y3.1.sender, y3.1.collector, (0 : Int), y3.1.cycle, (y3.1.asked), y3.1.want⟩ : Comp) d0 p6 d6 f3 a3 t5 i5 j0 j5 d5 w0 w4 d4 j4 f4 a4 w5 (by rw [eb]; exact i11) (by rw [eb]; exact v7) (by rw [eb]; exact a9) (by rw [eb]; exact j10) (by rw [eb]; exact j8) (by rw [eb]; exact j9) hy7)) ?_
  rintro _ g8 _ e9 ⟨_, rfl, t1, d1, v0, l0, w1, f0, p0, i0, v1, l1, d2, w2, f1, v2, rfl, rfl, w3, i1, z2, j2, z1, j1⟩
  refine xb 1 [] [0, 2, 4, 6, 25] (xRe (xW ?_))
  refine xCd ((!y7.2)) (fun h10 => ?_) (fun h10 => ?_)
  ·have hS := cond_T h10 hS
   refine xSq (xRg (xbo 4 [(1, 6)] [some ⟨b_c, 77, [vi y7.1.number, vp d0 0, vp j0 0, vp w0 0, vi y7.1.next_, vi y7.1.cycle, vb y7.1.asked, vi y7.1.want.base, vi y7.1.want.have_]⟩, some ⟨d0, 126, (cNode y7.1.node t1 d1 v0 l0 w1 f0)⟩, some ⟨j0, 130, [vs p0 y7.1.sender.pieces i0]⟩, some ⟨w0, 132, (cColl y7.1.collector v1 l1 w2 f1)⟩, d2, v2, some ⟨b2, 110, [vi 0, vS0, vS0]⟩, some ⟨b1, 49, (cFrame f i4 z4)⟩] [6, 7, 8] (xRe (xW ?_))))
   obtain rfl := Option.some.inj hS
   exact xRetC (sm [0, 1, 2, 3, 4, 5]) [(6, 6)] (e5.trans e9) ⟨t1, d1, v0, l0, w1, f0, p0, i0, v1, l1, d2, w2, f1, v2, none, 0, none, 0, by kernel_rfl, by kernel_rfl, w3, i1, z2, j2, z1, j1, Arr.nil, Arr.nil⟩ (fun _ _ h => h)
  ·have hS := cond_F h10 hS
   refine xSk (xW (xc [0, 2, 4, 6] (xSq (xSq ?_))))
   refine xDr 0 [3, 8, 12, 19, 23] [] [some ⟨b_c, 77, [vi y7.1.number, vp d0 0, vp j0 0, vp w0 0, vi y7.1.next_, vi y7.1.cycle, vb y7.1.asked, vi y7.1.want.base, vi y7.1.want.have_]⟩, some ⟨d0, 126, (cNode y7.1.node t1 d1 v0 l0 w1 f0)⟩, some ⟨j0, 130, [vs p0 y7.1.sender.pieces i0]⟩, some ⟨w0, 132, (cColl y7.1.collector v1 l1 w2 f1)⟩, some ⟨b2, 110, [vi 0, vS0, vS0]⟩, some ⟨b1, 49, (cFrame f i4 z4)⟩] 26 (fun RG => ?_) (fun _ _ _ _ _ h => h)
   refine xt 24 [0, 1] [] (sm [0, 1, 2, 3, 6, 7]) [0, 4, 6, 28] RG pR ?_
   refine wpa_grp 20 [true, true, true, true, true, true, false, false, false, false, false, false, false, false, false, false, false, false, false, false, false, false, false, false, false, false] [(0, vp b_c 0), (4, vp b1 0), (6, vp b2 0), (32, vb (came && (f.label == 4)))] (fun hk1 => ?_) ?_
   ·refine wpq_split 28 (b := came) (by kernel_rfl) (fun q11 => ?_) (fun q11 => ?_)
    ·refine xt 20 [2, 3, 4, 5] [(3, 5)] (sm [0, 1, 2, 3, 6, 7]) [0, 4, 6, 32] RG pR ?_
     refine wpq_re 32 (v := vb (f.label == 4)) (Value.bool ((came && (f.label == 4)))) (by kernel_rfl) (re_and1 q11) ?_
     exact wpq_sub _ (by kernel_rfl) hk1
    ·refine xt 20 [2, 3, 4, 5] [] (sm [0, 1, 2, 3, 6, 7]) [0, 4, 6, 32] RG pR ?_
     refine wpq_re 32 (v := vb false) (Value.bool ((came && (f.label == 4)))) (by kernel_rfl) (re_and0 q11) ?_
     exact wpq_sub _ (by kernel_rfl) hk1
   ·refine xt 19 [6] [] (sm [0, 1, 2, 3, 6, 7]) [0, 4, 6, 33] RG pR ?_
    refine wpa_grp 9 [true, true, true, true, true, true, true, true, true, true, true, true, true, true, true, true, true, false, false, false, false, false, false, false, false, false] [(0, vp b_c 0), (4, vp b1 0), (6, vp b2 0), (43, vb ((came && (f.label == 4)) && (f.from_ == (IntKind.u8.wrap (IntKind.i64.wrap (3 - y7.1.number))))))] (fun hk6 => ?_) ?_
    ·refine wpq_split 33 (b := (came && (f.label == 4))) (by kernel_rfl) (fun q12 => ?_) (fun q12 => ?_)
     ·have p17 := (and_true_ q12).1
      have z16 := (and_true_ q12).2
      have z17 : f.label = 4 := eq_of_beq z16
      refine xt 9 [7, 8, 9, 10, 11, 12, 13, 14, 15, 16] [(8, 5), (12, 0)] (sm [0, 1, 2, 3, 6, 7]) [0, 4, 6, 43] RG pR (wpq_re 43 (v := vb (f.from_ == (IntKind.u8.wrap (IntKind.i64.wrap (3 - y7.1.number))))) (Value.bool (((came && (f.label == 4)) && (f.from_ == (IntKind.u8.wrap (IntKind.i64.wrap (3 - y7.1.number))))))) (by kernel_rfl) (re_and1 q12) ?_)
      exact wpq_sub _ (by kernel_rfl) hk6
     ·refine xt 9 [7, 8, 9, 10, 11, 12, 13, 14, 15, 16] [] (sm [0, 1, 2, 3, 6, 7]) [0, 4, 6, 43] RG pR ?_
      refine wpq_re 43 (v := vb false) (Value.bool (((came && (f.label == 4)) && (f.from_ == (IntKind.u8.wrap (IntKind.i64.wrap (3 - y7.1.number))))))) (by kernel_rfl) (re_and0 q12) ?_
      exact wpq_sub _ (by kernel_rfl) hk6
    ·refine xt 8 [17] [] (sm [0, 1, 2, 3, 6, 7]) [0, 4, 6, 44] RG pR ?_
     refine wpa_grp 0 [true, true, true, true, true, true, true, true, true, true, true, true, true, true, true, true, true, true, true, true, true, true, true, true, true, true] [(0, vp b_c 0), (4, vp b1 0), (6, vp b2 0), (52, vb (((came && (f.label == 4)) && (f.from_ == (IntKind.u8.wrap (IntKind.i64.wrap (3 - y7.1.number))))) && (f.cycle == y7.1.cycle)))] (fun t15 => ?_) ?_
     ·refine wpq_split 44 (b := ((came && (f.label == 4)) && (f.from_ == (IntKind.u8.wrap (IntKind.i64.wrap (3 - y7.1.number)))))) (by kernel_rfl) (fun q13 => ?_) (fun q13 => ?_)
      ·have i16 := (and_true_ q13).1
       have j16 := (and_true_ q13).2
       have f15 := (and_true_ i16).2
       have a16 : f.label = 4 := eq_of_beq f15
       have i17 : f.from_ = (IntKind.u8.wrap (IntKind.i64.wrap (3 - y7.1.number))) := eq_of_beq j16
       refine xt 0 [18, 19, 20, 21, 22, 23, 24, 25] [(19, 5), (23, 0)] (sm [0, 1, 2, 3, 6, 7]) [0, 4, 6, 52] RG pR (wpq_re 52 (v := vb (f.cycle == y7.1.cycle)) (Value.bool ((((came && (f.label == 4)) && (f.from_ == (IntKind.u8.wrap (IntKind.i64.wrap (3 - y7.1.number))))) && (f.cycle == y7.1.cycle)))) (by kernel_rfl) (re_and1 q13) ?_)
       exact wpq_sub _ (by kernel_rfl) t15
      ·refine xt 0 [18, 19, 20, 21, 22, 23, 24, 25] [] (sm [0, 1, 2, 3, 6, 7]) [0, 4, 6, 52] RG pR ?_
       refine wpq_re 52 (v := vb false) (Value.bool ((((came && (f.label == 4)) && (f.from_ == (IntKind.u8.wrap (IntKind.i64.wrap (3 - y7.1.number))))) && (f.cycle == y7.1.cycle)))) (by kernel_rfl) (re_and0 q13) ?_
       exact wpq_sub _ (by kernel_rfl) t15
     ·refine xAe (lds := [3, 8, 12, 19, 23]) ?_
      refine xW ?_
      refine xBindO hS (fun g own sl t14 => ∃ (f2 : OA) (a2 : Nat) (t4 : OB) (j3 : OA) (z3 : Nat) (z5 : OB), own = [some ⟨w0, 132, (cColl t14 f2 a2 j3 z3)⟩, some ⟨b_c, 77, [vi y7.1.number, vp d0 0, vp j0 0, vp w0 0, vi y7.1.next_, vi y7.1.cycle, vb y7.1.asked, vi y7.1.want.base, vi y7.1.want.have_]⟩, some ⟨d0, 126, (cNode y7.1.node t1 d1 v0 l0 w1 f0)⟩, some ⟨j0, 130, [vs p0 y7.1.sender.pieces i0]⟩, some ⟨b2, 110, [vi 0, vS0, vS0]⟩, t4, z5] ∧ sl = [(0, vp b_c 0), (6, vp b2 0)] ∧ Buf g.b (tyArr tyU8) 28 (.slice f2 (t14.parts).length a2) t4 t14.parts ∧ Buf g.b tySett 92 (.slice j3 (t14.sets).length z3) z5 t14.sets) ?_ ?_
      ·rintro g15 _ _ t14 e16 ⟨f2, a2, t4, j3, z3, z5, rfl, rfl, v5, f5⟩ hS
       refine xW (xSq (xRg (xb 4 [(3, 1)] [0, 6, 71] ?_)))
       obtain ⟨y17, p16, hS⟩ := bindO_T hS
       refine xE (eC 0 (fun g' lr eb ln => c73 g' ⟨w0, 0, none⟩ t14 f2 a2 j3 z3 (cells_lent' 0 w0 0 (cColl t14 f2 a2 j3 z3) ln) (arrm_of_buf v5 eb (lentk 5 (by kernel_rfl) ln)) (arrm_of_buf f5 eb (lentk 6 (by kernel_rfl) ln)) p16)) ?_
       rintro _ g18 _ e19 ⟨_, rfl, v3, l3, l5, a5, rfl, rfl, t9, z12⟩
       refine xb 3 [] [0, 6, 73, 74] (xE eB ?_)
       rintro _ _ _ - ⟨b20, rfl, rfl, rfl⟩
       refine xbo 2 [(9, 0)] [some ⟨b20, 110, [vi y17.1.base, vs v3 y17.1.snapshot l3, vs l5 y17.1.sets a5]⟩, some ⟨w0, 132, (cColl t14 f2 a2 j3 z3)⟩, some ⟨b_c, 77, [vi y7.1.number, vp d0 0, vp j0 0, vp w0 0, vi y7.1.next_, vi y7.1.cycle, vb y7.1.asked, vi y7.1.want.base, vi y7.1.want.have_]⟩, some ⟨d0, 126, (cNode y7.1.node t1 d1 v0 l0 w1 f0)⟩, some ⟨j0, 130, [vs p0 y7.1.sender.pieces i0]⟩, some ⟨b2, 110, [vi 0, vS0, vS0]⟩, t4, z5] [0, 6, 12, 13] (xRe (xW (xSq (xSq ?_))))
       refine xDr 0 [6, 8, 10] [] [some ⟨b20, 110, [vi y17.1.base, vs v3 y17.1.snapshot l3, vs l5 y17.1.sets a5]⟩, some ⟨w0, 132, (cColl t14 f2 a2 j3 z3)⟩, some ⟨b_c, 77, [vi y7.1.number, vp d0 0, vp j0 0, vp w0 0, vi y7.1.next_, vi y7.1.cycle, vb y7.1.asked, vi y7.1.want.base, vi y7.1.want.have_]⟩, some ⟨j0, 130, [vs p0 y7.1.sender.pieces i0]⟩, some ⟨b2, 110, [vi 0, vS0, vS0]⟩] 16 (fun RG => ?_) (fun _ _ _ _ _ h => h)
       refine xt 13 [0, 1, 2] [] (sm [0, 1, 2, 4, 5]) [0, 6, 12, 77] RG pR ?_
       refine xGJlA hS 0 [true, true, true, true, true, true, true, true, true, true, true, true, true, true, true, true] (fun g own sl t21 => ∃ (z6 : OA) (w6 : Nat) (t3 : OA) (d3 : Nat) (l4 : OA) (v4 : Nat), own = [some ⟨d0, 126, (cNode t21.2 z6 w6 t3 d3 l4 v4)⟩, some ⟨b20, 110, [vi y17.1.base, vs v3 y17.1.snapshot l3, vs l5 y17.1.sets a5]⟩, some ⟨w0, 132, (cColl t14 f2 a2 j3 z3)⟩, some ⟨b_c, 77, [vi y7.1.number, vp d0 0, vp j0 0, vp w0 0, vi y7.1.next_, vi y7.1.cycle, vb y7.1.asked, vi y7.1.want.base, vi y7.1.want.have_]⟩, some ⟨j0, 130, [vs p0 y7.1.sender.pieces i0]⟩, some ⟨b2, 110, [vi 0, vS0, vS0]⟩, t4, z5] ∧ sl = [(0, vp b_c 0), (6, vp b2 0), (12, vp b20 0), (90, vb t21.1)] ∧ Arr g.b tyU8 z6 w6 t21.2.input ∧ Arr g.b tyU8 t3 d3 t21.2.heard.input ∧ Arr g.b tyU8 l4 v4 t21.2.set_.in_) ?_ ?_
       ·rintro g22 _ _ t21 e23 ⟨z6, w6, t3, d3, l4, v4, rfl, rfl, z13, v10, v11⟩ hS
        refine xAe (lds := [6, 8, 10]) (xW ?_)
        refine xCd (t21.1) (fun h24 => ?_) (fun h24 => ?_)
        ·have hS := cond_T h24 hS
         refine xSq (xRg (xbo 4 [(1, 5)] [some ⟨d0, 126, (cNode t21.2 z6 w6 t3 d3 l4 v4)⟩, some ⟨b20, 110, [vi y17.1.base, vs v3 y17.1.snapshot l3, vs l5 y17.1.sets a5]⟩, some ⟨w0, 132, (cColl t14 f2 a2 j3 z3)⟩, some ⟨b_c, 77, [vi y7.1.number, vp d0 0, vp j0 0, vp w0 0, vi y7.1.next_, vi y7.1.cycle, vb y7.1.asked, vi y7.1.want.base, vi y7.1.want.have_]⟩, some ⟨j0, 130, [vs p0 y7.1.sender.pieces i0]⟩, some ⟨b2, 110, [vi 0, vS0, vS0]⟩, t4, z5] [6, 7, 8] (xRe (xW ?_))))
         have j2 := j2.mono (e16.trans (e19.trans e23)).b
         have v5 := v5.mono (e19.trans e23).b
         have f5 := f5.mono (e19.trans e23).b
         obtain rfl := Option.some.inj hS
         exact xRetC (sm [3, 0, 4, 2, 6, 7]) [(6, 5)] (e5.trans (e9.trans (e16.trans (e19.trans e23)))) ⟨z6, w6, t3, d3, l4, v4, p0, i0, f2, a2, t4, j3, z3, z5, none, 0, none, 0, by kernel_rfl, by kernel_rfl, z13, v10, v11, j2, v5, f5, Arr.nil, Arr.nil⟩ (fun _ _ h => h)
        ·have hS := cond_F h24 hS
         refine xSk (xW (xc [0, 6, 12] (xSq (xRg (xb 1 [] [6, 12, 92] (xSel (sm [3, 0, 4, 2, 6, 7, 1, 5]) ?_))))))
         have j2 := j2.mono (e16.trans (e19.trans e23)).b
         have v5 := v5.mono (e19.trans e23).b
         have f5 := f5.mono (e19.trans e23).b
         obtain ⟨y25, v16, hS⟩ := letJ_T hS
         refine xE (eC 6 (fun g' lr eb ln => c52 g' b_c (⟨y7.1.number, t21.2, y7.1.sender, t14, y7.1.next_, y7.1.cycle, (y7.1.asked), y7.1.want⟩ : Comp) d0 z6 w6 t3 d3 l4 v4 j0 p0 i0 w0 f2 a2 t4 j3 z3 z5 (by rw [eb]; exact z13) (by rw [eb]; exact v10) (by rw [eb]; exact v11) (by rw [eb]; exact j2) (by rw [eb]; exact v5) (by rw [eb]; exact f5) v16)) ?_
         rintro _ g26 _ e27 ⟨_, rfl, w11, z11, j7, z7, a8, d9, f8, p9, f7, z8, l7, v8, t8, i8, rfl, rfl, p13, d11, p12, t12, t11, l11⟩
         refine xRe (xW (xc [6, 12] (xSq (xRg (xbo 4 [(0, 6), (1, 7)] [some ⟨b_c, 77, [vi y25.number, vp d0 0, vp j0 0, vp w0 0, vi y25.next_, vi y25.cycle, vb y25.asked, vi y25.want.base, vi y25.want.have_]⟩, some ⟨d0, 126, (cNode y25.node w11 z11 j7 z7 a8 d9)⟩, some ⟨j0, 130, [vs f8 y25.sender.pieces p9]⟩, some ⟨w0, 132, (cColl y25.collector f7 z8 v8 t8)⟩, l7, i8, some ⟨b20, 110, [vi y17.1.base, vs v3 y17.1.snapshot l3, vs l5 y17.1.sets a5]⟩, some ⟨b2, 110, [vi y17.1.base, vs v3 y17.1.snapshot l3, vs l5 y17.1.sets a5]⟩] [6, 7, 8] (xRe (xW ?_)))))))
         have t9 := t9.mono (e23.trans e27).b
         have z12 := z12.mono (e23.trans e27).b
         obtain rfl := Option.some.inj hS
         exact xRetC (sm [0, 1, 2, 3, 4, 5]) [(6, 7)] (e5.trans (e9.trans (e16.trans (e19.trans (e23.trans e27))))) ⟨w11, z11, j7, z7, a8, d9, f8, p9, f7, z8, l7, v8, t8, i8, v3, l3, l5, a5, by kernel_rfl, by kernel_rfl, p13, d11, p12, t12, t11, l11, t9, z12⟩ (fun _ _ h => h)
       ·intro uu21 hS hN21
        refine wpq_split 77 (b := (!y17.2)) (by kernel_rfl) (fun q28 => ?_) (fun q28 => ?_)
        ·have hS := cond_T q28 hS
         refine xt 3 [3, 4, 5, 6, 7, 8, 9, 10, 11, 12] [] (sm [0, 1, 2, 4, 5]) [0, 6, 12, 77, 81, 87] RG pR (xO1 (lds := [6, 8, 10]) 13 (xIb (lds := [6, 8, 10]) [] (xt 0 [14, 15] [] (sm [0, 1, 2, 4, 5]) [0, 6, 12, 90] RG pR ?_)))
         have w3 := w3.mono (e16.trans e19).b
         have i1 := i1.mono (e16.trans e19).b
         have z2 := z2.mono (e16.trans e19).b
         refine xSel (sm [3, 0, 1, 2, 4, 5, 6, 7]) (xc [0, 6, 12, 90] ?_)
         exact hN21 _ hS.symm _ _ _ gR ⟨t1, d1, v0, l0, w1, f0, by kernel_rfl, by kernel_rfl, w3, i1, z2⟩
        ·have hS := cond_F q28 hS
         refine xt 3 [3, 4, 5, 6, 7, 8, 9, 10, 11, 12] [(6, 2), (8, 0), (10, 0)] (sm [0, 1, 2, 4, 5]) [0, 6, 12, 77, 81, 87] RG pR (xSel (sm [3, 0, 1, 2, 4, 5, 6, 7]) ?_)
         have w3 := w3.mono (e16.trans e19).b
         have i1 := i1.mono (e16.trans e19).b
         have z2 := z2.mono (e16.trans e19).b
         obtain ⟨y29, d16, hS⟩ := letJ_T hS
         refine xO1 (lds := [6, 8, 10]) 13 (xIe (lds := [6, 8, 10]) pR (eC 1 (fun g' lr eb ln => c74 g' d0 y7.1.node t1 d1 v0 l0 w1 f0 ((IntKind.i64.wrap (y17.1.base + (((y17.1.sets).length : Nat) : Int))) : Int) (by rw [eb]; exact w3) (by rw [eb]; exact i1) (by rw [eb]; exact z2) d16)) ?_)
         rintro _ g30 _ e31 ⟨_, rfl, p14, d14, l12, w13, v13, t13, rfl, rfl, i14, a12, d13⟩
         refine kk (sm [1, 2, 3, 4, 5]) (xt 0 [14, 15] [] (sm [1, 2, 3, 4, 5]) [0, 6, 12, 90] RG e31.r (xc [0, 6, 12, 90] ?_))
         exact hN21 _ hS.symm _ _ _ e31 ⟨p14, d14, l12, w13, v13, t13, by kernel_rfl, by kernel_rfl, i14, a12, d13⟩
      ·intro uu14 hS hN14
       refine xCd ((((came && (f.label == 4)) && (f.from_ == (IntKind.u8.wrap (IntKind.i64.wrap (3 - y7.1.number))))) && (f.cycle == y7.1.cycle))) (fun h32 => ?_) (fun h32 => ?_)
       ·have hS := cond_T h32 hS
        have p15 := (and_true_ h32).1
        have a15 := (and_true_ h32).2
        have l15 := (and_true_ p15).1
        have v15 := (and_true_ p15).2
        have d15 := (and_true_ l15).2
        have f16 : f.label = 4 := eq_of_beq d15
        have w17 : f.from_ = (IntKind.u8.wrap (IntKind.i64.wrap (3 - y7.1.number))) := eq_of_beq v15
        have j17 : f.cycle = y7.1.cycle := eq_of_beq a15
        refine xSq (xRg (xb 2 [(1, 7)] [0, 6, 55] ?_))
        have f11 := f11.mono (e5.trans e9).r
        obtain ⟨y33, l16, hS⟩ := bindO_T hS
        refine xE (eC 0 (fun g' lr eb ln => c71 g' f.payload i4 z4 (f11.mono lr) l16)) ?_
        rintro _ g34 _ e35 ⟨_, rfl, a11, w12, rfl, rfl, z15⟩
        refine xb 3 [] [0, 6, 57, 58] (xE eB ?_)
        rintro _ _ _ - ⟨b36, rfl, rfl, rfl⟩
        refine xbo 2 [(7, 0)] [some ⟨b36, 67, (cPiece y33.1 a11 w12)⟩, some ⟨b_c, 77, [vi y7.1.number, vp d0 0, vp j0 0, vp w0 0, vi y7.1.next_, vi y7.1.cycle, vb y7.1.asked, vi y7.1.want.base, vi y7.1.want.have_]⟩, some ⟨d0, 126, (cNode y7.1.node t1 d1 v0 l0 w1 f0)⟩, some ⟨j0, 130, [vs p0 y7.1.sender.pieces i0]⟩, some ⟨w0, 132, (cColl y7.1.collector v1 l1 w2 f1)⟩, d2, v2, some ⟨b2, 110, [vi 0, vS0, vS0]⟩, some ⟨b1, 49, (cFrame f i4 z4)⟩] [0, 6, 10, 11] (xRe (xW (xSq (xRg (xb 2 [] [0, 6, 10, 60] (xRe (xW ?_)))))))
        refine xBindO hS (fun g own sl t37 => ∃ (v9 : OA) (l9 : Nat) (f9 : OB) (f10 : OA) (a10 : Nat) (l10 : OB), own = [some ⟨w0, 132, (cColl t37 v9 l9 f10 a10)⟩, some ⟨b_c, 77, [vi y7.1.number, vp d0 0, vp j0 0, vp w0 0, vi y7.1.next_, vi y7.1.cycle, vb y7.1.asked, vi y7.1.want.base, vi y7.1.want.have_]⟩, some ⟨d0, 126, (cNode y7.1.node t1 d1 v0 l0 w1 f0)⟩, some ⟨j0, 130, [vs p0 y7.1.sender.pieces i0]⟩, some ⟨b2, 110, [vi 0, vS0, vS0]⟩, f9, l10] ∧ sl = [(0, vp b_c 0), (6, vp b2 0)] ∧ Buf g.b (tyArr tyU8) 28 (.slice v9 (t37.parts).length l9) f9 t37.parts ∧ Buf g.b tySett 92 (.slice f10 (t37.sets).length a10) l10 t37.sets) ?_ ?_
        ·rintro g38 _ _ t37 e39 ⟨v9, l9, f9, f10, a10, l10, rfl, rfl, v14, w15⟩ hS
         refine xc [0, 6] ?_
         have eS := (Option.some.inj hS).symm
         exact hN14 _ eS _ _ _ (e35.trans e39) ⟨v9, l9, f9, f10, a10, l10, by kernel_rfl, by kernel_rfl, v14, w15⟩
        ·intro uu37 hS hN37
         refine xCd ((y33.2 == 0)) (fun h40 => ?_) (fun h40 => ?_)
         ·have hS := cond_T h40 hS
          have t16 : y33.2 = 0 := eq_of_beq h40
          refine xDr 0 [3, 4] [] [some ⟨b36, 67, (cPiece y33.1 a11 w12)⟩, some ⟨b_c, 77, [vi y7.1.number, vp d0 0, vp j0 0, vp w0 0, vi y7.1.next_, vi y7.1.cycle, vb y7.1.asked, vi y7.1.want.base, vi y7.1.want.have_]⟩, some ⟨d0, 126, (cNode y7.1.node t1 d1 v0 l0 w1 f0)⟩, some ⟨j0, 130, [vs p0 y7.1.sender.pieces i0]⟩, some ⟨b2, 110, [vi 0, vS0, vS0]⟩, some ⟨b1, 49, (cFrame f i4 z4)⟩] 6 (fun RG => ?_) (fun _ _ _ _ _ h => h)
          refine xt 1 [0, 1, 2, 3, 4] [(3, 1), (4, 0)] (sm [0, 1, 2, 3, 7, 8]) [0, 6, 64, 65] RG pR (xSel (sm [4, 5, 6, 0, 1, 2, 3, 7, 8]) ?_)
          have z1 := z1.mono e35.b
          have j1 := j1.mono e35.b
          obtain ⟨y41, w16, hS⟩ := bindO_T hS
          refine xO1 (lds := [3, 4]) 5 (xIe (lds := [3, 4]) pR (eC 3 (fun g' lr eb ln => c72 g' w0 y7.1.collector v1 l1 d2 w2 f1 v2 y33.1 a11 w12 (by rw [eb]; exact z1) (by rw [eb]; exact j1) ((z15.mono g34.br).mono lr) w16)) ?_)
          rintro _ g42 _ e43 ⟨_, rfl, l14, w14, z14, j15, f14, a14, rfl, rfl, j14, i15⟩
          refine kk (sm [3, 4, 5, 6, 7, 8]) (xAe (lds := [3, 4]) (xSel (sm [0, 4, 5, 6, 7, 1, 2]) (xc [0, 6] ?_)))
          have eS := (Option.some.inj hS).symm
          exact hN37 _ eS _ _ _ e43 ⟨l14, w14, z14, j15, f14, a14, by kernel_rfl, by kernel_rfl, j14, i15⟩
         ·have hS := cond_F h40 hS
          have t16 : ¬ (y33.2 = 0) := ne_of_beq_false_ h40
          refine xSk ?_
          have z1 := z1.mono e35.b
          have j1 := j1.mono e35.b
          refine xSel (sm [4, 1, 2, 3, 7, 5, 6]) (xc [0, 6] ?_)
          have eS := (Option.some.inj hS).symm
          exact hN37 _ eS _ _ _ gR ⟨v1, l1, d2, w2, f1, v2, by kernel_rfl, by kernel_rfl, z1, j1⟩
       ·have hS := cond_F h32 hS
        refine xSk (xSel (sm [3, 0, 1, 2, 6, 4, 5]) (xc [0, 6] ?_))
        have eS := (Option.some.inj hS).symm
        exact hN14 _ eS _ _ _ gR ⟨v1, l1, d2, w2, f1, v2, by kernel_rfl, by kernel_rfl, z1, j1⟩

def o75 (p : List UInt8) : Option (Piece × Int) :=
 (cond (decide ((((p).length : Nat) : Int) < 12)) (some (((⟨0, 0, 0, ([] : List UInt8)⟩ : Piece), (4 : Int)))) (bindO (o99 ((List.take 8 p) : List UInt8)) fun y8 => (bindO (o99 ((List.take (10 - 8) (List.drop 8 p)) : List UInt8)) fun y11 => (bindO (o99 ((List.take (12 - 10) (List.drop 10 p)) : List UInt8)) fun y14 => (bindO (o70 (⟨y8, y11, y14, (List.drop 12 p)⟩ : Piece)) fun y213 => (cond ((y213.2 != 0)) (some (((⟨0, 0, 0, ([] : List UInt8)⟩ : Piece), (4 : Int)))) (some (((⟨y8, y11, y14, (List.drop 12 p)⟩ : Piece), (0 : Int))))))))))
theorem c75 (g : Gh) (p : List UInt8) (Ap : OA) (cp : Nat) (fp : Arr g.r tyU8 Ap cp p) {r : Piece × Int} (hS : o75 p = some r) :
  Ctr Tryz.prog 75 [vs Ap p cp] g [] (fun v ψ o => ∃ (j3 : OA) (d3 : Nat), v = Value.tuple #[(aPiece r.1 j3 d3), vi r.2] ∧ o = [] ∧ Arr ψ tyU8 j3 d3 r.1.data) := by
 unfold o75 at hS
 refine xFn Tryz.f75 (Tryz.f75.body.getD .skip) 34 ?_
 have nfp := fp.len
 refine xSq (xRg (xE eB ?_))
 rintro _ _ _ - ⟨b1, rfl, rfl, rfl⟩
 refine xb 1 [] [0, 2] (xRe (xW (xSq (xSq (xRg (xb 3 [] [0, 2, 9] (xRe (xW ?_))))))))
 refine xCd (decide ((((p).length : Nat) : Int) < 12)) (fun h2 => ?_) (fun h2 => ?_)
 ·have hS := cond_T h2 hS
  have h2p := of_decide_eq_true h2
  refine xSq (xRg (xbo 3 [(1, 0)] [some ⟨b1, 161, (cPiece Z6 none 0)⟩] [2, 3] (xRe (xW ?_))))
  obtain rfl := Option.some.inj hS
  exact xRetC [] [(2, 0)] gR ⟨none, 0, by kernel_rfl, by kernel_rfl, Arr.nil⟩ (fun _ _ h => h)
 ·have hS := cond_F h2 hS
  have h2p := of_decide_eq_false h2
  refine xSk (xW (xc [0, 2] (xSq ?_)))
  refine xDr 0 [] [15, 0, 1, 3, 4, 6, 7, 10, 11, 13] [some ⟨b1, 161, (cPiece Z6 none 0)⟩] 16 (fun RG => ?_) (fun _ _ _ _ _ h => h)
  have a24 := fp.cap
  have f3 : Arr g.r tyU8 (offA Ap cp 0 1) (cp - 0) (List.take 8 p) := fp.cut_to 8 (by omega)
  have nf3 := f3.len
  have w23 : 8 - 0 = ((List.take 8 p)).length := by simp only [List.length_take, List.length_drop] <;> omega
  have f31 : ((((List.take 8 p)).length : Nat) : Int) = 8 - 0 := by omega
  refine xt 15 [0] [] [some 0] [0, 2, 11] RG pR (xTp 1 RG (fun _ => (qSl (m := 1) (A := Ap) (len := (p).length) (c := cp) 0 8 none (some 8) ((List.take 8 p)).length rfl rfl (by omega) (by omega) w23)) ?_)
  have w25 := fp.cap
  have f4 : Arr g.r tyU8 (offA Ap cp 8 1) (cp - 8) (List.take (10 - 8) (List.drop 8 p)) := fp.cut 8 10 (by omega) (by omega)
  have nf4 := f4.len
  have z23 : 10 - 8 = ((List.take (10 - 8) (List.drop 8 p))).length := by simp only [List.length_take, List.length_drop] <;> omega
  have a29 : ((((List.take (10 - 8) (List.drop 8 p))).length : Nat) : Int) = 10 - 8 := by omega
  refine xt 13 [3] [] [some 0] [0, 2, 12, 14] RG pR (xTp 4 RG (fun _ => (qSl (m := 1) (A := Ap) (len := (p).length) (c := cp) 8 10 (some 8) (some 10) ((List.take (10 - 8) (List.drop 8 p))).length rfl rfl (by omega) (by omega) z23)) ?_)
  have z25 := fp.cap
  have f5 : Arr g.r tyU8 (offA Ap cp 10 1) (cp - 10) (List.take (12 - 10) (List.drop 10 p)) := fp.cut 10 12 (by omega) (by omega)
  have nf5 := f5.len
  have d23 : 12 - 10 = ((List.take (12 - 10) (List.drop 10 p))).length := by simp only [List.length_take, List.length_drop] <;> omega
  have d32 : ((((List.take (12 - 10) (List.drop 10 p))).length : Nat) : Int) = 12 - 10 := by omega
  refine xt 11 [6] [] [some 0] [0, 2, 12, 15, 17] RG pR (xTp 7 RG (fun _ => (qSl (m := 1) (A := Ap) (len := (p).length) (c := cp) 10 12 (some 10) (some 12) ((List.take (12 - 10) (List.drop 10 p))).length rfl rfl (by omega) (by omega) d23)) ?_)
  have f24 := fp.cap
  have f6 : Arr g.r tyU8 (offA Ap cp 12 1) (cp - 12) (List.drop 12 p) := fp.cut_from 12 (by omega)
  have nf6 := f6.len
  have i24 : (p).length - 12 = ((List.drop 12 p)).length := by simp only [List.length_take, List.length_drop] <;> omega
  have l33 : ((((List.drop 12 p)).length : Nat) : Int) = (((p).length : Nat) : Int) - 12 := by omega
  refine xt 9 [10] [] [some 0] [2, 12, 15, 18, 21] RG pR (xTp 11 RG (fun _ => (qSl (m := 1) (A := Ap) (len := (p).length) (c := cp) 12 (p).length (some 12) none ((List.drop 12 p)).length rfl rfl (by omega) (by omega) i24)) ?_)
  obtain ⟨y8, hy8, hS⟩ := bindO_T hS
  obtain ⟨y11, l1, hS⟩ := bindO_T hS
  obtain ⟨y14, l0, hS⟩ := bindO_T hS
  refine wpa_meet (fun g own sl => ∃ (A18 : OA) (c18 : Nat) (k18 : OB) (b19 : Nat), own = [some ⟨b19, 161, (cPiece Z6 none 0)⟩, k18, some ⟨b1, 161, (cPiece Z6 none 0)⟩] ∧ sl = [(2, vp b1 0), (4, vp b19 0), (24, Value.agg #[vi y8, vi y11, vi y14, vs A18 (List.drop 12 p) c18])] ∧ Buf g.b tyU8 5 (.slice A18 ((List.drop 12 p)).length c18) k18 (List.drop 12 p)) 1 [true, true, true, true, true, true, true, true, true, true, true, true, true, true, true, false] ?_ (fun hD7 => ?_)
  ·rintro l30 _ _ l8 ⟨A18, c18, k18, b19, rfl, rfl, h18⟩
   have t32 := h18.len
   refine xO1 (lds := []) 15 (xId (lds := []) l8.r (eStL b19 0 0) ?_)
   rintro _ _ _ - ⟨rfl, rfl⟩
   refine kf (xAe (lds := []) (xW (xc [2, 4] (xSq (xRg (xb 1 [(0, 0)] [2, 4, 26] ?_))))))
   refine wpq_freeze 1 (by kernel_rfl) h18 (fun j22 l11 w7 => ?_)
   obtain ⟨p9, w21, hS⟩ := bindO_T hS
   refine xE (eC 0 (fun g' lr eb ln => c70 g' (⟨y8, y11, y14, (List.drop 12 p)⟩ : Piece) A18 c18 ((w7.mono j22.br).mono lr) w21)) ?_
   rintro _ p30 _ v8 ⟨_, rfl, l24, j25, j8, rfl, rfl, v16⟩
   have v24 := v16.len
   refine xb 5 [] [2, 4, 6] (xRe (xW (xSq (xSq (xRg (xb 2 [] [2, 4, 31] (xRe (xW ?_))))))))
   refine xCd ((p9.2 != 0)) (fun j4 => ?_) (fun j4 => ?_)
   ·have hS := cond_T j4 hS
    have f21 : ¬ (p9.2 = 0) := ne_of_bne_ j4
    refine xSq (xRg (xbo 3 [(1, 3)] [j8, some ⟨b19, 161, (cPiece (⟨y8, y11, y14, (List.drop 12 p)⟩ : Piece) A18 c18)⟩, none, some ⟨b1, 161, (cPiece Z6 none 0)⟩] [2, 3] (xRe (xW ?_))))
    obtain rfl := Option.some.inj hS
    exact xRetC [] [(2, 3)] (l8.trans (l11.trans v8)) ⟨none, 0, by kernel_rfl, by kernel_rfl, Arr.nil⟩ (fun _ _ h => h)
   ·have hS := cond_F j4 hS
    have f21 : p9.2 = 0 := eq_of_bne_false_ j4
    refine xSk (xW (xc [2, 4] (xSq (xRg (xbo 3 [(0, 1), (1, 3)] [j8, some ⟨b19, 161, (cPiece (⟨y8, y11, y14, (List.drop 12 p)⟩ : Piece) A18 c18)⟩, none, some ⟨b1, 161, (cPiece (⟨y8, y11, y14, (List.drop 12 p)⟩ : Piece) A18 c18)⟩] [2, 3] (xRe (xW ?_)))))))
    have w7 := w7.mono v8.b
    obtain rfl := Option.some.inj hS
    exact xRetC [] [(2, 3)] (l8.trans (l11.trans v8)) ⟨A18, c18, by kernel_rfl, by kernel_rfl, w7⟩ (fun _ _ h => h)
  ·refine xO3 (lds := []) 2 9 14 ?_ ?_ ?_
   ·refine xIe (lds := []) pR (eC 0 (fun g' lr eb ln => c99 g' ((List.take 8 p) : List UInt8) (offA Ap cp 0 1) (cp - 0) (f3.mono lr) hy8)) ?_
    rintro _ v9 _ w0 ⟨_, rfl, rfl, rfl⟩
    refine kk [some 0] ?_
    refine xO3 (lds := []) 5 9 14 ?_ ?_ ?_
    ·have f4 := f4.mono w0.r
     refine xIe (lds := []) w0.r (eC 0 (fun g' lr eb ln => c99 g' ((List.take (10 - 8) (List.drop 8 p)) : List UInt8) (offA Ap cp 8 1) (cp - 8) (f4.mono lr) l1)) ?_
     rintro _ i11 _ j0 ⟨_, rfl, rfl, rfl⟩
     refine kk [some 0] ?_
     refine xO3 (lds := []) 8 9 14 ?_ ?_ ?_
     ·have f5 := f5.mono (w0.trans j0).r
      refine xIe (lds := []) (w0.trans j0).r (eC 0 (fun g' lr eb ln => c99 g' ((List.take (12 - 10) (List.drop 10 p)) : List UInt8) (offA Ap cp 10 1) (cp - 10) (f5.mono lr) l0)) ?_
      rintro _ j2 _ f0 ⟨_, rfl, rfl, rfl⟩
      refine kk [some 0] ?_
      refine xO2 (lds := []) 9 14 ?_ ?_
      ·refine xIe (lds := []) (w0.trans (j0.trans f0)).r (eBs (T := tyU8) (p := j2.b) (et := 5) (xs := ([] : List UInt8)) reps_nil (by simp)) ?_
       rintro _ _ _ - ⟨f30, p33, f33, rfl, rfl, rfl, d13⟩
       refine kk [some 1] ?_
       refine xO2 (lds := []) 12 14 ?_ ?_
       ·have f6 := f6.mono (w0.trans (j0.trans f0)).r
        obtain ⟨z27, i20, t20⟩ := f6.srcR
        refine xIe (lds := []) (w0.trans (j0.trans f0)).r (eApp (T := tyU8) (p := j2.b) (et := 5) (bytes := 1) (xs := ([] : List UInt8)) (ys := ((List.drop 12 p) : List UInt8)) 0 d13 rfl (fun w hs => t20 w _ hs) (flatU8.reps i20) (by first | omega | (simp only [List.length_cons, List.length_nil] at *; omega)) (by first | omega | (simp only [List.length_cons, List.length_nil] at *; omega))) ?_
        rintro _ _ _ - ⟨j11, d14, z17, rfl, rfl, rfl, v5⟩
        refine kk [some 1] ?_
        have v5 : Buf j2.b tyU8 5 (.slice j11 (((List.drop 12 p) : List UInt8)).length d14) z17 ((List.drop 12 p) : List UInt8) := v5
        have f26 := v5.len
        refine xt 2 [13] [] [some 1] [2, 24] RG (w0.trans (j0.trans f0)).r (xO1 (lds := []) 14 (xIe (lds := []) (w0.trans (j0.trans f0)).r eB ?_))
        rintro _ _ _ - ⟨t23, rfl, rfl, rfl⟩
        refine kk [some 2] (xc [2, 4, 24] ?_)
        exact hD7 _ _ _ (w0.trans (j0.trans f0)) ⟨j11, d14, z17, t23, by kernel_rfl, by kernel_rfl, v5⟩
       ·refine xIe (lds := []) (w0.trans (j0.trans f0)).r eB ?_
        rintro _ _ _ - ⟨a23, rfl, rfl, rfl⟩
        refine kk [some 2] ?_
        have f6 := f6.mono (w0.trans (j0.trans f0)).r
        obtain ⟨a28, z20, a21⟩ := f6.srcR
        refine xO1 (lds := []) 12 (xIe (lds := []) (w0.trans (j0.trans f0)).r (eApp (T := tyU8) (p := j2.b) (et := 5) (bytes := 1) (xs := ([] : List UInt8)) (ys := ((List.drop 12 p) : List UInt8)) 1 d13 rfl (fun w hs => a21 w _ hs) (flatU8.reps z20) (by first | omega | (simp only [List.length_cons, List.length_nil] at *; omega)) (by first | omega | (simp only [List.length_cons, List.length_nil] at *; omega))) ?_)
        rintro _ _ _ - ⟨d9, a11, d12, rfl, rfl, rfl, d5⟩
        refine kk [some 2] ?_
        have d5 : Buf j2.b tyU8 5 (.slice d9 (((List.drop 12 p) : List UInt8)).length a11) d12 ((List.drop 12 p) : List UInt8) := d5
        have i29 := d5.len
        refine xt 1 [13] [] [some 2] [2, 4, 24] RG (w0.trans (j0.trans f0)).r (xc [2, 4, 24] ?_)
        exact hD7 _ _ _ (w0.trans (j0.trans f0)) ⟨d9, a11, d12, a23, by kernel_rfl, by kernel_rfl, d5⟩
      ·refine xIe (lds := []) (w0.trans (j0.trans f0)).r eB ?_
       rintro _ _ _ - ⟨f22, rfl, rfl, rfl⟩
       refine kk [some 1] (xO1 (lds := []) 9 (xIe (lds := []) (w0.trans (j0.trans f0)).r (eBs (T := tyU8) (p := j2.b) (et := 5) (xs := ([] : List UInt8)) reps_nil (by simp)) ?_))
       rintro _ _ _ - ⟨w33, a30, j30, rfl, rfl, rfl, v22⟩
       refine kk [some 2] ?_
       have f6 := f6.mono (w0.trans (j0.trans f0)).r
       obtain ⟨l27, d21, f20⟩ := f6.srcR
       refine xO1 (lds := []) 12 (xIe (lds := []) (w0.trans (j0.trans f0)).r (eApp (T := tyU8) (p := j2.b) (et := 5) (bytes := 1) (xs := ([] : List UInt8)) (ys := ((List.drop 12 p) : List UInt8)) 0 v22 rfl (fun w hs => f20 w _ hs) (flatU8.reps d21) (by first | omega | (simp only [List.length_cons, List.length_nil] at *; omega)) (by first | omega | (simp only [List.length_cons, List.length_nil] at *; omega))) ?_)
       rintro _ _ _ - ⟨t17, d15, p17, rfl, rfl, rfl, w6⟩
       refine kk [some 2] ?_
       have w6 : Buf j2.b tyU8 5 (.slice t17 (((List.drop 12 p) : List UInt8)).length d15) p17 ((List.drop 12 p) : List UInt8) := w6
       have p28 := w6.len
       refine xt 1 [13] [] [some 2] [2, 4, 24] RG (w0.trans (j0.trans f0)).r (xSel (sm [1, 0, 2]) (xc [2, 4, 24] ?_))
       exact hD7 _ _ _ (w0.trans (j0.trans f0)) ⟨t17, d15, p17, f22, by kernel_rfl, by kernel_rfl, w6⟩
     ·refine xIe (lds := []) (w0.trans j0).r (eBs (T := tyU8) (p := i11.b) (et := 5) (xs := ([] : List UInt8)) reps_nil (by simp)) ?_
      rintro _ _ _ - ⟨d33, z31, w34, rfl, rfl, rfl, f1⟩
      refine kk [some 1] ?_
      refine xO2 (lds := []) 8 14 ?_ ?_
      ·have f5 := f5.mono (w0.trans j0).r
       refine xIe (lds := []) (w0.trans j0).r (eC 0 (fun g' lr eb ln => c99 g' ((List.take (12 - 10) (List.drop 10 p)) : List UInt8) (offA Ap cp 10 1) (cp - 10) (f5.mono lr) l0)) ?_
       rintro _ z7 _ d1 ⟨_, rfl, rfl, rfl⟩
       refine kk [some 1] ?_
       refine xO2 (lds := []) 12 14 ?_ ?_
       ·have f1 := f1.mono d1.b
        have f6 := f6.mono (w0.trans (j0.trans d1)).r
        obtain ⟨d27, p21, p18⟩ := f6.srcR
        refine xIe (lds := []) (w0.trans (j0.trans d1)).r (eApp (T := tyU8) (p := z7.b) (et := 5) (bytes := 1) (xs := ([] : List UInt8)) (ys := ((List.drop 12 p) : List UInt8)) 0 f1 rfl (fun w hs => p18 w _ hs) (flatU8.reps p21) (by first | omega | (simp only [List.length_cons, List.length_nil] at *; omega)) (by first | omega | (simp only [List.length_cons, List.length_nil] at *; omega))) ?_
        rintro _ _ _ - ⟨i14, z13, v10, rfl, rfl, rfl, t5⟩
        refine kk [some 1] ?_
        have t5 : Buf z7.b tyU8 5 (.slice i14 (((List.drop 12 p) : List UInt8)).length z13) v10 ((List.drop 12 p) : List UInt8) := t5
        have a25 := t5.len
        refine xt 2 [13] [] [some 1] [2, 24] RG (w0.trans (j0.trans d1)).r (xO1 (lds := []) 14 (xIe (lds := []) (w0.trans (j0.trans d1)).r eB ?_))
        rintro _ _ _ - ⟨l22, rfl, rfl, rfl⟩
        refine kk [some 2] (xc [2, 4, 24] ?_)
        exact hD7 _ _ _ (w0.trans (j0.trans d1)) ⟨i14, z13, v10, l22, by kernel_rfl, by kernel_rfl, t5⟩
       ·refine xIe (lds := []) (w0.trans (j0.trans d1)).r eB ?_
        rintro _ _ _ - ⟨p24, rfl, rfl, rfl⟩
        refine kk [some 2] ?_
        have f1 := f1.mono d1.b
        have f6 := f6.mono (w0.trans (j0.trans d1)).r
        obtain ⟨v25, v21, l19⟩ := f6.srcR
        refine xO1 (lds := []) 12 (xIe (lds := []) (w0.trans (j0.trans d1)).r (eApp (T := tyU8) (p := z7.b) (et := 5) (bytes := 1) (xs := ([] : List UInt8)) (ys := ((List.drop 12 p) : List UInt8)) 1 f1 rfl (fun w hs => l19 w _ hs) (flatU8.reps v21) (by first | omega | (simp only [List.length_cons, List.length_nil] at *; omega)) (by first | omega | (simp only [List.length_cons, List.length_nil] at *; omega))) ?_)
        rintro _ _ _ - ⟨t16, f9, i16, rfl, rfl, rfl, p7⟩
        refine kk [some 2] ?_
        have p7 : Buf z7.b tyU8 5 (.slice t16 (((List.drop 12 p) : List UInt8)).length f9) i16 ((List.drop 12 p) : List UInt8) := p7
        have p26 := p7.len
        refine xt 1 [13] [] [some 2] [2, 4, 24] RG (w0.trans (j0.trans d1)).r (xc [2, 4, 24] ?_)
        exact hD7 _ _ _ (w0.trans (j0.trans d1)) ⟨t16, f9, i16, p24, by kernel_rfl, by kernel_rfl, p7⟩
      ·refine xIe (lds := []) (w0.trans j0).r eB ?_
       rintro _ _ _ - ⟨d22, rfl, rfl, rfl⟩
       refine kk [some 2] ?_
       have f5 := f5.mono (w0.trans j0).r
       refine xO1 (lds := []) 8 (xIe (lds := []) (w0.trans j0).r (eC 0 (fun g' lr eb ln => c99 g' ((List.take (12 - 10) (List.drop 10 p)) : List UInt8) (offA Ap cp 10 1) (cp - 10) (f5.mono lr) l0)) ?_)
       rintro _ f14 _ l3 ⟨_, rfl, rfl, rfl⟩
       refine kk [some 2] ?_
       have f1 := f1.mono l3.b
       have f6 := f6.mono (w0.trans (j0.trans l3)).r
       obtain ⟨f25, f17, z18⟩ := f6.srcR
       refine xO1 (lds := []) 12 (xIe (lds := []) (w0.trans (j0.trans l3)).r (eApp (T := tyU8) (p := f14.b) (et := 5) (bytes := 1) (xs := ([] : List UInt8)) (ys := ((List.drop 12 p) : List UInt8)) 1 f1 rfl (fun w hs => z18 w _ hs) (flatU8.reps f17) (by first | omega | (simp only [List.length_cons, List.length_nil] at *; omega)) (by first | omega | (simp only [List.length_cons, List.length_nil] at *; omega))) ?_)
       rintro _ _ _ - ⟨t12, d11, t11, rfl, rfl, rfl, d6⟩
       refine kk [some 2] ?_
       have d6 : Buf f14.b tyU8 5 (.slice t12 (((List.drop 12 p) : List UInt8)).length d11) t11 ((List.drop 12 p) : List UInt8) := d6
       have w29 := d6.len
       refine xt 1 [13] [] [some 2] [2, 4, 24] RG (w0.trans (j0.trans l3)).r (xc [2, 4, 24] ?_)
       exact hD7 _ _ _ (w0.trans (j0.trans l3)) ⟨t12, d11, t11, d22, by kernel_rfl, by kernel_rfl, d6⟩
     ·refine xIe (lds := []) (w0.trans j0).r eB ?_
      rintro _ _ _ - ⟨w14, rfl, rfl, rfl⟩
      refine kk [some 1] ?_
      refine xO2 (lds := []) 8 9 ?_ ?_
      ·have f5 := f5.mono (w0.trans j0).r
       refine xIe (lds := []) (w0.trans j0).r (eC 0 (fun g' lr eb ln => c99 g' ((List.take (12 - 10) (List.drop 10 p)) : List UInt8) (offA Ap cp 10 1) (cp - 10) (f5.mono lr) l0)) ?_
       rintro _ w9 _ t4 ⟨_, rfl, rfl, rfl⟩
       refine kk [some 1] (xO1 (lds := []) 9 (xIe (lds := []) (w0.trans (j0.trans t4)).r (eBs (T := tyU8) (p := w9.b) (et := 5) (xs := ([] : List UInt8)) reps_nil (by simp)) ?_))
       rintro _ _ _ - ⟨l29, a33, j32, rfl, rfl, rfl, z24⟩
       refine kk [some 2] ?_
       have f6 := f6.mono (w0.trans (j0.trans t4)).r
       obtain ⟨f27, z22, t19⟩ := f6.srcR
       refine xO1 (lds := []) 12 (xIe (lds := []) (w0.trans (j0.trans t4)).r (eApp (T := tyU8) (p := w9.b) (et := 5) (bytes := 1) (xs := ([] : List UInt8)) (ys := ((List.drop 12 p) : List UInt8)) 0 z24 rfl (fun w hs => t19 w _ hs) (flatU8.reps z22) (by first | omega | (simp only [List.length_cons, List.length_nil] at *; omega)) (by first | omega | (simp only [List.length_cons, List.length_nil] at *; omega))) ?_)
       rintro _ _ _ - ⟨a10, d10, z12, rfl, rfl, rfl, d7⟩
       refine kk [some 2] ?_
       have d7 : Buf w9.b tyU8 5 (.slice a10 (((List.drop 12 p) : List UInt8)).length d10) z12 ((List.drop 12 p) : List UInt8) := d7
       have j29 := d7.len
       refine xt 1 [13] [] [some 2] [2, 4, 24] RG (w0.trans (j0.trans t4)).r (xSel (sm [1, 0, 2]) (xc [2, 4, 24] ?_))
       exact hD7 _ _ _ (w0.trans (j0.trans t4)) ⟨a10, d10, z12, w14, by kernel_rfl, by kernel_rfl, d7⟩
      ·refine xIe (lds := []) (w0.trans j0).r (eBs (T := tyU8) (p := i11.b) (et := 5) (xs := ([] : List UInt8)) reps_nil (by simp)) ?_
       rintro _ _ _ - ⟨z33, f32, j34, rfl, rfl, rfl, p8⟩
       refine kk [some 2] ?_
       have f5 := f5.mono (w0.trans j0).r
       refine xO1 (lds := []) 8 (xIe (lds := []) (w0.trans j0).r (eC 0 (fun g' lr eb ln => c99 g' ((List.take (12 - 10) (List.drop 10 p)) : List UInt8) (offA Ap cp 10 1) (cp - 10) (f5.mono lr) l0)) ?_)
       rintro _ p16 _ v3 ⟨_, rfl, rfl, rfl⟩
       refine kk [some 2] ?_
       have p8 := p8.mono v3.b
       have f6 := f6.mono (w0.trans (j0.trans v3)).r
       obtain ⟨a26, a19, d20⟩ := f6.srcR
       refine xO1 (lds := []) 12 (xIe (lds := []) (w0.trans (j0.trans v3)).r (eApp (T := tyU8) (p := p16.b) (et := 5) (bytes := 1) (xs := ([] : List UInt8)) (ys := ((List.drop 12 p) : List UInt8)) 0 p8 rfl (fun w hs => d20 w _ hs) (flatU8.reps a19) (by first | omega | (simp only [List.length_cons, List.length_nil] at *; omega)) (by first | omega | (simp only [List.length_cons, List.length_nil] at *; omega))) ?_)
       rintro _ _ _ - ⟨v12, v13, j13, rfl, rfl, rfl, t6⟩
       refine kk [some 2] ?_
       have t6 : Buf p16.b tyU8 5 (.slice v12 (((List.drop 12 p) : List UInt8)).length v13) j13 ((List.drop 12 p) : List UInt8) := t6
       have t29 := t6.len
       refine xt 1 [13] [] [some 2] [2, 4, 24] RG (w0.trans (j0.trans v3)).r (xSel (sm [1, 0, 2]) (xc [2, 4, 24] ?_))
       exact hD7 _ _ _ (w0.trans (j0.trans v3)) ⟨v12, v13, j13, w14, by kernel_rfl, by kernel_rfl, t6⟩
    ·refine xIe (lds := []) w0.r (eBs (T := tyU8) (p := v9.b) (et := 5) (xs := ([] : List UInt8)) reps_nil (by simp)) ?_
     rintro _ _ _ - ⟨d31, w32, z34, rfl, rfl, rfl, t1⟩
     refine kk [some 1] ?_
     refine xO2 (lds := []) 5 14 ?_ ?_
     ·have f4 := f4.mono w0.r
      refine xIe (lds := []) w0.r (eC 0 (fun g' lr eb ln => c99 g' ((List.take (10 - 8) (List.drop 8 p)) : List UInt8) (offA Ap cp 8 1) (cp - 8) (f4.mono lr) l1)) ?_
      rintro _ v29 _ d0 ⟨_, rfl, rfl, rfl⟩
      refine kk [some 1] ?_
      refine xO2 (lds := []) 8 14 ?_ ?_
      ·have f5 := f5.mono (w0.trans d0).r
       refine xIe (lds := []) (w0.trans d0).r (eC 0 (fun g' lr eb ln => c99 g' ((List.take (12 - 10) (List.drop 10 p)) : List UInt8) (offA Ap cp 10 1) (cp - 10) (f5.mono lr) l0)) ?_
       rintro _ j6 _ v1 ⟨_, rfl, rfl, rfl⟩
       refine kk [some 1] ?_
       refine xO2 (lds := []) 12 14 ?_ ?_
       ·have t1 := t1.mono (d0.trans v1).b
        have f6 := f6.mono (w0.trans (d0.trans v1)).r
        obtain ⟨v27, p19, l18⟩ := f6.srcR
        refine xIe (lds := []) (w0.trans (d0.trans v1)).r (eApp (T := tyU8) (p := j6.b) (et := 5) (bytes := 1) (xs := ([] : List UInt8)) (ys := ((List.drop 12 p) : List UInt8)) 0 t1 rfl (fun w hs => l18 w _ hs) (flatU8.reps p19) (by first | omega | (simp only [List.length_cons, List.length_nil] at *; omega)) (by first | omega | (simp only [List.length_cons, List.length_nil] at *; omega))) ?_
        rintro _ _ _ - ⟨t9, l15, f10, rfl, rfl, rfl, v7⟩
        refine kk [some 1] ?_
        have v7 : Buf j6.b tyU8 5 (.slice t9 (((List.drop 12 p) : List UInt8)).length l15) f10 ((List.drop 12 p) : List UInt8) := v7
        have t25 := v7.len
        refine xt 2 [13] [] [some 1] [2, 24] RG (w0.trans (d0.trans v1)).r (xO1 (lds := []) 14 (xIe (lds := []) (w0.trans (d0.trans v1)).r eB ?_))
        rintro _ _ _ - ⟨j23, rfl, rfl, rfl⟩
        refine kk [some 2] (xc [2, 4, 24] ?_)
        exact hD7 _ _ _ (w0.trans (d0.trans v1)) ⟨t9, l15, f10, j23, by kernel_rfl, by kernel_rfl, v7⟩
       ·refine xIe (lds := []) (w0.trans (d0.trans v1)).r eB ?_
        rintro _ _ _ - ⟨t24, rfl, rfl, rfl⟩
        refine kk [some 2] ?_
        have t1 := t1.mono (d0.trans v1).b
        have f6 := f6.mono (w0.trans (d0.trans v1)).r
        obtain ⟨i28, l17, j21⟩ := f6.srcR
        refine xO1 (lds := []) 12 (xIe (lds := []) (w0.trans (d0.trans v1)).r (eApp (T := tyU8) (p := j6.b) (et := 5) (bytes := 1) (xs := ([] : List UInt8)) (ys := ((List.drop 12 p) : List UInt8)) 1 t1 rfl (fun w hs => j21 w _ hs) (flatU8.reps l17) (by first | omega | (simp only [List.length_cons, List.length_nil] at *; omega)) (by first | omega | (simp only [List.length_cons, List.length_nil] at *; omega))) ?_)
        rintro _ _ _ - ⟨w16, f16, v11, rfl, rfl, rfl, f7⟩
        refine kk [some 2] ?_
        have f7 : Buf j6.b tyU8 5 (.slice w16 (((List.drop 12 p) : List UInt8)).length f16) v11 ((List.drop 12 p) : List UInt8) := f7
        have z26 := f7.len
        refine xt 1 [13] [] [some 2] [2, 4, 24] RG (w0.trans (d0.trans v1)).r (xc [2, 4, 24] ?_)
        exact hD7 _ _ _ (w0.trans (d0.trans v1)) ⟨w16, f16, v11, t24, by kernel_rfl, by kernel_rfl, f7⟩
      ·refine xIe (lds := []) (w0.trans d0).r eB ?_
       rintro _ _ _ - ⟨d24, rfl, rfl, rfl⟩
       refine kk [some 2] ?_
       have f5 := f5.mono (w0.trans d0).r
       refine xO1 (lds := []) 8 (xIe (lds := []) (w0.trans d0).r (eC 0 (fun g' lr eb ln => c99 g' ((List.take (12 - 10) (List.drop 10 p)) : List UInt8) (offA Ap cp 10 1) (cp - 10) (f5.mono lr) l0)) ?_)
       rintro _ t15 _ z4 ⟨_, rfl, rfl, rfl⟩
       refine kk [some 2] ?_
       have t1 := t1.mono (d0.trans z4).b
       have f6 := f6.mono (w0.trans (d0.trans z4)).r
       obtain ⟨l25, j19, w20⟩ := f6.srcR
       refine xO1 (lds := []) 12 (xIe (lds := []) (w0.trans (d0.trans z4)).r (eApp (T := tyU8) (p := t15.b) (et := 5) (bytes := 1) (xs := ([] : List UInt8)) (ys := ((List.drop 12 p) : List UInt8)) 1 t1 rfl (fun w hs => w20 w _ hs) (flatU8.reps j19) (by first | omega | (simp only [List.length_cons, List.length_nil] at *; omega)) (by first | omega | (simp only [List.length_cons, List.length_nil] at *; omega))) ?_)
       rintro _ _ _ - ⟨p14, a14, l12, rfl, rfl, rfl, z8⟩
       refine kk [some 2] ?_
       have z8 : Buf t15.b tyU8 5 (.slice p14 (((List.drop 12 p) : List UInt8)).length a14) l12 ((List.drop 12 p) : List UInt8) := z8
       have i27 := z8.len
       refine xt 1 [13] [] [some 2] [2, 4, 24] RG (w0.trans (d0.trans z4)).r (xc [2, 4, 24] ?_)
       exact hD7 _ _ _ (w0.trans (d0.trans z4)) ⟨p14, a14, l12, d24, by kernel_rfl, by kernel_rfl, z8⟩
     ·refine xIe (lds := []) w0.r eB ?_
      rintro _ _ _ - ⟨p22, rfl, rfl, rfl⟩
      refine kk [some 2] ?_
      have f4 := f4.mono w0.r
      refine xO1 (lds := []) 5 (xIe (lds := []) w0.r (eC 0 (fun g' lr eb ln => c99 g' ((List.take (10 - 8) (List.drop 8 p)) : List UInt8) (offA Ap cp 8 1) (cp - 8) (f4.mono lr) l1)) ?_)
      rintro _ f29 _ w3 ⟨_, rfl, rfl, rfl⟩
      refine kk [some 2] ?_
      have f5 := f5.mono (w0.trans w3).r
      refine xO1 (lds := []) 8 (xIe (lds := []) (w0.trans w3).r (eC 0 (fun g' lr eb ln => c99 g' ((List.take (12 - 10) (List.drop 10 p)) : List UInt8) (offA Ap cp 10 1) (cp - 10) (f5.mono lr) l0)) ?_)
      rintro _ l16 _ t3 ⟨_, rfl, rfl, rfl⟩
      refine kk [some 2] ?_
      have t1 := t1.mono (w3.trans t3).b
      have f6 := f6.mono (w0.trans (w3.trans t3)).r
      obtain ⟨l28, d19, v20⟩ := f6.srcR
      refine xO1 (lds := []) 12 (xIe (lds := []) (w0.trans (w3.trans t3)).r (eApp (T := tyU8) (p := l16.b) (et := 5) (bytes := 1) (xs := ([] : List UInt8)) (ys := ((List.drop 12 p) : List UInt8)) 1 t1 rfl (fun w hs => v20 w _ hs) (flatU8.reps d19) (by first | omega | (simp only [List.length_cons, List.length_nil] at *; omega)) (by first | omega | (simp only [List.length_cons, List.length_nil] at *; omega))) ?_)
      rintro _ _ _ - ⟨f12, l13, a15, rfl, rfl, rfl, p6⟩
      refine kk [some 2] ?_
      have p6 : Buf l16.b tyU8 5 (.slice f12 (((List.drop 12 p) : List UInt8)).length l13) a15 ((List.drop 12 p) : List UInt8) := p6
      have l26 := p6.len
      refine xt 1 [13] [] [some 2] [2, 4, 24] RG (w0.trans (w3.trans t3)).r (xc [2, 4, 24] ?_)
      exact hD7 _ _ _ (w0.trans (w3.trans t3)) ⟨f12, l13, a15, p22, by kernel_rfl, by kernel_rfl, p6⟩
    ·refine xIe (lds := []) w0.r eB ?_
     rintro _ _ _ - ⟨j9, rfl, rfl, rfl⟩
     refine kk [some 1] ?_
     refine xO2 (lds := []) 5 9 ?_ ?_
     ·have f4 := f4.mono w0.r
      refine xIe (lds := []) w0.r (eC 0 (fun g' lr eb ln => c99 g' ((List.take (10 - 8) (List.drop 8 p)) : List UInt8) (offA Ap cp 8 1) (cp - 8) (f4.mono lr) l1)) ?_
      rintro _ a22 _ z1 ⟨_, rfl, rfl, rfl⟩
      refine kk [some 1] ?_
      refine xO2 (lds := []) 8 9 ?_ ?_
      ·have f5 := f5.mono (w0.trans z1).r
       refine xIe (lds := []) (w0.trans z1).r (eC 0 (fun g' lr eb ln => c99 g' ((List.take (12 - 10) (List.drop 10 p)) : List UInt8) (offA Ap cp 10 1) (cp - 10) (f5.mono lr) l0)) ?_
       rintro _ d8 _ i4 ⟨_, rfl, rfl, rfl⟩
       refine kk [some 1] (xO1 (lds := []) 9 (xIe (lds := []) (w0.trans (z1.trans i4)).r (eBs (T := tyU8) (p := d8.b) (et := 5) (xs := ([] : List UInt8)) reps_nil (by simp)) ?_))
       rintro _ _ _ - ⟨w30, t34, j33, rfl, rfl, rfl, i22⟩
       refine kk [some 2] ?_
       have f6 := f6.mono (w0.trans (z1.trans i4)).r
       obtain ⟨i26, z21, f19⟩ := f6.srcR
       refine xO1 (lds := []) 12 (xIe (lds := []) (w0.trans (z1.trans i4)).r (eApp (T := tyU8) (p := d8.b) (et := 5) (bytes := 1) (xs := ([] : List UInt8)) (ys := ((List.drop 12 p) : List UInt8)) 0 i22 rfl (fun w hs => f19 w _ hs) (flatU8.reps z21) (by first | omega | (simp only [List.length_cons, List.length_nil] at *; omega)) (by first | omega | (simp only [List.length_cons, List.length_nil] at *; omega))) ?_)
       rintro _ _ _ - ⟨i13, f11, w13, rfl, rfl, rfl, v6⟩
       refine kk [some 2] ?_
       have v6 : Buf d8.b tyU8 5 (.slice i13 (((List.drop 12 p) : List UInt8)).length f11) w13 ((List.drop 12 p) : List UInt8) := v6
       have p25 := v6.len
       refine xt 1 [13] [] [some 2] [2, 4, 24] RG (w0.trans (z1.trans i4)).r (xSel (sm [1, 0, 2]) (xc [2, 4, 24] ?_))
       exact hD7 _ _ _ (w0.trans (z1.trans i4)) ⟨i13, f11, w13, j9, by kernel_rfl, by kernel_rfl, v6⟩
      ·refine xIe (lds := []) (w0.trans z1).r (eBs (T := tyU8) (p := a22.b) (et := 5) (xs := ([] : List UInt8)) reps_nil (by simp)) ?_
       rintro _ _ _ - ⟨z32, d34, l34, rfl, rfl, rfl, i8⟩
       refine kk [some 2] ?_
       have f5 := f5.mono (w0.trans z1).r
       refine xO1 (lds := []) 8 (xIe (lds := []) (w0.trans z1).r (eC 0 (fun g' lr eb ln => c99 g' ((List.take (12 - 10) (List.drop 10 p)) : List UInt8) (offA Ap cp 10 1) (cp - 10) (f5.mono lr) l0)) ?_)
       rintro _ j12 _ w5 ⟨_, rfl, rfl, rfl⟩
       refine kk [some 2] ?_
       have i8 := i8.mono w5.b
       have f6 := f6.mono (w0.trans (z1.trans w5)).r
       obtain ⟨d28, a20, j18⟩ := f6.srcR
       refine xO1 (lds := []) 12 (xIe (lds := []) (w0.trans (z1.trans w5)).r (eApp (T := tyU8) (p := j12.b) (et := 5) (bytes := 1) (xs := ([] : List UInt8)) (ys := ((List.drop 12 p) : List UInt8)) 0 i8 rfl (fun w hs => j18 w _ hs) (flatU8.reps a20) (by first | omega | (simp only [List.length_cons, List.length_nil] at *; omega)) (by first | omega | (simp only [List.length_cons, List.length_nil] at *; omega))) ?_)
       rintro _ _ _ - ⟨p11, w15, z11, rfl, rfl, rfl, l6⟩
       refine kk [some 2] ?_
       have l6 : Buf j12.b tyU8 5 (.slice p11 (((List.drop 12 p) : List UInt8)).length w15) z11 ((List.drop 12 p) : List UInt8) := l6
       have a27 := l6.len
       refine xt 1 [13] [] [some 2] [2, 4, 24] RG (w0.trans (z1.trans w5)).r (xSel (sm [1, 0, 2]) (xc [2, 4, 24] ?_))
       exact hD7 _ _ _ (w0.trans (z1.trans w5)) ⟨p11, w15, z11, j9, by kernel_rfl, by kernel_rfl, l6⟩
     ·refine xIe (lds := []) w0.r (eBs (T := tyU8) (p := v9.b) (et := 5) (xs := ([] : List UInt8)) reps_nil (by simp)) ?_
      rintro _ _ _ - ⟨p32, i33, a31, rfl, rfl, rfl, z9⟩
      refine kk [some 2] ?_
      have f4 := f4.mono w0.r
      refine xO1 (lds := []) 5 (xIe (lds := []) w0.r (eC 0 (fun g' lr eb ln => c99 g' ((List.take (10 - 8) (List.drop 8 p)) : List UInt8) (offA Ap cp 8 1) (cp - 8) (f4.mono lr) l1)) ?_)
      rintro _ v32 _ a2 ⟨_, rfl, rfl, rfl⟩
      refine kk [some 2] ?_
      have f5 := f5.mono (w0.trans a2).r
      refine xO1 (lds := []) 8 (xIe (lds := []) (w0.trans a2).r (eC 0 (fun g' lr eb ln => c99 g' ((List.take (12 - 10) (List.drop 10 p)) : List UInt8) (offA Ap cp 10 1) (cp - 10) (f5.mono lr) l0)) ?_)
      rintro _ f15 _ j5 ⟨_, rfl, rfl, rfl⟩
      refine kk [some 2] ?_
      have z9 := z9.mono (a2.trans j5).b
      have f6 := f6.mono (w0.trans (a2.trans j5)).r
      obtain ⟨j26, z19, w18⟩ := f6.srcR
      refine xO1 (lds := []) 12 (xIe (lds := []) (w0.trans (a2.trans j5)).r (eApp (T := tyU8) (p := f15.b) (et := 5) (bytes := 1) (xs := ([] : List UInt8)) (ys := ((List.drop 12 p) : List UInt8)) 0 z9 rfl (fun w hs => w18 w _ hs) (flatU8.reps z19) (by first | omega | (simp only [List.length_cons, List.length_nil] at *; omega)) (by first | omega | (simp only [List.length_cons, List.length_nil] at *; omega))) ?_)
      rintro _ _ _ - ⟨j15, l14, w12, rfl, rfl, rfl, z6⟩
      refine kk [some 2] ?_
      have z6 : Buf f15.b tyU8 5 (.slice j15 (((List.drop 12 p) : List UInt8)).length l14) w12 ((List.drop 12 p) : List UInt8) := z6
      have z29 := z6.len
      refine xt 1 [13] [] [some 2] [2, 4, 24] RG (w0.trans (a2.trans j5)).r (xSel (sm [1, 0, 2]) (xc [2, 4, 24] ?_))
      exact hD7 _ _ _ (w0.trans (a2.trans j5)) ⟨j15, l14, w12, j9, by kernel_rfl, by kernel_rfl, z6⟩
   ·refine xIe (lds := []) pR (eBs (T := tyU8) (p := g.b) (et := 5) (xs := ([] : List UInt8)) reps_nil (by simp)) ?_
    rintro _ _ _ - ⟨w31, j31, t30, rfl, rfl, rfl, w1⟩
    refine kk [some 1] ?_
    refine xO2 (lds := []) 2 14 ?_ ?_
    ·refine xIe (lds := []) pR (eC 0 (fun g' lr eb ln => c99 g' ((List.take 8 p) : List UInt8) (offA Ap cp 0 1) (cp - 0) (f3.mono lr) hy8)) ?_
     rintro _ p31 _ i0 ⟨_, rfl, rfl, rfl⟩
     refine kk [some 1] ?_
     refine xO2 (lds := []) 5 14 ?_ ?_
     ·have f4 := f4.mono i0.r
      refine xIe (lds := []) i0.r (eC 0 (fun g' lr eb ln => c99 g' ((List.take (10 - 8) (List.drop 8 p)) : List UInt8) (offA Ap cp 8 1) (cp - 8) (f4.mono lr) l1)) ?_
      rintro _ i34 _ v0 ⟨_, rfl, rfl, rfl⟩
      refine kk [some 1] ?_
      refine xO2 (lds := []) 8 14 ?_ ?_
      ·have f5 := f5.mono (i0.trans v0).r
       refine xIe (lds := []) (i0.trans v0).r (eC 0 (fun g' lr eb ln => c99 g' ((List.take (12 - 10) (List.drop 10 p)) : List UInt8) (offA Ap cp 10 1) (cp - 10) (f5.mono lr) l0)) ?_
       rintro _ l7 _ i1 ⟨_, rfl, rfl, rfl⟩
       refine kk [some 1] ?_
       refine xO2 (lds := []) 12 14 ?_ ?_
       ·have w1 := w1.mono (i0.trans (v0.trans i1)).b
        have f6 := f6.mono (i0.trans (v0.trans i1)).r
        obtain ⟨p29, w19, p20⟩ := f6.srcR
        refine xIe (lds := []) (i0.trans (v0.trans i1)).r (eApp (T := tyU8) (p := l7.b) (et := 5) (bytes := 1) (xs := ([] : List UInt8)) (ys := ((List.drop 12 p) : List UInt8)) 0 w1 rfl (fun w hs => p20 w _ hs) (flatU8.reps w19) (by first | omega | (simp only [List.length_cons, List.length_nil] at *; omega)) (by first | omega | (simp only [List.length_cons, List.length_nil] at *; omega))) ?_
        rintro _ _ _ - ⟨d16, a13, w17, rfl, rfl, rfl, i7⟩
        refine kk [some 1] ?_
        have i7 : Buf l7.b tyU8 5 (.slice d16 (((List.drop 12 p) : List UInt8)).length a13) w17 ((List.drop 12 p) : List UInt8) := i7
        have d26 := i7.len
        refine xt 2 [13] [] [some 1] [2, 24] RG (i0.trans (v0.trans i1)).r (xO1 (lds := []) 14 (xIe (lds := []) (i0.trans (v0.trans i1)).r eB ?_))
        rintro _ _ _ - ⟨i23, rfl, rfl, rfl⟩
        refine kk [some 2] (xc [2, 4, 24] ?_)
        exact hD7 _ _ _ (i0.trans (v0.trans i1)) ⟨d16, a13, w17, i23, by kernel_rfl, by kernel_rfl, i7⟩
       ·refine xIe (lds := []) (i0.trans (v0.trans i1)).r eB ?_
        rintro _ _ _ - ⟨w24, rfl, rfl, rfl⟩
        refine kk [some 2] ?_
        have w1 := w1.mono (i0.trans (v0.trans i1)).b
        have f6 := f6.mono (i0.trans (v0.trans i1)).r
        obtain ⟨w28, f18, i18⟩ := f6.srcR
        refine xO1 (lds := []) 12 (xIe (lds := []) (i0.trans (v0.trans i1)).r (eApp (T := tyU8) (p := l7.b) (et := 5) (bytes := 1) (xs := ([] : List UInt8)) (ys := ((List.drop 12 p) : List UInt8)) 1 w1 rfl (fun w hs => i18 w _ hs) (flatU8.reps f18) (by first | omega | (simp only [List.length_cons, List.length_nil] at *; omega)) (by first | omega | (simp only [List.length_cons, List.length_nil] at *; omega))) ?_)
        rintro _ _ _ - ⟨d17, i15, j14, rfl, rfl, rfl, a5⟩
        refine kk [some 2] ?_
        have a5 : Buf l7.b tyU8 5 (.slice d17 (((List.drop 12 p) : List UInt8)).length i15) j14 ((List.drop 12 p) : List UInt8) := a5
        have t27 := a5.len
        refine xt 1 [13] [] [some 2] [2, 4, 24] RG (i0.trans (v0.trans i1)).r (xc [2, 4, 24] ?_)
        exact hD7 _ _ _ (i0.trans (v0.trans i1)) ⟨d17, i15, j14, w24, by kernel_rfl, by kernel_rfl, a5⟩
      ·refine xIe (lds := []) (i0.trans v0).r eB ?_
       rintro _ _ _ - ⟨p23, rfl, rfl, rfl⟩
       refine kk [some 2] ?_
       have f5 := f5.mono (i0.trans v0).r
       refine xO1 (lds := []) 8 (xIe (lds := []) (i0.trans v0).r (eC 0 (fun g' lr eb ln => c99 g' ((List.take (12 - 10) (List.drop 10 p)) : List UInt8) (offA Ap cp 10 1) (cp - 10) (f5.mono lr) l0)) ?_)
       rintro _ v15 _ v4 ⟨_, rfl, rfl, rfl⟩
       refine kk [some 2] ?_
       have w1 := w1.mono (i0.trans (v0.trans v4)).b
       have f6 := f6.mono (i0.trans (v0.trans v4)).r
       obtain ⟨f28, a17, j20⟩ := f6.srcR
       refine xO1 (lds := []) 12 (xIe (lds := []) (i0.trans (v0.trans v4)).r (eApp (T := tyU8) (p := v15.b) (et := 5) (bytes := 1) (xs := ([] : List UInt8)) (ys := ((List.drop 12 p) : List UInt8)) 1 w1 rfl (fun w hs => j20 w _ hs) (flatU8.reps a17) (by first | omega | (simp only [List.length_cons, List.length_nil] at *; omega)) (by first | omega | (simp only [List.length_cons, List.length_nil] at *; omega))) ?_)
       rintro _ _ _ - ⟨j17, v14, p12, rfl, rfl, rfl, i5⟩
       refine kk [some 2] ?_
       have i5 : Buf v15.b tyU8 5 (.slice j17 (((List.drop 12 p) : List UInt8)).length v14) p12 ((List.drop 12 p) : List UInt8) := i5
       have v28 := i5.len
       refine xt 1 [13] [] [some 2] [2, 4, 24] RG (i0.trans (v0.trans v4)).r (xc [2, 4, 24] ?_)
       exact hD7 _ _ _ (i0.trans (v0.trans v4)) ⟨j17, v14, p12, p23, by kernel_rfl, by kernel_rfl, i5⟩
     ·refine xIe (lds := []) i0.r eB ?_
      rintro _ _ _ - ⟨f23, rfl, rfl, rfl⟩
      refine kk [some 2] ?_
      have f4 := f4.mono i0.r
      refine xO1 (lds := []) 5 (xIe (lds := []) i0.r (eC 0 (fun g' lr eb ln => c99 g' ((List.take (10 - 8) (List.drop 8 p)) : List UInt8) (offA Ap cp 8 1) (cp - 8) (f4.mono lr) l1)) ?_)
      rintro _ z35 _ f2 ⟨_, rfl, rfl, rfl⟩
      refine kk [some 2] ?_
      have f5 := f5.mono (i0.trans f2).r
      refine xO1 (lds := []) 8 (xIe (lds := []) (i0.trans f2).r (eC 0 (fun g' lr eb ln => c99 g' ((List.take (12 - 10) (List.drop 10 p)) : List UInt8) (offA Ap cp 10 1) (cp - 10) (f5.mono lr) l0)) ?_)
      rintro _ l9 _ d4 ⟨_, rfl, rfl, rfl⟩
      refine kk [some 2] ?_
      have w1 := w1.mono (i0.trans (f2.trans d4)).b
      have f6 := f6.mono (i0.trans (f2.trans d4)).r
      obtain ⟨j28, w22, d18⟩ := f6.srcR
      refine xO1 (lds := []) 12 (xIe (lds := []) (i0.trans (f2.trans d4)).r (eApp (T := tyU8) (p := l9.b) (et := 5) (bytes := 1) (xs := ([] : List UInt8)) (ys := ((List.drop 12 p) : List UInt8)) 1 w1 rfl (fun w hs => d18 w _ hs) (flatU8.reps w22) (by first | omega | (simp only [List.length_cons, List.length_nil] at *; omega)) (by first | omega | (simp only [List.length_cons, List.length_nil] at *; omega))) ?_)
      rintro _ _ _ - ⟨p15, z16, z15, rfl, rfl, rfl, a6⟩
      refine kk [some 2] ?_
      have a6 : Buf l9.b tyU8 5 (.slice p15 (((List.drop 12 p) : List UInt8)).length z16) z15 ((List.drop 12 p) : List UInt8) := a6
      have v26 := a6.len
      refine xt 1 [13] [] [some 2] [2, 4, 24] RG (i0.trans (f2.trans d4)).r (xc [2, 4, 24] ?_)
      exact hD7 _ _ _ (i0.trans (f2.trans d4)) ⟨p15, z16, z15, f23, by kernel_rfl, by kernel_rfl, a6⟩
    ·refine xIe (lds := []) pR eB ?_
     rintro _ _ _ - ⟨l23, rfl, rfl, rfl⟩
     refine kk [some 2] (xO1 (lds := []) 2 (xIe (lds := []) pR (eC 0 (fun g' lr eb ln => c99 g' ((List.take 8 p) : List UInt8) (offA Ap cp 0 1) (cp - 0) (f3.mono lr) hy8)) ?_))
     rintro _ w35 _ w2 ⟨_, rfl, rfl, rfl⟩
     refine kk [some 2] ?_
     have f4 := f4.mono w2.r
     refine xO1 (lds := []) 5 (xIe (lds := []) w2.r (eC 0 (fun g' lr eb ln => c99 g' ((List.take (10 - 8) (List.drop 8 p)) : List UInt8) (offA Ap cp 8 1) (cp - 8) (f4.mono lr) l1)) ?_)
     rintro _ t31 _ v2 ⟨_, rfl, rfl, rfl⟩
     refine kk [some 2] ?_
     have f5 := f5.mono (w2.trans v2).r
     refine xO1 (lds := []) 8 (xIe (lds := []) (w2.trans v2).r (eC 0 (fun g' lr eb ln => c99 g' ((List.take (12 - 10) (List.drop 10 p)) : List UInt8) (offA Ap cp 10 1) (cp - 10) (f5.mono lr) l0)) ?_)
     rintro _ w10 _ a4 ⟨_, rfl, rfl, rfl⟩
     refine kk [some 2] ?_
     have w1 := w1.mono (w2.trans (v2.trans a4)).b
     have f6 := f6.mono (w2.trans (v2.trans a4)).r
     obtain ⟨z28, t18, t21⟩ := f6.srcR
     refine xO1 (lds := []) 12 (xIe (lds := []) (w2.trans (v2.trans a4)).r (eApp (T := tyU8) (p := w10.b) (et := 5) (bytes := 1) (xs := ([] : List UInt8)) (ys := ((List.drop 12 p) : List UInt8)) 1 w1 rfl (fun w hs => t21 w _ hs) (flatU8.reps t18) (by first | omega | (simp only [List.length_cons, List.length_nil] at *; omega)) (by first | omega | (simp only [List.length_cons, List.length_nil] at *; omega))) ?_)
     rintro _ _ _ - ⟨i10, a9, a12, rfl, rfl, rfl, j7⟩
     refine kk [some 2] ?_
     have j7 : Buf w10.b tyU8 5 (.slice i10 (((List.drop 12 p) : List UInt8)).length a9) a12 ((List.drop 12 p) : List UInt8) := j7
     have d29 := j7.len
     refine xt 1 [13] [] [some 2] [2, 4, 24] RG (w2.trans (v2.trans a4)).r (xc [2, 4, 24] ?_)
     exact hD7 _ _ _ (w2.trans (v2.trans a4)) ⟨i10, a9, a12, l23, by kernel_rfl, by kernel_rfl, j7⟩
   ·refine xIe (lds := []) pR eB ?_
    rintro _ _ _ - ⟨t7, rfl, rfl, rfl⟩
    refine kk [some 1] ?_
    refine xO2 (lds := []) 2 9 ?_ ?_
    ·refine xIe (lds := []) pR (eC 0 (fun g' lr eb ln => c99 g' ((List.take 8 p) : List UInt8) (offA Ap cp 0 1) (cp - 0) (f3.mono lr) hy8)) ?_
     rintro _ t22 _ p0 ⟨_, rfl, rfl, rfl⟩
     refine kk [some 1] ?_
     refine xO2 (lds := []) 5 9 ?_ ?_
     ·have f4 := f4.mono p0.r
      refine xIe (lds := []) p0.r (eC 0 (fun g' lr eb ln => c99 g' ((List.take (10 - 8) (List.drop 8 p)) : List UInt8) (offA Ap cp 8 1) (cp - 8) (f4.mono lr) l1)) ?_
      rintro _ v23 _ j1 ⟨_, rfl, rfl, rfl⟩
      refine kk [some 1] ?_
      refine xO2 (lds := []) 8 9 ?_ ?_
      ·have f5 := f5.mono (p0.trans j1).r
       refine xIe (lds := []) (p0.trans j1).r (eC 0 (fun g' lr eb ln => c99 g' ((List.take (12 - 10) (List.drop 10 p)) : List UInt8) (offA Ap cp 10 1) (cp - 10) (f5.mono lr) l0)) ?_
       rintro _ a8 _ a3 ⟨_, rfl, rfl, rfl⟩
       refine kk [some 1] (xO1 (lds := []) 9 (xIe (lds := []) (p0.trans (j1.trans a3)).r (eBs (T := tyU8) (p := a8.b) (et := 5) (xs := ([] : List UInt8)) reps_nil (by simp)) ?_))
       rintro _ _ _ - ⟨v30, v34, a34, rfl, rfl, rfl, j24⟩
       refine kk [some 2] ?_
       have f6 := f6.mono (p0.trans (j1.trans a3)).r
       obtain ⟨w26, v19, l20⟩ := f6.srcR
       refine xO1 (lds := []) 12 (xIe (lds := []) (p0.trans (j1.trans a3)).r (eApp (T := tyU8) (p := a8.b) (et := 5) (bytes := 1) (xs := ([] : List UInt8)) (ys := ((List.drop 12 p) : List UInt8)) 0 j24 rfl (fun w hs => l20 w _ hs) (flatU8.reps v19) (by first | omega | (simp only [List.length_cons, List.length_nil] at *; omega)) (by first | omega | (simp only [List.length_cons, List.length_nil] at *; omega))) ?_)
       rintro _ _ _ - ⟨i12, f13, z14, rfl, rfl, rfl, l5⟩
       refine kk [some 2] ?_
       have l5 : Buf a8.b tyU8 5 (.slice i12 (((List.drop 12 p) : List UInt8)).length f13) z14 ((List.drop 12 p) : List UInt8) := l5
       have j27 := l5.len
       refine xt 1 [13] [] [some 2] [2, 4, 24] RG (p0.trans (j1.trans a3)).r (xSel (sm [1, 0, 2]) (xc [2, 4, 24] ?_))
       exact hD7 _ _ _ (p0.trans (j1.trans a3)) ⟨i12, f13, z14, t7, by kernel_rfl, by kernel_rfl, l5⟩
      ·refine xIe (lds := []) (p0.trans j1).r (eBs (T := tyU8) (p := v23.b) (et := 5) (xs := ([] : List UInt8)) reps_nil (by simp)) ?_
       rintro _ _ _ - ⟨l32, z30, t33, rfl, rfl, rfl, t8⟩
       refine kk [some 2] ?_
       have f5 := f5.mono (p0.trans j1).r
       refine xO1 (lds := []) 8 (xIe (lds := []) (p0.trans j1).r (eC 0 (fun g' lr eb ln => c99 g' ((List.take (12 - 10) (List.drop 10 p)) : List UInt8) (offA Ap cp 10 1) (cp - 10) (f5.mono lr) l0)) ?_)
       rintro _ t13 _ z5 ⟨_, rfl, rfl, rfl⟩
       refine kk [some 2] ?_
       have t8 := t8.mono z5.b
       have f6 := f6.mono (p0.trans (j1.trans z5)).r
       obtain ⟨t26, i19, a18⟩ := f6.srcR
       refine xO1 (lds := []) 12 (xIe (lds := []) (p0.trans (j1.trans z5)).r (eApp (T := tyU8) (p := t13.b) (et := 5) (bytes := 1) (xs := ([] : List UInt8)) (ys := ((List.drop 12 p) : List UInt8)) 0 t8 rfl (fun w hs => a18 w _ hs) (flatU8.reps i19) (by first | omega | (simp only [List.length_cons, List.length_nil] at *; omega)) (by first | omega | (simp only [List.length_cons, List.length_nil] at *; omega))) ?_)
       rintro _ _ _ - ⟨p10, a16, t10, rfl, rfl, rfl, a7⟩
       refine kk [some 2] ?_
       have a7 : Buf t13.b tyU8 5 (.slice p10 (((List.drop 12 p) : List UInt8)).length a16) t10 ((List.drop 12 p) : List UInt8) := a7
       have p27 := a7.len
       refine xt 1 [13] [] [some 2] [2, 4, 24] RG (p0.trans (j1.trans z5)).r (xSel (sm [1, 0, 2]) (xc [2, 4, 24] ?_))
       exact hD7 _ _ _ (p0.trans (j1.trans z5)) ⟨p10, a16, t10, t7, by kernel_rfl, by kernel_rfl, a7⟩
     ·refine xIe (lds := []) p0.r (eBs (T := tyU8) (p := t22.b) (et := 5) (xs := ([] : List UInt8)) reps_nil (by simp)) ?_
      rintro _ _ _ - ⟨v33, f34, i31, rfl, rfl, rfl, i9⟩
      refine kk [some 2] ?_
      have f4 := f4.mono p0.r
      refine xO1 (lds := []) 5 (xIe (lds := []) p0.r (eC 0 (fun g' lr eb ln => c99 g' ((List.take (10 - 8) (List.drop 8 p)) : List UInt8) (offA Ap cp 8 1) (cp - 8) (f4.mono lr) l1)) ?_)
      rintro _ d30 _ d2 ⟨_, rfl, rfl, rfl⟩
      refine kk [some 2] ?_
      have f5 := f5.mono (p0.trans d2).r
      refine xO1 (lds := []) 8 (xIe (lds := []) (p0.trans d2).r (eC 0 (fun g' lr eb ln => c99 g' ((List.take (12 - 10) (List.drop 10 p)) : List UInt8) (offA Ap cp 10 1) (cp - 10) (f5.mono lr) l0)) ?_)
      rintro _ j16 _ l4 ⟨_, rfl, rfl, rfl⟩
      refine kk [some 2] ?_
      have i9 := i9.mono (d2.trans l4).b
      have f6 := f6.mono (p0.trans (d2.trans l4)).r
      obtain ⟨w27, v17, i21⟩ := f6.srcR
      refine xO1 (lds := []) 12 (xIe (lds := []) (p0.trans (d2.trans l4)).r (eApp (T := tyU8) (p := j16.b) (et := 5) (bytes := 1) (xs := ([] : List UInt8)) (ys := ((List.drop 12 p) : List UInt8)) 0 i9 rfl (fun w hs => i21 w _ hs) (flatU8.reps v17) (by first | omega | (simp only [List.length_cons, List.length_nil] at *; omega)) (by first | omega | (simp only [List.length_cons, List.length_nil] at *; omega))) ?_)
      rintro _ _ _ - ⟨l10, i17, z10, rfl, rfl, rfl, w8⟩
      refine kk [some 2] ?_
      have w8 : Buf j16.b tyU8 5 (.slice l10 (((List.drop 12 p) : List UInt8)).length i17) z10 ((List.drop 12 p) : List UInt8) := w8
      have i25 := w8.len
      refine xt 1 [13] [] [some 2] [2, 4, 24] RG (p0.trans (d2.trans l4)).r (xSel (sm [1, 0, 2]) (xc [2, 4, 24] ?_))
      exact hD7 _ _ _ (p0.trans (d2.trans l4)) ⟨l10, i17, z10, t7, by kernel_rfl, by kernel_rfl, w8⟩
    ·refine xIe (lds := []) pR (eBs (T := tyU8) (p := g.b) (et := 5) (xs := ([] : List UInt8)) reps_nil (by simp)) ?_
     rintro _ _ _ - ⟨v31, p34, i30, rfl, rfl, rfl, f8⟩
     refine kk [some 2] (xO1 (lds := []) 2 (xIe (lds := []) pR (eC 0 (fun g' lr eb ln => c99 g' ((List.take 8 p) : List UInt8) (offA Ap cp 0 1) (cp - 0) (f3.mono lr) hy8)) ?_))
     rintro _ a32 _ z2 ⟨_, rfl, rfl, rfl⟩
     refine kk [some 2] ?_
     have f4 := f4.mono z2.r
     refine xO1 (lds := []) 5 (xIe (lds := []) z2.r (eC 0 (fun g' lr eb ln => c99 g' ((List.take (10 - 8) (List.drop 8 p)) : List UInt8) (offA Ap cp 8 1) (cp - 8) (f4.mono lr) l1)) ?_)
     rintro _ l31 _ z3 ⟨_, rfl, rfl, rfl⟩
     refine kk [some 2] ?_
     have f5 := f5.mono (z2.trans z3).r
     refine xO1 (lds := []) 8 (xIe (lds := []) (z2.trans z3).r (eC 0 (fun g' lr eb ln => c99 g' ((List.take (12 - 10) (List.drop 10 p)) : List UInt8) (offA Ap cp 10 1) (cp - 10) (f5.mono lr) l0)) ?_)
     rintro _ t14 _ w4 ⟨_, rfl, rfl, rfl⟩
     refine kk [some 2] ?_
     have f8 := f8.mono (z2.trans (z3.trans w4)).b
     have f6 := f6.mono (z2.trans (z3.trans w4)).r
     obtain ⟨t28, v18, l21⟩ := f6.srcR
     refine xO1 (lds := []) 12 (xIe (lds := []) (z2.trans (z3.trans w4)).r (eApp (T := tyU8) (p := t14.b) (et := 5) (bytes := 1) (xs := ([] : List UInt8)) (ys := ((List.drop 12 p) : List UInt8)) 0 f8 rfl (fun w hs => l21 w _ hs) (flatU8.reps v18) (by first | omega | (simp only [List.length_cons, List.length_nil] at *; omega)) (by first | omega | (simp only [List.length_cons, List.length_nil] at *; omega))) ?_)
     rintro _ _ _ - ⟨p13, w11, j10, rfl, rfl, rfl, i6⟩
     refine kk [some 2] ?_
     have i6 : Buf t14.b tyU8 5 (.slice p13 (((List.drop 12 p) : List UInt8)).length w11) j10 ((List.drop 12 p) : List UInt8) := i6
     have d25 := i6.len
     refine xt 1 [13] [] [some 2] [2, 4, 24] RG (z2.trans (z3.trans w4)).r (xSel (sm [1, 0, 2]) (xc [2, 4, 24] ?_))
     exact hD7 _ _ _ (z2.trans (z3.trans w4)) ⟨p13, w11, j10, t7, by kernel_rfl, by kernel_rfl, i6⟩

end Go.Proofs.YtnidomdebhekiaaGreat
