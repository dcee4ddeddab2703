/-
Walks, printed by wip/gen, with half of their indentation. Conditions: each theorem's own.
-/
import Derived.Test.YtnidomdebhekiaaGreatC3
namespace Go.Proofs.YtnidomdebhekiaaGreat
set_option linter.unusedVariables false
set_option linter.unusedSimpArgs false
open Go.RowKit
set_option maxRecDepth 100000
def o54 (n : Node) : Option (Node × Frame × Bool × Int) :=
 (cond ((n.number == 1)) (letJ (o81 n (2 : Int)) fun y3 => (cond ((y3 != 0)) (some ((n, (⟨0, 0, 0, ([] : List UInt8)⟩ : Frame), (false), (y3 : Int)))) (cond ((n.role != 2)) (some ((({ n with next_ := 3 }), (⟨0, 0, 0, ([] : List UInt8)⟩ : Frame), (false), (0 : Int)))) (letJ (o93 ({ n with next_ := 3 })) fun y10 => (letJ (τ := Bool × (List UInt8)) (cond (y10) ((true, n.heard.input)) ((false, ([] : List UInt8)))) fun t13 => (bindO (o94 n.input (true) t13.2 (t13.1)) fun y16 => (bindO (o95 ({ n with in_ := y16.1 })) fun y22 => (letJ (o83 ({ n with next_ := 3, set_ := { n with in_ := y16.1 } }) (2 : Int) y22.1) fun y28 => (some ((({ n with next_ := 3, set_ := { n with in_ := y16.1 } }), y28, (true), (0 : Int)))))))))))) (grd ((n.number == 2)) (letJ (o81 n (2 : Int)) fun y34 => (cond ((y34 != 0)) (some ((n, (⟨0, 0, 0, ([] : List UInt8)⟩ : Frame), (false), (y34 : Int)))) (cond ((n.role != 2)) (some ((({ n with next_ := 3 }), (⟨0, 0, 0, ([] : List UInt8)⟩ : Frame), (false), (0 : Int)))) (letJ (o93 ({ n with next_ := 3 })) fun y41 => (letJ (τ := Bool × (List UInt8)) (cond (y41) ((true, n.heard.input)) ((false, ([] : List UInt8)))) fun t44 => (bindO (o94 t44.2 (t44.1) n.input (true)) fun y47 => (bindO (o95 ({ n with in_ := y47.1 })) fun y53 => (letJ (o83 ({ n with next_ := 3, set_ := { n with in_ := y47.1 } }) (2 : Int) y53.1) fun y59 => (some ((({ n with next_ := 3, set_ := { n with in_ := y47.1 } }), y59, (true), (0 : Int))))))))))))))
theorem c54 (g : Gh) (b_n : Nat) (n : Node) (d0 : OA) (p0 : Nat) (j0 : OA) (i0 : Nat) (l0 : OA) (v0 : Nat) (f0 : Arr g.b tyU8 d0 p0 n.input) (w0 : Arr g.b tyU8 j0 i0 n.heard.input) (w1 : Arr g.b tyU8 l0 v0 n.set_.in_) {r : Node × Frame × Bool × Int} (hS : o54 n = some r) :
  Ctr Tryz.prog 54 [vp b_n 0] g [some ⟨b_n, 126, (cNode n d0 p0 j0 i0 l0 v0)⟩] (fun v ψ o => ∃ (t3 : OA) (w3 : Nat) (j1 : OA) (z1 : Nat) (v1 : OA) (d1 : Nat) (w2 : OA) (z2 : Nat), v = Value.tuple #[(aFrame r.2.1 w2 z2), vb r.2.2.1, vi r.2.2.2] ∧ o = [some ⟨b_n, 126, (cNode r.1 t3 w3 j1 z1 v1 d1)⟩] ∧ Arr ψ tyU8 t3 w3 r.1.input ∧ Arr ψ tyU8 j1 z1 r.1.heard.input ∧ Arr ψ tyU8 v1 d1 r.1.set_.in_ ∧ Arr ψ tyU8 w2 z2 r.2.1.payload) := by
 unfold o54 at hS
 refine xFn Tryz.f54 (Tryz.f54.body.getD .skip) 102 ?_
 refine wpq_case ((n.number == 1)) (fun h1 => ?_) (fun h1 => ?_)
 ·have hS := cond_T h1 hS
  have h1p : n.number = 1 := eq_of_beq h1
  refine xSq (xRg (xE eB ?_))
  rintro _ _ _ - ⟨b2, rfl, rfl, rfl⟩
  refine xb 2 [] [0, 2] (xRe (xW (xSq (xSq (xRg (xb 1 [] [0, 2, 12] ?_))))))
  obtain ⟨y3, hy3, hS⟩ := letJ_T hS
  refine xE (eC 0 (fun g' lr eb ln => c81 g' ⟨b_n, 0, none⟩ n d0 p0 j0 i0 l0 v0 (2 : Int) (cells_lent' 1 b_n 0 (cNode n d0 p0 j0 i0 l0 v0) ln) ((f0.mono g.br).mono lr) ((w0.mono g.br).mono lr) ((w1.mono g.br).mono lr) hy3)) ?_
  rintro _ g4 _ e5 ⟨_, rfl, rfl, rfl⟩
  refine xb 1 [] [0, 2, 5] (xRe (xW (xSq (xRg (xb 2 [] [0, 2, 5, 15] (xRe (xW ?_)))))))
  refine xCd ((y3 != 0)) (fun h6 => ?_) (fun h6 => ?_)
  ·have hS := cond_T h6 hS
   have h6p : ¬ (y3 = 0) := ne_of_bne_ h6
   refine xSq (xRg (xbo 5 [(2, 0)] [some ⟨b2, 49, (cFrame Z5 none 0)⟩, some ⟨b_n, 126, (cNode n d0 p0 j0 i0 l0 v0)⟩] [2, 3, 4] (xRe (xW ?_))))
   have f0 := f0.mono e5.b
   have w0 := w0.mono e5.b
   have w1 := w1.mono e5.b
   obtain rfl := Option.some.inj hS
   exact xRetC [some 1] [(2, 0)] e5 ⟨d0, p0, j0, i0, l0, v0, none, 0, by kernel_rfl, by kernel_rfl, f0, w0, w1, Arr.nil⟩ (fun _ _ h => h)
  ·have hS := cond_F h6 hS
   have h6p : y3 = 0 := eq_of_bne_false_ h6
   refine xSk (xW (xc [0, 2] (xSq (xRg (xbo 4 [(3, 1)] [some ⟨b2, 49, (cFrame Z5 none 0)⟩, some ⟨b_n, 126, (cNode ({ n with next_ := 3 }) d0 p0 j0 i0 l0 v0)⟩] [0, 2] (xRe (xW (xSq (xSq (xRg (xb 5 [(3, 1)] [0, 2, 25] (xRe (xW ?_)))))))))))))
   refine xCd ((n.role != 2)) (fun h7 => ?_) (fun h7 => ?_)
   ·have hS := cond_T h7 hS
    have h7p : ¬ (n.role = 2) := ne_of_bne_ h7
    refine xSq (xRg (xbo 4 [(1, 0)] [some ⟨b2, 49, (cFrame Z5 none 0)⟩, some ⟨b_n, 126, (cNode ({ n with next_ := 3 }) d0 p0 j0 i0 l0 v0)⟩] [2, 3, 4] (xRe (xW ?_))))
    have f0 := f0.mono e5.b
    have w0 := w0.mono e5.b
    have w1 := w1.mono e5.b
    obtain rfl := Option.some.inj hS
    exact xRetC [some 1] [(2, 0)] e5 ⟨d0, p0, j0, i0, l0, v0, none, 0, by kernel_rfl, by kernel_rfl, f0, w0, w1, Arr.nil⟩ (fun _ _ h => h)
   ·have hS := cond_F h7 hS
    have h7p : n.role = 2 := eq_of_bne_false_ h7
    refine xSk (xW (xc [0, 2] (xSq (xRg (xE eB ?_)))))
    rintro _ _ _ - ⟨b8, rfl, rfl, rfl⟩
    refine xRe (xW (xSq (xRg (xE eB ?_))))
    rintro _ _ _ - ⟨b9, rfl, rfl, rfl⟩
    refine xRe (xW (xSq ?_))
    refine xDr 0 [3, 8, 13] [17, 16] [some ⟨b2, 49, (cFrame Z5 none 0)⟩, some ⟨b_n, 126, (cNode ({ n with next_ := 3 }) d0 p0 j0 i0 l0 v0)⟩] 18 (fun RG => ?_) (fun _ _ _ _ _ h => h)
    refine xt 14 [0, 1, 2, 3] [(3, 1)] [some 2, some 3] [0, 2, 6, 7, 30] RG pR (xTp 4 RG (fun _ => (qSub .i64 (n.number) (1) (wr64 (by omega)))) (xt 9 [5, 6, 7, 8] [(8, 1)] [some 2, some 3] [0, 2, 6, 7, 31, 35] RG pR (xTp 9 RG (fun _ => (qSub .i64 (n.number) (1) (wr64 (by omega)))) (xt 4 [10, 11, 12, 13] [(13, 1)] [some 2, some 3] [0, 2, 6, 7, 31, 36, 40] RG pR (wpq_re 31 (v := vi (n.number - 1)) (vi 0) (by kernel_rfl) (congrArg (Value.int .i64) (by first | omega | (rw [IntKind.wrap_i64]; omega))) (xt 3 [14] [] [some 2, some 3] [0, 2, 6, 7, 36, 40, 41] RG pR (xO1 (lds := [3, 8, 13]) 15 (xId (lds := [3, 8, 13]) pR (eStL b8 0 1) ?_))))))))
    rintro _ _ _ - ⟨rfl, rfl⟩
    refine kk [some 2, some 3] (wpq_re 36 (v := vi (n.number - 1)) (vi 0) (by kernel_rfl) (congrArg (Value.int .i64) (by first | omega | (rw [IntKind.wrap_i64]; omega))) (xt 1 [16] [] [some 2, some 3] [0, 2, 6, 7, 42] RG pR (xO1 (lds := [3, 8, 13]) 17 (xId (lds := [3, 8, 13]) pR (eStL b9 0 0) ?_))))
    rintro _ _ _ - ⟨rfl, rfl⟩
    refine kf (xAe (lds := [3, 8, 13]) (xW (xc [0, 2, 6, 7] (xSq (xSq (xRg (xb 1 [] [0, 2, 6, 7, 43] ?_)))))))
    have f0 := f0.mono e5.b
    have w0 := w0.mono e5.b
    have w1 := w1.mono e5.b
    obtain ⟨y10, w5, hS⟩ := letJ_T hS
    refine xE (eC 0 (fun g' lr eb ln => c93 g' ⟨b_n, 0, none⟩ ({ n with next_ := 3 }) d0 p0 j0 i0 l0 v0 (cells_lent' 3 b_n 0 (cNode ({ n with next_ := 3 }) d0 p0 j0 i0 l0 v0) ln) ((f0.mono g4.br).mono lr) ((w0.mono g4.br).mono lr) ((w1.mono g4.br).mono lr) w5)) ?_
    rintro _ g11 _ e12 ⟨_, rfl, rfl, rfl⟩
    refine xRe (xW (xc [0, 2, 6, 7, 44] ?_))
    refine xLetJ hS (fun g own sl t13 => ∃ (j2 : OA) (f2 : Nat), own = [some ⟨b9, 189, [vb true, vb t13.1]⟩, some ⟨b8, 188, [vs d0 n.input p0, vs j2 t13.2 f2]⟩, some ⟨b2, 49, (cFrame Z5 none 0)⟩, some ⟨b_n, 126, (cNode ({ n with next_ := 3 }) d0 p0 j0 i0 l0 v0)⟩] ∧ sl = [(0, vp b_n 0), (2, vp b2 0), (6, vp b8 0), (7, vp b9 0)] ∧ Arr g.b tyU8 j2 f2 t13.2) ?_ ?_
    ·rintro g14 _ _ t13 e15 ⟨j2, f2, rfl, rfl, l4⟩ hS
     refine xW (xSq (xRg (xb 8 [(1, 1), (3, 0), (5, 1), (7, 0)] [0, 2, 64, 66, 68, 70] ?_)))
     have f0 := f0.mono (e12.trans e15).b
     obtain ⟨y16, z5, hS⟩ := bindO_T hS
     refine xE (eC 0 (fun g' lr eb ln => c94 g' n.input d0 p0 (true) t13.2 j2 f2 (t13.1) ((f0.mono g14.br).mono lr) ((l4.mono g14.br).mono lr) z5)) ?_
     rintro _ g17 _ e18 ⟨_, rfl, d3, z3, j6, rfl, rfl, v4⟩
     refine xb 5 [] [0, 2, 8] (xRe (xW (xSq ?_)))
     refine xDr 0 [4, 8, 12] [17, 14, 15, 16] [some ⟨b9, 189, [vb true, vb t13.1]⟩, some ⟨b8, 188, [vs d0 n.input p0, vs j2 t13.2 f2]⟩, some ⟨b2, 49, (cFrame Z5 none 0)⟩, some ⟨b_n, 126, (cNode ({ n with next_ := 3 }) d0 p0 j0 i0 l0 v0)⟩] 18 (fun RG => ?_) (fun _ _ _ _ _ h => h)
     refine xt 1 [0, 1, 2, 3, 4, 5, 6, 7, 8, 9, 10, 11, 12, 13, 14, 15, 16] [(4, 3), (8, 3), (12, 3)] (sm [1, 2, 3, 4]) [0, 2, 88, 90] RG pR (xO1 (lds := [4, 8, 12]) 17 (xId (lds := [4, 8, 12]) pR (eStL b_n 14 4) ?_))
     rintro _ _ _ - ⟨rfl, rfl⟩
     refine kf (xAe (lds := [4, 8, 12]) (xW (xc [0, 2] (xSq (xRg (xb 4 [(3, 4)] [0, 2, 95] ?_))))))
     refine wpq_freeze 0 (by kernel_rfl) v4 (fun g19 e20 f21 => ?_)
     obtain ⟨y22, l5, hS⟩ := bindO_T hS
     refine xE (eC 0 (fun g' lr eb ln => c95 g' ({ n with in_ := y16.1 }) d3 z3 ((f21.mono g19.br).mono lr) l5)) ?_
     rintro _ g23 _ e24 ⟨_, rfl, d4, j4, z6, rfl, rfl, a3⟩
     refine xb 5 [] [0, 2, 10] (xRe (xW (xSq (xRg (xb 2 [] [2, 99, 100] ?_)))))
     refine wpq_freeze 0 (by kernel_rfl) a3 (fun g25 e26 f27 => ?_)
     have f0 := f0.mono (e18.trans (e20.trans (e24.trans e26))).b
     have w0 := w0.mono (e12.trans (e15.trans (e18.trans (e20.trans (e24.trans e26))))).b
     have f21 := f21.mono (e24.trans e26).b
     obtain ⟨y28, f4, hS⟩ := letJ_T hS
     refine xE (eC 0 (fun g' lr eb ln => c83 g' ⟨b_n, 0, none⟩ ({ n with next_ := 3, set_ := { n with in_ := y16.1 } }) d0 p0 j0 i0 d3 z3 (2 : Int) y22.1 d4 j4 (cells_lent' 5 b_n 0 (cNode ({ n with next_ := 3, set_ := { n with in_ := y16.1 } }) d0 p0 j0 i0 d3 z3) ln) ((f0.mono g25.br).mono lr) ((w0.mono g25.br).mono lr) ((f21.mono g25.br).mono lr) (by rw [eb]; exact f27) f4)) ?_
     rintro _ g29 _ e30 ⟨_, rfl, t1, l1, rfl, rfl, l3⟩
     refine xbo 3 [(3, 4)] [none, none, some ⟨b9, 189, [vb true, vb t13.1]⟩, some ⟨b8, 188, [vs d0 n.input p0, vs j2 t13.2 f2]⟩, some ⟨b2, 49, (cFrame y28 t1 l1)⟩, some ⟨b_n, 126, (cNode ({ n with next_ := 3, set_ := { n with in_ := y16.1 } }) d0 p0 j0 i0 d3 z3)⟩] [2, 3, 4] (xRe (xW ?_))
     have f0 := f0.mono e30.b
     have w0 := w0.mono e30.b
     have f21 := f21.mono e30.b
     obtain rfl := Option.some.inj hS
     exact xRetC [some 5] [(2, 4)] (e5.trans (e12.trans (e15.trans (e18.trans (e20.trans (e24.trans (e26.trans e30))))))) ⟨d0, p0, j0, i0, d3, z3, t1, l1, by kernel_rfl, by kernel_rfl, f0, w0, f21, l3⟩ (fun _ _ h => h)
    ·intro uu13 hS hN13
     refine xCd (y10) (fun h31 => ?_) (fun h31 => ?_)
     ·have hS := cond_T h31 hS
      refine xDr 0 [3, 8, 14] [18, 17] [some ⟨b2, 49, (cFrame Z5 none 0)⟩, some ⟨b_n, 126, (cNode ({ n with next_ := 3 }) d0 p0 j0 i0 l0 v0)⟩] 19 (fun RG => ?_) (fun _ _ _ _ _ h => h)
      refine xt 15 [0, 1, 2, 3] [(3, 1)] [some 2, some 3] [0, 2, 6, 7, 48] RG pR (xTp 4 RG (fun _ => (qSub .i64 (2) (n.number) (wr64 (by omega)))) (xt 10 [5, 6, 7, 8] [(8, 1)] [some 2, some 3] [0, 2, 6, 7, 49, 53] RG pR (xTp 9 RG (fun _ => (qSub .i64 (2) (n.number) (wr64 (by omega)))) (xt 4 [10, 11, 12, 13, 14] [(14, 1)] [some 2, some 3] [0, 2, 6, 7, 49, 54, 59] RG pR (wpq_re 49 (v := vi (2 - n.number)) (vi 1) (by kernel_rfl) (congrArg (Value.int .i64) (by first | omega | (rw [IntKind.wrap_i64]; omega))) (xt 3 [15] [] [some 2, some 3] [0, 2, 6, 7, 54, 59, 60] RG pR (xO1 (lds := [3, 8, 14]) 16 (xId (lds := [3, 8, 14]) pR (eStL b8 1 1) ?_))))))))
      rintro _ _ _ - ⟨rfl, rfl⟩
      refine kk [some 2, some 3] (wpq_re 54 (v := vi (2 - n.number)) (vi 1) (by kernel_rfl) (congrArg (Value.int .i64) (by first | omega | (rw [IntKind.wrap_i64]; omega))) (xt 1 [17] [] [some 2, some 3] [0, 2, 6, 7, 61] RG pR (xO1 (lds := [3, 8, 14]) 18 (xId (lds := [3, 8, 14]) pR (eStL b9 1 0) ?_))))
      rintro _ _ _ - ⟨rfl, rfl⟩
      refine kf (xAe (lds := [3, 8, 14]) ?_)
      have w0 := w0.mono e12.b
      refine xc [0, 2, 6, 7] ?_
      have eS := hS.symm
      exact hN13 _ eS _ _ _ gR ⟨j0, i0, by kernel_rfl, by kernel_rfl, w0⟩
     ·have hS := cond_F h31 hS
      refine xSk (xc [0, 2, 6, 7] ?_)
      have eS := hS.symm
      exact hN13 _ eS _ _ _ gR ⟨none, 0, by kernel_rfl, by kernel_rfl, Arr.nil⟩
 ·have hS := cond_F h1 hS
  obtain ⟨h32, hS⟩ := grd_T hS
  have i6 : n.number = 2 := eq_of_beq h32
  refine xSq (xRg (xE eB ?_))
  rintro _ _ _ - ⟨b33, rfl, rfl, rfl⟩
  refine xb 2 [] [0, 2] (xRe (xW (xSq (xSq (xRg (xb 1 [] [0, 2, 12] ?_))))))
  obtain ⟨y34, f5, hS⟩ := letJ_T hS
  refine xE (eC 0 (fun g' lr eb ln => c81 g' ⟨b_n, 0, none⟩ n d0 p0 j0 i0 l0 v0 (2 : Int) (cells_lent' 1 b_n 0 (cNode n d0 p0 j0 i0 l0 v0) ln) ((f0.mono g.br).mono lr) ((w0.mono g.br).mono lr) ((w1.mono g.br).mono lr) f5)) ?_
  rintro _ g35 _ e36 ⟨_, rfl, rfl, rfl⟩
  refine xb 1 [] [0, 2, 5] (xRe (xW (xSq (xRg (xb 2 [] [0, 2, 5, 15] (xRe (xW ?_)))))))
  refine xCd ((y34 != 0)) (fun h37 => ?_) (fun h37 => ?_)
  ·have hS := cond_T h37 hS
   have v5 : ¬ (y34 = 0) := ne_of_bne_ h37
   refine xSq (xRg (xbo 5 [(2, 0)] [some ⟨b33, 49, (cFrame Z5 none 0)⟩, some ⟨b_n, 126, (cNode n d0 p0 j0 i0 l0 v0)⟩] [2, 3, 4] (xRe (xW ?_))))
   have f0 := f0.mono e36.b
   have w0 := w0.mono e36.b
   have w1 := w1.mono e36.b
   obtain rfl := Option.some.inj hS
   exact xRetC [some 1] [(2, 0)] e36 ⟨d0, p0, j0, i0, l0, v0, none, 0, by kernel_rfl, by kernel_rfl, f0, w0, w1, Arr.nil⟩ (fun _ _ h => h)
  ·have hS := cond_F h37 hS
   have v5 : y34 = 0 := eq_of_bne_false_ h37
   refine xSk (xW (xc [0, 2] (xSq (xRg (xbo 4 [(3, 1)] [some ⟨b33, 49, (cFrame Z5 none 0)⟩, some ⟨b_n, 126, (cNode ({ n with next_ := 3 }) d0 p0 j0 i0 l0 v0)⟩] [0, 2] (xRe (xW (xSq (xSq (xRg (xb 5 [(3, 1)] [0, 2, 25] (xRe (xW ?_)))))))))))))
   refine xCd ((n.role != 2)) (fun h38 => ?_) (fun h38 => ?_)
   ·have hS := cond_T h38 hS
    have t5 : ¬ (n.role = 2) := ne_of_bne_ h38
    refine xSq (xRg (xbo 4 [(1, 0)] [some ⟨b33, 49, (cFrame Z5 none 0)⟩, some ⟨b_n, 126, (cNode ({ n with next_ := 3 }) d0 p0 j0 i0 l0 v0)⟩] [2, 3, 4] (xRe (xW ?_))))
    have f0 := f0.mono e36.b
    have w0 := w0.mono e36.b
    have w1 := w1.mono e36.b
    obtain rfl := Option.some.inj hS
    exact xRetC [some 1] [(2, 0)] e36 ⟨d0, p0, j0, i0, l0, v0, none, 0, by kernel_rfl, by kernel_rfl, f0, w0, w1, Arr.nil⟩ (fun _ _ h => h)
   ·have hS := cond_F h38 hS
    have t5 : n.role = 2 := eq_of_bne_false_ h38
    refine xSk (xW (xc [0, 2] (xSq (xRg (xE eB ?_)))))
    rintro _ _ _ - ⟨b39, rfl, rfl, rfl⟩
    refine xRe (xW (xSq (xRg (xE eB ?_))))
    rintro _ _ _ - ⟨b40, rfl, rfl, rfl⟩
    refine xRe (xW (xSq ?_))
    refine xDr 0 [3, 8, 13] [17, 16] [some ⟨b33, 49, (cFrame Z5 none 0)⟩, some ⟨b_n, 126, (cNode ({ n with next_ := 3 }) d0 p0 j0 i0 l0 v0)⟩] 18 (fun RG => ?_) (fun _ _ _ _ _ h => h)
    refine xt 14 [0, 1, 2, 3] [(3, 1)] [some 2, some 3] [0, 2, 6, 7, 30] RG pR (xTp 4 RG (fun _ => (qSub .i64 (n.number) (1) (wr64 (by omega)))) (xt 9 [5, 6, 7, 8] [(8, 1)] [some 2, some 3] [0, 2, 6, 7, 31, 35] RG pR (xTp 9 RG (fun _ => (qSub .i64 (n.number) (1) (wr64 (by omega)))) (xt 4 [10, 11, 12, 13] [(13, 1)] [some 2, some 3] [0, 2, 6, 7, 31, 36, 40] RG pR (wpq_re 31 (v := vi (n.number - 1)) (vi 1) (by kernel_rfl) (congrArg (Value.int .i64) (by first | omega | (rw [IntKind.wrap_i64]; omega))) (xt 3 [14] [] [some 2, some 3] [0, 2, 6, 7, 36, 40, 41] RG pR (xO1 (lds := [3, 8, 13]) 15 (xId (lds := [3, 8, 13]) pR (eStL b39 1 1) ?_))))))))
    rintro _ _ _ - ⟨rfl, rfl⟩
    refine kk [some 2, some 3] (wpq_re 36 (v := vi (n.number - 1)) (vi 1) (by kernel_rfl) (congrArg (Value.int .i64) (by first | omega | (rw [IntKind.wrap_i64]; omega))) (xt 1 [16] [] [some 2, some 3] [0, 2, 6, 7, 42] RG pR (xO1 (lds := [3, 8, 13]) 17 (xId (lds := [3, 8, 13]) pR (eStL b40 1 0) ?_))))
    rintro _ _ _ - ⟨rfl, rfl⟩
    refine kf (xAe (lds := [3, 8, 13]) (xW (xc [0, 2, 6, 7] (xSq (xSq (xRg (xb 1 [] [0, 2, 6, 7, 43] ?_)))))))
    have f0 := f0.mono e36.b
    have w0 := w0.mono e36.b
    have w1 := w1.mono e36.b
    obtain ⟨y41, j5, hS⟩ := letJ_T hS
    refine xE (eC 0 (fun g' lr eb ln => c93 g' ⟨b_n, 0, none⟩ ({ n with next_ := 3 }) d0 p0 j0 i0 l0 v0 (cells_lent' 3 b_n 0 (cNode ({ n with next_ := 3 }) d0 p0 j0 i0 l0 v0) ln) ((f0.mono g35.br).mono lr) ((w0.mono g35.br).mono lr) ((w1.mono g35.br).mono lr) j5)) ?_
    rintro _ g42 _ e43 ⟨_, rfl, rfl, rfl⟩
    refine xRe (xW (xc [0, 2, 6, 7, 44] ?_))
    refine xLetJ hS (fun g own sl t44 => ∃ (v2 : OA) (d2 : Nat), own = [some ⟨b40, 189, [vb t44.1, vb true]⟩, some ⟨b39, 188, [vs v2 t44.2 d2, vs d0 n.input p0]⟩, some ⟨b33, 49, (cFrame Z5 none 0)⟩, some ⟨b_n, 126, (cNode ({ n with next_ := 3 }) d0 p0 j0 i0 l0 v0)⟩] ∧ sl = [(0, vp b_n 0), (2, vp b33 0), (6, vp b39 0), (7, vp b40 0)] ∧ Arr g.b tyU8 v2 d2 t44.2) ?_ ?_
    ·rintro g45 _ _ t44 e46 ⟨v2, d2, rfl, rfl, w4⟩ hS
     refine xW (xSq (xRg (xb 8 [(1, 1), (3, 0), (5, 1), (7, 0)] [0, 2, 64, 66, 68, 70] ?_)))
     have f0 := f0.mono (e43.trans e46).b
     obtain ⟨y47, a4, hS⟩ := bindO_T hS
     refine xE (eC 0 (fun g' lr eb ln => c94 g' t44.2 v2 d2 (t44.1) n.input d0 p0 (true) ((w4.mono g45.br).mono lr) ((f0.mono g45.br).mono lr) a4)) ?_
     rintro _ g48 _ e49 ⟨_, rfl, a2, j3, w6, rfl, rfl, t4⟩
     refine xb 5 [] [0, 2, 8] (xRe (xW (xSq ?_)))
     refine xDr 0 [4, 8, 12] [17, 14, 15, 16] [some ⟨b40, 189, [vb t44.1, vb true]⟩, some ⟨b39, 188, [vs v2 t44.2 d2, vs d0 n.input p0]⟩, some ⟨b33, 49, (cFrame Z5 none 0)⟩, some ⟨b_n, 126, (cNode ({ n with next_ := 3 }) d0 p0 j0 i0 l0 v0)⟩] 18 (fun RG => ?_) (fun _ _ _ _ _ h => h)
     refine xt 1 [0, 1, 2, 3, 4, 5, 6, 7, 8, 9, 10, 11, 12, 13, 14, 15, 16] [(4, 3), (8, 3), (12, 3)] (sm [1, 2, 3, 4]) [0, 2, 88, 90] RG pR (xO1 (lds := [4, 8, 12]) 17 (xId (lds := [4, 8, 12]) pR (eStL b_n 14 4) ?_))
     rintro _ _ _ - ⟨rfl, rfl⟩
     refine kf (xAe (lds := [4, 8, 12]) (xW (xc [0, 2] (xSq (xRg (xb 4 [(3, 4)] [0, 2, 95] ?_))))))
     refine wpq_freeze 0 (by kernel_rfl) t4 (fun g50 e51 f52 => ?_)
     obtain ⟨y53, i5, hS⟩ := bindO_T hS
     refine xE (eC 0 (fun g' lr eb ln => c95 g' ({ n with in_ := y47.1 }) a2 j3 ((f52.mono g50.br).mono lr) i5)) ?_
     rintro _ g54 _ e55 ⟨_, rfl, z4, f3, a5, rfl, rfl, i4⟩
     refine xb 5 [] [0, 2, 10] (xRe (xW (xSq (xRg (xb 2 [] [2, 99, 100] ?_)))))
     refine wpq_freeze 0 (by kernel_rfl) i4 (fun g56 e57 f58 => ?_)
     have f0 := f0.mono (e49.trans (e51.trans (e55.trans e57))).b
     have w0 := w0.mono (e43.trans (e46.trans (e49.trans (e51.trans (e55.trans e57))))).b
     have f52 := f52.mono (e55.trans e57).b
     obtain ⟨y59, d5, hS⟩ := letJ_T hS
     refine xE (eC 0 (fun g' lr eb ln => c83 g' ⟨b_n, 0, none⟩ ({ n with next_ := 3, set_ := { n with in_ := y47.1 } }) d0 p0 j0 i0 a2 j3 (2 : Int) y53.1 z4 f3 (cells_lent' 5 b_n 0 (cNode ({ n with next_ := 3, set_ := { n with in_ := y47.1 } }) d0 p0 j0 i0 a2 j3) ln) ((f0.mono g56.br).mono lr) ((w0.mono g56.br).mono lr) ((f52.mono g56.br).mono lr) (by rw [eb]; exact f58) d5)) ?_
     rintro _ g60 _ e61 ⟨_, rfl, f1, i1, rfl, rfl, v3⟩
     refine xbo 3 [(3, 4)] [none, none, some ⟨b40, 189, [vb t44.1, vb true]⟩, some ⟨b39, 188, [vs v2 t44.2 d2, vs d0 n.input p0]⟩, some ⟨b33, 49, (cFrame y59 f1 i1)⟩, some ⟨b_n, 126, (cNode ({ n with next_ := 3, set_ := { n with in_ := y47.1 } }) d0 p0 j0 i0 a2 j3)⟩] [2, 3, 4] (xRe (xW ?_))
     have f0 := f0.mono e61.b
     have w0 := w0.mono e61.b
     have f52 := f52.mono e61.b
     obtain rfl := Option.some.inj hS
     exact xRetC [some 5] [(2, 4)] (e36.trans (e43.trans (e46.trans (e49.trans (e51.trans (e55.trans (e57.trans e61))))))) ⟨d0, p0, j0, i0, a2, j3, f1, i1, by kernel_rfl, by kernel_rfl, f0, w0, f52, v3⟩ (fun _ _ h => h)
    ·intro uu44 hS hN44
     refine xCd (y41) (fun h62 => ?_) (fun h62 => ?_)
     ·have hS := cond_T h62 hS
      refine xDr 0 [3, 8, 14] [18, 17] [some ⟨b33, 49, (cFrame Z5 none 0)⟩, some ⟨b_n, 126, (cNode ({ n with next_ := 3 }) d0 p0 j0 i0 l0 v0)⟩] 19 (fun RG => ?_) (fun _ _ _ _ _ h => h)
      refine xt 15 [0, 1, 2, 3] [(3, 1)] [some 2, some 3] [0, 2, 6, 7, 48] RG pR (xTp 4 RG (fun _ => (qSub .i64 (2) (n.number) (wr64 (by omega)))) (xt 10 [5, 6, 7, 8] [(8, 1)] [some 2, some 3] [0, 2, 6, 7, 49, 53] RG pR (xTp 9 RG (fun _ => (qSub .i64 (2) (n.number) (wr64 (by omega)))) (xt 4 [10, 11, 12, 13, 14] [(14, 1)] [some 2, some 3] [0, 2, 6, 7, 49, 54, 59] RG pR (wpq_re 49 (v := vi (2 - n.number)) (vi 0) (by kernel_rfl) (congrArg (Value.int .i64) (by first | omega | (rw [IntKind.wrap_i64]; omega))) (xt 3 [15] [] [some 2, some 3] [0, 2, 6, 7, 54, 59, 60] RG pR (xO1 (lds := [3, 8, 14]) 16 (xId (lds := [3, 8, 14]) pR (eStL b39 0 1) ?_))))))))
      rintro _ _ _ - ⟨rfl, rfl⟩
      refine kk [some 2, some 3] (wpq_re 54 (v := vi (2 - n.number)) (vi 0) (by kernel_rfl) (congrArg (Value.int .i64) (by first | omega | (rw [IntKind.wrap_i64]; omega))) (xt 1 [17] [] [some 2, some 3] [0, 2, 6, 7, 61] RG pR (xO1 (lds := [3, 8, 14]) 18 (xId (lds := [3, 8, 14]) pR (eStL b40 0 0) ?_))))
      rintro _ _ _ - ⟨rfl, rfl⟩
      refine kf (xAe (lds := [3, 8, 14]) ?_)
      have w0 := w0.mono e43.b
      refine xc [0, 2, 6, 7] ?_
      have eS := hS.symm
      exact hN44 _ eS _ _ _ gR ⟨j0, i0, by kernel_rfl, by kernel_rfl, w0⟩
     ·have hS := cond_F h62 hS
      refine xSk (xc [0, 2, 6, 7] ?_)
      have eS := hS.symm
      exact hN44 _ eS _ _ _ gR ⟨none, 0, by kernel_rfl, by kernel_rfl, Arr.nil⟩

def o24 (c : Comp) : Option (Comp × Frame × Bool × Int) :=
 (letJ (o45 (⟨c.number, c.node, c.sender, c.collector, c.next_, c.cycle, (c.asked), c.want⟩ : Comp) (2 : Int)) fun y2 => (cond ((y2.2 != 0)) (some (((⟨y2.1.number, y2.1.node, y2.1.sender, y2.1.collector, y2.1.next_, y2.1.cycle, (y2.1.asked), y2.1.want⟩ : Comp), (⟨0, 0, 0, ([] : List UInt8)⟩ : Frame), (false), y2.2))) (bindO (o54 y2.1.node) fun y6 => (some (((⟨y2.1.number, y6.1, y2.1.sender, y2.1.collector, (3 : Int), y2.1.cycle, (y2.1.asked), y2.1.want⟩ : Comp), y6.2.1, (y6.2.2.1), y6.2.2.2))))))
theorem c24 (g : Gh) (b_c : Nat) (c : Comp) (v1 : Nat) (i5 : OA) (d5 : Nat) (j2 : OA) (z2 : Nat) (v3 : OA) (t3 : Nat) (w1 : Nat) (f3 : OA) (l3 : Nat) (w0 : Nat) (f2 : OA) (a2 : Nat) (w3 : OB) (d3 : OA) (j3 : Nat) (z3 : OB) (i7 : Arr g.b tyU8 i5 d5 c.node.input) (j6 : Arr g.b tyU8 j2 z2 c.node.heard.input) (a6 : Arr g.b tyU8 v3 t3 c.node.set_.in_) (f6 : Arr g.b tyPiece f3 l3 c.sender.pieces) (p6 : Buf g.b (tyArr tyU8) 28 (.slice f2 (c.collector.parts).length a2) w3 c.collector.parts) (l6 : Buf g.b tySett 92 (.slice d3 (c.collector.sets).length j3) z3 c.collector.sets) {r : Comp × Frame × Bool × Int} (hS : o24 c = some r) :
  Ctr Tryz.prog 24 [vp b_c 0] g [some ⟨b_c, 77, [vi c.number, vp v1 0, vp w1 0, vp w0 0, vi c.next_, vi c.cycle, vb c.asked, vi c.want.base, vi c.want.have_]⟩, some ⟨v1, 126, (cNode c.node i5 d5 j2 z2 v3 t3)⟩, some ⟨w1, 130, [vs f3 c.sender.pieces l3]⟩, some ⟨w0, 132, (cColl c.collector f2 a2 d3 j3)⟩, w3, z3] (fun v ψ o => ∃ (l5 : OA) (f5 : Nat) (z4 : OA) (a3 : Nat) (f4 : OA) (z5 : Nat) (j5 : OA) (a4 : Nat) (i4 : OA) (d4 : Nat) (j4 : OB) (v4 : OA) (l4 : Nat) (t4 : OB) (t6 : OA) (v6 : Nat), v = Value.tuple #[(aFrame r.2.1 t6 v6), vb r.2.2.1, vi r.2.2.2] ∧ o = [some ⟨b_c, 77, [vi r.1.number, vp v1 0, vp w1 0, vp w0 0, vi r.1.next_, vi r.1.cycle, vb r.1.asked, vi r.1.want.base, vi r.1.want.have_]⟩, some ⟨v1, 126, (cNode r.1.node l5 f5 z4 a3 f4 z5)⟩, some ⟨w1, 130, [vs j5 r.1.sender.pieces a4]⟩, some ⟨w0, 132, (cColl r.1.collector i4 d4 v4 l4)⟩, j4, t4] ∧ Arr ψ tyU8 l5 f5 r.1.node.input ∧ Arr ψ tyU8 z4 a3 r.1.node.heard.input ∧ Arr ψ tyU8 f4 z5 r.1.node.set_.in_ ∧ Arr ψ tyPiece j5 a4 r.1.sender.pieces ∧ Buf ψ (tyArr tyU8) 28 (.slice i4 (r.1.collector.parts).length d4) j4 r.1.collector.parts ∧ Buf ψ tySett 92 (.slice v4 (r.1.collector.sets).length l4) t4 r.1.collector.sets ∧ Arr ψ tyU8 t6 v6 r.2.1.payload) := by
 unfold o24 at hS
 refine xFn Tryz.f24 (Tryz.f24.body.getD .skip) 23 (xSq (xRg (xE eB ?_)))
 rintro _ _ _ - ⟨b1, rfl, rfl, rfl⟩
 refine xb 2 [] [0, 2] (xRe (xW (xSq (xSq (xRg (xb 1 [] [0, 2, 6] (xSel (sm [1, 2, 3, 4, 5, 6, 0]) ?_)))))))
 obtain ⟨y2, hy2, hS⟩ := letJ_T hS
 refine xE (eC 6 (fun g' lr eb ln => c45 g' b_c (⟨c.number, c.node, c.sender, c.collector, c.next_, c.cycle, (c.asked), c.want⟩ : Comp) v1 i5 d5 j2 z2 v3 t3 w1 f3 l3 w0 f2 a2 w3 d3 j3 z3 (2 : Int) (by rw [eb]; exact i7) (by rw [eb]; exact j6) (by rw [eb]; exact a6) (by rw [eb]; exact f6) (by rw [eb]; exact p6) (by rw [eb]; exact l6) hy2)) ?_
 rintro _ g3 _ e4 ⟨_, rfl, v2, d2, j1, i1, f1, l1, z1, f0, j0, p0, i0, l0, v0, d0, rfl, rfl, a5, w4, w5, w2, d1, t1⟩
 refine xb 1 [] [0, 2, 5] (xRe (xW (xSq (xRg (xb 2 [] [0, 2, 5, 9] (xRe (xW ?_)))))))
 refine xCd ((y2.2 != 0)) (fun h5 => ?_) (fun h5 => ?_)
 ·have hS := cond_T h5 hS
  have h5p : ¬ (y2.2 = 0) := ne_of_bne_ h5
  refine xSq (xRg (xbo 5 [(2, 6)] [some ⟨b_c, 77, [vi y2.1.number, vp v1 0, vp w1 0, vp w0 0, vi y2.1.next_, vi y2.1.cycle, vb y2.1.asked, vi y2.1.want.base, vi y2.1.want.have_]⟩, some ⟨v1, 126, (cNode y2.1.node v2 d2 j1 i1 f1 l1)⟩, some ⟨w1, 130, [vs z1 y2.1.sender.pieces f0]⟩, some ⟨w0, 132, (cColl y2.1.collector j0 p0 l0 v0)⟩, i0, d0, some ⟨b1, 49, (cFrame Z5 none 0)⟩] [2, 3, 4] (xRe (xW ?_))))
  obtain rfl := Option.some.inj hS
  exact xRetC (sm [0, 1, 2, 3, 4, 5]) [(2, 6)] e4 ⟨v2, d2, j1, i1, f1, l1, z1, f0, j0, p0, i0, l0, v0, d0, none, 0, by kernel_rfl, by kernel_rfl, a5, w4, w5, w2, d1, t1, Arr.nil⟩ (fun _ _ h => h)
 ·have hS := cond_F h5 hS
  have h5p : y2.2 = 0 := eq_of_bne_false_ h5
  refine xSk (xW (xc [0, 2] (xSq (xRg (xbo 4 [(3, 0)] [some ⟨b_c, 77, [vi y2.1.number, vp v1 0, vp w1 0, vp w0 0, vi 3, vi y2.1.cycle, vb y2.1.asked, vi y2.1.want.base, vi y2.1.want.have_]⟩, some ⟨v1, 126, (cNode y2.1.node v2 d2 j1 i1 f1 l1)⟩, some ⟨w1, 130, [vs z1 y2.1.sender.pieces f0]⟩, some ⟨w0, 132, (cColl y2.1.collector j0 p0 l0 v0)⟩, i0, d0, some ⟨b1, 49, (cFrame Z5 none 0)⟩] [0, 2] (xRe (xW (xSq (xRg (xb 4 [(3, 0)] [2, 18] (xSel (sm [1, 0, 2, 3, 4, 5, 6]) ?_)))))))))))
  obtain ⟨y6, hy6, hS⟩ := bindO_T hS
  refine xE (eC 1 (fun g' lr eb ln => c54 g' v1 y2.1.node v2 d2 j1 i1 f1 l1 (by rw [eb]; exact a5) (by rw [eb]; exact w4) (by rw [eb]; exact w5) hy6)) ?_
  rintro _ g7 _ e8 ⟨_, rfl, j7, z7, v5, t5, w6, z6, i6, d6, rfl, rfl, t7, w7, p7, d7⟩
  refine xbo 6 [(8, 6)] [some ⟨v1, 126, (cNode y6.1 j7 z7 v5 t5 w6 z6)⟩, some ⟨b_c, 77, [vi y2.1.number, vp v1 0, vp w1 0, vp w0 0, vi 3, vi y2.1.cycle, vb y2.1.asked, vi y2.1.want.base, vi y2.1.want.have_]⟩, some ⟨w1, 130, [vs z1 y2.1.sender.pieces f0]⟩, some ⟨w0, 132, (cColl y2.1.collector j0 p0 l0 v0)⟩, i0, d0, some ⟨b1, 49, (cFrame y6.2.1 i6 d6)⟩] [2, 3, 4] (xRe (xW ?_))
  have w2 := w2.mono e8.b
  have d1 := d1.mono e8.b
  have t1 := t1.mono e8.b
  obtain rfl := Option.some.inj hS
  exact xRetC (sm [1, 0, 2, 3, 4, 5]) [(2, 6)] (e4.trans e8) ⟨j7, z7, v5, t5, w6, z6, z1, f0, j0, p0, i0, l0, v0, d0, i6, d6, by kernel_rfl, by kernel_rfl, t7, w7, p7, w2, d1, t1, d7⟩ (fun _ _ h => h)

def o114 (one : List UInt8) (isOne : Bool) (two : List UInt8) (isTwo : Bool) : Option ((List UInt8) × Int) :=
 (cond (((isOne && decide ((((one).length : Nat) : Int) > 400)) || (isTwo && decide ((((two).length : Nat) : Int) > 400)))) (some ((([] : List UInt8), (3 : Int)))) (letJ (τ := Nat) (cond (isOne) (1) (0)) fun t5 => (letJ (τ := Nat) (cond (isTwo) ((t5 + 2)) (t5)) fun t8 => (bindO (τ := (List UInt8)) (cond (isOne) (bindO (o108 ((((one).length : Nat) : Int) : Int) (2 : Int)) fun y27 => (grd (decide (((([(u8 ((t8 : Nat) : Int))] : List UInt8)).length + (y27).length) * 1 ≤ 140737488355328)) (grd (decide ((((([(u8 ((t8 : Nat) : Int))] : List UInt8) ++ y27)).length + (one).length) * 1 ≤ 140737488355328)) (some ((((([(u8 ((t8 : Nat) : Int))] : List UInt8) ++ y27) ++ one) : List UInt8)))))) (some ((([(u8 ((t8 : Nat) : Int))] : List UInt8) : List UInt8)))) fun t12 => (bindO (τ := (List UInt8)) (cond (isTwo) (bindO (o108 ((((two).length : Nat) : Int) : Int) (2 : Int)) fun y19 => (grd (decide (((t12).length + (y19).length) * 1 ≤ 140737488355328)) (grd (decide ((((t12 ++ y19)).length + (two).length) * 1 ≤ 140737488355328)) (some ((((t12 ++ y19) ++ two) : List UInt8)))))) (some ((t12 : List UInt8)))) fun t15 => (some (((t15 : List UInt8), (0 : Int)))))))))
theorem c114 (g : Gh) (one : List UInt8) (v0 : OA) (d0 : Nat) (j0 : Bool) (two : List UInt8) (p0 : OA) (i0 : Nat) (w0 : Bool) (t1 : Arr g.r tyU8 v0 d0 one) (v1 : Arr g.r tyU8 p0 i0 two) {r : (List UInt8) × Int} (hS : o114 one j0 two w0 = some r) :
  Ctr Tryz.prog 114 [vs v0 one d0, vb j0, vs p0 two i0, vb w0] g [] (fun v ψ o => ∃ (j2 : OA) (z2 : Nat) (d2 : OB), v = Value.tuple #[vs j2 r.1 z2, vi r.2] ∧ o = [d2] ∧ Buf ψ tyU8 5 (.slice j2 (r.1).length z2) d2 r.1) := by
 unfold o114 at hS
 refine xFn Tryz.f114 (Tryz.f114.body.getD .skip) 53 ?_
 have i5 := t1.len
 have z5 := v1.len
 refine xSq (xRg (xb 2 [] [0, 1, 2, 3] (xRe (xW (xSq (xSq (xRg (xb 2 [] [0, 1, 2, 3, 13] ?_))))))))
 refine wpr_grp 6 [(0, vs v0 one d0), (1, vb j0), (2, vs p0 two i0), (3, vb w0), (17, vb (j0 && decide ((((one).length : Nat) : Int) > 400)))] (fun hk1 => ?_) ?_
 ·refine wpq_split 13 (b := j0) (by kernel_rfl) (fun q1 => ?_) (fun q1 => ?_)
  ·refine xb 4 [] [0, 1, 2, 3, 17] ?_
   refine wpq_re 17 (v := vb (decide ((((one).length : Nat) : Int) > 400))) (Value.bool ((j0 && decide ((((one).length : Nat) : Int) > 400)))) (by kernel_rfl) (re_and1 q1) ?_
   exact wpq_sub _ (by kernel_rfl) hk1
  ·refine xb 4 [] [0, 1, 2, 3, 17] ?_
   refine wpq_re 17 (v := vb false) (Value.bool ((j0 && decide ((((one).length : Nat) : Int) > 400)))) (by kernel_rfl) (re_and0 q1) ?_
   exact wpq_sub _ (by kernel_rfl) hk1
 ·refine xb 1 [] [0, 1, 2, 3, 18] ?_
  refine wpr_grp 14 [(0, vs v0 one d0), (1, vb j0), (2, vs p0 two i0), (3, vb w0), (25, vb ((j0 && decide ((((one).length : Nat) : Int) > 400)) || (w0 && decide ((((two).length : Nat) : Int) > 400))))] (fun hk6 => ?_) ?_
  ·refine wpq_split 18 (b := (j0 && decide ((((one).length : Nat) : Int) > 400))) (by kernel_rfl) (fun q2 => ?_) (fun q2 => ?_)
   ·have q2l := (and_true_ q2).1
    have q2r := (and_true_ q2).2
    have d6 := of_decide_eq_true q2r
    refine xb 7 [] [0, 1, 2, 3, 25] (wpq_re 25 (v := vb true) (Value.bool (((j0 && decide ((((one).length : Nat) : Int) > 400)) || (w0 && decide ((((two).length : Nat) : Int) > 400))))) (by kernel_rfl) (re_or1 q2) ?_)
    exact wpq_sub _ (by kernel_rfl) hk6
   ·refine xb 2 [] [0, 1, 2, 3, 18, 20] ?_
    refine wpr_grp 13 [(0, vs v0 one d0), (1, vb j0), (2, vs p0 two i0), (3, vb w0), (18, vb false), (24, vb (w0 && decide ((((two).length : Nat) : Int) > 400)))] (fun hk8 => ?_) ?_
    ·refine wpq_split 20 (b := w0) (by kernel_rfl) (fun q3 => ?_) (fun q3 => ?_)
     ·refine xb 4 [] [0, 1, 2, 3, 18, 24] ?_
      refine wpq_re 24 (v := vb (decide ((((two).length : Nat) : Int) > 400))) (Value.bool ((w0 && decide ((((two).length : Nat) : Int) > 400)))) (by kernel_rfl) (re_and1 q3) ?_
      exact wpq_sub _ (by kernel_rfl) hk8
     ·refine xb 4 [] [0, 1, 2, 3, 18, 24] ?_
      refine wpq_re 24 (v := vb false) (Value.bool ((w0 && decide ((((two).length : Nat) : Int) > 400)))) (by kernel_rfl) (re_and0 q3) ?_
      exact wpq_sub _ (by kernel_rfl) hk8
    ·refine xb 1 [] [0, 1, 2, 3, 25] ?_
     refine wpq_re 25 (v := vb (w0 && decide ((((two).length : Nat) : Int) > 400))) (Value.bool (((j0 && decide ((((one).length : Nat) : Int) > 400)) || (w0 && decide ((((two).length : Nat) : Int) > 400))))) (by kernel_rfl) (re_or0 q2) ?_
     exact wpq_sub _ (by kernel_rfl) hk6
  ·refine xRe ?_
   refine xW ?_
   refine xCd (((j0 && decide ((((one).length : Nat) : Int) > 400)) || (w0 && decide ((((two).length : Nat) : Int) > 400)))) (fun h4 => ?_) (fun h4 => ?_)
   ·have hS := cond_T h4 hS
    refine xSq (xRg (xb 2 [] [8, 9] (xRe (xW ?_))))
    obtain rfl := Option.some.inj hS
    exact xRet [none] [8, 9] gR ⟨none, 0, none, by kernel_rfl, by kernel_rfl, Buf.nil⟩ (fun _ _ h => h)
   ·have hS := cond_F h4 hS
    have h4l := (or_false_ h4).1
    have h4r := (or_false_ h4).2
    refine xSk (xW (xc [0, 1, 2, 3] (xSq (xRg (xb 1 [] [0, 1, 2, 3, 10] (xRe (xW (xSq (xSq (xRg (xb 1 [] [0, 1, 2, 3, 10, 26] (xRe (xW ?_)))))))))))))
    refine xLetJ hS (fun g own sl t5 => own = [] ∧ sl = [(0, vs v0 one d0), (1, vb j0), (2, vs p0 two i0), (3, vb w0), (10, vy (t5 : Int))] ∧ (0 ≤ t5 ∧ t5 ≤ 1)) ?_ ?_
    ·rintro g6 _ _ t5 e7 ⟨rfl, rfl, ⟨j5, l4⟩⟩ hS
     refine xW (xSq (xSq (xRg (xb 1 [] [0, 1, 2, 3, 10, 29] (xRe (xW ?_))))))
     refine xLetJ hS (fun g own sl t8 => own = [] ∧ sl = [(0, vs v0 one d0), (1, vb j0), (2, vs p0 two i0), (3, vb w0), (10, vy (t8 : Int))] ∧ (0 ≤ t8 ∧ t8 ≤ 3)) ?_ ?_
     ·rintro g9 _ _ t8 e10 ⟨rfl, rfl, ⟨w5, t4⟩⟩ hS
      refine xW (xSq (xRg (xb 1 [] [0, 1, 2, 3, 32] (xE (eBs (T := tyU8) (p := g9.b) (et := 5) (xs := ([(u8 (t8 : Int))] : List UInt8)) (reps_cons (c := [vy (t8 : Int)]) (u8_rep (by omega)) reps_nil) (by simp)) ?_))))
      rintro _ _ _ - ⟨A11, c11, k11, rfl, rfl, rfl, h11⟩
      refine xb 1 [] [0, 1, 2, 3, 11] (xRe (xW (xSq (xSq (xRg (xb 1 [] [0, 2, 3, 11, 34] (xRe (xW ?_))))))))
      refine xBindO hS (fun g own sl t12 => ∃ (z1 : OA) (i1 : Nat) (d1 : OB), own = [d1] ∧ sl = [(2, vs p0 two i0), (3, vb w0), (11, vs z1 t12 i1)] ∧ Buf g.b tyU8 5 (.slice z1 (t12).length i1) d1 t12) ?_ ?_
      ·rintro g13 _ _ t12 e14 ⟨z1, i1, d1, rfl, rfl, l0⟩ hS
       have f3 := l0.len
       refine xW (xSq (xSq (xRg (xb 1 [] [2, 11, 43] (xRe (xW ?_))))))
       refine xBindO hS (fun g own sl t15 => ∃ (f0 : OA) (w1 : Nat) (j1 : OB), own = [j1] ∧ sl = [(11, vs f0 t15 w1)] ∧ Buf g.b tyU8 5 (.slice f0 (t15).length w1) j1 t15) ?_ ?_
       ·rintro g16 _ _ t15 e17 ⟨f0, w1, j1, rfl, rfl, l1⟩ hS
        have z4 := l1.len
        refine xW (xSq (xRg (xb 3 [] [8, 9] (xRe (xW ?_)))))
        obtain rfl := Option.some.inj hS
        exact xRet [some 0] [8, 9] (e7.trans (e10.trans (e14.trans e17))) ⟨f0, w1, j1, by kernel_rfl, by kernel_rfl, l1⟩ (fun _ _ h => h)
       ·intro uu15 hS hN15
        refine xCd (w0) (fun h18 => ?_) (fun h18 => ?_)
        ·have hS := cond_T h18 hS
         refine xSq (xRg (xb 3 [] [2, 11, 44, 46] ?_))
         obtain ⟨y19, l3, hS⟩ := bindO_T hS
         refine xE (eC 0 (fun g' lr eb ln => c108 g' ((((two).length : Nat) : Int) : Int) (2 : Int) l3)) ?_
         rintro _ g20 _ e21 ⟨_, rfl, a4, v4, d4, rfl, rfl, f1⟩
         have a3 := f1.len
         have l0 := l0.mono e21.b
         obtain ⟨w6, j3, t3⟩ := f1.srcO (g := g20)
         obtain ⟨q23, hS⟩ := grd_T hS
         have j6 := of_decide_eq_true q23
         refine xE (eApp (T := tyU8) (p := g20.b) (et := 5) (bytes := 1) (xs := (t12 : List UInt8)) (ys := (y19 : List UInt8)) 1 l0 rfl (fun w hs => t3 0 w _ hs (by kernel_rfl)) j3 (by first | omega | (simp only [List.length_cons, List.length_nil] at *; omega)) (by first | omega | (simp only [List.length_cons, List.length_nil] at *; omega))) ?_
         rintro _ _ _ - ⟨A22, c22, k22, rfl, rfl, rfl, h22⟩
         have f6 := h22.len
         have v5 : ((t12 ++ y19) : List UInt8).length = (t12).length + (y19).length := List.length_append
         refine xb 1 [] [2, 11] (xRe (xW (xRg (xb 2 [] [11, 49, 50] ?_))))
         have v1 := v1.mono (e7.trans (e10.trans (e14.trans e21))).r
         obtain ⟨l6, w3, v3⟩ := v1.srcR
         obtain ⟨q25, hS⟩ := grd_T hS
         have d5 := of_decide_eq_true q25
         refine xE (eApp (T := tyU8) (p := g20.b) (et := 5) (bytes := 1) (xs := ((t12 ++ y19) : List UInt8)) (ys := (two : List UInt8)) 1 h22 rfl (fun w hs => v3 w _ hs) (flatU8.reps w3) (by first | omega | (simp only [List.length_cons, List.length_nil] at *; omega)) (by first | omega | (simp only [List.length_cons, List.length_nil] at *; omega))) ?_
         rintro _ _ _ - ⟨A24, c24, k24, rfl, rfl, rfl, h24⟩
         have p6 := h24.len
         have i6 : (((t12 ++ y19) ++ two) : List UInt8).length = ((t12 ++ y19)).length + (two).length := List.length_append
         refine xb 1 [] [11] (xRe (xSel [some 1] (xc [11] ?_)))
         have eS := (Option.some.inj hS).symm
         exact hN15 _ eS _ _ _ e21 ⟨A24, c24, k24, by kernel_rfl, by kernel_rfl, h24⟩
        ·have hS := cond_F h18 hS
         refine xSk (xc [11] ?_)
         have eS := (Option.some.inj hS).symm
         exact hN15 _ eS _ _ _ gR ⟨z1, i1, d1, by kernel_rfl, by kernel_rfl, l0⟩
      ·intro uu12 hS hN12
       refine xCd (j0) (fun h26 => ?_) (fun h26 => ?_)
       ·have hS := cond_T h26 hS
        refine xSq (xRg (xb 3 [] [0, 2, 3, 11, 35, 37] ?_))
        obtain ⟨y27, v2, hS⟩ := bindO_T hS
        refine xE (eC 0 (fun g' lr eb ln => c108 g' ((((one).length : Nat) : Int) : Int) (2 : Int) v2)) ?_
        rintro _ g28 _ e29 ⟨_, rfl, j4, f4, i4, rfl, rfl, w2⟩
        have w4 := w2.len
        have h11 := h11.mono e29.b
        obtain ⟨w7, d3, z3⟩ := w2.srcO (g := g28)
        obtain ⟨q31, hS⟩ := grd_T hS
        have a6 := of_decide_eq_true q31
        refine xE (eApp (T := tyU8) (p := g28.b) (et := 5) (bytes := 1) (xs := (([(u8 (t8 : Int))] : List UInt8) : List UInt8)) (ys := (y27 : List UInt8)) 1 h11 rfl (fun w hs => z3 0 w _ hs (by kernel_rfl)) d3 (by first | omega | (simp only [List.length_cons, List.length_nil] at *; omega)) (by first | omega | (simp only [List.length_cons, List.length_nil] at *; omega))) ?_
        rintro _ _ _ - ⟨A30, c30, k30, rfl, rfl, rfl, h30⟩
        have a5 := h30.len
        have v6 : ((([(u8 (t8 : Int))] : List UInt8) ++ y27) : List UInt8).length = (([(u8 (t8 : Int))] : List UInt8)).length + (y27).length := List.length_append
        refine xb 1 [] [0, 2, 3, 11] (xRe (xW (xRg (xb 2 [] [2, 3, 11, 40, 41] ?_))))
        have t1 := t1.mono (e7.trans (e10.trans e29)).r
        obtain ⟨f5, a2, f2⟩ := t1.srcR
        obtain ⟨q33, hS⟩ := grd_T hS
        have l5 := of_decide_eq_true q33
        refine xE (eApp (T := tyU8) (p := g28.b) (et := 5) (bytes := 1) (xs := ((([(u8 (t8 : Int))] : List UInt8) ++ y27) : List UInt8)) (ys := (one : List UInt8)) 1 h30 rfl (fun w hs => f2 w _ hs) (flatU8.reps a2) (by first | omega | (simp only [List.length_cons, List.length_nil] at *; omega)) (by first | omega | (simp only [List.length_cons, List.length_nil] at *; omega))) ?_
        rintro _ _ _ - ⟨A32, c32, k32, rfl, rfl, rfl, h32⟩
        have t6 := h32.len
        have z6 : (((([(u8 (t8 : Int))] : List UInt8) ++ y27) ++ one) : List UInt8).length = ((([(u8 (t8 : Int))] : List UInt8) ++ y27)).length + (one).length := List.length_append
        refine xb 1 [] [2, 3, 11] (xRe (xSel [some 1] (xc [2, 3, 11] ?_)))
        have eS := (Option.some.inj hS).symm
        exact hN12 _ eS _ _ _ e29 ⟨A32, c32, k32, by kernel_rfl, by kernel_rfl, h32⟩
       ·have hS := cond_F h26 hS
        refine xSk (xc [2, 3, 11] ?_)
        have eS := (Option.some.inj hS).symm
        exact hN12 _ eS _ _ _ gR ⟨A11, c11, k11, by kernel_rfl, by kernel_rfl, h11⟩
     ·intro uu8 hS hN8
      refine xCd (w0) (fun h34 => ?_) (fun h34 => ?_)
      ·have hS := cond_T h34 hS
       refine xRg (xb 1 [] [0, 1, 2, 3, 10, 30] (xV (qAdd .u8 ((t5 : Int)) (2) (wr_u8 (by omega))) (xb 1 [] [0, 1, 2, 3, 10] (xRe (xc [0, 1, 2, 3, 10] ?_)))))
       have eS := hS.symm
       exact hN8 _ eS _ _ _ gR ⟨by kernel_rfl, by kernel_rfl, okI⟩
      ·have hS := cond_F h34 hS
       refine xSk (xc [0, 1, 2, 3, 10] ?_)
       have eS := hS.symm
       exact hN8 _ eS _ _ _ gR ⟨by kernel_rfl, by kernel_rfl, okI⟩
    ·intro uu5 hS hN5
     refine xCd (j0) (fun h35 => ?_) (fun h35 => ?_)
     ·have hS := cond_T h35 hS
      refine xRg (xb 3 [] [0, 1, 2, 3, 10] (xRe (xc [0, 1, 2, 3, 10] ?_)))
      have eS := hS.symm
      exact hN5 _ eS _ _ _ gR ⟨by kernel_rfl, by kernel_rfl, okI⟩
     ·have hS := cond_F h35 hS
      refine xSk (xc [0, 1, 2, 3, 10] ?_)
      have eS := hS.symm
      exact hN5 _ eS _ _ _ gR ⟨by kernel_rfl, by kernel_rfl, okI⟩

def o97 (n : RNode) : Option (Sett) :=
 (bindO (τ := (List UInt8)) (cond ((n.number == 1)) (bindO (o114 n.input (true) n.heard.input ((n.isHeard && (n.heard.role == 3)))) fun y12 => (some (y12.1))) (bindO (o114 n.heard.input ((n.isHeard && (n.heard.role == 3))) n.input (true)) fun y15 => (some (y15.1)))) fun t5 => (some (({ n with in_ := t5 }))))
theorem c97 (g : Gh) (n : RNode) (p0 : OA) (i0 : Nat) (w0 : OA) (j0 : Nat) (z1 : Arr g.r tyU8 p0 i0 n.input) (d0 : Arr g.r tyU8 w0 j0 n.heard.input) {r : Sett} (hS : o97 n = some r) :
  Ctr Tryz.prog 97 [(aRNode n p0 i0 w0 j0)] g [] (fun v ψ o => ∃ (f0 : OA) (w1 : Nat), v = (aSett r f0 w1) ∧ o = [] ∧ Arr ψ tyU8 f0 w1 r.in_) := by
 unfold o97 at hS
 refine xFn Tryz.f97 (Tryz.f97.body.getD .skip) 46 (xSq (xRg (xE eB ?_)))
 rintro _ _ _ - ⟨b1, rfl, rfl, rfl⟩
 refine xE eB ?_
 rintro _ _ _ - ⟨b2, rfl, rfl, rfl⟩
 refine xRe (xW (xc [1, 2] (xSq (xRg (xb 3 [(1, 1)] [1, 2, 7] ?_)))))
 refine wpr_grp 8 [(1, vp b1 0), (2, vp b2 0), (12, vb (n.isHeard && (n.heard.role == 3)))] (fun hk2 => ?_) ?_
 ·refine wpq_split 7 (b := n.isHeard) (by kernel_rfl) (fun q3 => ?_) (fun q3 => ?_)
  ·refine xb 5 [(5, 1)] [1, 2, 12] ?_
   refine wpq_re 12 (v := vb (n.heard.role == 3)) (Value.bool ((n.isHeard && (n.heard.role == 3)))) (by kernel_rfl) (re_and1 q3) ?_
   exact wpq_sub _ (by kernel_rfl) hk2
  ·refine xb 5 [] [1, 2, 12] ?_
   refine wpq_re 12 (v := vb false) (Value.bool ((n.isHeard && (n.heard.role == 3)))) (by kernel_rfl) (re_and0 q3) ?_
   exact wpq_sub _ (by kernel_rfl) hk2
 ·refine xb 1 [] [1, 2, 3] ?_
  refine xRe (xW (xSq (xRg (xb 7 [(1, 1), (3, 1), (5, 1)] [1, 2, 3, 19] (xE eB ?_)))))
  rintro _ _ _ - ⟨b4, rfl, rfl, rfl⟩
  refine xbo 1 [(8, 0)] [some ⟨b4, 95, (cSett ({ n with in_ := ([] : List UInt8) }) none 0)⟩, some ⟨b2, 95, (cSett Z2 none 0)⟩, some ⟨b1, 36, (cRNode n p0 i0 w0 j0)⟩] [1, 2, 3, 4] (xRe (xW (xSq (xSq (xRg (xb 3 [(1, 2)] [1, 2, 3, 4, 22] (xRe (xW ?_))))))))
  refine xBindO hS (fun g own sl t5 => ∃ (v0 : OA) (l0 : Nat) (j1 : OB), own = [some ⟨b4, 95, (cSett ({ n with in_ := t5 }) v0 l0)⟩, some ⟨b2, 95, (cSett Z2 none 0)⟩, j1] ∧ sl = [(2, vp b2 0), (4, vp b4 0)] ∧ Buf g.b tyU8 5 (.slice v0 (t5).length l0) j1 t5) ?_ ?_
  ·rintro g6 _ _ t5 e7 ⟨v0, l0, j1, rfl, rfl, f2⟩ hS
   refine xW (xSq (xRg (xbo 2 [(0, 0), (1, 1)] [some ⟨b4, 95, (cSett ({ n with in_ := t5 }) v0 l0)⟩, some ⟨b2, 95, (cSett ({ n with in_ := t5 }) v0 l0)⟩, j1] [2] (xRe (xW ?_)))))
   refine wpq_freeze 2 (by kernel_rfl) f2 (fun g8 e9 f10 => ?_)
   obtain rfl := Option.some.inj hS
   exact xRetC [] [(2, 1)] (e7.trans e9) ⟨v0, l0, by kernel_rfl, by kernel_rfl, f10⟩ (fun _ _ h => h)
  ·intro uu5 hS hN5
   refine xCd ((n.number == 1)) (fun h11 => ?_) (fun h11 => ?_)
   ·have hS := cond_T h11 hS
    have j2 : n.number = 1 := eq_of_beq h11
    refine xRg (xb 6 [(1, 2), (4, 2)] [2, 4, 25, 28, 29] ?_)
    obtain ⟨y12, d2, hS⟩ := bindO_T hS
    refine xE (eC 0 (fun g' lr eb ln => c114 g' n.input p0 i0 (true) n.heard.input w0 j0 ((n.isHeard && (n.heard.role == 3))) (z1.mono lr) (d0.mono lr) d2)) ?_
    rintro _ g13 _ e14 ⟨_, rfl, v1, i1, f1, rfl, rfl, w2⟩
    refine xbo 5 [(11, 1)] [f1, some ⟨b4, 95, (cSett ({ n with in_ := y12.1 }) v1 i1)⟩, some ⟨b2, 95, (cSett Z2 none 0)⟩, some ⟨b1, 36, (cRNode n p0 i0 w0 j0)⟩] [2, 4] (xRe (xSel (sm [1, 2, 0]) (xc [2, 4] ?_)))
    have eS := (Option.some.inj hS).symm
    exact hN5 _ eS _ _ _ e14 ⟨v1, i1, f1, by kernel_rfl, by kernel_rfl, w2⟩
   ·have hS := cond_F h11 hS
    have j2 : ¬ (n.number = 1) := ne_of_beq_false_ h11
    refine xRg (xb 6 [(2, 2), (5, 2)] [2, 4, 37, 38, 40] ?_)
    obtain ⟨y15, v2, hS⟩ := bindO_T hS
    refine xE (eC 0 (fun g' lr eb ln => c114 g' n.heard.input w0 j0 ((n.isHeard && (n.heard.role == 3))) n.input p0 i0 (true) (d0.mono lr) (z1.mono lr) v2)) ?_
    rintro _ g16 _ e17 ⟨_, rfl, t1, d1, l1, rfl, rfl, z2⟩
    refine xbo 5 [(11, 1)] [l1, some ⟨b4, 95, (cSett ({ n with in_ := y15.1 }) t1 d1)⟩, some ⟨b2, 95, (cSett Z2 none 0)⟩, some ⟨b1, 36, (cRNode n p0 i0 w0 j0)⟩] [2, 4] (xRe (xSel (sm [1, 2, 0]) (xc [2, 4] ?_)))
    have eS := (Option.some.inj hS).symm
    exact hN5 _ eS _ _ _ e17 ⟨t1, d1, l1, by kernel_rfl, by kernel_rfl, z2⟩

def o115 (p : List UInt8) (is_ : Bool) : Option ((List UInt8) × (List UInt8) × Bool) :=
 (cond ((!is_)) (some ((([] : List UInt8), (p : List UInt8), (true)))) (cond (decide ((((p).length : Nat) : Int) < 2)) (some ((([] : List UInt8), ([] : List UInt8), (false)))) (bindO (o99 ((List.take 2 p) : List UInt8)) fun y4 => (cond ((decide (y4 > 400) || decide (y4 > ((((p).length : Nat) : Int) - 2)))) (some ((([] : List UInt8), ([] : List UInt8), (false)))) (grd (decide (-9223372036854775808 ≤ 2 + y4 ∧ 2 + y4 ≤ 9223372036854775807)) (grd (decide (2 ≤ (2 + y4) ∧ (2 + y4) ≤ (((p).length : Nat) : Int))) (grd (decide (-9223372036854775808 ≤ 2 + y4 ∧ 2 + y4 ≤ 9223372036854775807)) (grd (decide (0 ≤ (2 + y4) ∧ (2 + y4) ≤ (((p).length : Nat) : Int))) (some ((((List.take (((2 + y4)).toNat - 2) (List.drop 2 p)) : List UInt8), ((List.drop ((2 + y4)).toNat p) : List UInt8), (true))))))))))))
theorem c115 (g : Gh) (p : List UInt8) (Ap : OA) (cp : Nat) (is_ : Bool) (fp : Arr g.b tyU8 Ap cp p) {r : (List UInt8) × (List UInt8) × Bool} (hS : o115 p is_ = some r) :
  Ctr Tryz.prog 115 [vs Ap p cp, vb is_] g [] (fun v ψ o => ∃ (j0 : OA) (w0 : Nat) (i0 : OB) (d0 : OA) (p0 : Nat), v = Value.tuple #[vs j0 r.1 w0, vs d0 r.2.1 p0, vb r.2.2] ∧ o = [i0] ∧ Buf ψ tyU8 5 (.slice j0 (r.1).length w0) i0 r.1 ∧ Arr ψ tyU8 d0 p0 r.2.1) := by
 unfold o115 at hS
 refine xFn Tryz.f115 (Tryz.f115.body.getD .skip) 36 ?_
 have nfp := fp.len
 refine xSq (xRg (xb 3 [] [0, 1] (xRe (xW (xSq (xSq (xRg (xb 2 [] [0, 9] (xRe (xW ?_))))))))))
 refine xCd ((!is_)) (fun h1 => ?_) (fun h1 => ?_)
 ·have hS := cond_T h1 hS
  have h1n := not_eq_true_ h1
  refine xSq (xRg (xb 4 [] [4, 5, 6] (xRe (xW ?_))))
  obtain rfl := Option.some.inj hS
  exact xRet [none] [4, 5, 6] gR ⟨none, 0, none, Ap, cp, by kernel_rfl, by kernel_rfl, Buf.nil, fp⟩ (fun _ _ h => h)
 ·have hS := cond_F h1 hS
  have h1n := not_eq_false_ h1
  refine xSk (xW (xc [0] (xSq (xSq (xRg (xb 3 [] [0, 13] (xRe (xW ?_))))))))
  refine xCd (decide ((((p).length : Nat) : Int) < 2)) (fun h2 => ?_) (fun h2 => ?_)
  ·have hS := cond_T h2 hS
   have h2p := of_decide_eq_true h2
   refine xSq (xRg (xb 3 [] [4, 5, 6] (xRe (xW ?_))))
   obtain rfl := Option.some.inj hS
   exact xRet [none] [4, 5, 6] gR ⟨none, 0, none, none, 0, by kernel_rfl, by kernel_rfl, Buf.nil, Arr.nil⟩ (fun _ _ h => h)
  ·have hS := cond_F h2 hS
   have h2p := of_decide_eq_false h2
   refine xSk (xW (xc [0] (xSq (xRg ?_))))
   have d1 := fp.cap
   have f3 : Arr g.b tyU8 (offA Ap cp 0 1) (cp - 0) (List.take 2 p) := fp.cut_to 2 (by omega)
   have nf3 := f3.len
   have w1 : 2 - 0 = ((List.take 2 p)).length := by simp only [List.length_take, List.length_drop] <;> omega
   have f2 : ((((List.take 2 p)).length : Nat) : Int) = 2 - 0 := by omega
   refine xb 1 [] [0, 14] (xV (qSl (m := 1) (A := Ap) (len := (p).length) (c := cp) 0 2 none (some 2) ((List.take 2 p)).length rfl rfl (by omega) (by omega) w1) ?_)
   obtain ⟨y4, hy4, hS⟩ := bindO_T hS
   refine xE (eC 0 (fun g' lr eb ln => c99 g' ((List.take 2 p) : List UInt8) (offA Ap cp 0 1) (cp - 0) ((f3.mono g.br).mono lr) hy4)) ?_
   rintro _ g5 _ e6 ⟨_, rfl, rfl, rfl⟩
   refine xb 1 [] [0, 7] (xRe (xW (xSq (xSq (xRg (xb 3 [] [0, 7, 19] ?_))))))
   refine wpr_grp 9 [(0, vs Ap p cp), (7, vi y4), (25, vb (decide (y4 > 400) || decide (y4 > ((((p).length : Nat) : Int) - 2))))] (fun hk2 => ?_) ?_
   ·refine wpq_split 19 (b := decide (y4 > 400)) (by kernel_rfl) (fun q7 => ?_) (fun q7 => ?_)
    ·have q7p := of_decide_eq_true q7
     refine xb 6 [] [0, 7, 25] (wpq_re 25 (v := vb true) (Value.bool ((decide (y4 > 400) || decide (y4 > ((((p).length : Nat) : Int) - 2))))) (by kernel_rfl) (re_or1 q7) ?_)
     exact wpq_sub _ (by kernel_rfl) hk2
    ·have q7p := of_decide_eq_false q7
     refine xb 3 [] [0, 7, 19, 20, 22] (xV (qSub .i64 ((((p).length : Nat) : Int)) (2) (wr64 (by omega))) (xb 2 [] [0, 7, 25] (wpq_re 25 (v := vb (decide (y4 > ((((p).length : Nat) : Int) - 2)))) (Value.bool ((decide (y4 > 400) || decide (y4 > ((((p).length : Nat) : Int) - 2))))) (by kernel_rfl) (re_or0 q7) ?_)))
     exact wpq_sub _ (by kernel_rfl) hk2
   ·refine xRe ?_
    refine xW ?_
    refine xCd ((decide (y4 > 400) || decide (y4 > ((((p).length : Nat) : Int) - 2)))) (fun h8 => ?_) (fun h8 => ?_)
    ·have hS := cond_T h8 hS
     refine xSq (xRg (xb 3 [] [4, 5, 6] (xRe (xW ?_))))
     obtain rfl := Option.some.inj hS
     exact xRet [none] [4, 5, 6] e6 ⟨none, 0, none, none, 0, by kernel_rfl, by kernel_rfl, Buf.nil, Arr.nil⟩ (fun _ _ h => h)
    ·have hS := cond_F h8 hS
     have h8l := (or_false_ h8).1
     have h8r := (or_false_ h8).2
     have w3 := of_decide_eq_false h8l
     have a2 := of_decide_eq_false h8r
     refine xSk (xW (xc [0, 7] (xSq ?_)))
     refine xDr 0 [] [1, 2, 3, 4, 6, 7, 8, 9, 10, 11, 12] [] 13 (fun RG => ?_) (fun _ _ _ _ _ h => h)
     obtain ⟨q9, hS⟩ := grd_T hS
     have q9p := of_decide_eq_true q9
     refine xt 11 [1, 2] [] [] [0, 7, 27, 28] RG pR (xTp 3 RG (fun _ => (qAdd .i64 (2) (y4) (wr64 (by omega)))) ?_)
     have fp := fp.mono e6.b
     obtain ⟨q10, hS⟩ := grd_T hS
     have d2 := of_decide_eq_true q10
     have i1 := fp.cap
     have f11 : Arr g5.b tyU8 (offA Ap cp 2 1) (cp - 2) (List.take (((2 + y4)).toNat - 2) (List.drop 2 p)) := fp.cut 2 ((2 + y4)).toNat (by omega) (by omega)
     have l1 := f11.len
     have v0 : ((2 + y4)).toNat - 2 = ((List.take (((2 + y4)).toNat - 2) (List.drop 2 p))).length := by simp only [List.length_take, List.length_drop] <;> omega
     have v1 : ((((List.take (((2 + y4)).toNat - 2) (List.drop 2 p))).length : Nat) : Int) = (2 + y4) - 2 := by omega
     refine xTp 4 RG (fun _ => (qSl (m := 1) (A := Ap) (len := (p).length) (c := cp) 2 ((2 + y4)).toNat (some 2) (some (2 + y4)) ((List.take (((2 + y4)).toNat - 2) (List.drop 2 p))).length rfl (show _ = _ by omega) (by omega) (by omega) v0)) ?_
     obtain ⟨q12, hS⟩ := grd_T hS
     have w2 := of_decide_eq_true q12
     refine xt 7 [6, 7] [] [] [30, 32, 33] RG pR (xTp 8 RG (fun _ => (qAdd .i64 (2) (y4) (wr64 (by omega)))) ?_)
     obtain ⟨q13, hS⟩ := grd_T hS
     have f1 := of_decide_eq_true q13
     have j1 := fp.cap
     have f14 : Arr g5.b tyU8 (offA Ap cp ((2 + y4)).toNat 1) (cp - ((2 + y4)).toNat) (List.drop ((2 + y4)).toNat p) := fp.cut_from ((2 + y4)).toNat (by omega)
     have v2 := f14.len
     have l0 : (p).length - ((2 + y4)).toNat = ((List.drop ((2 + y4)).toNat p)).length := by simp only [List.length_take, List.length_drop] <;> omega
     have t1 : ((((List.drop ((2 + y4)).toNat p)).length : Nat) : Int) = (((p).length : Nat) : Int) - (2 + y4) := by omega
     refine xTp 9 RG (fun _ => (qSl (m := 1) (A := Ap) (len := (p).length) (c := cp) ((2 + y4)).toNat (p).length (some (2 + y4)) none ((List.drop ((2 + y4)).toNat p)).length (show _ = _ by omega) rfl (by omega) (by omega) l0)) (xO1 (lds := []) 0 (xIe (lds := []) pR (eBs (T := tyU8) (p := g5.b) (et := 5) (xs := ([] : List UInt8)) reps_nil (by simp)) ?_))
     rintro _ _ _ - ⟨A15, c15, k15, rfl, rfl, rfl, h15⟩
     refine kk [] ?_
     obtain ⟨j2, z1, f0⟩ := f11.srcB
     refine xO1 (lds := []) 5 (xIe (lds := []) pR (eApp (T := tyU8) (p := g5.b) (et := 5) (bytes := 1) (xs := ([] : List UInt8)) (ys := ((List.take (((2 + y4)).toNat - 2) (List.drop 2 p)) : List UInt8)) 0 h15 rfl (fun w hs => f0 w _ hs) z1 (by first | omega | (simp only [List.length_cons, List.length_nil] at *; omega)) (by first | omega | (simp only [List.length_cons, List.length_nil] at *; omega))) ?_)
     rintro _ _ _ - ⟨A16, c16, k16, rfl, rfl, rfl, h16⟩
     refine kk [] ?_
     have h16 : Buf g5.b tyU8 5 (.slice A16 (((List.take (((2 + y4)).toNat - 2) (List.drop 2 p)) : List UInt8)).length c16) k16 ((List.take (((2 + y4)).toNat - 2) (List.drop 2 p)) : List UInt8) := h16
     have z2 := h16.len
     refine xt 0 [10, 11, 12] [] [] [4, 5, 6] RG pR (xAe (lds := []) (xW ?_))
     obtain rfl := Option.some.inj hS
     exact xRet [some 0] [4, 5, 6] e6 ⟨A16, c16, k16, (offA Ap cp ((2 + y4)).toNat 1), (cp - ((2 + y4)).toNat), by kernel_rfl, by kernel_rfl, h16, f14⟩ (fun _ _ h => h)

def o100 (in_ : List UInt8) : Option ((List UInt8) × Bool × (List UInt8) × Bool × Int) :=
 (cond ((((((in_).length : Nat) : Int) == 0) || decide (((List.getD in_ 0 0).toNat : Int) > 3))) (some ((([] : List UInt8), (false), ([] : List UInt8), (false), (4 : Int)))) (bindO (o115 ((List.drop 1 in_) : List UInt8) (((landK .u8 ((List.getD in_ 0 0).toNat : Int) 1) == 1))) fun y10 => (cond ((!y10.2.2)) (some ((([] : List UInt8), (false), ([] : List UInt8), (false), (4 : Int)))) (bindO (o115 y10.2.1 (((landK .u8 ((List.getD in_ 0 0).toNat : Int) 2) == 2))) fun y14 => (cond (((!y14.2.2) || decide ((((y14.2.1).length : Nat) : Int) > 0))) (some ((([] : List UInt8), (false), ([] : List UInt8), (false), (4 : Int)))) (some ((y10.1, (((landK .u8 ((List.getD in_ 0 0).toNat : Int) 1) == 1)), y14.1, (((landK .u8 ((List.getD in_ 0 0).toNat : Int) 2) == 2)), (0 : Int)))))))))
theorem c100 (g : Gh) (in_ : List UInt8) (i0 : OA) (w0 : Nat) (j0 : Arr g.b tyU8 i0 w0 in_) {r : (List UInt8) × Bool × (List UInt8) × Bool × Int} (hS : o100 in_ = some r) :
  Ctr Tryz.prog 100 [vs i0 in_ w0] g [] (fun v ψ o => ∃ (d1 : OA) (j1 : Nat) (t1 : OB) (v1 : OA) (i1 : Nat) (l1 : OB), v = Value.tuple #[vs d1 r.1 j1, vb r.2.1, vs v1 r.2.2.1 i1, vb r.2.2.2.1, vi r.2.2.2.2] ∧ o = [t1, l1] ∧ Buf ψ tyU8 5 (.slice d1 (r.1).length j1) t1 r.1 ∧ Buf ψ tyU8 5 (.slice v1 (r.2.2.1).length i1) l1 r.2.2.1) := by
 unfold o100 at hS
 refine xFn Tryz.f100 (Tryz.f100.body.getD .skip) 62 ?_
 have j4 := j0.len
 refine xSq (xRg (xb 5 [] [0] (xRe (xW (xSq (xSq (xRg (xb 4 [] [0, 18] ?_))))))))
 refine wpr_grp 9 [(0, vs i0 in_ w0), (23, vb (((((in_).length : Nat) : Int) == 0) || decide (((List.getD in_ 0 0).toNat : Int) > 3)))] (fun hk3 => ?_) ?_
 ·refine wpq_split 18 (b := ((((in_).length : Nat) : Int) == 0)) (by kernel_rfl) (fun q1 => ?_) (fun q1 => ?_)
  ·have q1p : (((in_).length : Nat) : Int) = 0 := eq_of_beq q1
   refine xb 5 [] [0, 23] (wpq_re 23 (v := vb true) (Value.bool ((((((in_).length : Nat) : Int) == 0) || decide (((List.getD in_ 0 0).toNat : Int) > 3)))) (by kernel_rfl) (re_or1 q1) ?_)
   exact wpq_sub _ (by kernel_rfl) hk3
  ·have q1p : ¬ ((((in_).length : Nat) : Int) = 0) := ne_of_beq_false_ q1
   have i3 : 0 < (in_).length := by omega
   obtain ⟨ad2, cs2, hA2, hr2, hc2⟩ := j0.at_ (get_getD (d := 0) i3)
   have hr2 : cs2 = [vy ((List.getD in_ 0 0).toNat : Int)] := hr2
   subst hr2
   have nb2 := UInt8.toNat_lt (List.getD in_ 0 0)
   refine xb 1 [] [0, 18, 19] (xV (qIx 0 1 hA2 rfl i3) (xV (qLdP (Addr.add ad2 (0 * 1)) 0 (hc2.mono g.br)) (xb 2 [] [0, 23] (wpq_re 23 (v := vb (decide (((List.getD in_ 0 0).toNat : Int) > 3))) (Value.bool ((((((in_).length : Nat) : Int) == 0) || decide (((List.getD in_ 0 0).toNat : Int) > 3)))) (by kernel_rfl) (re_or0 q1) ?_))))
   exact wpq_sub _ (by kernel_rfl) hk3
 ·refine xRe ?_
  refine xW ?_
  refine xCd ((((((in_).length : Nat) : Int) == 0) || decide (((List.getD in_ 0 0).toNat : Int) > 3))) (fun h4 => ?_) (fun h4 => ?_)
  ·have hS := cond_T h4 hS
   refine xSq (xRg (xb 5 [] [2, 3, 4, 5, 6] (xRe (xW ?_))))
   obtain rfl := Option.some.inj hS
   exact xRet [none, none] [2, 3, 4, 5, 6] gR ⟨none, 0, none, none, 0, none, by kernel_rfl, by kernel_rfl, Buf.nil, Buf.nil⟩ (fun _ _ h => h)
  ·have hS := cond_F h4 hS
   have h4l := (or_false_ h4).1
   have h4r := (or_false_ h4).2
   have l4 : ¬ ((((in_).length : Nat) : Int) = 0) := ne_of_beq_false_ h4l
   have t4 := of_decide_eq_false h4r
   refine xSk (xW (xc [0] (xSq ?_)))
   refine xDr 0 [2, 7] [11] [] 12 (fun RG => ?_) (fun _ _ _ _ _ h => h)
   have i6 : 0 < (in_).length := by omega
   obtain ⟨ad5, cs5, hA5, hr5, hc5⟩ := j0.at_ (get_getD (d := 0) i6)
   have hr5 : cs5 = [vy ((List.getD in_ 0 0).toNat : Int)] := hr5
   subst hr5
   have nb5 := UInt8.toNat_lt (List.getD in_ 0 0)
   refine xt 11 [0] [] [] [0, 24] RG pR (xTp 1 RG (fun _ => (qIx 0 1 hA5 rfl i6)) (xTv 2 [] RG pR (qLdP (Addr.add ad5 (0 * 1)) 0 (hc5.mono g.br)) ?_))
   have i8 : 0 < (in_).length := by omega
   obtain ⟨ad7, cs7, hA7, hr7, hc7⟩ := j0.at_ (get_getD (d := 0) i8)
   have hr7 : cs7 = [vy ((List.getD in_ 0 0).toNat : Int)] := hr7
   subst hr7
   have nb7 := UInt8.toNat_lt (List.getD in_ 0 0)
   refine xt 6 [3, 4, 5] [] [] [0, 28, 29] RG pR (xTp 6 RG (fun _ => (qIx 0 1 hA7 rfl i8)) (xTv 7 [] RG pR (qLdP (Addr.add ad7 (0 * 1)) 0 (hc7.mono g.br)) (xt 0 [8, 9, 10, 11] [] [] [0, 7, 8] RG pR (xAe (lds := [2, 7]) (xW (xSq (xRg ?_)))))))
   have v3 := j0.cap
   have f9 : Arr g.b tyU8 (offA i0 w0 1 1) (w0 - 1) (List.drop 1 in_) := j0.cut_from 1 (by omega)
   have nf9 := f9.len
   have v2 : (in_).length - 1 = ((List.drop 1 in_)).length := by simp only [List.length_take, List.length_drop] <;> omega
   have v4 : ((((List.drop 1 in_)).length : Nat) : Int) = (((in_).length : Nat) : Int) - 1 := by omega
   refine xb 1 [] [7, 8, 35] (xV (qSl (m := 1) (A := i0) (len := (in_).length) (c := w0) 1 (in_).length (some 1) none ((List.drop 1 in_)).length rfl rfl (by omega) (by omega) v2) (xb 1 [] [7, 8, 36, 37] ?_))
   obtain ⟨y10, f2, hS⟩ := bindO_T hS
   refine xE (eC 0 (fun g' lr eb ln => c115 g' ((List.drop 1 in_) : List UInt8) (offA i0 w0 1 1) (w0 - 1) (((landK .u8 ((List.getD in_ 0 0).toNat : Int) 1) == 1)) (by rw [eb]; exact f9) f2)) ?_
   rintro _ g11 _ e12 ⟨_, rfl, z1, l0, z2, d2, f1, rfl, rfl, p0, d0⟩
   have f3 := p0.len
   have t3 := d0.len
   refine xb 7 [] [7, 8, 9, 10, 11] (xRe (xW (xSq (xSq (xRg (xb 2 [] [7, 8, 9, 10, 43] (xRe (xW ?_))))))))
   refine xCd ((!y10.2.2)) (fun h13 => ?_) (fun h13 => ?_)
   ·have hS := cond_T h13 hS
    have w3 := not_eq_true_ h13
    refine xSq (xRg (xb 5 [] [2, 3, 4, 5, 6] (xRe (xW ?_))))
    obtain rfl := Option.some.inj hS
    exact xRet [none, none] [2, 3, 4, 5, 6] e12 ⟨none, 0, none, none, 0, none, by kernel_rfl, by kernel_rfl, Buf.nil, Buf.nil⟩ (fun _ _ h => h)
   ·have hS := cond_F h13 hS
    have w3 := not_eq_false_ h13
    refine xSk (xW (xc [7, 8, 9, 10] (xSq (xRg (xb 2 [] [7, 8, 9, 45, 46] ?_)))))
    obtain ⟨y14, d3, hS⟩ := bindO_T hS
    refine xE (eC 0 (fun g' lr eb ln => c115 g' y10.2.1 d2 f1 (((landK .u8 ((List.getD in_ 0 0).toNat : Int) 2) == 2)) (by rw [eb]; exact d0) d3)) ?_
    rintro _ g15 _ e16 ⟨_, rfl, v0, w1, w2, z4, d4, rfl, rfl, f0, j2⟩
    have l3 := f0.len
    have a3 := j2.len
    refine xb 7 [] [7, 8, 9, 12, 13, 14] (xRe (xW (xSq (xSq (xRg (xb 3 [] [7, 8, 9, 12, 13, 53] ?_))))))
    refine wpr_grp 7 [(7, vb ((landK .u8 ((List.getD in_ 0 0).toNat : Int) 1) == 1)), (8, vb ((landK .u8 ((List.getD in_ 0 0).toNat : Int) 2) == 2)), (9, vs z1 y10.1 l0), (12, vs v0 y14.1 w1), (57, vb ((!y14.2.2) || decide ((((y14.2.1).length : Nat) : Int) > 0)))] (fun hk2 => ?_) ?_
    ·refine wpq_split 53 (b := (!y14.2.2)) (by kernel_rfl) (fun q17 => ?_) (fun q17 => ?_)
     ·have z3 := not_eq_true_ q17
      refine xb 4 [] [7, 8, 9, 12, 57] (wpq_re 57 (v := vb true) (Value.bool (((!y14.2.2) || decide ((((y14.2.1).length : Nat) : Int) > 0)))) (by kernel_rfl) (re_or1 q17) ?_)
      exact wpq_sub _ (by kernel_rfl) hk2
     ·have z3 := not_eq_false_ q17
      refine xb 4 [] [7, 8, 9, 12, 57] (wpq_re 57 (v := vb (decide ((((y14.2.1).length : Nat) : Int) > 0))) (Value.bool (((!y14.2.2) || decide ((((y14.2.1).length : Nat) : Int) > 0)))) (by kernel_rfl) (re_or0 q17) ?_)
      exact wpq_sub _ (by kernel_rfl) hk2
    ·refine xRe ?_
     refine xW ?_
     refine xCd (((!y14.2.2) || decide ((((y14.2.1).length : Nat) : Int) > 0))) (fun h18 => ?_) (fun h18 => ?_)
     ·have hS := cond_T h18 hS
      refine xSq (xRg (xb 5 [] [2, 3, 4, 5, 6] (xRe (xW ?_))))
      obtain rfl := Option.some.inj hS
      exact xRet [none, none] [2, 3, 4, 5, 6] (e12.trans e16) ⟨none, 0, none, none, 0, none, by kernel_rfl, by kernel_rfl, Buf.nil, Buf.nil⟩ (fun _ _ h => h)
     ·have hS := cond_F h18 hS
      have a2 := (or_false_ h18).1
      have j3 := (or_false_ h18).2
      have i4 := not_eq_false_ a2
      have w4 := of_decide_eq_false j3
      refine xSk (xW (xc [7, 8, 9, 12] (xSq (xRg (xb 9 [] [2, 3, 4, 5, 6] (xRe (xW ?_)))))))
      have p0 := p0.mono e16.b
      obtain rfl := Option.some.inj hS
      exact xRet [some 1, some 0] [2, 3, 4, 5, 6] (e12.trans e16) ⟨z1, l0, z2, v0, w1, w2, by kernel_rfl, by kernel_rfl, p0, f0⟩ (fun _ _ h => h)

def o96 (x : Sett) : Option ((List UInt8) × Int) :=
 (cond (decide (x.steps < 0)) (some ((([] : List UInt8), (1 : Int)))) (bindO (o100 x.in_) fun y3 => (cond ((y3.2.2.2.2 != 0)) (some ((([] : List UInt8), y3.2.2.2.2))) (letJ (τ := Nat) (cond (x.fresh) (1) (0)) fun t7 => (bindO (o108 x.steps (8 : Int)) fun y11 => (grd (decide (((y11).length + (([(u8 ((t7 : Nat) : Int))] : List UInt8)).length) * 1 ≤ 140737488355328)) (grd (decide ((((y11 ++ ([(u8 ((t7 : Nat) : Int))] : List UInt8))).length + (x.in_).length) * 1 ≤ 140737488355328)) (some (((((y11 ++ ([(u8 ((t7 : Nat) : Int))] : List UInt8)) ++ x.in_) : List UInt8), (0 : Int)))))))))))
theorem c96 (g : Gh) (x : Sett) (j0 : OA) (w0 : Nat) (l0 : Arr g.b tyU8 j0 w0 x.in_) {r : (List UInt8) × Int} (hS : o96 x = some r) :
  Ctr Tryz.prog 96 [(aSett x j0 w0)] g [] (fun v ψ o => ∃ (l1 : OA) (d1 : Nat) (f1 : OB), v = Value.tuple #[vs l1 r.1 d1, vi r.2] ∧ o = [f1] ∧ Buf ψ tyU8 5 (.slice l1 (r.1).length d1) f1 r.1) := by
 unfold o96 at hS
 refine xFn Tryz.f96 (Tryz.f96.body.getD .skip) 36 ?_
 have l4 := l0.len
 refine xSq (xRg (xE eB ?_))
 rintro _ _ _ - ⟨b1, rfl, rfl, rfl⟩
 refine xb 2 [] [1] (xRe (xW (xSq (xSq (xRg (xb 3 [(1, 0)] [1, 12] (xRe (xW ?_))))))))
 refine xCd (decide (x.steps < 0)) (fun h2 => ?_) (fun h2 => ?_)
 ·have hS := cond_T h2 hS
  have h2p := of_decide_eq_true h2
  refine xSq (xRg (xb 2 [] [2, 3] (xRe (xW ?_))))
  obtain rfl := Option.some.inj hS
  exact xRet [none] [2, 3] gR ⟨none, 0, none, by kernel_rfl, by kernel_rfl, Buf.nil⟩ (fun _ _ h => h)
 ·have hS := cond_F h2 hS
  have h2p := of_decide_eq_false h2
  refine xSk (xW (xc [1] (xSq (xRg (xb 2 [(1, 0)] [1, 15] ?_)))))
  obtain ⟨y3, hy3, hS⟩ := bindO_T hS
  refine xE (eC 0 (fun g' lr eb ln => c100 g' x.in_ j0 w0 (by rw [eb]; exact l0) hy3)) ?_
  rintro _ g4 _ e5 ⟨_, rfl, p6, w6, a6, z6, d6, j6, rfl, rfl, f3, w4⟩
  have z5 := f3.len
  have w5 := w4.len
  refine xb 11 [] [1, 8] (xRe (xW (xSq (xSq (xRg (xb 2 [] [1, 8, 23] (xRe (xW ?_))))))))
  refine xCd ((y3.2.2.2.2 != 0)) (fun h6 => ?_) (fun h6 => ?_)
  ·have hS := cond_T h6 hS
   have h6p : ¬ (y3.2.2.2.2 = 0) := ne_of_bne_ h6
   refine xSq (xRg (xb 3 [] [2, 3] (xRe (xW ?_))))
   obtain rfl := Option.some.inj hS
   exact xRet [none] [2, 3] e5 ⟨none, 0, none, by kernel_rfl, by kernel_rfl, Buf.nil⟩ (fun _ _ h => h)
  ·have hS := cond_F h6 hS
   have h6p : y3.2.2.2.2 = 0 := eq_of_bne_false_ h6
   refine xSk (xW (xc [1] (xSq (xRg (xb 1 [] [1, 9] (xRe (xW (xSq (xSq (xRg (xb 2 [(1, 2)] [1, 9, 26] (xRe (xW ?_)))))))))))))
   refine xLetJ hS (fun g own sl t7 => own = [some ⟨b1, 95, (cSett x j0 w0)⟩] ∧ sl = [(1, vp b1 0), (9, vy (t7 : Int))] ∧ (0 ≤ t7 ∧ t7 ≤ 1)) ?_ ?_
   ·rintro g8 _ _ t7 e9 ⟨rfl, rfl, ⟨t5, i5⟩⟩ hS
    refine xW (xSq ?_)
    refine xDr 0 [1, 7] [9, 10] [some ⟨b1, 95, (cSett x j0 w0)⟩] 11 (fun RG => ?_) (fun _ _ _ _ _ h => h)
    refine xt 6 [0, 1, 3, 6, 7] [(1, 0), (7, 0)] [some 0] [28, 30, 34] RG pR ?_
    obtain ⟨y11, j2, hS⟩ := bindO_T hS
    refine wpa_meet (fun g own sl => ∃ (p0 : OA) (v0 : Nat) (d0 : OB) (A14 : OA) (c14 : Nat) (k14 : OB), own = [k14, d0, some ⟨b1, 95, (cSett x j0 w0)⟩] ∧ sl = [(29, vs p0 y11 v0), (31, vs A14 ([(u8 (t7 : Int))] : List UInt8) c14), (34, vs j0 x.in_ w0)] ∧ Buf g.b tyU8 5 (.slice p0 (y11).length v0) d0 y11 ∧ Buf g.b tyU8 5 (.slice A14 (([(u8 (t7 : Int))] : List UInt8)).length c14) k14 ([(u8 (t7 : Int))] : List UInt8)) 4 [true, true, true, true, true, false, true, true, false, false, false] ?_ (fun z2 => ?_)
    ·rintro j1 _ _ f0 ⟨p0, v0, d0, A14, c14, k14, rfl, rfl, i0, h14⟩
     have w1 := i0.len
     have i6 := h14.len
     obtain ⟨j5, f2, a2⟩ := h14.srcO (g := j1)
     obtain ⟨l3, hS⟩ := grd_T hS
     have l5 := of_decide_eq_true l3
     refine xO1 (lds := [1, 7]) 5 (xIe (lds := [1, 7]) f0.r (eApp (T := tyU8) (p := j1.b) (et := 5) (bytes := 1) (xs := (y11 : List UInt8)) (ys := (([(u8 (t7 : Int))] : List UInt8) : List UInt8)) 1 i0 rfl (fun w hs => a2 0 w _ hs (by kernel_rfl)) f2 (by first | omega | (simp only [List.length_cons, List.length_nil] at *; omega)) (by first | omega | (simp only [List.length_cons, List.length_nil] at *; omega))) ?_)
     rintro _ _ _ - ⟨v6, f6, t6, rfl, rfl, rfl, w2⟩
     refine kk [some 2] ?_
     have a5 := w2.len
     have d5 : ((y11 ++ ([(u8 (t7 : Int))] : List UInt8)) : List UInt8).length = (y11).length + (([(u8 (t7 : Int))] : List UInt8)).length := List.length_append
     have l0 := l0.mono (e5.trans (e9.trans f0)).b
     obtain ⟨v5, w3, v2⟩ := l0.srcB
     obtain ⟨j3, hS⟩ := grd_T hS
     have f4 := of_decide_eq_true j3
     refine xO1 (lds := [1, 7]) 8 (xIe (lds := [1, 7]) f0.r (eApp (T := tyU8) (p := j1.b) (et := 5) (bytes := 1) (xs := ((y11 ++ ([(u8 (t7 : Int))] : List UInt8)) : List UInt8)) (ys := x.in_) 1 w2 rfl (fun w hs => v2 w _ hs) w3 (by first | omega | (simp only [List.length_cons, List.length_nil] at *; omega)) (by first | omega | (simp only [List.length_cons, List.length_nil] at *; omega))) ?_)
     rintro _ _ _ - ⟨a3, d3, d4, rfl, rfl, rfl, t1⟩
     refine kk [some 2] ?_
     have a4 := t1.len
     have f5 : (((y11 ++ ([(u8 (t7 : Int))] : List UInt8)) ++ x.in_) : List UInt8).length = ((y11 ++ ([(u8 (t7 : Int))] : List UInt8))).length + (x.in_).length := List.length_append
     refine xt 0 [9, 10] [] [some 2] [2, 3] RG f0.r (xAe (lds := [1, 7]) (xW ?_))
     obtain rfl := Option.some.inj hS
     exact xRet [some 1] [2, 3] (e5.trans (e9.trans f0)) ⟨a3, d3, d4, by kernel_rfl, by kernel_rfl, t1⟩ (fun _ _ h => h)
    ·refine xO2 (lds := [1, 7]) 2 4 ?_ ?_
     ·refine xIe (lds := [1, 7]) pR (eC 0 (fun g' lr eb ln => c108 g' x.steps (8 : Int) j2)) ?_
      rintro _ v3 _ v1 ⟨_, rfl, p0, v0, d0, rfl, rfl, i0⟩
      refine kk [some 1] ?_
      have w1 := i0.len
      refine xO1 (lds := [1, 7]) 4 (xIe (lds := [1, 7]) v1.r (eBs (T := tyU8) (p := v3.b) (et := 5) (xs := ([(u8 (t7 : Int))] : List UInt8)) (reps_cons (c := [vy (t7 : Int)]) (u8_rep (by omega)) reps_nil) (by simp)) ?_)
      rintro _ _ _ - ⟨i4, t3, t4, rfl, rfl, rfl, v4⟩
      refine kk [some 2] (xc [29, 31, 34] ?_)
      exact z2 _ _ _ v1 ⟨p0, v0, d0, i4, t3, t4, by kernel_rfl, by kernel_rfl, i0, v4⟩
     ·refine xIe (lds := [1, 7]) pR (eBs (T := tyU8) (p := g8.b) (et := 5) (xs := ([(u8 (t7 : Int))] : List UInt8)) (reps_cons (c := [vy (t7 : Int)]) (u8_rep (by omega)) reps_nil) (by simp)) ?_
      rintro _ _ _ - ⟨z3, j4, z4, rfl, rfl, rfl, i1⟩
      refine kk [some 1] (xO1 (lds := [1, 7]) 2 (xIe (lds := [1, 7]) pR (eC 0 (fun g' lr eb ln => c108 g' x.steps (8 : Int) j2)) ?_))
      rintro _ l6 _ d2 ⟨_, rfl, p0, v0, d0, rfl, rfl, i0⟩
      refine kk [some 2] ?_
      have w1 := i0.len
      refine xSel (sm [1, 0, 2]) (xc [29, 31, 34] ?_)
      have i1 := i1.mono d2.b
      exact z2 _ _ _ d2 ⟨p0, v0, d0, z3, j4, z4, by kernel_rfl, by kernel_rfl, i0, i1⟩
   ·intro uu7 hS hN7
    refine xCd (x.fresh) (fun z1 => ?_) (fun z1 => ?_)
    ·have hS := cond_T z1 hS
     refine xRg (xb 1 [] [1, 9] (xRe (xSel [some 2] (xc [1, 9] ?_))))
     have eS := hS.symm
     exact hN7 _ eS _ _ _ gR ⟨by kernel_rfl, by kernel_rfl, okI⟩
    ·have hS := cond_F z1 hS
     refine xSk (xSel [some 2] (xc [1, 9] ?_))
     have eS := hS.symm
     exact hN7 _ eS _ _ _ gR ⟨by kernel_rfl, by kernel_rfl, okI⟩

def o55 (n : RNode) : Option (RNode × Frame × Bool × Int) :=
 (cond ((n.stage != 2)) (some ((n, (⟨0, 0, 0, ([] : List UInt8)⟩ : Frame), (false), (8 : Int)))) (cond ((n.role != 2)) (some ((({ n with stage := 3 }), (⟨0, 0, 0, ([] : List UInt8)⟩ : Frame), (false), (0 : Int)))) (bindO (o97 ({ n with stage := 3 })) fun y6 => (bindO (o96 y6) fun y9 => (some ((({ n with stage := 3 }), (⟨2, (IntKind.u8.wrap n.number), n.cycle, y9.1⟩ : Frame), (true), (0 : Int))))))))
theorem c55 (g : Gh) (n : RNode) (p0 : OA) (i0 : Nat) (w0 : OA) (j0 : Nat) (v0 : Arr g.b tyU8 p0 i0 n.input) (d0 : Arr g.b tyU8 w0 j0 n.heard.input) {r : RNode × Frame × Bool × Int} (hS : o55 n = some r) :
  Ctr Tryz.prog 55 [(aRNode n p0 i0 w0 j0)] g [] (fun v ψ o => ∃ (j1 : OA) (i1 : Nat) (l0 : OA) (f0 : Nat) (w1 : OA) (z1 : Nat), v = Value.tuple #[(aRNode r.1 j1 i1 l0 f0), (aFrame r.2.1 w1 z1), vb r.2.2.1, vi r.2.2.2] ∧ o = [] ∧ Arr ψ tyU8 j1 i1 r.1.input ∧ Arr ψ tyU8 l0 f0 r.1.heard.input ∧ Arr ψ tyU8 w1 z1 r.2.1.payload) := by
 unfold o55 at hS
 refine xFn Tryz.f55 (Tryz.f55.body.getD .skip) 33 (xSq (xRg (xE eB ?_)))
 rintro _ _ _ - ⟨b1, rfl, rfl, rfl⟩
 refine xE eB ?_
 rintro _ _ _ - ⟨b2, rfl, rfl, rfl⟩
 refine xE eB ?_
 rintro _ _ _ - ⟨b3, rfl, rfl, rfl⟩
 refine xb 2 [] [1, 2, 3] (xRe (xW (xSq (xSq (xRg (xb 3 [(1, 2)] [1, 2, 3, 10] (xRe (xW ?_))))))))
 refine xCd ((n.stage != 2)) (fun h4 => ?_) (fun h4 => ?_)
 ·have hS := cond_T h4 hS
  have h4p : ¬ (n.stage = 2) := ne_of_bne_ h4
  refine xSq (xRg (xbo 6 [(0, 2), (2, 1), (3, 0)] [some ⟨b3, 49, (cFrame Z5 none 0)⟩, some ⟨b2, 36, (cRNode n p0 i0 w0 j0)⟩, some ⟨b1, 36, (cRNode n p0 i0 w0 j0)⟩] [2, 3, 4, 5] (xRe (xW ?_))))
  obtain rfl := Option.some.inj hS
  exact xRetC [] [(2, 1), (3, 0)] gR ⟨p0, i0, w0, j0, none, 0, by kernel_rfl, by kernel_rfl, v0, d0, Arr.nil⟩ (fun _ _ h => h)
 ·have hS := cond_F h4 hS
  have h4p : n.stage = 2 := eq_of_bne_false_ h4
  refine xSk (xW (xc [1, 2, 3] (xSq (xRg (xbo 2 [(1, 2)] [some ⟨b3, 49, (cFrame Z5 none 0)⟩, some ⟨b2, 36, (cRNode (⟨0, 0, 0, 0, 0, 0, ([] : List UInt8), false, false, (⟨0, 0, (⟨0, 0⟩ : Want), ([] : List UInt8)⟩ : Heard), false, Z0⟩ : RNode) none 0 none 0)⟩, some ⟨b1, 36, (cRNode ({ n with stage := 3 }) p0 i0 w0 j0)⟩] [1, 2, 3] (xRe (xW (xSq (xSq (xRg (xb 3 [(1, 2)] [1, 2, 3, 16] (xRe (xW ?_)))))))))))))
  refine xCd ((n.role != 2)) (fun h5 => ?_) (fun h5 => ?_)
  ·have hS := cond_T h5 hS
   have h5p : ¬ (n.role = 2) := ne_of_bne_ h5
   refine xSq (xRg (xbo 6 [(0, 2), (2, 1), (3, 0)] [some ⟨b3, 49, (cFrame Z5 none 0)⟩, some ⟨b2, 36, (cRNode ({ n with stage := 3 }) p0 i0 w0 j0)⟩, some ⟨b1, 36, (cRNode ({ n with stage := 3 }) p0 i0 w0 j0)⟩] [2, 3, 4, 5] (xRe (xW ?_))))
   obtain rfl := Option.some.inj hS
   exact xRetC [] [(2, 1), (3, 0)] gR ⟨p0, i0, w0, j0, none, 0, by kernel_rfl, by kernel_rfl, v0, d0, Arr.nil⟩ (fun _ _ h => h)
  ·have hS := cond_F h5 hS
   have h5p : n.role = 2 := eq_of_bne_false_ h5
   refine xSk (xW (xc [1, 2, 3] (xSq (xRg (xb 1 [(0, 2)] [1, 2, 3, 20] ?_)))))
   obtain ⟨y6, hy6, hS⟩ := bindO_T hS
   refine xE (eC 0 (fun g' lr eb ln => c97 g' ({ n with stage := 3 }) p0 i0 w0 j0 ((v0.mono g.br).mono lr) ((d0.mono g.br).mono lr) hy6)) ?_
   rintro _ g7 _ e8 ⟨_, rfl, t1, d1, rfl, rfl, v1⟩
   obtain ⟨y9, hy9, hS⟩ := bindO_T hS
   refine xE (eC 0 (fun g' lr eb ln => c96 g' y6 t1 d1 (by rw [eb]; exact v1) hy9)) ?_
   rintro _ g10 _ e11 ⟨_, rfl, f1, w2, z2, rfl, rfl, l1⟩
   refine xb 5 [] [1, 2, 3, 6] (xRe (xW (xSq ?_)))
   refine xDr 0 [0, 2, 5] [9, 10, 11] [some ⟨b1, 36, (cRNode ({ n with stage := 3 }) p0 i0 w0 j0)⟩] 12 (fun RG => ?_) (fun _ _ _ _ _ h => h)
   refine xt 4 [0, 1, 2, 3, 4, 5, 6, 7] [(0, 0), (2, 0), (5, 0)] [some 3] [2, 3, 25, 32] RG pR (xO1 (lds := [0, 2, 5]) 8 (xId (lds := [0, 2, 5]) pR (eStL b2 0 2) ?_))
   rintro _ _ _ - ⟨rfl, rfl⟩
   refine kk [some 3] (xO1 (lds := [0, 2, 5]) 9 (xId (lds := [0, 2, 5]) pR (eStL b3 0 1) ?_))
   rintro _ _ _ - ⟨rfl, rfl⟩
   refine kf (xt 0 [10, 11] [] [some 3] [2, 3, 4, 5] RG pR (xAe (lds := [0, 2, 5]) (xW ?_)))
   refine wpq_freeze 0 (by kernel_rfl) l1 (fun g12 e13 f14 => ?_)
   have v0 := v0.mono (e8.trans (e11.trans e13)).b
   have d0 := d0.mono (e8.trans (e11.trans e13)).b
   obtain rfl := Option.some.inj hS
   exact xRetC [] [(2, 2), (3, 1)] (e8.trans (e11.trans e13)) ⟨p0, i0, w0, j0, f1, w2, by kernel_rfl, by kernel_rfl, v0, d0, f14⟩ (fun _ _ h => h)

def o25 (c : RComp) : Option (RComp × Frame × Bool × Int) :=
 (cond ((c.stage != 2)) (some ((c, (⟨0, 0, 0, ([] : List UInt8)⟩ : Frame), (false), (8 : Int)))) (bindO (o55 c.node) fun y5 => (some ((({ c with node := y5.1, stage := 3 }), y5.2.1, (y5.2.2.1), (0 : Int))))))
theorem c25 (g : Gh) (c : RComp) (j1 : OA) (i1 : Nat) (f0 : OA) (l0 : Nat) (v0 : OA) (d0 : Nat) (j0 : OA) (w0 : Nat) (i0 : OA) (p0 : Nat) (l3 : Arr g.b tyU8 j1 i1 c.node.input) (a2 : Arr g.b tyU8 f0 l0 c.node.heard.input) (v1 : Arr g.b tyPiece v0 d0 c.sender.pieces) (d1 : Arr g.b (tyArr tyU8) j0 w0 c.collector.parts) (t1 : Arr g.b tySett i0 p0 c.collector.sets) {r : RComp × Frame × Bool × Int} (hS : o25 c = some r) :
  Ctr Tryz.prog 25 [(aRComp c j1 i1 f0 l0 v0 d0 j0 w0 i0 p0)] g [] (fun v ψ o => ∃ (t3 : OA) (v3 : Nat) (z2 : OA) (w2 : Nat) (j3 : OA) (d3 : Nat) (j2 : OA) (d2 : Nat) (z3 : OA) (w3 : Nat) (f3 : OA) (a3 : Nat), v = Value.tuple #[(aRComp r.1 t3 v3 z2 w2 j3 d3 j2 d2 z3 w3), (aFrame r.2.1 f3 a3), vb r.2.2.1, vi r.2.2.2] ∧ o = [] ∧ Arr ψ tyU8 t3 v3 r.1.node.input ∧ Arr ψ tyU8 z2 w2 r.1.node.heard.input ∧ Arr ψ tyPiece j3 d3 r.1.sender.pieces ∧ Arr ψ (tyArr tyU8) j2 d2 r.1.collector.parts ∧ Arr ψ tySett z3 w3 r.1.collector.sets ∧ Arr ψ tyU8 f3 a3 r.2.1.payload) := by
 unfold o25 at hS
 refine xFn Tryz.f25 (Tryz.f25.body.getD .skip) 29 (xSq (xRg (xE eB ?_)))
 rintro _ _ _ - ⟨b1, rfl, rfl, rfl⟩
 refine xE eB ?_
 rintro _ _ _ - ⟨b2, rfl, rfl, rfl⟩
 refine xE eB ?_
 rintro _ _ _ - ⟨b3, rfl, rfl, rfl⟩
 refine xb 2 [] [1, 2, 3] (xRe (xW (xSq (xSq (xRg (xb 3 [(1, 2)] [1, 2, 3, 12] (xRe (xW ?_))))))))
 refine xCd ((c.stage != 2)) (fun h4 => ?_) (fun h4 => ?_)
 ·have hS := cond_T h4 hS
  have h4p : ¬ (c.stage = 2) := ne_of_bne_ h4
  refine xSq (xRg (xbo 6 [(0, 2), (2, 1), (3, 0)] [some ⟨b3, 49, (cFrame Z5 none 0)⟩, some ⟨b2, 45, (cRComp c j1 i1 f0 l0 v0 d0 j0 w0 i0 p0)⟩, some ⟨b1, 45, (cRComp c j1 i1 f0 l0 v0 d0 j0 w0 i0 p0)⟩] [2, 3, 4, 5] (xRe (xW ?_))))
  obtain rfl := Option.some.inj hS
  exact xRetC [] [(2, 1), (3, 0)] gR ⟨j1, i1, f0, l0, v0, d0, j0, w0, i0, p0, none, 0, by kernel_rfl, by kernel_rfl, l3, a2, v1, d1, t1, Arr.nil⟩ (fun _ _ h => h)
 ·have hS := cond_F h4 hS
  have h4p : c.stage = 2 := eq_of_bne_false_ h4
  refine xSk (xW (xc [1, 2, 3] (xSq (xRg (xb 2 [(1, 2)] [1, 2, 3, 17] ?_)))))
  obtain ⟨y5, hy5, hS⟩ := bindO_T hS
  refine xE (eC 0 (fun g' lr eb ln => c55 g' c.node j1 i1 f0 l0 (by rw [eb]; exact l3) (by rw [eb]; exact a2) hy5)) ?_
  rintro _ g6 _ e7 ⟨_, rfl, f1, l1, w1, z1, f2, v2, rfl, rfl, j4, w4, z4⟩
  refine xb 5 [] [1, 2, 3, 19, 20, 21, 22] (xE eB ?_)
  rintro _ _ _ - ⟨b8, rfl, rfl, rfl⟩
  refine xE eB ?_
  rintro _ _ _ - ⟨b9, rfl, rfl, rfl⟩
  refine xbo 4 [(10, 1), (11, 0)] [some ⟨b9, 49, (cFrame y5.2.1 f2 v2)⟩, some ⟨b8, 36, (cRNode y5.1 f1 l1 w1 z1)⟩, some ⟨b3, 49, (cFrame Z5 none 0)⟩, some ⟨b2, 45, (cRComp (⟨(⟨0, 0, 0, 0, 0, 0, ([] : List UInt8), false, false, (⟨0, 0, (⟨0, 0⟩ : Want), ([] : List UInt8)⟩ : Heard), false, Z0⟩ : RNode), Z3, Z4, false, 0⟩ : RComp) none 0 none 0 none 0 none 0 none 0)⟩, some ⟨b1, 45, (cRComp c j1 i1 f0 l0 v0 d0 j0 w0 i0 p0)⟩] [1, 2, 3, 6, 7, 8] (xRe (xW (xSq (xRg (xbo 5 [(0, 1), (2, 4), (4, 4)] [some ⟨b9, 49, (cFrame y5.2.1 f2 v2)⟩, some ⟨b8, 36, (cRNode y5.1 f1 l1 w1 z1)⟩, some ⟨b3, 49, (cFrame Z5 none 0)⟩, some ⟨b2, 45, (cRComp (⟨(⟨0, 0, 0, 0, 0, 0, ([] : List UInt8), false, false, (⟨0, 0, (⟨0, 0⟩ : Want), ([] : List UInt8)⟩ : Heard), false, Z0⟩ : RNode), Z3, Z4, false, 0⟩ : RComp) none 0 none 0 none 0 none 0 none 0)⟩, some ⟨b1, 45, (cRComp ({ c with node := y5.1, stage := 3 }) f1 l1 w1 z1 v0 d0 j0 w0 i0 p0)⟩] [1, 2, 3, 7, 8] (xRe (xW (xSq ?_))))))))
  refine xDr 0 [0, 1] [4, 5, 6] [some ⟨b9, 49, (cFrame y5.2.1 f2 v2)⟩, some ⟨b8, 36, (cRNode y5.1 f1 l1 w1 z1)⟩, some ⟨b1, 45, (cRComp ({ c with node := y5.1, stage := 3 }) f1 l1 w1 z1 v0 d0 j0 w0 i0 p0)⟩] 7 (fun RG => ?_) (fun _ _ _ _ _ h => h)
  refine xt 4 [0, 1, 2] [(0, 2), (1, 0)] (sm [0, 1, 4]) [2, 3, 26, 27, 28] RG pR (xO1 (lds := [0, 1]) 3 (xId (lds := [0, 1]) pR (eStL b2 0 3) ?_))
  rintro _ _ _ - ⟨rfl, rfl⟩
  refine kk (sm [0, 1, 4]) (xO1 (lds := [0, 1]) 4 (xId (lds := [0, 1]) pR (eStL b3 0 2) ?_))
  rintro _ _ _ - ⟨rfl, rfl⟩
  refine kf (xt 0 [5, 6] [] (sm [0, 1, 4]) [2, 3, 4, 5] RG pR (xAe (lds := [0, 1]) (xW ?_)))
  have v1 := v1.mono e7.b
  have d1 := d1.mono e7.b
  have t1 := t1.mono e7.b
  obtain rfl := Option.some.inj hS
  exact xRetC [] [(2, 3), (3, 2)] e7 ⟨f1, l1, w1, z1, v0, d0, j0, w0, i0, p0, f2, v2, by kernel_rfl, by kernel_rfl, j4, w4, v1, d1, t1, z4⟩ (fun _ _ h => h)

def o57 (cycle : Int) (p : List UInt8) : Option (Sett × Int) :=
 (cond ((decide ((((p).length : Nat) : Int) < 9) || decide (((List.getD p 8 0).toNat : Int) > 1))) (some (((⟨0, 0, false, ([] : List UInt8)⟩ : Sett), (4 : Int)))) (bindO (o98 (p : List UInt8) (8 : Int)) fun y10 => (letJ (o43 ((List.drop 9 p) : List UInt8)) fun y13 => (bindO (o95 (⟨y10, cycle, (((List.getD p 8 0).toNat : Int) == 1), y13⟩ : Sett)) fun y215 => (cond ((y215.2 != 0)) (some (((⟨0, 0, false, ([] : List UInt8)⟩ : Sett), (4 : Int)))) (some (((⟨y10, cycle, (((List.getD p 8 0).toNat : Int) == 1), y13⟩ : Sett), (0 : Int)))))))))
theorem c57 (g : Gh) (cycle : Int) (p : List UInt8) (Ap : OA) (cp : Nat) (fp : Arr g.r tyU8 Ap cp p) {r : Sett × Int} (hS : o57 cycle p = some r) :
  Ctr Tryz.prog 57 [vi cycle, vs Ap p cp] g [] (fun v ψ o => ∃ (f0 : OA) (w1 : Nat), v = Value.tuple #[(aSett r.1 f0 w1), vi r.2] ∧ o = [] ∧ Arr ψ tyU8 f0 w1 r.1.in_) := by
 unfold o57 at hS
 refine xFn Tryz.f57 (Tryz.f57.body.getD .skip) 39 ?_
 have nfp := fp.len
 refine xSq (xRg (xE eB ?_))
 rintro _ _ _ - ⟨b1, rfl, rfl, rfl⟩
 refine xb 1 [] [0, 1, 4] (xRe (xW (xSq (xSq (xRg (xb 4 [] [0, 1, 4, 12] ?_))))))
 refine wpr_grp 9 [(0, vi cycle), (1, vs Ap p cp), (4, vp b1 0), (17, vb (decide ((((p).length : Nat) : Int) < 9) || decide (((List.getD p 8 0).toNat : Int) > 1)))] (fun hk3 => ?_) ?_
 ·refine wpq_split 12 (b := decide ((((p).length : Nat) : Int) < 9)) (by kernel_rfl) (fun q2 => ?_) (fun q2 => ?_)
  ·have q2p := of_decide_eq_true q2
   refine xb 5 [] [0, 1, 4, 17] (wpq_re 17 (v := vb true) (Value.bool ((decide ((((p).length : Nat) : Int) < 9) || decide (((List.getD p 8 0).toNat : Int) > 1)))) (by kernel_rfl) (re_or1 q2) ?_)
   exact wpq_sub _ (by kernel_rfl) hk3
  ·have q2p := of_decide_eq_false q2
   have i4 : 8 < (p).length := by omega
   obtain ⟨ad3, cs3, hA3, hr3, hc3⟩ := fp.at_ (get_getD (d := 0) i4)
   have hr3 : cs3 = [vy ((List.getD p 8 0).toNat : Int)] := hr3
   subst hr3
   have nb3 := UInt8.toNat_lt (List.getD p 8 0)
   refine xb 1 [] [0, 1, 4, 12, 13] (xV (qIx 8 1 hA3 rfl i4) (xV (qLdP (Addr.add ad3 (8 * 1)) 0 hc3) (xb 2 [] [0, 1, 4, 17] (wpq_re 17 (v := vb (decide (((List.getD p 8 0).toNat : Int) > 1))) (Value.bool ((decide ((((p).length : Nat) : Int) < 9) || decide (((List.getD p 8 0).toNat : Int) > 1)))) (by kernel_rfl) (re_or0 q2) ?_))))
   exact wpq_sub _ (by kernel_rfl) hk3
 ·refine xRe ?_
  refine xW ?_
  refine xCd ((decide ((((p).length : Nat) : Int) < 9) || decide (((List.getD p 8 0).toNat : Int) > 1))) (fun h5 => ?_) (fun h5 => ?_)
  ·have hS := cond_T h5 hS
   refine xSq (xRg (xbo 3 [(1, 0)] [some ⟨b1, 92, (cSett Z2 none 0)⟩] [4, 5] (xRe (xW ?_))))
   obtain rfl := Option.some.inj hS
   exact xRetC [] [(4, 0)] gR ⟨none, 0, by kernel_rfl, by kernel_rfl, Arr.nil⟩ (fun _ _ h => h)
  ·have hS := cond_F h5 hS
   have h5l := (or_false_ h5).1
   have h5r := (or_false_ h5).2
   have t4 := of_decide_eq_false h5l
   have d4 := of_decide_eq_false h5r
   refine xSk (xW (xc [0, 1, 4] (xSq ?_)))
   refine xDr 0 [5] [12, 6] [some ⟨b1, 92, (cSett Z2 none 0)⟩] 13 (fun RG => ?_) (fun _ _ _ _ _ h => h)
   have i7 : 8 < (p).length := by omega
   obtain ⟨ad6, cs6, hA6, hr6, hc6⟩ := fp.at_ (get_getD (d := 0) i7)
   have hr6 : cs6 = [vy ((List.getD p 8 0).toNat : Int)] := hr6
   subst hr6
   have nb6 := UInt8.toNat_lt (List.getD p 8 0)
   refine xt 10 [0, 2, 3] [] [some 0] [1, 4, 19, 21, 22] RG pR (xTp 4 RG (fun _ => (qIx 8 1 hA6 rfl i7)) (xTv 5 [some 0] RG pR (qLdP (Addr.add ad6 (8 * 1)) 0 hc6) ?_))
   have a3 := fp.cap
   have f8 : Arr g.r tyU8 (offA Ap cp 9 1) (cp - 9) (List.drop 9 p) := fp.cut_from 9 (by omega)
   have nf8 := f8.len
   have t3 : (p).length - 9 = ((List.drop 9 p)).length := by simp only [List.length_take, List.length_drop] <;> omega
   have a4 : ((((List.drop 9 p)).length : Nat) : Int) = (((p).length : Nat) : Int) - 9 := by omega
   refine xt 6 [6, 7] [] [some 0] [4, 19, 21, 25, 26] RG pR (xTp 8 RG (fun _ => (qSl (m := 1) (A := Ap) (len := (p).length) (c := cp) 9 (p).length (some 9) none ((List.drop 9 p)).length rfl rfl (by omega) (by omega) t3)) ?_)
   obtain ⟨y10, w2, hS⟩ := bindO_T hS
   obtain ⟨y13, d1, hS⟩ := letJ_T hS
   refine wpa_meet (fun g own sl => ∃ (j0 : OA) (w0 : Nat) (p0 : OB) (b16 : Nat), own = [some ⟨b16, 92, (cSett Z2 none 0)⟩, p0, some ⟨b1, 92, (cSett Z2 none 0)⟩] ∧ sl = [(4, vp b1 0), (6, vp b16 0), (29, Value.agg #[vi y10, vi cycle, vb (((List.getD p 8 0).toNat : Int) == 1), vs j0 y13 w0])] ∧ Buf g.b tyU8 5 (.slice j0 (y13).length w0) p0 y13) 1 [true, true, true, true, true, true, true, true, true, true, true, true, false] ?_ (fun hD9 => ?_)
   ·rintro w4 _ _ t1 ⟨j0, w0, p0, b16, rfl, rfl, i0⟩
    have v0 := i0.len
    refine xO1 (lds := [5]) 12 (xId (lds := [5]) t1.r (eStL b16 0 0) ?_)
    rintro _ _ _ - ⟨rfl, rfl⟩
    refine kf (xAe (lds := [5]) (xW (xc [4, 6] (xSq (xSq (xRg (xb 1 [(0, 0)] [4, 6, 31] ?_)))))))
    refine wpq_freeze 1 (by kernel_rfl) i0 (fun d3 j2 z1 => ?_)
    obtain ⟨v1, a2, hS⟩ := bindO_T hS
    refine xE (eC 0 (fun g' lr eb ln => c95 g' (⟨y10, cycle, (((List.getD p 8 0).toNat : Int) == 1), y13⟩ : Sett) j0 w0 ((z1.mono d3.br).mono lr) a2)) ?_
    rintro _ f4 _ f1 ⟨_, rfl, f3, l3, i1, rfl, rfl, z2⟩
    have v3 := z2.len
    refine xb 5 [] [4, 6, 8] (xRe (xW (xSq (xRg (xb 2 [] [4, 6, 36] (xRe (xW ?_)))))))
    refine xCd ((v1.2 != 0)) (fun l0 => ?_) (fun l0 => ?_)
    ·have hS := cond_T l0 hS
     have f2 : ¬ (v1.2 = 0) := ne_of_bne_ l0
     refine xSq (xRg (xbo 3 [(1, 3)] [i1, some ⟨b16, 92, (cSett (⟨y10, cycle, (((List.getD p 8 0).toNat : Int) == 1), y13⟩ : Sett) j0 w0)⟩, none, some ⟨b1, 92, (cSett Z2 none 0)⟩] [4, 5] (xRe (xW ?_))))
     obtain rfl := Option.some.inj hS
     exact xRetC [] [(4, 3)] (t1.trans (j2.trans f1)) ⟨none, 0, by kernel_rfl, by kernel_rfl, Arr.nil⟩ (fun _ _ h => h)
    ·have hS := cond_F l0 hS
     have f2 : v1.2 = 0 := eq_of_bne_false_ l0
     refine xSk (xW (xc [4, 6] (xSq (xRg (xbo 3 [(0, 1), (1, 3)] [i1, some ⟨b16, 92, (cSett (⟨y10, cycle, (((List.getD p 8 0).toNat : Int) == 1), y13⟩ : Sett) j0 w0)⟩, none, some ⟨b1, 92, (cSett (⟨y10, cycle, (((List.getD p 8 0).toNat : Int) == 1), y13⟩ : Sett) j0 w0)⟩] [4, 5] (xRe (xW ?_)))))))
     have z1 := z1.mono f1.b
     obtain rfl := Option.some.inj hS
     exact xRetC [] [(4, 3)] (t1.trans (j2.trans f1)) ⟨j0, w0, by kernel_rfl, by kernel_rfl, z1⟩ (fun _ _ h => h)
   ·refine xO2 (lds := [5]) 1 11 ?_ ?_
    ·refine xIe (lds := [5]) pR (eC 0 (fun g' lr eb ln => c98 g' (p : List UInt8) Ap cp (8 : Int) (fp.mono lr) w2)) ?_
     rintro _ v4 _ d0 ⟨_, rfl, rfl, rfl⟩
     refine kk [some 0] ?_
     refine xO2 (lds := [5]) 9 11 ?_ ?_
     ·have f8 := f8.mono d0.r
      refine xIe (lds := [5]) d0.r (eC 0 (fun g' lr eb ln => c43 g' ((List.drop 9 p) : List UInt8) (offA Ap cp 9 1) (cp - 9) (f8.mono lr) d1)) ?_
      rintro _ l4 _ l1 ⟨_, rfl, j0, w0, p0, rfl, rfl, i0⟩
      refine kk [some 1] ?_
      have v0 := i0.len
      refine xt 2 [10] [] [some 1] [4, 29] RG (d0.trans l1).r (xO1 (lds := [5]) 11 (xIe (lds := [5]) (d0.trans l1).r eB ?_))
      rintro _ _ _ - ⟨j3, rfl, rfl, rfl⟩
      refine kk [some 2] (xc [4, 6, 29] ?_)
      exact hD9 _ _ _ (d0.trans l1) ⟨j0, w0, p0, j3, by kernel_rfl, by kernel_rfl, i0⟩
     ·refine xIe (lds := [5]) d0.r eB ?_
      rintro _ _ _ - ⟨z3, rfl, rfl, rfl⟩
      refine kk [some 1] ?_
      have f8 := f8.mono d0.r
      refine xO1 (lds := [5]) 9 (xIe (lds := [5]) d0.r (eC 0 (fun g' lr eb ln => c43 g' ((List.drop 9 p) : List UInt8) (offA Ap cp 9 1) (cp - 9) (f8.mono lr) d1)) ?_)
      rintro _ w5 _ d2 ⟨_, rfl, j0, w0, p0, rfl, rfl, i0⟩
      refine kk [some 2] ?_
      have v0 := i0.len
      refine xt 1 [10] [] [some 2] [4, 6, 29] RG (d0.trans d2).r (xSel (sm [1, 0, 2]) (xc [4, 6, 29] ?_))
      exact hD9 _ _ _ (d0.trans d2) ⟨j0, w0, p0, z3, by kernel_rfl, by kernel_rfl, i0⟩
    ·refine xIe (lds := [5]) pR eB ?_
     rintro _ _ _ - ⟨w3, rfl, rfl, rfl⟩
     refine kk [some 1] (xO1 (lds := [5]) 1 (xIe (lds := [5]) pR (eC 0 (fun g' lr eb ln => c98 g' (p : List UInt8) Ap cp (8 : Int) (fp.mono lr) w2)) ?_))
     rintro _ z4 _ j1 ⟨_, rfl, rfl, rfl⟩
     refine kk [some 1] ?_
     have f8 := f8.mono j1.r
     refine xO1 (lds := [5]) 9 (xIe (lds := [5]) j1.r (eC 0 (fun g' lr eb ln => c43 g' ((List.drop 9 p) : List UInt8) (offA Ap cp 9 1) (cp - 9) (f8.mono lr) d1)) ?_)
     rintro _ j4 _ v2 ⟨_, rfl, j0, w0, p0, rfl, rfl, i0⟩
     refine kk [some 2] ?_
     have v0 := i0.len
     refine xt 1 [10] [] [some 2] [4, 6, 29] RG (j1.trans v2).r (xSel (sm [1, 0, 2]) (xc [4, 6, 29] ?_))
     exact hD9 _ _ _ (j1.trans v2) ⟨j0, w0, p0, w3, by kernel_rfl, by kernel_rfl, i0⟩

end Go.Proofs.YtnidomdebhekiaaGreat
