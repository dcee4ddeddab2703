/-
Walks, printed by wip/gen, with half of their indentation. Conditions: each theorem's own.
-/
import Derived.Test.YtnidomdebhekiaaGreatED
import Derived.Test.YtnidomdebhekiaaGreatG11
namespace Go.Proofs.YtnidomdebhekiaaGreat
set_option linter.unusedVariables false
set_option linter.unusedSimpArgs false
open Go.RowKit
abbrev Z0 : Targets := ⟨0, 0, 0, 0, 0, 0, 0⟩
abbrev Z1 : Targets := ⟨0, 0, 0, -700, 0, 0, 0⟩
abbrev Z2 : Sett := ⟨0, 0, false, ([] : List UInt8)⟩
abbrev Z3 : Sender := ⟨([] : List Piece)⟩
abbrev Z4 : Coll := ⟨0, 0, ([] : List (List UInt8)), ([] : List Sett)⟩
abbrev Z5 : Frame := ⟨0, 0, 0, ([] : List UInt8)⟩
abbrev Z6 : Piece := ⟨0, 0, 0, ([] : List UInt8)⟩
abbrev aTargets (x : Targets) : Value := Value.agg #[vy x.lateral, vy x.vertical, vy x.phase, vi x.bank, vi x.speed, vi x.alt, vi x.vs]
abbrev aRates (x : Rates) : Value := Value.agg #[vi x.bank, vi x.speed, vi x.alt, vi x.vs]
abbrev aRNode (x : RNode) (A_input : Option Addr) (c_input : Nat) (A_heard_input : Option Addr) (c_heard_input : Nat) : Value := Value.agg #[vi x.number, vy x.role, vi x.steps, vi x.alone, vi x.stage, vi x.cycle, vs A_input x.input c_input, vb x.fresh, vb x.isHeard, vy x.heard.role, vi x.heard.steps, vi x.heard.want.base, vi x.heard.want.have_, vs A_heard_input x.heard.input c_heard_input, vb x.stepped, vy x.told.lateral, vy x.told.vertical, vy x.told.phase, vi x.told.bank, vi x.told.speed, vi x.told.alt, vi x.told.vs]
abbrev aRComp (x : RComp) (A_node_input : Option Addr) (c_node_input : Nat) (A_node_heard_input : Option Addr) (c_node_heard_input : Nat) (A_sender_pieces : Option Addr) (c_sender_pieces : Nat) (A_collector_parts : Option Addr) (c_collector_parts : Nat) (A_collector_sets : Option Addr) (c_collector_sets : Nat) : Value := Value.agg #[vi x.node.number, vy x.node.role, vi x.node.steps, vi x.node.alone, vi x.node.stage, vi x.node.cycle, vs A_node_input x.node.input c_node_input, vb x.node.fresh, vb x.node.isHeard, vy x.node.heard.role, vi x.node.heard.steps, vi x.node.heard.want.base, vi x.node.heard.want.have_, vs A_node_heard_input x.node.heard.input c_node_heard_input, vb x.node.stepped, vy x.node.told.lateral, vy x.node.told.vertical, vy x.node.told.phase, vi x.node.told.bank, vi x.node.told.speed, vi x.node.told.alt, vi x.node.told.vs, vs A_sender_pieces x.sender.pieces c_sender_pieces, vi x.collector.base, vi x.collector.count, vs A_collector_parts x.collector.parts c_collector_parts, vs A_collector_sets x.collector.sets c_collector_sets, vb x.asked, vi x.stage]
abbrev aHeard (x : Heard) (A_input : Option Addr) (c_input : Nat) : Value := Value.agg #[vy x.role, vi x.steps, vi x.want.base, vi x.want.have_, vs A_input x.input c_input]
abbrev aFrame (x : Frame) (A_payload : Option Addr) (c_payload : Nat) : Value := Value.agg #[vy x.label, vy x.from_, vi x.cycle, vs A_payload x.payload c_payload]
abbrev aColl (x : Coll) (A_parts : Option Addr) (c_parts : Nat) (A_sets : Option Addr) (c_sets : Nat) : Value := Value.agg #[vi x.base, vi x.count, vs A_parts x.parts c_parts, vs A_sets x.sets c_sets]
abbrev aSett (x : Sett) (A_in_ : Option Addr) (c_in_ : Nat) : Value := Value.agg #[vi x.steps, vi x.cycle, vb x.fresh, vs A_in_ x.in_ c_in_]
abbrev aResult (x : Result) : Value := Value.agg #[vi x.steps, vy x.targets.lateral, vy x.targets.vertical, vy x.targets.phase, vi x.targets.bank, vi x.targets.speed, vi x.targets.alt, vi x.targets.vs]
abbrev aPiece (x : Piece) (A_data : Option Addr) (c_data : Nat) : Value := Value.agg #[vi x.base, vi x.index, vi x.count, vs A_data x.data c_data]
abbrev aCallT (x : CallT) (A_input : Option Addr) (c_input : Nat) (A_frame_payload : Option Addr) (c_frame_payload : Nat) : Value := Value.agg #[vy x.kind, vb x.next_, vi x.cycle, vs A_input x.input c_input, vy x.frame.label, vy x.frame.from_, vi x.frame.cycle, vs A_frame_payload x.frame.payload c_frame_payload, vb x.came, vy x.targets.lateral, vy x.targets.vertical, vy x.targets.phase, vi x.targets.bank, vi x.targets.speed, vi x.targets.alt, vi x.targets.vs]
theorem pR {p : Psi} : p.le p := .refl _
theorem gR {g : Gh} : g.le g := .refl _
theorem xW {P : Program} {n : Nat} {Q : Exit → Act → World → Prop} {y : Code} {g : Gh} {own : Own} {sl : Sl} (k : WPc P y Q n g own sl) : WPq (Exit.then (fun a w => y.wp P Q a w) Q .normal) n g own sl := k
abbrev vS0 : Value := Value.slice none 0 0
abbrev OA := Option Addr
abbrev OB := Option Bk
abbrev sm (l : List Nat) : List (Option Nat) := l.map some
set_option maxRecDepth 100000
def o43 (s : List UInt8) : (List UInt8) :=
 ((s : List UInt8))
theorem c43 (g : Gh) (s : List UInt8) (As : OA) (cs : Nat) (fs : Arr g.r tyU8 As cs s) {r : (List UInt8)} (hS : o43 s = r) :
  Ctr Tryz.prog 43 [vs As s cs] g [] (fun v ψ o => ∃ (j0 : OA) (w0 : Nat) (i0 : OB), v = vs j0 r w0 ∧ o = [i0] ∧ Buf ψ tyU8 5 (.slice j0 (r).length w0) i0 r) := by
 unfold o43 at hS
 refine xFn Tryz.f43 (Tryz.f43.body.getD .skip) 8 ?_
 have nfs := fs.len
 refine xSq (xRg (xb 1 [] [0] (xRe (xW (xSq (xSq (xRg (xb 1 [] [0, 3] (xV (qNil As) (xRe (xW (xc [0, 4] ?_))))))))))))
 refine xCd ((Option.isNone As)) (fun h1 => ?_) (fun h1 => ?_)
 ·have p0 := fs.nil_of h1
  subst p0
  refine xSq (xRg (xb 1 [] [2] (xRe (xW ?_))))
  have eS : r = ([] : List UInt8) := by first | exact hS.symm | exact hS | (simp [grd] at hS; first | exact hS.symm | exact hS)
  subst eS
  exact xRet [none] [2] gR ⟨none, 0, none, by kernel_rfl, by kernel_rfl, Buf.nil⟩ (fun _ _ h => h)
 ·refine xSk ?_
  refine xW (xc [0] (xSq (xRg (xE (eBs (T := tyU8) (p := g.b) (et := 5) (xs := ([] : List UInt8)) reps_nil (by simp)) ?_))))
  rintro _ _ _ - ⟨A2, c2, k2, rfl, rfl, rfl, h2⟩
  refine xb 1 [] [5, 6] ?_
  obtain ⟨nw3, hp3, hs3⟩ := fs.srcR
  refine xE (eApp (T := tyU8) (p := g.b) (et := 5) (bytes := 1) (xs := ([] : List UInt8)) (ys := (s : List UInt8)) 0 h2 rfl (fun w hs => hs3 w _ hs) (flatU8.reps hp3) (by first | omega | (simp only [List.length_cons, List.length_nil] at *; omega)) (by first | omega | (simp only [List.length_cons, List.length_nil] at *; omega))) ?_
  rintro _ _ _ - ⟨A3, c3, k3, rfl, rfl, rfl, h3⟩
  have h3 : Buf g.b tyU8 5 (.slice A3 ((s : List UInt8)).length c3) k3 (s : List UInt8) := h3
  have nh3 := h3.len
  refine xb 1 [] [2] (xRe (xW ?_))
  have eS := hS.symm
  subst eS
  exact xRet [some 0] [2] gR ⟨A3, c3, k3, by kernel_rfl, by kernel_rfl, h3⟩ (fun _ _ h => h)

def o12_L0 (base : Int) (data : List UInt8) (s9 : (List Piece) × Nat) : Option (Ctl ((List Piece) × Nat) ((List Piece))) :=
 (cond (decide ((s9.2 : Int) < (maxI ((((((data).length : Nat) : Int) + 600) - 1) / 600) 1))) (grd (decide ((s9.2 : Int) + 1 ≤ 9223372036854775807)) (grd (decide (0 ≤ (IntKind.i64.wrap ((s9.2 : Int) * 600)) ∧ (IntKind.i64.wrap ((s9.2 : Int) * 600)) ≤ (minI (IntKind.i64.wrap (((s9.2 : Int) + 1) * 600)) (((data).length : Nat) : Int)))) (letJ (o43 ((List.take (((minI (IntKind.i64.wrap (((s9.2 : Int) + 1) * 600)) (((data).length : Nat) : Int))).toNat - ((IntKind.i64.wrap ((s9.2 : Int) * 600))).toNat) (List.drop ((IntKind.i64.wrap ((s9.2 : Int) * 600))).toNat data)) : List UInt8)) fun y16 => (grd (decide (((s9.1).length + (([(⟨base, (s9.2 : Int), (maxI ((((((data).length : Nat) : Int) + 600) - 1) / 600) 1), y16⟩ : Piece)] : List Piece)).length) * 48 ≤ 140737488355328)) (grd (decide ((s9.2 : Int) + 1 ≤ 9223372036854775807)) (some (Ctl.go (((s9.1 ++ ([(⟨base, (s9.2 : Int), (maxI ((((((data).length : Nat) : Int) + 600) - 1) / 600) 1), y16⟩ : Piece)] : List Piece)) : List Piece), (s9.2 + 1))))))))) (some (Ctl.done (s9.1))))
def o12 (base : Int) (data : List UInt8) : Option ((List Piece) × Int) :=
 (cond ((decide (base < 1) || decide (base > 2305843009213693952))) (some ((([] : List Piece), (1 : Int)))) (cond (decide ((((data).length : Nat) : Int) > 524288)) (some ((([] : List Piece), (3 : Int)))) (bindO (τ := (List Piece)) (loopO (σ := (List Piece) × Nat) (ρ := (List Piece)) fuelN (o12_L0 base data) (([] : List Piece), 0)) fun t4 => (some (((t4 : List Piece), (0 : Int)))))))
theorem c12 (g : Gh) (base : Int) (data : List UInt8) (j0 : OA) (w0 : Nat) (i0 : Arr g.r tyU8 j0 w0 data) {r : (List Piece) × Int} (hS : o12 base data = some r) :
  Ctr Tryz.prog 12 [vi base, vs j0 data w0] g [] (fun v ψ o => ∃ (l1 : OA) (v1 : Nat) (f1 : OB), v = Value.tuple #[vs l1 r.1 v1, vi r.2] ∧ o = [f1] ∧ Buf ψ tyPiece 67 (.slice l1 (r.1).length v1) f1 r.1) := by
 unfold o12 at hS
 refine xFn Tryz.f12 (Tryz.f12.body.getD .skip) 50 ?_
 have z3 := i0.len
 refine xSq (xRg (xb 2 [] [0, 1] (xRe (xW (xSq (xSq (xRg (xb 3 [] [0, 1, 12] ?_))))))))
 refine wpr_grp 6 [(0, vi base), (1, vs j0 data w0), (15, vb (decide (base < 1) || decide (base > 2305843009213693952)))] (fun hk2 => ?_) ?_
 ·refine wpq_split 12 (b := decide (base < 1)) (by kernel_rfl) (fun q1 => ?_) (fun q1 => ?_)
  ·have q1p := of_decide_eq_true q1
   refine xb 3 [] [0, 1, 15] (wpq_re 15 (v := vb true) (Value.bool ((decide (base < 1) || decide (base > 2305843009213693952)))) (by kernel_rfl) (re_or1 q1) ?_)
   exact wpq_sub _ (by kernel_rfl) hk2
  ·have q1p := of_decide_eq_false q1
   refine xb 3 [] [0, 1, 15] (wpq_re 15 (v := vb (decide (base > 2305843009213693952))) (Value.bool ((decide (base < 1) || decide (base > 2305843009213693952)))) (by kernel_rfl) (re_or0 q1) ?_)
   exact wpq_sub _ (by kernel_rfl) hk2
 ·refine xRe ?_
  refine xW ?_
  refine xCd ((decide (base < 1) || decide (base > 2305843009213693952))) (fun h2 => ?_) (fun h2 => ?_)
  ·have hS := cond_T h2 hS
   refine xSq (xRg (xb 2 [] [4, 5] (xRe (xW ?_))))
   obtain rfl := Option.some.inj hS
   exact xRet [none] [4, 5] gR ⟨none, 0, none, by kernel_rfl, by kernel_rfl, Buf.nil⟩ (fun _ _ h => h)
  ·have hS := cond_F h2 hS
   have h2l := (or_false_ h2).1
   have h2r := (or_false_ h2).2
   have w4 := of_decide_eq_false h2l
   have d4 := of_decide_eq_false h2r
   refine xSk (xW (xc [0, 1] (xSq (xSq (xRg (xb 3 [] [0, 1, 18] (xRe (xW ?_))))))))
   refine xCd (decide ((((data).length : Nat) : Int) > 524288)) (fun h3 => ?_) (fun h3 => ?_)
   ·have hS := cond_T h3 hS
    have h3p := of_decide_eq_true h3
    refine xSq (xRg (xb 2 [] [4, 5] (xRe (xW ?_))))
    obtain rfl := Option.some.inj hS
    exact xRet [none] [4, 5] gR ⟨none, 0, none, by kernel_rfl, by kernel_rfl, Buf.nil⟩ (fun _ _ h => h)
   ·have hS := cond_F h3 hS
    have h3p := of_decide_eq_false h3
    refine xSk (xW (xc [0, 1] (xSq (xRg (xb 2 [] [0, 1, 20] (xV (qAdd .i64 ((((data).length : Nat) : Int)) (600) (wr64 (by omega))) (xV (qSub .i64 (((((data).length : Nat) : Int) + 600)) (1) (wr64 (by omega))) (xV (qQuo .i64 ((((((data).length : Nat) : Int) + 600) - 1)) (600) _ (by omega) (IntWalk.i64_quo _ _ (by omega))) ?_))))))))
    have z1 := maxI_spec ((((((data).length : Nat) : Int) + 600) - 1) / 600) 1
    refine xb 2 [] [0, 1, 6] (xRe (xW (xSq (xRg (xb 1 [] [0, 1, 6, 7] (xRe (xW (xSq (xSq (xRg (xb 2 [] [0, 1, 6, 7, 25, 26] (xRe (xW ?_)))))))))))))
    refine xBindO hS (fun g own sl t4 => ∃ (d0 : OA) (w1 : Nat) (v0 : OB), own = [v0] ∧ sl = [(7, vs d0 t4 w1)] ∧ Buf g.b tyPiece 67 (.slice d0 (t4).length w1) v0 t4) ?_ ?_
    ·rintro g5 _ _ t4 e6 ⟨d0, w1, v0, rfl, rfl, w2⟩ hS
     have v3 := w2.len
     refine xW (xSq (xRg (xb 3 [] [4, 5] (xRe (xW ?_)))))
     obtain rfl := Option.some.inj hS
     exact xRet [some 0] [4, 5] e6 ⟨d0, w1, v0, by kernel_rfl, by kernel_rfl, w2⟩ (fun _ _ h => h)
    ·intro uu4 hS hN4
     refine xBl 0 (xSel [none] (xc [0, 1, 6, 7, 25, 26] (xLo hS (fun g own sl s9 => ∃ (l0 : OA) (j1 : Nat) (f0 : OB), own = [f0] ∧ sl = [(0, vi base), (1, vs j0 data w0), (6, vi (maxI ((((((data).length : Nat) : Int) + 600) - 1) / 600) 1)), (7, vs l0 s9.1 j1), (25, vi (maxI ((((((data).length : Nat) : Int) + 600) - 1) / 600) 1)), (26, vi (s9.2 : Int))] ∧ Buf g.b tyPiece 67 (.slice l0 (s9.1).length j1) f0 s9.1) ⟨none, 0, none, by kernel_rfl, by kernel_rfl, Buf.nil⟩ ?_)))
     rintro g10 _ _ s9 uu9 e11 ⟨l0, j1, f0, rfl, rfl, p0⟩ hS Qr9 hN9 hD9
     have j3 := p0.len
     unfold o12_L0 at hS
     refine xSq (xRg (xb 1 [] [0, 1, 6, 7, 25, 26, 27] (xRe (xW (xSq ?_)))))
     refine xCd (decide ((s9.2 : Int) < (maxI ((((((data).length : Nat) : Int) + 600) - 1) / 600) 1))) (fun h12 => ?_) (fun h12 => ?_)
     ·have hS := cond_T h12 hS
      have f2 := of_decide_eq_true h12
      refine xSk (xW (xc [0, 1, 6, 7, 25, 26] (xSq (xBl 1 (xSq (xRg (xb 2 [] [0, 1, 6, 7, 8, 25, 26] (xRe (xW (xSq (xRg ?_)))))))))))
      have z35 := i64_in_ ((s9.2 : Int) * 600)
      obtain ⟨q13, hS⟩ := grd_T hS
      have f3 := of_decide_eq_true q13
      refine xb 4 [] [0, 1, 6, 7, 8, 25, 26, 29, 31, 32] (xV (qAdd .i64 ((s9.2 : Int)) (1) (wr64 (by omega))) ?_)
      have z36 := i64_in_ (((s9.2 : Int) + 1) * 600)
      have z37 := minI_spec (IntKind.i64.wrap (((s9.2 : Int) + 1) * 600)) (((data).length : Nat) : Int)
      have i0 := i0.mono e11.r
      obtain ⟨q14, hS⟩ := grd_T hS
      have l4 := of_decide_eq_true q14
      have a2 := i0.cap
      have f15 : Arr g10.r tyU8 (offA j0 w0 ((IntKind.i64.wrap ((s9.2 : Int) * 600))).toNat 1) (w0 - ((IntKind.i64.wrap ((s9.2 : Int) * 600))).toNat) (List.take (((minI (IntKind.i64.wrap (((s9.2 : Int) + 1) * 600)) (((data).length : Nat) : Int))).toNat - ((IntKind.i64.wrap ((s9.2 : Int) * 600))).toNat) (List.drop ((IntKind.i64.wrap ((s9.2 : Int) * 600))).toNat data)) := i0.cut ((IntKind.i64.wrap ((s9.2 : Int) * 600))).toNat ((minI (IntKind.i64.wrap (((s9.2 : Int) + 1) * 600)) (((data).length : Nat) : Int))).toNat (by omega) (by omega)
      have j4 := f15.len
      have z2 : ((minI (IntKind.i64.wrap (((s9.2 : Int) + 1) * 600)) (((data).length : Nat) : Int))).toNat - ((IntKind.i64.wrap ((s9.2 : Int) * 600))).toNat = ((List.take (((minI (IntKind.i64.wrap (((s9.2 : Int) + 1) * 600)) (((data).length : Nat) : Int))).toNat - ((IntKind.i64.wrap ((s9.2 : Int) * 600))).toNat) (List.drop ((IntKind.i64.wrap ((s9.2 : Int) * 600))).toNat data))).length := by simp only [List.length_take, List.length_drop] <;> omega
      have t3 : ((((List.take (((minI (IntKind.i64.wrap (((s9.2 : Int) + 1) * 600)) (((data).length : Nat) : Int))).toNat - ((IntKind.i64.wrap ((s9.2 : Int) * 600))).toNat) (List.drop ((IntKind.i64.wrap ((s9.2 : Int) * 600))).toNat data))).length : Nat) : Int) = (minI (IntKind.i64.wrap (((s9.2 : Int) + 1) * 600)) (((data).length : Nat) : Int)) - (IntKind.i64.wrap ((s9.2 : Int) * 600)) := by omega
      refine xb 4 [] [0, 1, 6, 7, 8, 25, 26, 29, 31, 37] (xV (qSl (m := 1) (A := j0) (len := (data).length) (c := w0) ((IntKind.i64.wrap ((s9.2 : Int) * 600))).toNat ((minI (IntKind.i64.wrap (((s9.2 : Int) + 1) * 600)) (((data).length : Nat) : Int))).toNat (some (IntKind.i64.wrap ((s9.2 : Int) * 600))) (some (minI (IntKind.i64.wrap (((s9.2 : Int) + 1) * 600)) (((data).length : Nat) : Int))) ((List.take (((minI (IntKind.i64.wrap (((s9.2 : Int) + 1) * 600)) (((data).length : Nat) : Int))).toNat - ((IntKind.i64.wrap ((s9.2 : Int) * 600))).toNat) (List.drop ((IntKind.i64.wrap ((s9.2 : Int) * 600))).toNat data))).length (show _ = _ by omega) (show _ = _ by omega) (by omega) (by omega) z2) (xb 1 [] [0, 1, 6, 7, 8, 9, 25, 26] (xRe (xW (xRg (xb 5 [] [0, 1, 6, 7, 25, 26, 39, 40, 41, 42, 43] ?_))))))
      obtain ⟨y16, j2, hS⟩ := letJ_T hS
      refine xE (eC 0 (fun g' lr eb ln => c43 g' ((List.take (((minI (IntKind.i64.wrap (((s9.2 : Int) + 1) * 600)) (((data).length : Nat) : Int))).toNat - ((IntKind.i64.wrap ((s9.2 : Int) * 600))).toNat) (List.drop ((IntKind.i64.wrap ((s9.2 : Int) * 600))).toNat data)) : List UInt8) (offA j0 w0 ((IntKind.i64.wrap ((s9.2 : Int) * 600))).toNat 1) (w0 - ((IntKind.i64.wrap ((s9.2 : Int) * 600))).toNat) (f15.mono lr) j2)) ?_
      rintro _ g17 _ e18 ⟨_, rfl, i1, d1, d3, rfl, rfl, t1⟩
      have w3 := t1.len
      refine xb 1 [] [0, 1, 6, 7, 25, 26, 39, 45] ?_
      refine wpq_freeze 0 (by kernel_rfl) t1 (fun g19 e20 f21 => ?_)
      refine xE (eBs (T := tyPiece) (p := g19.b) (et := 67) (xs := ([(⟨base, (s9.2 : Int), (maxI ((((((data).length : Nat) : Int) + 600) - 1) / 600) 1), y16⟩ : Piece)] : List Piece)) (reps_cons (c := [vi base, vi (s9.2 : Int), vi (maxI ((((((data).length : Nat) : Int) + 600) - 1) / 600) 1), vs i1 y16 d1]) (show tyPiece.rep _ _ (⟨base, (s9.2 : Int), (maxI ((((((data).length : Nat) : Int) + 600) - 1) / 600) 1), y16⟩ : Piece) from ⟨i1, d1, rfl, f21⟩) reps_nil) (by simp)) ?_
      rintro _ _ _ - ⟨A22, c22, k22, rfl, rfl, rfl, h22⟩
      have p0 := p0.mono (e18.trans e20).b
      obtain ⟨i4, v2, d2⟩ := h22.srcO (g := g19)
      obtain ⟨q24, hS⟩ := grd_T hS
      have a3 := of_decide_eq_true q24
      refine xE (eApp (T := tyPiece) (p := g19.b) (et := 67) (bytes := 48) (xs := s9.1) (ys := (([(⟨base, (s9.2 : Int), (maxI ((((((data).length : Nat) : Int) + 600) - 1) / 600) 1), y16⟩ : Piece)] : List Piece) : List Piece)) 2 p0 rfl (fun w hs => d2 0 w _ hs (by kernel_rfl)) v2 (by first | omega | (simp only [List.length_cons, List.length_nil] at *; omega)) (by first | omega | (simp only [List.length_cons, List.length_nil] at *; omega))) ?_
      rintro _ _ _ - ⟨A23, c23, k23, rfl, rfl, rfl, h23⟩
      have v4 := h23.len
      have z4 : ((s9.1 ++ ([(⟨base, (s9.2 : Int), (maxI ((((((data).length : Nat) : Int) + 600) - 1) / 600) 1), y16⟩ : Piece)] : List Piece)) : List Piece).length = (s9.1).length + (([(⟨base, (s9.2 : Int), (maxI ((((((data).length : Nat) : Int) + 600) - 1) / 600) 1), y16⟩ : Piece)] : List Piece)).length := List.length_append
      refine xb 1 [] [0, 1, 6, 7, 25, 26] (xRe (wpq_blockN (xW (xRg ?_))))
      obtain ⟨q25, hS⟩ := grd_T hS
      have l3 := of_decide_eq_true q25
      refine xV (qAdd .i64 ((s9.2 : Int)) (1) (wr64 (by omega))) (xb 1 [] [0, 1, 6, 7, 25, 26] (xRe (wpq_thenN (xSel [some 2] (xc [0, 1, 6, 7, 25, 26] ?_)))))
      have eS := (Option.some.inj hS).symm
      exact hN9 _ eS _ _ _ (e18.trans e20) ⟨A23, c23, k23, by kernel_rfl, by kernel_rfl, h23⟩
     ·have hS := cond_F h12 hS
      have f2 := of_decide_eq_false h12
      refine xEx 0 (wpq_thenX (wpq_thenX (wpq_blockE (xc [7] ?_))))
      have eS := (Option.some.inj hS).symm
      have eS := (hD9 _ eS).symm
      exact hN4 _ eS _ _ _ e11 ⟨l0, j1, f0, by kernel_rfl, by kernel_rfl, p0⟩

def o44 (last : Int) (want : Int) (rate : Int) : Int :=
 (cond (decide (want ≥ last)) (cond (decide ((IntKind.u64.wrap ((IntKind.u64.wrap want) - (IntKind.u64.wrap last))) ≤ (IntKind.u64.wrap (maxI rate 0)))) ((want : Int)) (((IntKind.i64.wrap (last + (maxI rate 0))) : Int))) (cond (decide ((IntKind.u64.wrap ((IntKind.u64.wrap last) - (IntKind.u64.wrap want))) ≤ (IntKind.u64.wrap (maxI rate 0)))) ((want : Int)) (((IntKind.i64.wrap (last - (maxI rate 0))) : Int))))
theorem c44 (g : Gh) (w0 : Int) (want : Int) (j0 : Int) {r : Int} (hS : o44 w0 want j0 = r) :
  Ctr Tryz.prog 44 [vi w0, vi want, vi j0] g [] (fun v ψ o => v = vi r ∧ o = []) := by
 unfold o44 at hS
 refine xFn Tryz.f44 (Tryz.f44.body.getD .skip) 36 (xSq (xRg (xb 1 [] [0, 1, 2] (xRe (xW (xSq (xRg (xb 3 [] [0, 1, 2] (xRe (xW (xSq (xSq (xRg (xb 3 [] [0, 1, 2, 11] (xRe (xW ?_))))))))))))))))
 refine xCd (decide (want ≥ w0)) (fun h1 => ?_) (fun h1 => ?_)
 ·have hS := cond_T h1 hS
  refine xSq (xSq (xRg (xb 8 [] [0, 1, 2, 19] (xRe (xW ?_)))))
  refine xCd (decide ((IntKind.u64.wrap ((IntKind.u64.wrap want) - (IntKind.u64.wrap w0))) ≤ (IntKind.u64.wrap (maxI j0 0)))) (fun h2 => ?_) (fun h2 => ?_)
  ·have hS := cond_T h2 hS
   refine xSq (xRg (xb 2 [] [6] (xRe (xW ?_))))
   have eS := hS.symm
   subst eS
   exact xRet [] [6] gR ⟨by kernel_rfl, by kernel_rfl⟩ (fun _ _ h => h)
  ·have hS := cond_F h2 hS
   refine xSk (xW (xc [0, 2] (xSq (xRg (xb 4 [] [6] (xRe (xW ?_)))))))
   have eS := hS.symm
   subst eS
   exact xRet [] [6] gR ⟨by kernel_rfl, by kernel_rfl⟩ (fun _ _ h => h)
 ·have hS := cond_F h1 hS
  refine xSk (xW (xc [0, 1, 2] (xSq (xSq (xRg (xb 8 [] [0, 1, 2, 31] (xRe (xW ?_))))))))
  refine xCd (decide ((IntKind.u64.wrap ((IntKind.u64.wrap w0) - (IntKind.u64.wrap want))) ≤ (IntKind.u64.wrap (maxI j0 0)))) (fun h3 => ?_) (fun h3 => ?_)
  ·have hS := cond_T h3 hS
   refine xSq (xRg (xb 2 [] [6] (xRe (xW ?_))))
   have eS := hS.symm
   subst eS
   exact xRet [] [6] gR ⟨by kernel_rfl, by kernel_rfl⟩ (fun _ _ h => h)
  ·have hS := cond_F h3 hS
   refine xSk (xW (xc [0, 2] (xSq (xRg (xb 4 [] [6] (xRe (xW ?_)))))))
   have eS := hS.symm
   subst eS
   exact xRet [] [6] gR ⟨by kernel_rfl, by kernel_rfl⟩ (fun _ _ h => h)

def o13 (last : Targets) (want : Targets) (r_ : Rates) : Targets :=
 (letJ (o44 last.bank want.bank r_.bank) fun y5 => (letJ (o44 last.speed want.speed r_.speed) fun y8 => (letJ (o44 last.alt want.alt r_.alt) fun y11 => (letJ (o44 last.vs want.vs r_.vs) fun y14 => ((⟨want.lateral, want.vertical, want.phase, y5, y8, y11, y14⟩ : Targets))))))
theorem c13 (g : Gh) (w0 : Targets) (want : Targets) (r_ : Rates) {r : Targets} (hS : o13 w0 want r_ = r) :
  Ctr Tryz.prog 13 [(aTargets w0), (aTargets want), (aRates r_)] g [] (fun v ψ o => v = (aTargets r) ∧ o = []) := by
 unfold o13 at hS
 refine xFn Tryz.f13 (Tryz.f13.body.getD .skip) 40 (xSq (xRg (xE eB ?_)))
 rintro _ _ _ - ⟨b1, rfl, rfl, rfl⟩
 refine xE eB ?_
 rintro _ _ _ - ⟨b2, rfl, rfl, rfl⟩
 refine xE eB ?_
 rintro _ _ _ - ⟨b3, rfl, rfl, rfl⟩
 refine xE eB ?_
 rintro _ _ _ - ⟨b4, rfl, rfl, rfl⟩
 refine xRe (xW (xc [3, 4, 5, 6] (xSq (xRg (xb 6 [(1, 3), (3, 2), (5, 1)] [3, 4, 5, 6, 8, 10, 12] ?_)))))
 obtain ⟨y5, hy5, hS⟩ := letJ_T hS
 refine xE (eC 0 (fun g' lr eb ln => c44 g' w0.bank want.bank r_.bank hy5)) ?_
 rintro _ g6 _ e7 ⟨_, rfl, rfl, rfl⟩
 refine xbo 2 [(8, 2)] [some ⟨b4, 34, (cTargets Z0)⟩, some ⟨b3, 65, (cRates r_)⟩, some ⟨b2, 34, (cTargets ({ want with bank := y5 }))⟩, some ⟨b1, 34, (cTargets w0)⟩] [3, 4, 5, 6] (xRe (xW (xSq (xRg (xb 6 [(1, 3), (3, 2), (5, 1)] [3, 4, 5, 6, 16, 18, 20] ?_)))))
 obtain ⟨y8, hy8, hS⟩ := letJ_T hS
 refine xE (eC 0 (fun g' lr eb ln => c44 g' w0.speed want.speed r_.speed hy8)) ?_
 rintro _ g9 _ e10 ⟨_, rfl, rfl, rfl⟩
 refine xbo 2 [(8, 2)] [some ⟨b4, 34, (cTargets Z0)⟩, some ⟨b3, 65, (cRates r_)⟩, some ⟨b2, 34, (cTargets ({ want with bank := y5, speed := y8 }))⟩, some ⟨b1, 34, (cTargets w0)⟩] [3, 4, 5, 6] (xRe (xW (xSq (xRg (xb 6 [(1, 3), (3, 2), (5, 1)] [3, 4, 5, 6, 24, 26, 28] ?_)))))
 obtain ⟨y11, j0, hS⟩ := letJ_T hS
 refine xE (eC 0 (fun g' lr eb ln => c44 g' w0.alt want.alt r_.alt j0)) ?_
 rintro _ g12 _ e13 ⟨_, rfl, rfl, rfl⟩
 refine xbo 2 [(8, 2)] [some ⟨b4, 34, (cTargets Z0)⟩, some ⟨b3, 65, (cRates r_)⟩, some ⟨b2, 34, (cTargets ({ want with bank := y5, speed := y8, alt := y11 }))⟩, some ⟨b1, 34, (cTargets w0)⟩] [3, 4, 5, 6] (xRe (xW (xSq (xRg (xb 6 [(1, 3), (3, 2), (5, 1)] [4, 6, 32, 34, 36] ?_)))))
 obtain ⟨y14, i0, hS⟩ := letJ_T hS
 refine xE (eC 0 (fun g' lr eb ln => c44 g' w0.vs want.vs r_.vs i0)) ?_
 rintro _ g15 _ e16 ⟨_, rfl, rfl, rfl⟩
 refine xbo 2 [(8, 2)] [some ⟨b4, 34, (cTargets Z0)⟩, some ⟨b3, 65, (cRates r_)⟩, some ⟨b2, 34, (cTargets (⟨want.lateral, want.vertical, want.phase, y5, y8, y11, y14⟩ : Targets))⟩, some ⟨b1, 34, (cTargets w0)⟩] [4, 6] (xRe (xW (xSq (xRg (xbo 2 [(0, 2), (1, 0)] [some ⟨b4, 34, (cTargets (⟨want.lateral, want.vertical, want.phase, y5, y8, y11, y14⟩ : Targets))⟩, some ⟨b3, 65, (cRates r_)⟩, some ⟨b2, 34, (cTargets (⟨want.lateral, want.vertical, want.phase, y5, y8, y11, y14⟩ : Targets))⟩, some ⟨b1, 34, (cTargets w0)⟩] [6] (xRe (xW ?_)))))))
 have eS := hS.symm
 subst eS
 exact xRetC [] [(6, 0)] (e7.trans (e10.trans (e13.trans e16))) ⟨by kernel_rfl, by kernel_rfl⟩ (fun _ _ h => h)

def o14_L0 (one : Int) (two : Int) (s9 : Nat) : Option (Ctl (Nat) (Ctl (Unit) (Int))) :=
 (cond (decide (((s9 : Nat) : Int) < (((([(u8 one), (u8 two)] : List UInt8)).length : Nat) : Int))) (cond (((((List.getD ([(u8 one), (u8 two)] : List UInt8) s9 0).toNat : Int) == 4) || (((List.getD ([(u8 one), (u8 two)] : List UInt8) s9 0).toNat : Int) == 3))) (grd (decide (((s9 : Nat) : Int) + 1 ≤ 9223372036854775807)) (some (Ctl.done (Ctl.done (((((s9 : Nat) : Int) + 1) : Int)))))) (grd (decide (((s9 : Nat) : Int) + 1 ≤ 9223372036854775807)) (some (Ctl.go (s9 + 1))))) (some (Ctl.done (Ctl.go ()))))
def o14 (one : Int) (two : Int) : Option (Int) :=
 (grd (decide (0 ≤ one ∧ one ≤ 255)) (grd (decide (0 ≤ two ∧ two ≤ 255)) (joinO (τ := Unit) (ρ := Int) (loopO (σ := Nat) (ρ := Ctl (Unit) (Int)) fuelN (o14_L0 one two) (0)) fun t4 => (some ((0 : Int))))))
theorem c14 (g : Gh) (one : Int) (two : Int) {r : Int} (hS : o14 one two = some r) :
  Ctr Tryz.prog 14 [vy one, vy two] g [] (fun v ψ o => v = vi r ∧ o = []) := by
 unfold o14 at hS
 refine xFn Tryz.f14 (Tryz.f14.body.getD .skip) 25 (xSq (xRg (xb 1 [] [0, 1] (xRe (xW (xSq (xSq (xRg (xb 2 [] [7, 8] ?_)))))))))
 obtain ⟨q1, hS⟩ := grd_T hS
 have q1p := of_decide_eq_true q1
 obtain ⟨q2, hS⟩ := grd_T hS
 have q2p := of_decide_eq_true q2
 refine xE (eBs (T := tyU8) (p := g.b) (et := 5) (xs := ([(u8 one), (u8 two)] : List UInt8)) (reps_cons (c := [vy one]) (u8_rep (by omega)) (reps_cons (c := [vy two]) (u8_rep (by omega)) reps_nil)) (by simp)) ?_
 rintro _ _ _ - ⟨A3, c3, k3, rfl, rfl, rfl, h3⟩
 refine xb 2 [] [9, 10, 11] (xRe (xW ?_))
 refine xJoinO hS (fun g own sl t4 => own = [] ∧ sl = []) ?_ ?_
 ·rintro g5 _ _ t4 e6 ⟨rfl, rfl⟩ hS
  refine xW (xSq (xRg (xb 1 [] [4] (xRe (xW ?_)))))
  obtain rfl := Option.some.inj hS
  exact xRet [] [4] e6 ⟨by kernel_rfl, by kernel_rfl⟩ (fun _ _ h => h)
 ·intro uu4 hS hN4 hD4
  refine xBl 0 (xc [9, 10, 11] (xLo hS (fun g own sl s9 => own = [k3] ∧ sl = [(9, vs A3 ([(u8 one), (u8 two)] : List UInt8) c3), (10, vi (((([(u8 one), (u8 two)] : List UInt8)).length : Nat) : Int)), (11, vi (s9 : Int))]) ⟨by kernel_rfl, by kernel_rfl⟩ ?_))
  rintro g10 _ _ s9 uu9 e11 ⟨rfl, rfl⟩ hS Qr9 hN9 hD9
  unfold o14_L0 at hS
  refine xSq (xRg (xb 1 [] [9, 10, 11, 12] (xRe (xW (xSq ?_)))))
  refine xCd (decide ((s9 : Int) < (((([(u8 one), (u8 two)] : List UInt8)).length : Nat) : Int))) (fun h12 => ?_) (fun h12 => ?_)
  ·have hS := cond_T h12 hS
   have p0 := of_decide_eq_true h12
   refine xSk (xW (xc [9, 10, 11] (xSq (xBl 1 (xSq (xRg ?_))))))
   have h3 := h3.mono e11.b
   have i14 : s9 < (([(u8 one), (u8 two)] : List UInt8)).length := by omega
   obtain ⟨d0, f0, j1, v0, w0, z1⟩ := h3.open_ i14 0
   obtain ⟨w1, rfl⟩ : ∃ z, z = d0 := ⟨_, rfl⟩
   subst v0
   have w0 : f0 = [vy ((List.getD ([(u8 one), (u8 two)] : List UInt8) s9 0).toNat : Int)] := w0
   subst w0
   have v1 := UInt8.toNat_lt (List.getD ([(u8 one), (u8 two)] : List UInt8) s9 0)
   refine xb 1 [] [9, 10, 11, 13] (xV (qIxB s9 1 w1.g j1 rfl i14) (xV (qLdB s9 1 0 0 z1) (xb 2 [] [5, 6, 9, 10, 11] (xRe (xW (xSq (xRg (xb 3 [] [5, 6, 9, 10, 11, 18] ?_))))))))
   refine wpr_grp 6 [(5, vi (s9 : Int)), (9, vs A3 ([(u8 one), (u8 two)] : List UInt8) c3), (10, vi (((([(u8 one), (u8 two)] : List UInt8)).length : Nat) : Int)), (11, vi (s9 : Int)), (21, vb ((((List.getD ([(u8 one), (u8 two)] : List UInt8) s9 0).toNat : Int) == 4) || (((List.getD ([(u8 one), (u8 two)] : List UInt8) s9 0).toNat : Int) == 3)))] (fun hk2 => ?_) ?_
   ·refine wpq_split 18 (b := (((List.getD ([(u8 one), (u8 two)] : List UInt8) s9 0).toNat : Int) == 4)) (by kernel_rfl) (fun q15 => ?_) (fun q15 => ?_)
    ·have i0 : ((List.getD ([(u8 one), (u8 two)] : List UInt8) s9 0).toNat : Int) = 4 := eq_of_beq q15
     refine xb 3 [] [5, 9, 10, 11, 21] (wpq_re 21 (v := vb true) (Value.bool (((((List.getD ([(u8 one), (u8 two)] : List UInt8) s9 0).toNat : Int) == 4) || (((List.getD ([(u8 one), (u8 two)] : List UInt8) s9 0).toNat : Int) == 3)))) (by kernel_rfl) (re_or1 q15) ?_)
     exact wpq_sub _ (by kernel_rfl) hk2
    ·have i0 : ¬ (((List.getD ([(u8 one), (u8 two)] : List UInt8) s9 0).toNat : Int) = 4) := ne_of_beq_false_ q15
     refine xb 3 [] [5, 9, 10, 11, 21] (wpq_re 21 (v := vb (((List.getD ([(u8 one), (u8 two)] : List UInt8) s9 0).toNat : Int) == 3)) (Value.bool (((((List.getD ([(u8 one), (u8 two)] : List UInt8) s9 0).toNat : Int) == 4) || (((List.getD ([(u8 one), (u8 two)] : List UInt8) s9 0).toNat : Int) == 3)))) (by kernel_rfl) (re_or0 q15) ?_)
     exact wpq_sub _ (by kernel_rfl) hk2
   ·refine xRe ?_
    refine xW ?_
    refine xCd (((((List.getD ([(u8 one), (u8 two)] : List UInt8) s9 0).toNat : Int) == 4) || (((List.getD ([(u8 one), (u8 two)] : List UInt8) s9 0).toNat : Int) == 3))) (fun h16 => ?_) (fun h16 => ?_)
    ·have hS := cond_T h16 hS
     refine xSq (xRg ?_)
     obtain ⟨q17, hS⟩ := grd_T hS
     have t1 := of_decide_eq_true q17
     refine xb 1 [] [22] (xV (qAdd .i64 ((s9 : Int)) (1) (wr64 (by omega))) (xb 1 [] [4] (xRe (xW ?_))))
     have eS := (Option.some.inj hS).symm
     have eS := (hD9 _ eS).symm
     have eS := (hD4 _ eS).symm
     subst eS
     exact xRet [] [4] e11 ⟨by kernel_rfl, by kernel_rfl⟩ (fun _ _ h => h)
    ·have hS := cond_F h16 hS
     have j0 := (or_false_ h16).1
     have l0 := (or_false_ h16).2
     have i1 : ¬ (((List.getD ([(u8 one), (u8 two)] : List UInt8) s9 0).toNat : Int) = 4) := ne_of_beq_false_ j0
     have d1 : ¬ (((List.getD ([(u8 one), (u8 two)] : List UInt8) s9 0).toNat : Int) = 3) := ne_of_beq_false_ l0
     refine xSk (wpq_blockN (xW (xc [9, 10, 11] (xRg ?_))))
     obtain ⟨q18, hS⟩ := grd_T hS
     have l1 := of_decide_eq_true q18
     refine xV (qAdd .i64 ((s9 : Int)) (1) (wr64 (by omega))) (xb 1 [] [9, 10, 11] (xRe (wpq_thenN (xc [9, 10, 11] ?_))))
     have eS := (Option.some.inj hS).symm
     exact hN9 _ eS _ _ _ gR ⟨by kernel_rfl, by kernel_rfl⟩
  ·have hS := cond_F h12 hS
   have p0 := of_decide_eq_false h12
   refine xEx 0 (wpq_thenX (wpq_thenX (wpq_blockE (xSel [] (xc [] ?_)))))
   have eS := (Option.some.inj hS).symm
   have eS := (hD9 _ eS).symm
   exact hN4 _ eS _ _ _ e11 ⟨by kernel_rfl, by kernel_rfl⟩

def o4 : Option (Bool) :=
 (bindO (o12 (3 : Int) ((List.replicate 601 (0 : UInt8)) : List UInt8)) fun y2 => (letJ (o13 (⟨0, 0, 0, 0, 0, 0, 0⟩ : Targets) (⟨0, 0, 0, -700, 0, 0, 0⟩ : Targets) (⟨300, 0, 0, 0⟩ : Rates)) fun y5 => (letJ (τ := Bool) (cond (((((y2.1).length : Nat) : Int) == 2)) ((List.getD y2.1 1 default).index == 1) (false)) fun t9 => (bindO (τ := Bool) (cond (t9) (grd (decide (1 < (y2.1).length)) (some ((List.getD y2.1 1 default).count == 2))) (some (false))) fun t12 => (bindO (τ := Bool) (cond (t12) (grd (decide (1 < (y2.1).length)) (some (((((List.getD y2.1 1 default).data).length : Nat) : Int) == 1))) (some (false))) fun t15 => (bindO (τ := Bool) (cond (((t15 && (y2.2 == 0)) && (y5.bank == -300))) (bindO (o14 (2 : Int) (3 : Int)) fun y31 => (some (y31 == 2))) (some (false))) fun t20 => (bindO (τ := Bool) (cond (t20) (bindO (o14 (1 : Int) (2 : Int)) fun y27 => (some (y27 == 0))) (some (false))) fun t23 => (some ((t23))))))))))
theorem c4 (g : Gh)  {r : Bool} (hS : o4 = some r) :
  Ctr Tryz.prog 4 [] g [] (fun v ψ o => v = vb r ∧ o = []) := by
 unfold o4 at hS
 refine xFn Tryz.f4 (Tryz.f4.body.getD .skip) 55 (xSq (xRg (xb 1 [] [] (xRe (xW (xSq (xRg (xE (eMk (T := tyU8) (p := g.b) (et := 5) (bytes := 1) (z := (0 : UInt8)) 601 rfl (show tyU8.rep _ _ _ from rfl) (by omega) (by omega)) ?_))))))))
 rintro _ _ _ - ⟨A1, c1, k1, rfl, rfl, rfl, h1⟩
 have l5 : ((List.replicate 601 (0 : UInt8))).length = 601 := List.length_replicate
 obtain ⟨y2, hy2, hS⟩ := bindO_T hS
 refine xE (eC 0 (fun g' lr eb ln => c12 g' (3 : Int) ((List.replicate 601 (0 : UInt8)) : List UInt8) A1 c1 (arr_of_buf h1 (Psi.le_b eb) (lentk 0 (by kernel_rfl) ln)) hy2)) ?_
 rintro _ g3 _ e4 ⟨_, rfl, f0, l0, j0, rfl, rfl, w0⟩
 refine xb 5 [] [1, 2] (xRe (xW (xSq (xRg (xb 3 [] [1, 2, 9, 10, 11] ?_)))))
 obtain ⟨y5, hy5, hS⟩ := letJ_T hS
 refine xE (eC 0 (fun g' lr eb ln => c13 g' Z0 Z1 (⟨300, 0, 0, 0⟩ : Rates) hy5)) ?_
 rintro _ g6 _ e7 ⟨_, rfl, rfl, rfl⟩
 refine xE eB ?_
 rintro _ _ _ - ⟨b8, rfl, rfl, rfl⟩
 refine xbo 1 [(5, 0)] [some ⟨b8, 34, (cTargets y5)⟩, j0, k1] [1, 2, 3] (xRe (xW (xSq (xRg (xb 4 [] [1, 2, 3, 16] ?_)))))
 refine xGJl hS 10 (fun g own sl t9 => own = [some ⟨b8, 34, (cTargets y5)⟩, j0] ∧ sl = [(1, vs f0 y2.1 l0), (2, vi y2.2), (3, vp b8 0), (22, vb t9)]) ?_ ?_
 ·rintro g10 _ _ t9 e11 ⟨rfl, rfl⟩ hS
  refine xb 1 [] [1, 2, 3, 23] ?_
  refine xGJo hS 17 (fun g own sl t12 => own = [some ⟨b8, 34, (cTargets y5)⟩, j0] ∧ sl = [(1, vs f0 y2.1 l0), (2, vi y2.2), (3, vp b8 0), (29, vb t12)]) ?_ ?_
  ·rintro g13 _ _ t12 e14 ⟨rfl, rfl⟩ hS
   refine xb 1 [] [1, 2, 3, 30] ?_
   refine xGJo hS 25 (fun g own sl t15 => own = [some ⟨b8, 34, (cTargets y5)⟩] ∧ sl = [(2, vi y2.2), (3, vp b8 0), (37, vb t15)]) ?_ ?_
   ·rintro g16 _ _ t15 e17 ⟨rfl, rfl⟩ hS
    refine xb 1 [] [2, 3, 38] ?_
    refine wpr_grp 29 [(3, vp b8 0), (41, vb (t15 && (y2.2 == 0)))] (fun v0 => ?_) ?_
    ·refine wpq_split 38 (b := t15) (by kernel_rfl) (fun q18 => ?_) (fun q18 => ?_)
     ·refine xb 3 [] [3, 41] ?_
      refine wpq_re 41 (v := vb (y2.2 == 0)) (Value.bool ((t15 && (y2.2 == 0)))) (by kernel_rfl) (re_and1 q18) ?_
      exact wpq_sub _ (by kernel_rfl) v0
     ·refine xb 3 [] [3, 41] ?_
      refine wpq_re 41 (v := vb false) (Value.bool ((t15 && (y2.2 == 0)))) (by kernel_rfl) (re_and0 q18) ?_
      exact wpq_sub _ (by kernel_rfl) v0
    ·refine xb 1 [] [3, 42] ?_
     refine wpr_grp 34 [(46, vb ((t15 && (y2.2 == 0)) && (y5.bank == -300)))] (fun i0 => ?_) ?_
     ·refine wpq_split 42 (b := (t15 && (y2.2 == 0))) (by kernel_rfl) (fun q19 => ?_) (fun q19 => ?_)
      ·have i5 := (and_true_ q19).1
       have l1 := (and_true_ q19).2
       have z5 : y2.2 = 0 := eq_of_beq l1
       refine xb 4 [(31, 0)] [46] (wpq_re 46 (v := vb (y5.bank == -300)) (Value.bool (((t15 && (y2.2 == 0)) && (y5.bank == -300)))) (by kernel_rfl) (re_and1 q19) ?_)
       exact wpq_sub _ (by kernel_rfl) i0
      ·refine xb 4 [] [46] ?_
       refine wpq_re 46 (v := vb false) (Value.bool (((t15 && (y2.2 == 0)) && (y5.bank == -300)))) (by kernel_rfl) (re_and0 q19) ?_
       exact wpq_sub _ (by kernel_rfl) i0
     ·refine xb 1 [] [47] ?_
      refine xGJo hS 38 (fun g own sl t20 => own = [] ∧ sl = [(50, vb t20)]) ?_ ?_
      ·rintro g21 _ _ t20 e22 ⟨rfl, rfl⟩ hS
       refine xb 1 [] [51] ?_
       refine xGJo hS 42 (fun g own sl t23 => own = [] ∧ sl = [(54, vb t23)]) ?_ ?_
       ·rintro g24 _ _ t23 e25 ⟨rfl, rfl⟩ hS
        refine xb 1 [] [0] (xRe (xW ?_))
        obtain rfl := Option.some.inj hS
        exact xRet [] [0] (e4.trans (e7.trans (e11.trans (e14.trans (e17.trans (e22.trans e25)))))) ⟨by kernel_rfl, by kernel_rfl⟩ (fun _ _ h => h)
       ·intro uu23 hS hN23
        refine wpq_split 51 (b := t20) (by kernel_rfl) (fun q26 => ?_) (fun q26 => ?_)
        ·have hS := cond_T q26 hS
         obtain ⟨y27, j1, hS⟩ := bindO_T hS
         refine xE (eC 0 (fun g' lr eb ln => c14 g' (1 : Int) (2 : Int) j1)) ?_
         rintro _ g28 _ e29 ⟨_, rfl, rfl, rfl⟩
         refine xb 2 [] [54] (xc [54] ?_)
         exact hN23 _ (Option.some.inj hS).symm _ _ _ e29 ⟨by kernel_rfl, by kernel_rfl⟩
        ·have hS := cond_F q26 hS
         refine xb 3 [] [54] (xc [54] ?_)
         exact hN23 _ (Option.some.inj hS).symm _ _ _ gR ⟨by kernel_rfl, by kernel_rfl⟩
      ·intro uu20 hS hN20
       refine wpq_split 47 (b := ((t15 && (y2.2 == 0)) && (y5.bank == -300))) (by kernel_rfl) (fun q30 => ?_) (fun q30 => ?_)
       ·have hS := cond_T q30 hS
        have v2 := (and_true_ q30).1
        have z3 := (and_true_ q30).2
        have w1 := (and_true_ v2).2
        have w5 : y2.2 = 0 := eq_of_beq w1
        have j5 : y5.bank = -300 := eq_of_beq z3
        obtain ⟨y31, f2, hS⟩ := bindO_T hS
        refine xE (eC 0 (fun g' lr eb ln => c14 g' (2 : Int) (3 : Int) f2)) ?_
        rintro _ g32 _ e33 ⟨_, rfl, rfl, rfl⟩
        refine xb 2 [] [50] (xSel [] (xc [50] ?_))
        exact hN20 _ (Option.some.inj hS).symm _ _ _ e33 ⟨by kernel_rfl, by kernel_rfl⟩
       ·have hS := cond_F q30 hS
        refine xb 3 [] [50] (xSel [] (xc [50] ?_))
        exact hN20 _ (Option.some.inj hS).symm _ _ _ gR ⟨by kernel_rfl, by kernel_rfl⟩
   ·intro uu15 hS hN15
    refine wpq_split 30 (b := t12) (by kernel_rfl) (fun q34 => ?_) (fun q34 => ?_)
    ·have hS := cond_T q34 hS
     have w0 := w0.mono (e7.trans (e11.trans e14)).b
     obtain ⟨q36, hS⟩ := grd_T hS
     have p0 := of_decide_eq_true q36
     obtain ⟨d2, v5, t3, j3, a3, w3⟩ := w0.open_ p0 default
     obtain ⟨f1, rfl⟩ : ∃ z, z = d2 := ⟨_, rfl⟩
     subst j3
     obtain ⟨v1, w2, rfl, j2⟩ := a3
     refine xb 1 [] [2, 3, 30, 31] (xV (qIxB 1 4 f1.g t3 rfl p0) (xb 1 [] [2, 3, 30, 33] (xV (qLdB 1 4 3 1 w3) (xb 3 [] [2, 3, 37] (xSel [some 0] (xc [2, 3, 37] ?_))))))
     exact hN15 _ (Option.some.inj hS).symm _ _ _ gR ⟨by kernel_rfl, by kernel_rfl⟩
    ·have hS := cond_F q34 hS
     refine xb 7 [] [2, 3, 37] (xSel [some 0] (xc [2, 3, 37] ?_))
     exact hN15 _ (Option.some.inj hS).symm _ _ _ gR ⟨by kernel_rfl, by kernel_rfl⟩
  ·intro uu12 hS hN12
   refine wpq_split 23 (b := t9) (by kernel_rfl) (fun q37 => ?_) (fun q37 => ?_)
   ·have hS := cond_T q37 hS
    have w0 := w0.mono (e7.trans e11).b
    obtain ⟨q39, hS⟩ := grd_T hS
    have d0 := of_decide_eq_true q39
    obtain ⟨a4, t5, z2, l3, j4, t1⟩ := w0.open_ d0 default
    obtain ⟨v3, rfl⟩ : ∃ z, z = a4 := ⟨_, rfl⟩
    subst l3
    obtain ⟨z1, i4, rfl, a2⟩ := j4
    refine xb 1 [] [1, 2, 3, 23, 24] (xV (qIxB 1 4 v3.g z2 rfl d0) (xb 1 [] [1, 2, 3, 23, 26] (xV (qLdB 1 4 2 1 t1) (xb 2 [] [1, 2, 3, 29] (xc [1, 2, 3, 29] ?_)))))
    exact hN12 _ (Option.some.inj hS).symm _ _ _ gR ⟨by kernel_rfl, by kernel_rfl⟩
   ·have hS := cond_F q37 hS
    refine xb 6 [] [1, 2, 3, 29] (xc [1, 2, 3, 29] ?_)
    exact hN12 _ (Option.some.inj hS).symm _ _ _ gR ⟨by kernel_rfl, by kernel_rfl⟩
 ·intro uu9 hS hN9
  refine wpq_split 16 (b := ((((y2.1).length : Nat) : Int) == 2)) (by kernel_rfl) (fun q40 => ?_) (fun q40 => ?_)
  ·have hS := cond_T q40 hS
   have d1 : (((y2.1).length : Nat) : Int) = 2 := eq_of_beq q40
   have w0 := w0.mono e7.b
   have i42 : 1 < (y2.1).length := by omega
   obtain ⟨d3, d5, l4, v4, d4, f3⟩ := w0.open_ i42 default
   obtain ⟨w4, rfl⟩ : ∃ z, z = d3 := ⟨_, rfl⟩
   subst v4
   obtain ⟨z4, t4, rfl, i1⟩ := d4
   refine xb 1 [] [1, 2, 3, 16, 17] (xV (qIxB 1 4 w4.g l4 rfl i42) (xb 1 [] [1, 2, 3, 16, 19] (xV (qLdB 1 4 1 1 f3) (xb 2 [] [1, 2, 3, 22] (xSel [some 0, some 1] (xc [1, 2, 3, 22] ?_))))))
   exact hN9 _ hS.symm _ _ _ gR ⟨by kernel_rfl, by kernel_rfl⟩
  ·have hS := cond_F q40 hS
   have d1 : ¬ ((((y2.1).length : Nat) : Int) = 2) := ne_of_beq_false_ q40
   refine xb 6 [] [1, 2, 3, 22] (xSel [some 0, some 1] (xc [1, 2, 3, 22] ?_))
   exact hN9 _ hS.symm _ _ _ gR ⟨by kernel_rfl, by kernel_rfl⟩

def o15 (number : Int) : (Option Node) × Int :=
 (cond (((number != 1) && (number != 2))) (((none : Option Node), (1 : Int))) (((some (⟨number, 1, 0, 0, 0, 0, ([] : List UInt8), (⟨0, 0, (⟨0, 0⟩ : Want), ([] : List UInt8)⟩ : Heard), false, false, (⟨0, 0, false, ([] : List UInt8)⟩ : Sett), false, (⟨0, (⟨0, 0, 0, 0, 0, 0, 0⟩ : Targets)⟩ : Result)⟩ : Node)), (0 : Int))))
theorem c15 (g : Gh) (number : Int) {r : (Option Node) × Int} (hS : o15 number = r) :
  Ctr Tryz.prog 15 [vi number] g [] (fun v ψ o => ∃ (l0 : Value) (f0 : OB), v = Value.tuple #[l0, vi r.2] ∧ o = [f0] ∧ (r.1 = none → l0 = Value.pointer none) ∧ (∀ d, r.1 = some d → ∃ (bd : Nat) (v0 : OA) (d0 : Nat) (w0 : OA) (j0 : Nat) (p0 : OA) (i0 : Nat), l0 = Value.pointer (some ⟨bd, 0, none⟩) ∧ f0 = some ⟨bd, 126, [vi d.number, vy d.role, vi d.steps, vi d.alone, vy d.next_, vi d.cycle, vs v0 d.input d0, vy d.heard.role, vi d.heard.steps, vi d.heard.want.base, vi d.heard.want.have_, vs w0 d.heard.input j0, vb d.is_, vb d.fresh, vi d.set_.steps, vi d.set_.cycle, vb d.set_.fresh, vs p0 d.set_.in_ i0, vb d.has, vi d.told.steps, vy d.told.targets.lateral, vy d.told.targets.vertical, vy d.told.targets.phase, vi d.told.targets.bank, vi d.told.targets.speed, vi d.told.targets.alt, vi d.told.targets.vs]⟩ ∧ Arr ψ tyU8 v0 d0 d.input ∧ Arr ψ tyU8 w0 j0 d.heard.input ∧ Arr ψ tyU8 p0 i0 d.set_.in_)) := by
 unfold o15 at hS
 refine xFn Tryz.f15 (Tryz.f15.body.getD .skip) 13 (xSq (xRg (xb 2 [] [0] (xRe (xW (xSq (xSq (xRg (xb 3 [] [0, 6] ?_)))))))))
 refine wpr_grp 6 [(0, vi number), (9, vb ((number != 1) && (number != 2)))] (fun hk2 => ?_) ?_
 ·refine wpq_split 6 (b := (number != 1)) (by kernel_rfl) (fun q1 => ?_) (fun q1 => ?_)
  ·have q1p : ¬ (number = 1) := ne_of_bne_ q1
   refine xb 3 [] [0, 9] (wpq_re 9 (v := vb (number != 2)) (Value.bool (((number != 1) && (number != 2)))) (by kernel_rfl) (re_and1 q1) ?_)
   exact wpq_sub _ (by kernel_rfl) hk2
  ·have q1p : number = 1 := eq_of_bne_false_ q1
   refine xb 3 [] [0, 9] (wpq_re 9 (v := vb false) (Value.bool (((number != 1) && (number != 2)))) (by kernel_rfl) (re_and0 q1) ?_)
   exact wpq_sub _ (by kernel_rfl) hk2
 ·refine xRe ?_
  refine xW ?_
  refine xCd (((number != 1) && (number != 2))) (fun h2 => ?_) (fun h2 => ?_)
  ·have hS := cond_T h2 hS
   have h2l := (and_true_ h2).1
   have h2r := (and_true_ h2).2
   have z1 : ¬ (number = 1) := ne_of_bne_ h2l
   have w1 : ¬ (number = 2) := ne_of_bne_ h2r
   refine xSq (xRg (xb 2 [] [2, 3] (xRe (xW ?_))))
   have eS := hS.symm
   subst eS
   exact xRet [none] [2, 3] gR ⟨Value.pointer none, none, by kernel_rfl, by kernel_rfl, (fun _ => rfl), (fun _ h => by cases h)⟩ (fun _ _ h => h)
  ·have hS := cond_F h2 hS
   refine xSk (xW (xc [0] (xSq (xRg (xb 2 [] [11] (xE eB ?_))))))
   rintro _ _ _ - ⟨b3, rfl, rfl, rfl⟩
   refine xb 2 [] [2, 3] (xRe (xW ?_))
   have eS := hS.symm
   subst eS
   exact xRet [some 0] [2, 3] gR ⟨vp b3 0, some ⟨b3, 126, (cNode (⟨number, 1, 0, 0, 0, 0, ([] : List UInt8), (⟨0, 0, (⟨0, 0⟩ : Want), ([] : List UInt8)⟩ : Heard), false, false, Z2, false, (⟨0, Z0⟩ : Result)⟩ : Node) none 0 none 0 none 0)⟩, by kernel_rfl, by kernel_rfl, (fun h => by cases h), (fun _ h => by cases h; exact ⟨b3, none, 0, none, 0, none, 0, rfl, rfl, Arr.nil, Arr.nil, Arr.nil⟩)⟩ (fun _ _ h => h)

def o16 : Sender :=
 ((⟨([] : List Piece)⟩ : Sender))
theorem c16 (g : Gh)  {r : Sender} (hS : o16 = r) :
  Ctr Tryz.prog 16 [] g [] (fun v ψ o => ∃ (i0 : Nat) (w0 : OA) (j0 : Nat), v = vp i0 0 ∧ o = [some ⟨i0, 130, [vs w0 r.pieces j0]⟩] ∧ Arr ψ tyPiece w0 j0 r.pieces) := by
 unfold o16 at hS
 refine xFn Tryz.f16 (Tryz.f16.body.getD .skip) 3 (xSq (xRg (xb 1 [] [] (xRe (xW (xSq (xRg (xb 1 [] [1] (xE eB ?_)))))))))
 rintro _ _ _ - ⟨b1, rfl, rfl, rfl⟩
 refine xb 1 [] [0] (xRe (xW ?_))
 have eS := hS.symm
 subst eS
 exact xRet [some 0] [0] gR ⟨b1, none, 0, by kernel_rfl, by kernel_rfl, Arr.nil⟩ (fun _ _ h => h)

def o17 : Coll :=
 ((⟨0, 0, ([] : List (List UInt8)), ([] : List Sett)⟩ : Coll))
theorem c17 (g : Gh)  {r : Coll} (hS : o17 = r) :
  Ctr Tryz.prog 17 [] g [] (fun v ψ o => ∃ (l0 : Nat) (i0 : OA) (w0 : Nat) (j0 : OB) (p0 : OA) (d0 : Nat) (v0 : OB), v = vp l0 0 ∧ o = [some ⟨l0, 132, (cColl r i0 w0 p0 d0)⟩, j0, v0] ∧ Buf ψ (tyArr tyU8) 28 (.slice i0 (r.parts).length w0) j0 r.parts ∧ Buf ψ tySett 92 (.slice p0 (r.sets).length d0) v0 r.sets) := by
 unfold o17 at hS
 refine xFn Tryz.f17 (Tryz.f17.body.getD .skip) 3 (xSq (xRg (xb 1 [] [] (xRe (xW (xSq (xRg (xb 1 [] [1] (xE eB ?_)))))))))
 rintro _ _ _ - ⟨b1, rfl, rfl, rfl⟩
 refine xb 1 [] [0] (xRe (xW ?_))
 have eS := hS.symm
 subst eS
 exact xRet [some 0, none, none] [0] gR ⟨b1, none, 0, none, none, 0, none, by kernel_rfl, by kernel_rfl, Buf.nil, Buf.nil⟩ (fun _ _ h => h)

def o5 (number : Int) : Option ((Option Comp) × Int) :=
 (letJ (o15 (number : Int)) fun y1 => (cond ((y1.2 != 0)) (some (((none : Option Comp), y1.2))) (letJ (o16) fun y5 => (letJ (o17) fun y8 => (bindO (τ := Node) (y1.1) fun d11 => (some (((some (⟨(number : Int), d11, y5, y8, (0 : Int), (0 : Int), (false), (⟨0, 0⟩ : Want)⟩ : Comp)), (0 : Int)))))))))
theorem c5 (g : Gh) (number : Int) {r : (Option Comp) × Int} (hS : o5 number = some r) :
  Ctr Tryz.prog 5 [vi number] g [] (fun v ψ o => ∃ (w5 : Value) (i5 : OB) (f4 : OB) (t4 : OB) (l4 : OB) (i4 : OB) (d4 : OB), v = Value.tuple #[w5, vi r.2] ∧ o = [i5, f4, t4, l4, i4, d4] ∧ (r.1 = none → w5 = Value.pointer none) ∧ (∀ d, r.1 = some d → ∃ (bd : Nat) (z4 : Nat) (d2 : OA) (j2 : Nat) (j0 : OA) (i0 : Nat) (v1 : OA) (t1 : Nat) (w4 : Nat) (l1 : OA) (i1 : Nat) (f2 : Nat) (p0 : OA) (v0 : Nat) (d0 : OB) (w1 : OA) (f0 : Nat) (z1 : OB), w5 = Value.pointer (some ⟨bd, 0, none⟩) ∧ i5 = some ⟨bd, 77, [vi d.number, vp z4 0, vp w4 0, vp f2 0, vi d.next_, vi d.cycle, vb d.asked, vi d.want.base, vi d.want.have_]⟩ ∧ f4 = some ⟨z4, 126, (cNode d.node d2 j2 j0 i0 v1 t1)⟩ ∧ t4 = some ⟨w4, 130, [vs l1 d.sender.pieces i1]⟩ ∧ l4 = some ⟨f2, 132, (cColl d.collector p0 v0 w1 f0)⟩ ∧ i4 = d0 ∧ d4 = z1 ∧ Arr ψ tyU8 d2 j2 d.node.input ∧ Arr ψ tyU8 j0 i0 d.node.heard.input ∧ Arr ψ tyU8 v1 t1 d.node.set_.in_ ∧ Arr ψ tyPiece l1 i1 d.sender.pieces ∧ Buf ψ (tyArr tyU8) 28 (.slice p0 (d.collector.parts).length v0) d0 d.collector.parts ∧ Buf ψ tySett 92 (.slice w1 (d.collector.sets).length f0) z1 d.collector.sets)) := by
 unfold o5 at hS
 refine xFn Tryz.f5 (Tryz.f5.body.getD .skip) 20 (xSq (xRg (xb 2 [] [0] (xRe (xW (xSq (xRg (xb 1 [] [0, 7] ?_))))))))
 obtain ⟨y1, hy1, hS⟩ := letJ_T hS
 refine xE (eC 0 (fun g' lr eb ln => c15 g' (number : Int) hy1)) ?_
 rintro _ g2 _ e3 ⟨_, rfl, l5, a5, rfl, rfl, v5, d5⟩
 refine xb 5 [] [0, 4, 5] (xRe (xW (xSq (xSq (xRg (xb 2 [] [0, 4, 5, 12] (xRe (xW ?_))))))))
 refine xCd ((y1.2 != 0)) (fun h4 => ?_) (fun h4 => ?_)
 ·have hS := cond_T h4 hS
  have h4p : ¬ (y1.2 = 0) := ne_of_bne_ h4
  refine xSq (xRg (xb 3 [] [2, 3] (xRe (xW ?_))))
  obtain rfl := Option.some.inj hS
  exact xRet [none, none, none, none, none, none] [2, 3] e3 ⟨Value.pointer none, none, none, none, none, none, none, by kernel_rfl, by kernel_rfl, (fun _ => rfl), (fun _ h => by cases h)⟩ (fun _ _ h => h)
 ·have hS := cond_F h4 hS
  have h4p : y1.2 = 0 := eq_of_bne_false_ h4
  refine xSk (xW (xc [0, 4] (xSq (xRg (xb 2 [] [14, 15] ?_)))))
  obtain ⟨y5, hy5, hS⟩ := letJ_T hS
  refine xE (eC 0 (fun g' lr eb ln => c16 g'  hy5)) ?_
  rintro _ g6 _ e7 ⟨_, rfl, a4, w3, a2, rfl, rfl, f1⟩
  obtain ⟨y8, hy8, hS⟩ := letJ_T hS
  refine xE (eC 0 (fun g' lr eb ln => c17 g'  hy8)) ?_
  rintro _ g9 _ e10 ⟨_, rfl, j5, z3, d3, v3, f3, l3, a3, rfl, rfl, j4, v4⟩
  obtain ⟨d11, t5, hS⟩ := bindO_T hS
  obtain ⟨z5, t3, j3, j1, d1, z2, v2, rfl, rfl, w2, w0, l0⟩ := d5 d11 t5
  refine xb 1 [] [18] (xE eB ?_)
  rintro _ _ _ - ⟨b12, rfl, rfl, rfl⟩
  refine xb 2 [] [2, 3] (xRe (xW ?_))
  have w2 := w2.mono (e7.trans e10).b
  have w0 := w0.mono (e7.trans e10).b
  have l0 := l0.mono (e7.trans e10).b
  have f1 := f1.mono e10.b
  obtain rfl := Option.some.inj hS
  exact xRet (sm [0, 5, 4, 1, 2, 3]) [2, 3] (e3.trans (e7.trans e10)) ⟨vp b12 0, some ⟨b12, 77, [vi number, vp z5 0, vp a4 0, vp j5 0, vi 0, vi 0, vb false, vi 0, vi 0]⟩, some ⟨z5, 126, (cNode d11 t3 j3 j1 d1 z2 v2)⟩, some ⟨a4, 130, [vs w3 y5.pieces a2]⟩, some ⟨j5, 132, (cColl y8 z3 d3 f3 l3)⟩, v3, a3, by kernel_rfl, by kernel_rfl, (fun h => by cases h), (fun _ h => by cases h; exact ⟨b12, z5, t3, j3, j1, d1, z2, v2, a4, w3, a2, j5, z3, d3, v3, f3, l3, a3, rfl, rfl, rfl, rfl, rfl, rfl, rfl, w2, w0, l0, f1, j4, v4⟩)⟩ (fun _ _ h => h)

def o18 (number : Int) : RNode × Int :=
 (cond (((number != 1) && (number != 2))) (((⟨0, 0, 0, 0, 0, 0, ([] : List UInt8), false, false, (⟨0, 0, (⟨0, 0⟩ : Want), ([] : List UInt8)⟩ : Heard), false, (⟨0, 0, 0, 0, 0, 0, 0⟩ : Targets)⟩ : RNode), (1 : Int))) (((⟨number, 1, 0, 0, 0, 0, ([] : List UInt8), false, false, (⟨0, 0, (⟨0, 0⟩ : Want), ([] : List UInt8)⟩ : Heard), false, (⟨0, 0, 0, 0, 0, 0, 0⟩ : Targets)⟩ : RNode), (0 : Int))))
theorem c18 (g : Gh) (number : Int) {r : RNode × Int} (hS : o18 number = r) :
  Ctr Tryz.prog 18 [vi number] g [] (fun v ψ o => ∃ (i0 : OA) (p0 : Nat) (w0 : OA) (j0 : Nat), v = Value.tuple #[(aRNode r.1 i0 p0 w0 j0), vi r.2] ∧ o = [] ∧ Arr ψ tyU8 i0 p0 r.1.input ∧ Arr ψ tyU8 w0 j0 r.1.heard.input) := by
 unfold o18 at hS
 refine xFn Tryz.f18 (Tryz.f18.body.getD .skip) 13 (xSq (xRg (xE eB ?_)))
 rintro _ _ _ - ⟨b1, rfl, rfl, rfl⟩
 refine xb 1 [] [0, 2] (xRe (xW (xSq (xSq (xRg (xb 3 [] [0, 2, 6] ?_))))))
 refine wpr_grp 6 [(0, vi number), (2, vp b1 0), (9, vb ((number != 1) && (number != 2)))] (fun hk2 => ?_) ?_
 ·refine wpq_split 6 (b := (number != 1)) (by kernel_rfl) (fun q2 => ?_) (fun q2 => ?_)
  ·have q2p : ¬ (number = 1) := ne_of_bne_ q2
   refine xb 3 [] [0, 2, 9] (wpq_re 9 (v := vb (number != 2)) (Value.bool (((number != 1) && (number != 2)))) (by kernel_rfl) (re_and1 q2) ?_)
   exact wpq_sub _ (by kernel_rfl) hk2
  ·have q2p : number = 1 := eq_of_bne_false_ q2
   refine xb 3 [] [0, 2, 9] (wpq_re 9 (v := vb false) (Value.bool (((number != 1) && (number != 2)))) (by kernel_rfl) (re_and0 q2) ?_)
   exact wpq_sub _ (by kernel_rfl) hk2
 ·refine xRe ?_
  refine xW ?_
  refine xCd (((number != 1) && (number != 2))) (fun h3 => ?_) (fun h3 => ?_)
  ·have hS := cond_T h3 hS
   have h3l := (and_true_ h3).1
   have h3r := (and_true_ h3).2
   have d0 : ¬ (number = 1) := ne_of_bne_ h3l
   have v0 : ¬ (number = 2) := ne_of_bne_ h3r
   refine xSq (xRg (xbo 3 [(1, 0)] [some ⟨b1, 36, (cRNode (⟨0, 0, 0, 0, 0, 0, ([] : List UInt8), false, false, (⟨0, 0, (⟨0, 0⟩ : Want), ([] : List UInt8)⟩ : Heard), false, Z0⟩ : RNode) none 0 none 0)⟩] [2, 3] (xRe (xW ?_))))
   have eS := hS.symm
   subst eS
   exact xRetC [] [(2, 0)] gR ⟨none, 0, none, 0, by kernel_rfl, by kernel_rfl, Arr.nil, Arr.nil⟩ (fun _ _ h => h)
  ·have hS := cond_F h3 hS
   refine xSk (xW (xc [0, 2] (xSq (xRg (xbo 4 [(2, 0)] [some ⟨b1, 36, (cRNode (⟨number, 1, 0, 0, 0, 0, ([] : List UInt8), false, false, (⟨0, 0, (⟨0, 0⟩ : Want), ([] : List UInt8)⟩ : Heard), false, Z0⟩ : RNode) none 0 none 0)⟩] [2, 3] (xRe (xW ?_)))))))
   have eS := hS.symm
   subst eS
   exact xRetC [] [(2, 0)] gR ⟨none, 0, none, 0, by kernel_rfl, by kernel_rfl, Arr.nil, Arr.nil⟩ (fun _ _ h => h)

def o6 (number : Int) : RComp × Int :=
 (letJ (o18 (number : Int)) fun y2 => (((⟨y2.1, (⟨([] : List Piece)⟩ : Sender), (⟨0, 0, ([] : List (List UInt8)), ([] : List Sett)⟩ : Coll), false, 0⟩ : RComp), y2.2)))
theorem c6 (g : Gh) (number : Int) {r : RComp × Int} (hS : o6 number = r) :
  Ctr Tryz.prog 6 [vi number] g [] (fun v ψ o => ∃ (d1 : OA) (t1 : Nat) (p0 : OA) (i0 : Nat) (w1 : OA) (z1 : Nat) (v0 : OA) (d0 : Nat) (f0 : OA) (l0 : Nat), v = Value.tuple #[(aRComp r.1 d1 t1 p0 i0 w1 z1 v0 d0 f0 l0), vi r.2] ∧ o = [] ∧ Arr ψ tyU8 d1 t1 r.1.node.input ∧ Arr ψ tyU8 p0 i0 r.1.node.heard.input ∧ Arr ψ tyPiece w1 z1 r.1.sender.pieces ∧ Arr ψ (tyArr tyU8) v0 d0 r.1.collector.parts ∧ Arr ψ tySett f0 l0 r.1.collector.sets) := by
 unfold o6 at hS
 refine xFn Tryz.f6 (Tryz.f6.body.getD .skip) 14 (xSq (xRg (xE eB ?_)))
 rintro _ _ _ - ⟨b1, rfl, rfl, rfl⟩
 refine xb 1 [] [0, 2] (xRe (xW (xSq (xRg (xb 1 [] [2, 7] ?_)))))
 obtain ⟨y2, hy2, hS⟩ := letJ_T hS
 refine xE (eC 0 (fun g' lr eb ln => c18 g' (number : Int) hy2)) ?_
 rintro _ g3 _ e4 ⟨_, rfl, j1, i1, j0, w0, rfl, rfl, l1, v1⟩
 refine xb 3 [] [2, 9, 10] (xE eB ?_)
 rintro _ _ _ - ⟨b5, rfl, rfl, rfl⟩
 refine xbo 2 [(6, 0)] [some ⟨b5, 36, (cRNode y2.1 j1 i1 j0 w0)⟩, some ⟨b1, 45, (cRComp (⟨(⟨0, 0, 0, 0, 0, 0, ([] : List UInt8), false, false, (⟨0, 0, (⟨0, 0⟩ : Want), ([] : List UInt8)⟩ : Heard), false, Z0⟩ : RNode), Z3, Z4, false, 0⟩ : RComp) none 0 none 0 none 0 none 0 none 0)⟩] [2, 4, 5] (xRe (xW (xSq (xRg (xbo 5 [(0, 0), (3, 1)] [some ⟨b5, 36, (cRNode y2.1 j1 i1 j0 w0)⟩, some ⟨b1, 45, (cRComp (⟨y2.1, Z3, Z4, false, 0⟩ : RComp) j1 i1 j0 w0 none 0 none 0 none 0)⟩] [2, 3] (xRe (xW ?_)))))))
 have eS := hS.symm
 subst eS
 exact xRetC [] [(2, 1)] e4 ⟨j1, i1, j0, w0, none, 0, none, 0, none, 0, by kernel_rfl, by kernel_rfl, l1, v1, Arr.nil, Arr.nil, Arr.nil⟩ (fun _ _ h => h)

def o7 (p : List UInt8) (n : Int) : Option ((List UInt8)) :=
 (grd (decide (0 ≤ (minI (((p).length : Nat) : Int) n))) (some (((List.take ((minI (((p).length : Nat) : Int) n)).toNat p) : List UInt8))))
theorem c7 (g : Gh) (p : List UInt8) (Ap : OA) (cp : Nat) (n : Int) (fp : Arr g.b tyU8 Ap cp p) {r : (List UInt8)} (hS : o7 p n = some r) :
  Ctr Tryz.prog 7 [vs Ap p cp, vi n] g [] (fun v ψ o => ∃ (j0 : OA) (w0 : Nat), v = vs j0 r w0 ∧ o = [] ∧ Arr ψ tyU8 j0 w0 r) := by
 unfold o7 at hS
 refine xFn Tryz.f7 (Tryz.f7.body.getD .skip) 11 ?_
 have nfp := fp.len
 refine xSq (xRg (xb 1 [] [0, 1] (xRe (xW (xSq (xRg ?_))))))
 have z1 := minI_spec (((p).length : Nat) : Int) n
 obtain ⟨q1, hS⟩ := grd_T hS
 have q1p := of_decide_eq_true q1
 have p0 := fp.cap
 have f2 : Arr g.b tyU8 (offA Ap cp 0 1) (cp - 0) (List.take ((minI (((p).length : Nat) : Int) n)).toNat p) := fp.cut_to ((minI (((p).length : Nat) : Int) n)).toNat (by omega)
 have nf2 := f2.len
 have i0 : ((minI (((p).length : Nat) : Int) n)).toNat - 0 = ((List.take ((minI (((p).length : Nat) : Int) n)).toNat p)).length := by simp only [List.length_take, List.length_drop] <;> omega
 have d0 : ((((List.take ((minI (((p).length : Nat) : Int) n)).toNat p)).length : Nat) : Int) = (minI (((p).length : Nat) : Int) n) - 0 := by omega
 refine xb 5 [] [5, 9] (xV (qSl (m := 1) (A := Ap) (len := (p).length) (c := cp) 0 ((minI (((p).length : Nat) : Int) n)).toNat none (some (minI (((p).length : Nat) : Int) n)) ((List.take ((minI (((p).length : Nat) : Int) n)).toNat p)).length rfl (show _ = _ by omega) (by omega) (by omega) i0) (xb 1 [] [4] (xRe (xW ?_))))
 obtain rfl := Option.some.inj hS
 exact xRet [] [4] gR ⟨(offA Ap cp 0 1), (cp - 0), by kernel_rfl, by kernel_rfl, f2⟩ (fun _ _ h => h)

def o45 (c : Comp) (call : Int) : Comp × Int :=
 (cond ((c.next_ != call)) (((⟨c.number, c.node, c.sender, c.collector, c.next_, c.cycle, (c.asked), c.want⟩ : Comp), (8 : Int))) (((⟨c.number, c.node, c.sender, c.collector, c.next_, c.cycle, (c.asked), c.want⟩ : Comp), (0 : Int))))
theorem c45 (g : Gh) (b_c : Nat) (c : Comp) (i4 : Nat) (d1 : OA) (t1 : Nat) (j0 : OA) (w0 : Nat) (j1 : OA) (z1 : Nat) (z4 : Nat) (i1 : OA) (w1 : Nat) (j2 : Nat) (d0 : OA) (i0 : Nat) (p0 : OB) (v0 : OA) (f0 : Nat) (l0 : OB) (call : Int) (j4 : Arr g.b tyU8 d1 t1 c.node.input) (f2 : Arr g.b tyU8 j0 w0 c.node.heard.input) (f3 : Arr g.b tyU8 j1 z1 c.node.set_.in_) (l3 : Arr g.b tyPiece i1 w1 c.sender.pieces) (t3 : Buf g.b (tyArr tyU8) 28 (.slice d0 (c.collector.parts).length i0) p0 c.collector.parts) (v3 : Buf g.b tySett 92 (.slice v0 (c.collector.sets).length f0) l0 c.collector.sets) {r : Comp × Int} (hS : o45 c call = r) :
  Ctr Tryz.prog 45 [vp b_c 0, vi call] g [some ⟨b_c, 77, [vi c.number, vp i4 0, vp z4 0, vp j2 0, vi c.next_, vi c.cycle, vb c.asked, vi c.want.base, vi c.want.have_]⟩, some ⟨i4, 126, (cNode c.node d1 t1 j0 w0 j1 z1)⟩, some ⟨z4, 130, [vs i1 c.sender.pieces w1]⟩, some ⟨j2, 132, (cColl c.collector d0 i0 v0 f0)⟩, p0, l0] (fun v ψ o => ∃ (a3 : OA) (w4 : Nat) (l1 : OA) (v1 : Nat) (z3 : OA) (w3 : Nat) (j3 : OA) (d3 : Nat) (w2 : OA) (z2 : Nat) (f1 : OB) (a2 : OA) (d2 : Nat) (v2 : OB), v = vi r.2 ∧ o = [some ⟨b_c, 77, [vi r.1.number, vp i4 0, vp z4 0, vp j2 0, vi r.1.next_, vi r.1.cycle, vb r.1.asked, vi r.1.want.base, vi r.1.want.have_]⟩, some ⟨i4, 126, (cNode r.1.node a3 w4 l1 v1 z3 w3)⟩, some ⟨z4, 130, [vs j3 r.1.sender.pieces d3]⟩, some ⟨j2, 132, (cColl r.1.collector w2 z2 a2 d2)⟩, f1, v2] ∧ Arr ψ tyU8 a3 w4 r.1.node.input ∧ Arr ψ tyU8 l1 v1 r.1.node.heard.input ∧ Arr ψ tyU8 z3 w3 r.1.node.set_.in_ ∧ Arr ψ tyPiece j3 d3 r.1.sender.pieces ∧ Buf ψ (tyArr tyU8) 28 (.slice w2 (r.1.collector.parts).length z2) f1 r.1.collector.parts ∧ Buf ψ tySett 92 (.slice a2 (r.1.collector.sets).length d2) v2 r.1.collector.sets) := by
 unfold o45 at hS
 refine xFn Tryz.f45 (Tryz.f45.body.getD .skip) 13 (xSq (xRg (xb 1 [] [0, 1] (xRe (xW (xSq (xSq (xRg (xb 2 [] [0, 1, 6] (xRe (xW (xCf (xSk (xW (xc [0, 1] (xSq (xSq (xRg (xb 6 [(3, 0)] [12] (xRe (xW ?_)))))))))))))))))))))
 refine xCd ((c.next_ != call)) (fun h1 => ?_) (fun h1 => ?_)
 ·have hS := cond_T h1 hS
  have h1p : ¬ (c.next_ = call) := ne_of_bne_ h1
  refine xSq (xRg (xb 1 [] [4] (xRe (xW ?_))))
  have eS := hS.symm
  subst eS
  exact xRet (sm [0, 1, 2, 3, 4, 5]) [4] gR ⟨d1, t1, j0, w0, j1, z1, i1, w1, d0, i0, p0, v0, f0, l0, by kernel_rfl, by kernel_rfl, j4, f2, f3, l3, t3, v3⟩ (fun _ _ h => h)
 ·have hS := cond_F h1 hS
  have h1p : c.next_ = call := eq_of_bne_false_ h1
  refine xSk (xW (xc [] (xSq (xRg (xb 1 [] [4] (xRe (xW ?_)))))))
  have eS := hS.symm
  subst eS
  exact xRet (sm [0, 1, 2, 3, 4, 5]) [4] gR ⟨d1, t1, j0, w0, j1, z1, i1, w1, d0, i0, p0, v0, f0, l0, by kernel_rfl, by kernel_rfl, j4, f2, f3, l3, t3, v3⟩ (fun _ _ h => h)

def o10 (n : Node) : Int :=
 (n.role)
theorem c10 (g : Gh) (a_n : Addr) (n : Node) (v0 : OA) (d0 : Nat) (w0 : OA) (j0 : Nat) (p0 : OA) (i0 : Nat) (z1 : Cells g.r a_n (cNode n v0 d0 w0 j0 p0 i0)) (w1 : Arr g.r tyU8 v0 d0 n.input) (l0 : Arr g.r tyU8 w0 j0 n.heard.input) (f0 : Arr g.r tyU8 p0 i0 n.set_.in_) {r : Int} (hS : o10 n = r) :
  Ctr Tryz.prog 10 [Value.pointer (some a_n)] g [] (fun v ψ o => v = vy r ∧ o = []) := by
 unfold o10 at hS
 refine xFn Tryz.f10 (Tryz.f10.body.getD .skip) 9 (xSq (xRg (xb 1 [] [0] (xRe (xW (xSq (xSq (xRg (xb 2 [] [0, 4] (xRe (xW (xCf (xSk (xW (xc [0] (xSq (xRg (xb 3 [] [7] (xV (qLdP a_n 1 z1) (xb 1 [] [2] (xRe (xW ?_))))))))))))))))))))))
 have eS := hS.symm
 subst eS
 exact xRet [] [2] gR ⟨by kernel_rfl, by kernel_rfl⟩ (fun _ _ h => h)

def o46 (c : Comp) : Comp × Bool :=
 (letJ (o10 c.node) fun y1 => (((⟨c.number, c.node, c.sender, c.collector, c.next_, c.cycle, (c.asked), c.want⟩ : Comp), ((y1 == 1)))))
theorem c46 (g : Gh) (b_c : Nat) (c : Comp) (w4 : Nat) (l0 : OA) (f0 : Nat) (j0 : OA) (w0 : Nat) (p0 : OA) (i0 : Nat) (i4 : Nat) (j2 : OA) (w2 : Nat) (z3 : Nat) (i1 : OA) (w1 : Nat) (z1 : OB) (d1 : OA) (l1 : Nat) (t1 : OB) (f1 : Arr g.b tyU8 l0 f0 c.node.input) (d0 : Arr g.b tyU8 j0 w0 c.node.heard.input) (v0 : Arr g.b tyU8 p0 i0 c.node.set_.in_) (z2 : Arr g.b tyPiece j2 w2 c.sender.pieces) (j1 : Buf g.b (tyArr tyU8) 28 (.slice i1 (c.collector.parts).length w1) z1 c.collector.parts) (v1 : Buf g.b tySett 92 (.slice d1 (c.collector.sets).length l1) t1 c.collector.sets) {r : Comp × Bool} (hS : o46 c = r) :
  Ctr Tryz.prog 46 [vp b_c 0] g [some ⟨b_c, 77, [vi c.number, vp w4 0, vp i4 0, vp z3 0, vi c.next_, vi c.cycle, vb c.asked, vi c.want.base, vi c.want.have_]⟩, some ⟨w4, 126, (cNode c.node l0 f0 j0 w0 p0 i0)⟩, some ⟨i4, 130, [vs j2 c.sender.pieces w2]⟩, some ⟨z3, 132, (cColl c.collector i1 w1 d1 l1)⟩, z1, t1] (fun v ψ o => ∃ (z4 : OA) (j4 : Nat) (v2 : OA) (d2 : Nat) (l3 : OA) (v3 : Nat) (f3 : OA) (a3 : Nat) (a2 : OA) (w3 : Nat) (f2 : OB) (t3 : OA) (j3 : Nat) (d3 : OB), v = vb r.2 ∧ o = [some ⟨b_c, 77, [vi r.1.number, vp w4 0, vp i4 0, vp z3 0, vi r.1.next_, vi r.1.cycle, vb r.1.asked, vi r.1.want.base, vi r.1.want.have_]⟩, some ⟨w4, 126, (cNode r.1.node z4 j4 v2 d2 l3 v3)⟩, some ⟨i4, 130, [vs f3 r.1.sender.pieces a3]⟩, some ⟨z3, 132, (cColl r.1.collector a2 w3 t3 j3)⟩, f2, d3] ∧ Arr ψ tyU8 z4 j4 r.1.node.input ∧ Arr ψ tyU8 v2 d2 r.1.node.heard.input ∧ Arr ψ tyU8 l3 v3 r.1.node.set_.in_ ∧ Arr ψ tyPiece f3 a3 r.1.sender.pieces ∧ Buf ψ (tyArr tyU8) 28 (.slice a2 (r.1.collector.parts).length w3) f2 r.1.collector.parts ∧ Buf ψ tySett 92 (.slice t3 (r.1.collector.sets).length j3) d3 r.1.collector.sets) := by
 unfold o46 at hS
 refine xFn Tryz.f46 (Tryz.f46.body.getD .skip) 9 (xSq (xRg (xb 1 [] [0] (xRe (xW (xSq (xRg (xb 4 [(3, 0)] [6] ?_))))))))
 obtain ⟨y1, hy1, hS⟩ := letJ_T hS
 refine xE (eC 0 (fun g' lr eb ln => c10 g' ⟨w4, 0, none⟩ c.node l0 f0 j0 w0 p0 i0 (cells_lent' 1 w4 0 (cNode c.node l0 f0 j0 w0 p0 i0) ln) ((f1.mono g.br).mono lr) ((d0.mono g.br).mono lr) ((v0.mono g.br).mono lr) hy1)) ?_
 rintro _ g2 _ e3 ⟨_, rfl, rfl, rfl⟩
 refine xb 2 [] [2] (xRe (xW ?_))
 have f1 := f1.mono e3.b
 have d0 := d0.mono e3.b
 have v0 := v0.mono e3.b
 have z2 := z2.mono e3.b
 have j1 := j1.mono e3.b
 have v1 := v1.mono e3.b
 have eS := hS.symm
 subst eS
 exact xRet (sm [0, 1, 2, 3, 4, 5]) [2] e3 ⟨l0, f0, j0, w0, p0, i0, j2, w2, i1, w1, z1, d1, l1, t1, by kernel_rfl, by kernel_rfl, f1, d0, v0, z2, j1, v1⟩ (fun _ _ h => h)

def o47 (c : Coll) : Want :=
 (({ c with have_ := (((c.parts).length : Nat) : Int) }))
theorem c47 (g : Gh) (a_c : Addr) (c : Coll) (j0 : OA) (w0 : Nat) (p0 : OA) (i0 : Nat) (d0 : Cells g.r a_c (cColl c j0 w0 p0 i0)) (v0 : ArrM g.r g.b (tyArr tyU8) j0 w0 c.parts) (l0 : ArrM g.r g.b tySett p0 i0 c.sets) {r : Want} (hS : o47 c = r) :
  Ctr Tryz.prog 47 [Value.pointer (some a_c)] g [] (fun v ψ o => v = Value.agg #[vi r.base, vi r.have_] ∧ o = []) := by
 unfold o47 at hS
 refine xFn Tryz.f47 (Tryz.f47.body.getD .skip) 16 (xSq (xRg (xE eB ?_)))
 rintro _ _ _ - ⟨b1, rfl, rfl, rfl⟩
 refine xRe (xW (xSq (xSq (xRg (xb 2 [] [0, 2, 4] (xRe (xW (xCf (xSk (xW (xc [0, 2] (xSq ?_))))))))))))
 refine xDr 0 [3, 7] [10] [] 11 (fun RG => ?_) (fun _ _ _ _ _ h => h)
 refine xt 8 [0, 1, 2] [] [] [0, 2, 8] RG pR (xTv 3 [] RG pR (qLdP a_c 0 d0) (xt 4 [4, 5, 6] [] [] [2, 9, 12] RG pR (xTv 7 [] RG pR (qLdP a_c 2 d0) (xt 1 [8, 9] [] [] [2, 15] RG pR (xO1 (lds := [3, 7]) 10 (xId (lds := [3, 7]) pR (eStL b1 0 0) ?_))))))
 rintro _ _ _ - ⟨rfl, rfl⟩
 refine kf (xAe (lds := [3, 7]) (xW (xc [2] ?_)))
 have eS := hS.symm
 subst eS
 exact xRetC [] [(2, 0)] gR ⟨by kernel_rfl, by kernel_rfl⟩ (fun _ _ h => h)

def o81 (n : Node) (c : Int) : Int :=
 (cond ((n.next_ != c)) ((8 : Int)) ((0 : Int)))
theorem c81 (g : Gh) (a_n : Addr) (n : Node) (v0 : OA) (d0 : Nat) (w0 : OA) (j0 : Nat) (p0 : OA) (i0 : Nat) (c : Int) (z1 : Cells g.r a_n (cNode n v0 d0 w0 j0 p0 i0)) (w1 : Arr g.r tyU8 v0 d0 n.input) (l0 : Arr g.r tyU8 w0 j0 n.heard.input) (f0 : Arr g.r tyU8 p0 i0 n.set_.in_) {r : Int} (hS : o81 n c = r) :
  Ctr Tryz.prog 81 [Value.pointer (some a_n), vy c] g [] (fun v ψ o => v = vi r ∧ o = []) := by
 unfold o81 at hS
 refine xFn Tryz.f81 (Tryz.f81.body.getD .skip) 13 (xSq (xRg (xb 1 [] [0, 1] (xRe (xW (xSq (xSq (xRg (xb 2 [] [0, 1, 6] (xRe (xW (xCf (xSk (xW (xc [0, 1] (xSq (xSq (xRg (xb 3 [] [1, 9] (xV (qLdP a_n 4 z1) (xb 2 [] [12] (xRe (xW ?_)))))))))))))))))))))))
 refine xCd ((n.next_ != c)) (fun h1 => ?_) (fun h1 => ?_)
 ·have hS := cond_T h1 hS
  have h1p : ¬ (n.next_ = c) := ne_of_bne_ h1
  refine xSq (xRg (xb 1 [] [4] (xRe (xW ?_))))
  have eS := hS.symm
  subst eS
  exact xRet [] [4] gR ⟨by kernel_rfl, by kernel_rfl⟩ (fun _ _ h => h)
 ·have hS := cond_F h1 hS
  have h1p : n.next_ = c := eq_of_bne_false_ h1
  refine xSk (xW (xc [] (xSq (xRg (xb 1 [] [4] (xRe (xW ?_)))))))
  have eS := hS.symm
  subst eS
  exact xRet [] [4] gR ⟨by kernel_rfl, by kernel_rfl⟩ (fun _ _ h => h)

def o111_L0 (n : Int) (size : Int) (s6 : (List UInt8) × Nat) : Option (Ctl ((List UInt8) × Nat) ((List UInt8))) :=
 (cond (decide ((s6.2 : Int) < size)) (grd (decide (0 ≤ (IntKind.i64.wrap (8 * (s6.2 : Int))))) (grd (decide (((s6.1).length + (([(u8 (IntKind.u8.wrap (shrK .i64 n (IntKind.i64.wrap (8 * (s6.2 : Int))))))] : List UInt8)).length) * 1 ≤ 140737488355328)) (grd (decide ((s6.2 : Int) + 1 ≤ 9223372036854775807)) (some (Ctl.go (((s6.1 ++ ([(u8 (IntKind.u8.wrap (shrK .i64 n (IntKind.i64.wrap (8 * (s6.2 : Int))))))] : List UInt8)) : List UInt8), (s6.2 + 1))))))) (some (Ctl.done (s6.1))))
def o111 (out : List UInt8) (n : Int) (size : Int) : Option ((List UInt8)) :=
 (bindO (τ := (List UInt8)) (loopO (σ := (List UInt8) × Nat) (ρ := (List UInt8)) fuelN (o111_L0 n size) ((out : List UInt8), 0)) fun t1 => (some ((t1 : List UInt8))))
theorem c111 (g : Gh) (out : List UInt8) (l0 : OA) (f0 : Nat) (z1 : OB) (n : Int) (size : Int) (hout : Buf g.b tyU8 5 (.slice l0 (out).length f0) z1 out) {r : (List UInt8)} (hS : o111 out n size = some r) :
  Ctr Tryz.prog 111 [vs l0 out f0, vi n, vi size] g [z1] (fun v ψ o => ∃ (i1 : OA) (j1 : Nat) (d1 : OB), v = vs i1 r j1 ∧ o = [d1] ∧ Buf ψ tyU8 5 (.slice i1 (r).length j1) d1 r) := by
 unfold o111 at hS
 refine xFn Tryz.f111 (Tryz.f111.body.getD .skip) 22 ?_
 have z2 := hout.len
 refine xSq (xRg (xb 1 [] [0, 1, 2] (xRe (xW (xSq (xSq (xRg (xb 2 [] [0, 1, 8, 9] (xRe (xW ?_))))))))))
 refine xBindO hS (fun g own sl t1 => ∃ (d0 : OA) (w0 : Nat) (i0 : OB), own = [i0] ∧ sl = [(0, vs d0 t1 w0)] ∧ Buf g.b tyU8 5 (.slice d0 (t1).length w0) i0 t1) ?_ ?_
 ·rintro g2 _ _ t1 e3 ⟨d0, w0, i0, rfl, rfl, v1⟩ hS
  have w2 := v1.len
  refine xW (xSq (xRg (xb 2 [] [6] (xRe (xW ?_)))))
  obtain rfl := Option.some.inj hS
  exact xRet [some 0] [6] e3 ⟨d0, w0, i0, by kernel_rfl, by kernel_rfl, v1⟩ (fun _ _ h => h)
 ·intro uu1 hS hN1
  refine xBl 0 (xc [0, 1, 8, 9] (xLo hS (fun g own sl s6 => ∃ (v0 : OA) (p0 : Nat) (j0 : OB), own = [j0] ∧ sl = [(0, vs v0 s6.1 p0), (1, vi n), (8, vi size), (9, vi (s6.2 : Int))] ∧ Buf g.b tyU8 5 (.slice v0 (s6.1).length p0) j0 s6.1) ⟨l0, f0, z1, by kernel_rfl, by kernel_rfl, hout⟩ ?_))
  rintro g7 _ _ s6 uu6 e8 ⟨v0, p0, j0, rfl, rfl, w1⟩ hS Qr6 hN6 hD6
  have j2 := w1.len
  unfold o111_L0 at hS
  refine xSq (xRg (xb 1 [] [0, 1, 8, 9, 10] (xRe (xW (xSq ?_)))))
  refine xCd (decide ((s6.2 : Int) < size)) (fun h9 => ?_) (fun h9 => ?_)
  ·have hS := cond_T h9 hS
   have h9p := of_decide_eq_true h9
   refine xSk (xW (xc [0, 1, 8, 9] (xSq (xBl 1 (xSq (xRg (xb 2 [] [0, 1, 7, 8, 9] (xRe (xW (xRg ?_))))))))))
   have z23 := i64_in_ (8 * (s6.2 : Int))
   obtain ⟨q10, hS⟩ := grd_T hS
   have a2 := of_decide_eq_true q10
   refine xb 4 [] [0, 1, 8, 9, 12, 13, 15] (xV (qShr .i64 .i64 (n) ((IntKind.i64.wrap (8 * (s6.2 : Int)))) (by omega)) ?_)
   have z24 := u8_in_ (shrK .i64 n (IntKind.i64.wrap (8 * (s6.2 : Int))))
   refine xb 1 [] [0, 1, 8, 9, 12, 17] (xE (eBs (T := tyU8) (p := g7.b) (et := 5) (xs := ([(u8 (IntKind.u8.wrap (shrK .i64 n (IntKind.i64.wrap (8 * (s6.2 : Int))))))] : List UInt8)) (reps_cons (c := [vy (IntKind.u8.wrap (shrK .i64 n (IntKind.i64.wrap (8 * (s6.2 : Int)))))]) (u8_rep (wrapU8_rng _)) reps_nil) (by simp)) ?_)
   rintro _ _ _ - ⟨A11, c11, k11, rfl, rfl, rfl, h11⟩
   obtain ⟨d2, f1, l1⟩ := h11.srcO (g := g7)
   obtain ⟨q13, hS⟩ := grd_T hS
   have f2 := of_decide_eq_true q13
   refine xE (eApp (T := tyU8) (p := g7.b) (et := 5) (bytes := 1) (xs := s6.1) (ys := (([(u8 (IntKind.u8.wrap (shrK .i64 n (IntKind.i64.wrap (8 * (s6.2 : Int))))))] : List UInt8) : List UInt8)) 1 w1 rfl (fun w hs => l1 0 w _ hs (by kernel_rfl)) f1 (by first | omega | (simp only [List.length_cons, List.length_nil] at *; omega)) (by first | omega | (simp only [List.length_cons, List.length_nil] at *; omega))) ?_
   rintro _ _ _ - ⟨A12, c12, k12, rfl, rfl, rfl, h12⟩
   have w3 := h12.len
   have v2 : ((s6.1 ++ ([(u8 (IntKind.u8.wrap (shrK .i64 n (IntKind.i64.wrap (8 * (s6.2 : Int))))))] : List UInt8)) : List UInt8).length = (s6.1).length + (([(u8 (IntKind.u8.wrap (shrK .i64 n (IntKind.i64.wrap (8 * (s6.2 : Int))))))] : List UInt8)).length := List.length_append
   refine xb 1 [] [0, 1, 8, 9] (xRe (wpq_blockN (xW (xRg ?_))))
   obtain ⟨q14, hS⟩ := grd_T hS
   have z3 := of_decide_eq_true q14
   refine xV (qAdd .i64 ((s6.2 : Int)) (1) (wr64 (by omega))) (xb 1 [] [0, 1, 8, 9] (xRe (wpq_thenN (xSel [some 1] (xc [0, 1, 8, 9] ?_)))))
   have eS := (Option.some.inj hS).symm
   exact hN6 _ eS _ _ _ gR ⟨A12, c12, k12, by kernel_rfl, by kernel_rfl, h12⟩
  ·have hS := cond_F h9 hS
   have h9p := of_decide_eq_false h9
   refine xEx 0 (wpq_thenX (wpq_thenX (wpq_blockE (xc [0] ?_))))
   have eS := (Option.some.inj hS).symm
   have eS := (hD6 _ eS).symm
   exact hN1 _ eS _ _ _ e8 ⟨v0, p0, j0, by kernel_rfl, by kernel_rfl, w1⟩

def o82 (h : Heard) : Option ((List UInt8) × Int) :=
 (cond ((((((decide (h.role < 1) || decide (h.role > 3)) || decide (h.steps < 0)) || decide (h.want.base < 0)) || decide (h.want.have_ < 0)) || decide (h.want.have_ > 65535))) (some ((([] : List UInt8), (1 : Int)))) (cond (decide ((((h.input).length : Nat) : Int) > 400)) (some ((([] : List UInt8), (3 : Int)))) (grd (decide (0 ≤ h.role ∧ h.role ≤ 255)) (bindO (o111 (([(u8 h.role)] : List UInt8) : List UInt8) h.steps (8 : Int)) fun y11 => (bindO (o111 (y11 : List UInt8) h.want.base (8 : Int)) fun y14 => (bindO (o111 (y14 : List UInt8) h.want.have_ (2 : Int)) fun y17 => (grd (decide (((y17).length + (h.input).length) * 1 ≤ 140737488355328)) (some ((((y17 ++ h.input) : List UInt8), (0 : Int)))))))))))
theorem c82 (g : Gh) (h : Heard) (j0 : OA) (i0 : Nat) (w0 : Arr g.r tyU8 j0 i0 h.input) {r : (List UInt8) × Int} (hS : o82 h = some r) :
  Ctr Tryz.prog 82 [(aHeard h j0 i0)] g [] (fun v ψ o => ∃ (l1 : OA) (i1 : Nat) (f1 : OB), v = Value.tuple #[vs l1 r.1 i1, vi r.2] ∧ o = [f1] ∧ Buf ψ tyU8 5 (.slice l1 (r.1).length i1) f1 r.1) := by
 unfold o82 at hS
 refine xFn Tryz.f82 (Tryz.f82.body.getD .skip) 59 ?_
 have w4 := w0.len
 refine xSq (xRg (xE eB ?_))
 rintro _ _ _ - ⟨b1, rfl, rfl, rfl⟩
 refine xb 2 [] [1] (xRe (xW (xSq (xSq (xRg (xb 4 [(1, 0)] [1, 8] ?_))))))
 refine wpr_grp 8 [(1, vp b1 0), (12, vb (decide (h.role < 1) || decide (h.role > 3)))] (fun hk3 => ?_) ?_
 ·refine wpq_split 8 (b := decide (h.role < 1)) (by kernel_rfl) (fun q2 => ?_) (fun q2 => ?_)
  ·have q2p := of_decide_eq_true q2
   refine xb 4 [] [1, 12] (wpq_re 12 (v := vb true) (Value.bool ((decide (h.role < 1) || decide (h.role > 3)))) (by kernel_rfl) (re_or1 q2) ?_)
   exact wpq_sub _ (by kernel_rfl) hk3
  ·have q2p := of_decide_eq_false q2
   refine xb 4 [(5, 0)] [1, 12] (wpq_re 12 (v := vb (decide (h.role > 3))) (Value.bool ((decide (h.role < 1) || decide (h.role > 3)))) (by kernel_rfl) (re_or0 q2) ?_)
   exact wpq_sub _ (by kernel_rfl) hk3
 ·refine xb 1 [] [1, 13] ?_
  refine wpr_grp 13 [(1, vp b1 0), (17, vb ((decide (h.role < 1) || decide (h.role > 3)) || decide (h.steps < 0)))] (fun hk8 => ?_) ?_
  ·refine wpq_split 13 (b := (decide (h.role < 1) || decide (h.role > 3))) (by kernel_rfl) (fun q3 => ?_) (fun q3 => ?_)
   ·refine xb 4 [] [1, 17] ?_
    refine wpq_re 17 (v := vb true) (Value.bool (((decide (h.role < 1) || decide (h.role > 3)) || decide (h.steps < 0)))) (by kernel_rfl) (re_or1 q3) ?_
    exact wpq_sub _ (by kernel_rfl) hk8
   ·have q3l := (or_false_ q3).1
    have q3r := (or_false_ q3).2
    have f7 := of_decide_eq_false q3l
    have i7 := of_decide_eq_false q3r
    refine xb 4 [(10, 0)] [1, 17] (wpq_re 17 (v := vb (decide (h.steps < 0))) (Value.bool (((decide (h.role < 1) || decide (h.role > 3)) || decide (h.steps < 0)))) (by kernel_rfl) (re_or0 q3) ?_)
    exact wpq_sub _ (by kernel_rfl) hk8
  ·refine xb 1 [] [1, 18] ?_
   refine wpr_grp 19 [(1, vp b1 0), (23, vb (((decide (h.role < 1) || decide (h.role > 3)) || decide (h.steps < 0)) || decide (h.want.base < 0)))] (fun v1 => ?_) ?_
   ·refine wpq_split 18 (b := ((decide (h.role < 1) || decide (h.role > 3)) || decide (h.steps < 0))) (by kernel_rfl) (fun q4 => ?_) (fun q4 => ?_)
    ·refine xb 5 [] [1, 23] ?_
     refine wpq_re 23 (v := vb true) (Value.bool ((((decide (h.role < 1) || decide (h.role > 3)) || decide (h.steps < 0)) || decide (h.want.base < 0)))) (by kernel_rfl) (re_or1 q4) ?_
     exact wpq_sub _ (by kernel_rfl) v1
    ·have q4l := (or_false_ q4).1
     have q4r := (or_false_ q4).2
     have j4 := (or_false_ q4l).1
     have t4 := (or_false_ q4l).2
     have d6 := of_decide_eq_false j4
     have t6 := of_decide_eq_false t4
     have z7 := of_decide_eq_false q4r
     refine xb 5 [(16, 0)] [1, 23] (wpq_re 23 (v := vb (decide (h.want.base < 0))) (Value.bool ((((decide (h.role < 1) || decide (h.role > 3)) || decide (h.steps < 0)) || decide (h.want.base < 0)))) (by kernel_rfl) (re_or0 q4) ?_)
     exact wpq_sub _ (by kernel_rfl) v1
   ·refine xb 1 [] [1, 24] ?_
    refine wpr_grp 25 [(1, vp b1 0), (29, vb ((((decide (h.role < 1) || decide (h.role > 3)) || decide (h.steps < 0)) || decide (h.want.base < 0)) || decide (h.want.have_ < 0)))] (fun t1 => ?_) ?_
    ·refine wpq_split 24 (b := (((decide (h.role < 1) || decide (h.role > 3)) || decide (h.steps < 0)) || decide (h.want.base < 0))) (by kernel_rfl) (fun q5 => ?_) (fun q5 => ?_)
     ·refine xb 5 [] [1, 29] ?_
      refine wpq_re 29 (v := vb true) (Value.bool (((((decide (h.role < 1) || decide (h.role > 3)) || decide (h.steps < 0)) || decide (h.want.base < 0)) || decide (h.want.have_ < 0)))) (by kernel_rfl) (re_or1 q5) ?_
      exact wpq_sub _ (by kernel_rfl) t1
     ·have q5l := (or_false_ q5).1
      have q5r := (or_false_ q5).2
      have w2 := (or_false_ q5l).1
      have d4 := (or_false_ q5l).2
      have a2 := (or_false_ w2).1
      have t3 := (or_false_ w2).2
      have v5 := of_decide_eq_false a2
      have f5 := of_decide_eq_false t3
      have a6 := of_decide_eq_false d4
      have v7 := of_decide_eq_false q5r
      refine xb 5 [(22, 0)] [1, 29] (wpq_re 29 (v := vb (decide (h.want.have_ < 0))) (Value.bool (((((decide (h.role < 1) || decide (h.role > 3)) || decide (h.steps < 0)) || decide (h.want.base < 0)) || decide (h.want.have_ < 0)))) (by kernel_rfl) (re_or0 q5) ?_)
      exact wpq_sub _ (by kernel_rfl) t1
    ·refine xb 1 [] [1, 30] ?_
     refine wpr_grp 31 [(1, vp b1 0), (35, vb (((((decide (h.role < 1) || decide (h.role > 3)) || decide (h.steps < 0)) || decide (h.want.base < 0)) || decide (h.want.have_ < 0)) || decide (h.want.have_ > 65535)))] (fun j2 => ?_) ?_
     ·refine wpq_split 30 (b := ((((decide (h.role < 1) || decide (h.role > 3)) || decide (h.steps < 0)) || decide (h.want.base < 0)) || decide (h.want.have_ < 0))) (by kernel_rfl) (fun q6 => ?_) (fun q6 => ?_)
      ·refine xb 5 [] [1, 35] ?_
       refine wpq_re 35 (v := vb true) (Value.bool ((((((decide (h.role < 1) || decide (h.role > 3)) || decide (h.steps < 0)) || decide (h.want.base < 0)) || decide (h.want.have_ < 0)) || decide (h.want.have_ > 65535)))) (by kernel_rfl) (re_or1 q6) ?_
       exact wpq_sub _ (by kernel_rfl) j2
      ·have q6l := (or_false_ q6).1
       have q6r := (or_false_ q6).2
       have f2 := (or_false_ q6l).1
       have z4 := (or_false_ q6l).2
       have w1 := (or_false_ f2).1
       have d3 := (or_false_ f2).2
       have d1 := (or_false_ w1).1
       have d2 := (or_false_ w1).2
       have i5 := of_decide_eq_false d1
       have d5 := of_decide_eq_false d2
       have l5 := of_decide_eq_false d3
       have p6 := of_decide_eq_false z4
       have l7 := of_decide_eq_false q6r
       refine xb 5 [(28, 0)] [1, 35] (wpq_re 35 (v := vb (decide (h.want.have_ > 65535))) (Value.bool ((((((decide (h.role < 1) || decide (h.role > 3)) || decide (h.steps < 0)) || decide (h.want.base < 0)) || decide (h.want.have_ < 0)) || decide (h.want.have_ > 65535)))) (by kernel_rfl) (re_or0 q6) ?_)
       exact wpq_sub _ (by kernel_rfl) j2
     ·refine xRe ?_
      refine xW ?_
      refine xCd ((((((decide (h.role < 1) || decide (h.role > 3)) || decide (h.steps < 0)) || decide (h.want.base < 0)) || decide (h.want.have_ < 0)) || decide (h.want.have_ > 65535))) (fun h7 => ?_) (fun h7 => ?_)
      ·have hS := cond_T h7 hS
       refine xSq (xRg (xb 2 [] [2, 3] (xRe (xW ?_))))
       obtain rfl := Option.some.inj hS
       exact xRet [none] [2, 3] gR ⟨none, 0, none, by kernel_rfl, by kernel_rfl, Buf.nil⟩ (fun _ _ h => h)
      ·have hS := cond_F h7 hS
       have h7l := (or_false_ h7).1
       have h7r := (or_false_ h7).2
       have z2 := (or_false_ h7l).1
       have a4 := (or_false_ h7l).2
       have f0 := (or_false_ z2).1
       have v3 := (or_false_ z2).2
       have p0 := (or_false_ f0).1
       have v2 := (or_false_ f0).2
       have j1 := (or_false_ p0).1
       have z1 := (or_false_ p0).2
       have v4 := of_decide_eq_false j1
       have i4 := of_decide_eq_false z1
       have t5 := of_decide_eq_false v2
       have z6 := of_decide_eq_false v3
       have v6 := of_decide_eq_false a4
       have t7 := of_decide_eq_false h7r
       refine xSk (xW (xc [1] (xSq (xSq (xRg (xb 4 [(1, 0)] [1, 39] (xRe (xW ?_))))))))
       refine xCd (decide ((((h.input).length : Nat) : Int) > 400)) (fun h8 => ?_) (fun h8 => ?_)
       ·have hS := cond_T h8 hS
        have h8p := of_decide_eq_true h8
        refine xSq (xRg (xb 2 [] [2, 3] (xRe (xW ?_))))
        obtain rfl := Option.some.inj hS
        exact xRet [none] [2, 3] gR ⟨none, 0, none, by kernel_rfl, by kernel_rfl, Buf.nil⟩ (fun _ _ h => h)
       ·have hS := cond_F h8 hS
        have h8p := of_decide_eq_false h8
        refine xSk (xW (xc [1] (xSq (xRg (xb 2 [(1, 0)] [1, 41] ?_)))))
        obtain ⟨q9, hS⟩ := grd_T hS
        have q9p := of_decide_eq_true q9
        refine xE (eBs (T := tyU8) (p := g.b) (et := 5) (xs := ([(u8 h.role)] : List UInt8)) (reps_cons (c := [vy h.role]) (u8_rep (by omega)) reps_nil) (by simp)) ?_
        rintro _ _ _ - ⟨A10, c10, k10, rfl, rfl, rfl, h10⟩
        refine xb 2 [(4, 1)] [1, 42, 44] ?_
        obtain ⟨y11, w5, hS⟩ := bindO_T hS
        refine xE (eC 1 (fun g' lr eb ln => c111 g' (([(u8 h.role)] : List UInt8) : List UInt8) A10 c10 k10 h.steps (8 : Int) (by rw [eb]; exact h10) w5)) ?_
        rintro _ g12 _ e13 ⟨_, rfl, w3, a3, f3, rfl, rfl, l0⟩
        have a5 := l0.len
        refine xb 1 [] [1, 4] (xRe (xW (xSq ?_)))
        refine xDr 0 [3, 7] [9] [some ⟨b1, 122, (cHeard h j0 i0)⟩] 10 (fun RG => ?_) (fun _ _ _ _ _ h => h)
        refine xt 3 [0, 1, 2, 3, 5, 6, 7] [(3, 0), (7, 0)] [some 1] [1, 4, 46, 49, 53] RG pR ?_
        obtain ⟨y14, j5, hS⟩ := bindO_T hS
        refine xO1 (lds := [3, 7]) 4 (xIe (lds := [3, 7]) pR (eC 1 (fun g' lr eb ln => c111 g' (y11 : List UInt8) w3 a3 f3 h.want.base (8 : Int) (by rw [eb]; exact l0) j5)) ?_)
        rintro _ g15 _ e16 ⟨_, rfl, l3, j3, z3, rfl, rfl, d0⟩
        refine kk [some 1] ?_
        have j6 := d0.len
        obtain ⟨y17, l4, hS⟩ := bindO_T hS
        refine xO1 (lds := [3, 7]) 8 (xIe (lds := [3, 7]) e16.r (eC 1 (fun g' lr eb ln => c111 g' (y14 : List UInt8) l3 j3 z3 h.want.have_ (2 : Int) (by rw [eb]; exact d0) l4)) ?_)
        rintro _ g18 _ e19 ⟨_, rfl, i6, f6, l6, rfl, rfl, v0⟩
        refine kk [some 1] ?_
        have w6 := v0.len
        refine xt 0 [9] [] [some 1] [1, 4] RG (e16.trans e19).r (xAe (lds := [3, 7]) (xW (xSq (xRg (xb 3 [(2, 1)] [55, 57] ?_)))))
        have w0 := w0.mono (e13.trans (e16.trans e19)).r
        obtain ⟨d7, z5, f4⟩ := w0.srcR
        obtain ⟨q21, hS⟩ := grd_T hS
        have j7 := of_decide_eq_true q21
        refine xE (eApp (T := tyU8) (p := g18.b) (et := 5) (bytes := 1) (xs := (y17 : List UInt8)) (ys := h.input) 0 v0 rfl (fun w hs => f4 w _ hs) (flatU8.reps z5) (by first | omega | (simp only [List.length_cons, List.length_nil] at *; omega)) (by first | omega | (simp only [List.length_cons, List.length_nil] at *; omega))) ?_
        rintro _ _ _ - ⟨A20, c20, k20, rfl, rfl, rfl, h20⟩
        have p7 := h20.len
        have w7 : ((y17 ++ h.input) : List UInt8).length = (y17).length + (h.input).length := List.length_append
        refine xb 2 [] [2, 3] (xRe (xW ?_))
        obtain rfl := Option.some.inj hS
        exact xRet [some 0] [2, 3] (e13.trans (e16.trans e19)) ⟨A20, c20, k20, by kernel_rfl, by kernel_rfl, h20⟩ (fun _ _ h => h)

def o83 (n : Node) (label : Int) (p : List UInt8) : Frame :=
 ((⟨label, (IntKind.u8.wrap n.number), n.cycle, p⟩ : Frame))
theorem c83 (g : Gh) (a_n : Addr) (n : Node) (f0 : OA) (l0 : Nat) (w0 : OA) (j0 : Nat) (v0 : OA) (d0 : Nat) (label : Int) (p : List UInt8) (Ap : OA) (cp : Nat) (z1 : Cells g.r a_n (cNode n f0 l0 w0 j0 v0 d0)) (i1 : Arr g.r tyU8 f0 l0 n.input) (w1 : Arr g.r tyU8 w0 j0 n.heard.input) (j1 : Arr g.r tyU8 v0 d0 n.set_.in_) (fp : Arr g.b tyU8 Ap cp p) {r : Frame} (hS : o83 n label p = r) :
  Ctr Tryz.prog 83 [Value.pointer (some a_n), vy label, vs Ap p cp] g [] (fun v ψ o => ∃ (i0 : OA) (p0 : Nat), v = (aFrame r i0 p0) ∧ o = [] ∧ Arr ψ tyU8 i0 p0 r.payload) := by
 unfold o83 at hS
 refine xFn Tryz.f83 (Tryz.f83.body.getD .skip) 19 (xSq (xRg (xE eB ?_)))
 rintro _ _ _ - ⟨b1, rfl, rfl, rfl⟩
 refine xRe (xW (xSq ?_))
 refine xDr 0 [4, 9] [12] [] 13 (fun RG => ?_) (fun _ _ _ _ _ h => h)
 refine xt 9 [0, 1, 2, 3] [] [] [0, 2, 6, 7, 10] RG pR (xTv 4 [] RG pR (qLdP a_n 0 z1) (xt 4 [5, 6, 7, 8] [] [] [2, 6, 7, 12, 15] RG pR (xTv 9 [] RG pR (qLdP a_n 5 z1) (xt 1 [10, 11] [] [] [6, 18] RG pR (xO1 (lds := [4, 9]) 12 (xId (lds := [4, 9]) pR (eStL b1 0 0) ?_))))))
 rintro _ _ _ - ⟨rfl, rfl⟩
 refine kf (xAe (lds := [4, 9]) (xW (xc [6] ?_)))
 have eS := hS.symm
 subst eS
 exact xRetC [] [(6, 0)] gR ⟨Ap, cp, by kernel_rfl, by kernel_rfl, fp⟩ (fun _ _ h => h)

def o48 (n : Node) (cycle : Int) (input : List UInt8) (w_ : Want) : Option (Node × Frame × Int) :=
 (letJ (o81 n (0 : Int)) fun y3 => (cond ((y3 != 0)) (some ((n, (⟨0, 0, 0, ([] : List UInt8)⟩ : Frame), (y3 : Int)))) (cond (decide (cycle < 0)) (some ((n, (⟨0, 0, 0, ([] : List UInt8)⟩ : Frame), (1 : Int)))) (bindO (o82 ({ n with want := w_, input := input })) fun y8 => (cond ((y8.2 != 0)) (some ((n, (⟨0, 0, 0, ([] : List UInt8)⟩ : Frame), y8.2))) (letJ (o43 (input : List UInt8)) fun y12 => (letJ (o83 (⟨n.number, n.role, n.steps, n.alone, 1, cycle, y12, (⟨0, 0, (⟨0, 0⟩ : Want), ([] : List UInt8)⟩ : Heard), false, n.fresh, (⟨0, 0, false, ([] : List UInt8)⟩ : Sett), false, (⟨0, (⟨0, 0, 0, 0, 0, 0, 0⟩ : Targets)⟩ : Result)⟩ : Node) (1 : Int) y8.1) fun y18 => (some (((⟨n.number, n.role, n.steps, n.alone, 1, cycle, y12, (⟨0, 0, (⟨0, 0⟩ : Want), ([] : List UInt8)⟩ : Heard), false, n.fresh, (⟨0, 0, false, ([] : List UInt8)⟩ : Sett), false, (⟨0, (⟨0, 0, 0, 0, 0, 0, 0⟩ : Targets)⟩ : Result)⟩ : Node), y18, (0 : Int)))))))))))
theorem c48 (g : Gh) (b_n : Nat) (n : Node) (f0 : OA) (l0 : Nat) (w0 : OA) (j0 : Nat) (d0 : OA) (p0 : Nat) (cycle : Int) (input : List UInt8) (f2 : OA) (w3 : Nat) (w_ : Want) (w1 : Arr g.b tyU8 f0 l0 n.input) (i0 : Arr g.b tyU8 w0 j0 n.heard.input) (v0 : Arr g.b tyU8 d0 p0 n.set_.in_) (d1 : Arr g.r tyU8 f2 w3 input) {r : Node × Frame × Int} (hS : o48 n cycle input w_ = some r) :
  Ctr Tryz.prog 48 [vp b_n 0, vi cycle, vs f2 input w3, Value.agg #[vi w_.base, vi w_.have_]] g [some ⟨b_n, 126, (cNode n f0 l0 w0 j0 d0 p0)⟩] (fun v ψ o => ∃ (z3 : OA) (a2 : Nat) (j1 : OA) (i1 : Nat) (l1 : OA) (v1 : Nat) (w2 : OA) (z2 : Nat), v = Value.tuple #[(aFrame r.2.1 w2 z2), vi r.2.2] ∧ o = [some ⟨b_n, 126, (cNode r.1 z3 a2 j1 i1 l1 v1)⟩] ∧ Arr ψ tyU8 z3 a2 r.1.input ∧ Arr ψ tyU8 j1 i1 r.1.heard.input ∧ Arr ψ tyU8 l1 v1 r.1.set_.in_ ∧ Arr ψ tyU8 w2 z2 r.2.1.payload) := by
 unfold o48 at hS
 refine xFn Tryz.f48 (Tryz.f48.body.getD .skip) 74 (xSq (xRg (xE eB ?_)))
 rintro _ _ _ - ⟨b1, rfl, rfl, rfl⟩
 refine xE eB ?_
 rintro _ _ _ - ⟨b2, rfl, rfl, rfl⟩
 refine xb 1 [] [0, 1, 2, 7, 8] (xRe (xW (xSq (xSq (xRg (xb 1 [] [0, 1, 2, 7, 8, 13] ?_))))))
 obtain ⟨y3, hy3, hS⟩ := letJ_T hS
 refine xE (eC 0 (fun g' lr eb ln => c81 g' ⟨b_n, 0, none⟩ n f0 l0 w0 j0 d0 p0 (0 : Int) (cells_lent' 2 b_n 0 (cNode n f0 l0 w0 j0 d0 p0) ln) ((w1.mono g.br).mono lr) ((i0.mono g.br).mono lr) ((v0.mono g.br).mono lr) hy3)) ?_
 rintro _ g4 _ e5 ⟨_, rfl, rfl, rfl⟩
 refine xb 1 [] [0, 1, 2, 7, 8, 10] (xRe (xW (xSq (xRg (xb 2 [] [0, 1, 2, 7, 8, 10, 16] (xRe (xW ?_)))))))
 refine xCd ((y3 != 0)) (fun h6 => ?_) (fun h6 => ?_)
 ·have hS := cond_T h6 hS
  have h6p : ¬ (y3 = 0) := ne_of_bne_ h6
  refine xSq (xRg (xbo 4 [(2, 0)] [some ⟨b2, 49, (cFrame Z5 none 0)⟩, some ⟨b1, 75, [vi w_.base, vi w_.have_]⟩, some ⟨b_n, 126, (cNode n f0 l0 w0 j0 d0 p0)⟩] [8, 9] (xRe (xW ?_))))
  have w1 := w1.mono e5.b
  have i0 := i0.mono e5.b
  have v0 := v0.mono e5.b
  obtain rfl := Option.some.inj hS
  exact xRetC [some 2] [(8, 0)] e5 ⟨f0, l0, w0, j0, d0, p0, none, 0, by kernel_rfl, by kernel_rfl, w1, i0, v0, Arr.nil⟩ (fun _ _ h => h)
 ·have hS := cond_F h6 hS
  have h6p : y3 = 0 := eq_of_bne_false_ h6
  refine xSk (xW (xc [0, 1, 2, 7, 8] (xSq (xSq (xRg (xb 2 [] [0, 1, 2, 7, 8, 20] (xRe (xW ?_))))))))
  refine xCd (decide (cycle < 0)) (fun h7 => ?_) (fun h7 => ?_)
  ·have hS := cond_T h7 hS
   refine xSq (xRg (xbo 3 [(1, 0)] [some ⟨b2, 49, (cFrame Z5 none 0)⟩, some ⟨b1, 75, [vi w_.base, vi w_.have_]⟩, some ⟨b_n, 126, (cNode n f0 l0 w0 j0 d0 p0)⟩] [8, 9] (xRe (xW ?_))))
   have w1 := w1.mono e5.b
   have i0 := i0.mono e5.b
   have v0 := v0.mono e5.b
   obtain rfl := Option.some.inj hS
   exact xRetC [some 2] [(8, 0)] e5 ⟨f0, l0, w0, j0, d0, p0, none, 0, by kernel_rfl, by kernel_rfl, w1, i0, v0, Arr.nil⟩ (fun _ _ h => h)
  ·have hS := cond_F h7 hS
   refine xSk (xW (xc [0, 1, 2, 7, 8] (xSq ?_)))
   refine xDr 0 [3, 7, 8] [10, 15, 16] [some ⟨b2, 49, (cFrame Z5 none 0)⟩, some ⟨b1, 75, [vi w_.base, vi w_.have_]⟩, some ⟨b_n, 126, (cNode n f0 l0 w0 j0 d0 p0)⟩] 17 (fun RG => ?_) (fun _ _ _ _ _ h => h)
   refine xt 6 [0, 1, 2, 3, 4, 5, 6, 7, 8, 9, 10] [(3, 2), (7, 2), (8, 1)] (sm [0, 1, 2]) [0, 1, 2, 8, 33] RG pR ?_
   have d1 := d1.mono e5.r
   obtain ⟨y8, hy8, hS⟩ := bindO_T hS
   refine xO1 (lds := [3, 7, 8]) 11 (xIe (lds := [3, 7, 8]) pR (eC 0 (fun g' lr eb ln => c82 g' ({ n with want := w_, input := input }) f2 w3 (d1.mono lr) hy8)) ?_)
   rintro _ g9 _ e10 ⟨_, rfl, l3, w4, d3, rfl, rfl, t3⟩
   refine kk (sm [1, 2, 3]) (xt 0 [12, 13, 14, 15, 16] [] (sm [1, 2, 3]) [0, 1, 2, 8, 11, 12] RG e10.r (xAe (lds := [3, 7, 8]) (xW (xSq (xSq (xRg (xb 2 [] [0, 1, 2, 8, 11, 12, 38] (xRe (xW ?_)))))))))
   refine xCd ((y8.2 != 0)) (fun h11 => ?_) (fun h11 => ?_)
   ·have hS := cond_T h11 hS
    have v3 : ¬ (y8.2 = 0) := ne_of_bne_ h11
    refine xSq (xRg (xbo 4 [(2, 1)] [d3, some ⟨b2, 49, (cFrame Z5 none 0)⟩, some ⟨b1, 75, [vi w_.base, vi w_.have_]⟩, some ⟨b_n, 126, (cNode n f0 l0 w0 j0 d0 p0)⟩] [8, 9] (xRe (xW ?_))))
    have w1 := w1.mono (e5.trans e10).b
    have i0 := i0.mono (e5.trans e10).b
    have v0 := v0.mono (e5.trans e10).b
    obtain rfl := Option.some.inj hS
    exact xRetC [some 3] [(8, 1)] (e5.trans e10) ⟨f0, l0, w0, j0, d0, p0, none, 0, by kernel_rfl, by kernel_rfl, w1, i0, v0, Arr.nil⟩ (fun _ _ h => h)
   ·have hS := cond_F h11 hS
    have v3 : y8.2 = 0 := eq_of_bne_false_ h11
    refine xSk (xW (xc [0, 1, 2, 8, 11] (xSq (xRg (xb 5 [] [0, 8, 11, 41, 42, 43, 44, 45] ?_)))))
    have d1 := d1.mono e10.r
    obtain ⟨y12, f3, hS⟩ := letJ_T hS
    refine xE (eC 0 (fun g' lr eb ln => c43 g' (input : List UInt8) f2 w3 (d1.mono lr) f3)) ?_
    rintro _ g13 _ e14 ⟨_, rfl, j2, v2, j3, rfl, rfl, d2⟩
    refine xbo 9 [(8, 4), (11, 4), (14, 4)] [j3, d3, some ⟨b2, 49, (cFrame Z5 none 0)⟩, some ⟨b1, 75, [vi w_.base, vi w_.have_]⟩, some ⟨b_n, 126, (cNode ({ n with next_ := 1, cycle := cycle, input := y12 }) j2 v2 w0 j0 d0 p0)⟩] [0, 8, 11] (xRe (xW (xSq (xRg (xbo 23 [(10, 4), (13, 4), (16, 4), (19, 4), (22, 4)] [j3, d3, some ⟨b2, 49, (cFrame Z5 none 0)⟩, some ⟨b1, 75, [vi w_.base, vi w_.have_]⟩, some ⟨b_n, 126, (cNode (⟨n.number, n.role, n.steps, n.alone, 1, cycle, y12, (⟨0, 0, (⟨0, 0⟩ : Want), ([] : List UInt8)⟩ : Heard), false, n.fresh, Z2, false, (⟨0, Z0⟩ : Result)⟩ : Node) j2 v2 none 0 none 0)⟩] [0, 8, 11] (xRe (xW (xSq (xRg (xb 2 [] [8, 71, 72] ?_))))))))))
    have t3 := t3.mono e14.b
    refine wpq_freeze 1 (by kernel_rfl) t3 (fun g15 e16 f17 => ?_)
    have d2 := d2.mono e16.b
    obtain ⟨y18, a3, hS⟩ := letJ_T hS
    refine xE (eC 0 (fun g' lr eb ln => c83 g' ⟨b_n, 0, none⟩ (⟨n.number, n.role, n.steps, n.alone, 1, cycle, y12, (⟨0, 0, (⟨0, 0⟩ : Want), ([] : List UInt8)⟩ : Heard), false, n.fresh, Z2, false, (⟨0, Z0⟩ : Result)⟩ : Node) j2 v2 none 0 none 0 (1 : Int) y8.1 l3 w4 (cells_lent' 4 b_n 0 (cNode (⟨n.number, n.role, n.steps, n.alone, 1, cycle, y12, (⟨0, 0, (⟨0, 0⟩ : Want), ([] : List UInt8)⟩ : Heard), false, n.fresh, Z2, false, (⟨0, Z0⟩ : Result)⟩ : Node) j2 v2 none 0 none 0) ln) (arr_of_buf d2 (Psi.le_b eb) (lentk 0 (by kernel_rfl) ln)) Arr.nil Arr.nil (by rw [eb]; exact f17) a3)) ?_
    rintro _ g19 _ e20 ⟨_, rfl, t1, f1, rfl, rfl, z1⟩
    refine xbo 2 [(3, 2)] [j3, none, some ⟨b2, 49, (cFrame y18 t1 f1)⟩, some ⟨b1, 75, [vi w_.base, vi w_.have_]⟩, some ⟨b_n, 126, (cNode (⟨n.number, n.role, n.steps, n.alone, 1, cycle, y12, (⟨0, 0, (⟨0, 0⟩ : Want), ([] : List UInt8)⟩ : Heard), false, n.fresh, Z2, false, (⟨0, Z0⟩ : Result)⟩ : Node) j2 v2 none 0 none 0)⟩] [8, 9] (xRe (xW ?_))
    have d2 := d2.mono e20.b
    refine wpq_freeze 0 (by kernel_rfl) d2 (fun g21 e22 f23 => ?_)
    have z1 := z1.mono e22.b
    obtain rfl := Option.some.inj hS
    exact xRetC [some 4] [(8, 2)] (e5.trans (e10.trans (e14.trans (e16.trans (e20.trans e22))))) ⟨j2, v2, none, 0, none, 0, t1, f1, by kernel_rfl, by kernel_rfl, f23, Arr.nil, Arr.nil, z1⟩ (fun _ _ h => h)

end Go.Proofs.YtnidomdebhekiaaGreat
