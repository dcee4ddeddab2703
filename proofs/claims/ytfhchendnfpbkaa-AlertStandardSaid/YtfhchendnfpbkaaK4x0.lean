/-
Walks, printed by wip/gen. Conditions: each theorem's own.
-/
import Derived.Test.YtfhchendnfpbkaaA3
namespace Go.Proofs.Ytfhchendnfpbkaa
set_option linter.unusedVariables false
set_option linter.unusedSimpArgs false
open Go.RowKit
def o39_L0 (l : List Int) (s6 : Int × Nat) : Option (Ctl (Int × Nat) (Int)) :=
  (cond (decide (((s6.2 : Nat) : Int) < (((l).length : Nat) : Int))) (grd (decide (0 ≤ (List.getD l s6.2 0))) (grd (decide (((s6.2 : Nat) : Int) + 1 ≤ 9223372036854775807)) (some (Ctl.go ((lorK .u16 s6.1 (shlK .u16 1 (List.getD l s6.2 0))), (s6.2 + 1)))))) (some (Ctl.done (s6.1))))
def o39 (l : List Int) : Option (Int) :=
  (bindO (τ := Int) (loopO (σ := Int × Nat) (ρ := Int) fuelN (o39_L0 l) (0, 0)) fun t1 => (some ((t1 : Int))))
set_option maxRecDepth 100000 in
theorem c39 (g : Gh) (l : List Int) (Al : Option Addr) (cl : Nat) (fl : Arr g.r (tyI .i64) Al cl l) {r : Int} (hS : o39 l = some r) :
    Ctr Try.prog 39 [vs Al l cl] g [] (fun v ψ o => v = Value.int .u16 r ∧ o = []) := by
  unfold o39 at hS
  refine xFn Try.f39 (Try.f39.body.getD .skip) 18 ?_
  have nfl := fl.len
  refine xSq ?_
  refine xRg ?_
  refine xB 1 [] [(0, vs Al l cl)] ?_
  refine xRe ?_
  refine wpq_then ?_
  refine xSq ?_
  refine xRg ?_
  refine xB 1 [] [(0, vs Al l cl), (3, Value.int .u16 0)] ?_
  refine xRe ?_
  refine wpq_then ?_
  refine xSq ?_
  refine xSq ?_
  refine xRg ?_
  refine xB 3 [] [(3, Value.int .u16 0), (6, vs Al l cl), (7, vi (((l).length : Nat) : Int)), (8, vi 0)] ?_
  refine xRe ?_
  refine wpq_then ?_
  refine xBindO hS (fun g own sl t1 => own = [] ∧ sl = [(3, Value.int .u16 t1)]) ?_ ?_
  · rintro g2 _ _ t1 e3 ⟨rfl, rfl⟩ hS
    refine wpq_then ?_
    refine xSq ?_
    refine xRg ?_
    refine xB 2 [] [(2, Value.int .u16 t1)] ?_
    refine xRe ?_
    refine wpq_then ?_
    have eS := (Option.some.inj hS).symm
    subst eS
    exact xRet [] [2] e3 ⟨by kernel_rfl, by kernel_rfl⟩ (fun _ _ h => h)
  · intro uu1 hS hN1
    refine xBl 0 ?_
    refine xSub [(3, Value.int .u16 0), (6, vs Al l cl), (7, vi (((l).length : Nat) : Int)), (8, vi 0)] ?_
    refine xLo hS (fun g own sl s6 => own = [] ∧ sl = [(3, Value.int .u16 s6.1), (6, vs Al l cl), (7, vi (((l).length : Nat) : Int)), (8, vi ((s6.2 : Nat) : Int))]) ⟨by kernel_rfl, by kernel_rfl⟩ ?_
    rintro g7 _ _ s6 uu6 e8 ⟨rfl, rfl⟩ hS Qr6 hN6 hD6
    unfold o39_L0 at hS
    refine xSq ?_
    refine xRg ?_
    refine xB 1 [] [(3, Value.int .u16 s6.1), (6, vs Al l cl), (7, vi (((l).length : Nat) : Int)), (8, vi ((s6.2 : Nat) : Int)), (9, vb (decide (((s6.2 : Nat) : Int) < (((l).length : Nat) : Int))))] ?_
    refine xRe ?_
    refine wpq_then ?_
    refine xSq ?_
    refine xCd (decide (((s6.2 : Nat) : Int) < (((l).length : Nat) : Int))) (fun h9 => ?_) (fun h9 => ?_)
    · have hS := cond_T h9 hS
      have h9p := of_decide_eq_true h9
      refine xSk ?_
      refine wpq_then ?_
      refine xSub [(3, Value.int .u16 s6.1), (6, vs Al l cl), (7, vi (((l).length : Nat) : Int)), (8, vi ((s6.2 : Nat) : Int))] ?_
      refine xSq ?_
      refine xBl 1 ?_
      refine xSq ?_
      refine xRg ?_
      have fl := fl.mono e8.r
      have i11 : s6.2 < (l).length := by omega
      obtain ⟨ad10, cs10, hA10, hr10, hc10⟩ := fl.at_ (get_getD (d := 0) i11)
      have hr10 : cs10 = [vi (List.getD l s6.2 0)] := hr10
      subst hr10
      refine xV (qIx s6.2 1 hA10 rfl i11) ?_
      refine xV (qLdP (Addr.add ad10 (s6.2 * 1)) 0 hc10) ?_
      refine xB 1 [] [(3, Value.int .u16 s6.1), (5, vi (List.getD l s6.2 0)), (6, vs Al l cl), (7, vi (((l).length : Nat) : Int)), (8, vi ((s6.2 : Nat) : Int))] ?_
      refine xRe ?_
      refine wpq_then ?_
      refine xRg ?_
      obtain ⟨q12, hS⟩ := grd_T hS
      have q12p := of_decide_eq_true q12
      refine xB 2 [] [(3, Value.int .u16 s6.1), (6, vs Al l cl), (7, vi (((l).length : Nat) : Int)), (8, vi ((s6.2 : Nat) : Int)), (12, Value.int .u16 s6.1), (13, vi (List.getD l s6.2 0))] ?_
      refine xV (qShl .u16 .i64 (1) ((List.getD l s6.2 0)) (by omega)) ?_
      refine xB 2 [] [(3, Value.int .u16 (lorK .u16 s6.1 (shlK .u16 1 (List.getD l s6.2 0)))), (6, vs Al l cl), (7, vi (((l).length : Nat) : Int)), (8, vi ((s6.2 : Nat) : Int))] ?_
      refine xRe ?_
      refine wpq_blockN ?_
      refine wpq_then ?_
      refine xRg ?_
      obtain ⟨q13, hS⟩ := grd_T hS
      have q13p := of_decide_eq_true q13
      refine xV (qAdd .i64 (((s6.2 : Nat) : Int)) (1) (wr64 (by omega))) ?_
      refine xB 1 [] [(3, Value.int .u16 (lorK .u16 s6.1 (shlK .u16 1 (List.getD l s6.2 0)))), (6, vs Al l cl), (7, vi (((l).length : Nat) : Int)), (8, vi (((s6.2 : Nat) : Int) + 1))] ?_
      refine xRe ?_
      refine wpq_thenN ?_
      refine xSub [(3, Value.int .u16 (lorK .u16 s6.1 (shlK .u16 1 (List.getD l s6.2 0)))), (6, vs Al l cl), (7, vi (((l).length : Nat) : Int)), (8, vi (((s6.2 : Nat) : Int) + 1))] ?_
      have eS := (Option.some.inj hS).symm
      exact hN6 _ eS _ _ _ (Gh.le.refl _) ⟨by kernel_rfl, by kernel_rfl⟩
    · have hS := cond_F h9 hS
      have h9p := of_decide_eq_false h9
      refine xEx 0 ?_
      refine wpq_thenX ?_
      refine wpq_thenX ?_
      refine wpq_blockE ?_
      refine xSub [(3, Value.int .u16 s6.1)] ?_
      have eS := (Option.some.inj hS).symm
      have eS := (hD6 _ eS).symm
      exact hN1 _ eS _ _ _ e8 ⟨by kernel_rfl, by kernel_rfl⟩

def o16 : Option ((List AlertDef)) :=
  (bindO (τ := Int) (o39 (([(2 : Int), (7 : Int)] : List Int) : List Int)) fun y2 => (bindO (τ := Int) (o39 (([(2 : Int)] : List Int) : List Int)) fun y6 => (bindO (τ := Int) (o39 (([(2 : Int)] : List Int) : List Int)) fun y10 => (bindO (τ := Int) (o39 (([(2 : Int), (7 : Int)] : List Int) : List Int)) fun y14 => (bindO (τ := Int) (o39 (([(2 : Int), (3 : Int), (4 : Int), (5 : Int), (6 : Int), (7 : Int), (8 : Int)] : List Int) : List Int)) fun y18 => (bindO (τ := Int) (o39 (([(2 : Int), (7 : Int)] : List Int) : List Int)) fun y22 => (bindO (τ := Int) (o39 (([(1 : Int), (2 : Int), (8 : Int)] : List Int) : List Int)) fun y26 => (bindO (τ := Int) (o39 (([(2 : Int), (7 : Int)] : List Int) : List Int)) fun y30 => (bindO (τ := Int) (o39 (([(2 : Int), (6 : Int), (7 : Int)] : List Int) : List Int)) fun y34 => (bindO (τ := Int) (o39 (([(2 : Int), (6 : Int), (7 : Int)] : List Int) : List Int)) fun y38 => (bindO (τ := Int) (o39 (([(2 : Int), (6 : Int), (7 : Int)] : List Int) : List Int)) fun y42 => (bindO (τ := Int) (o39 (([(2 : Int), (5 : Int), (6 : Int), (7 : Int), (8 : Int)] : List Int) : List Int)) fun y46 => (bindO (τ := Int) (o39 (([(2 : Int), (7 : Int), (8 : Int)] : List Int) : List Int)) fun y50 => (bindO (τ := Int) (o39 (([(2 : Int), (6 : Int), (7 : Int)] : List Int) : List Int)) fun y54 => (some ((([(⟨([78, 65, 86, 32, 85, 78, 85, 83, 65, 66, 76, 69] : List UInt8), 1, 0⟩ : AlertDef), (⟨([70, 85, 69, 76, 32, 76, 79, 87] : List UInt8), 1, 0⟩ : AlertDef), (⟨([67, 79, 77, 80, 85, 84, 69, 82, 83, 32, 68, 73, 83, 65, 71, 82, 69, 69] : List UInt8), 2, y2⟩ : AlertDef), (⟨([76, 65, 84, 69, 82, 65, 76, 32, 82, 69, 86, 69, 82, 83, 73, 79, 78] : List UInt8), 2, y6⟩ : AlertDef), (⟨([86, 69, 82, 84, 73, 67, 65, 76, 32, 82, 69, 86, 69, 82, 83, 73, 79, 78] : List UInt8), 2, y10⟩ : AlertDef), (⟨([65, 76, 84, 73, 84, 85, 68, 69, 32, 79, 86, 69, 82, 83, 72, 79, 84] : List UInt8), 2, y14⟩ : AlertDef), (⟨([68, 65, 84, 65, 66, 65, 83, 69, 32, 69, 88, 80, 73, 82, 69, 68] : List UInt8), 2, y18⟩ : AlertDef), (⟨([67, 79, 78, 83, 84, 82, 65, 73, 78, 84, 83, 32, 67, 79, 78, 70, 76, 73, 67, 84] : List UInt8), 2, y22⟩ : AlertDef), (⟨([68, 73, 83, 67, 79, 78, 84, 73, 78, 85, 73, 84, 89] : List UInt8), 2, y26⟩ : AlertDef), (⟨([70, 85, 69, 76, 32, 83, 72, 79, 82, 84] : List UInt8), 2, y30⟩ : AlertDef), (⟨([83, 73, 78, 71, 76, 69, 32, 67, 79, 77, 80, 85, 84, 69, 82] : List UInt8), 3, y34⟩ : AlertDef), (⟨([83, 69, 78, 83, 79, 82, 32, 69, 88, 67, 76, 85, 68, 69, 68] : List UInt8), 3, y38⟩ : AlertDef), (⟨([84, 73, 77, 69, 32, 78, 79, 84, 32, 77, 69, 84] : List UInt8), 3, y42⟩ : AlertDef), (⟨([84, 79, 80, 32, 79, 70, 32, 68, 69, 83, 67, 69, 78, 84] : List UInt8), 3, y46⟩ : AlertDef), (⟨([69, 78, 68, 32, 79, 70, 32, 82, 79, 85, 84, 69] : List UInt8), 3, y50⟩ : AlertDef), (⟨([77, 69, 77, 79, 82, 89, 32, 70, 65, 85, 76, 84] : List UInt8), 3, y54⟩ : AlertDef)] : List AlertDef) : List AlertDef)))))))))))))))))
set_option maxRecDepth 100000 in
theorem c16 (g : Gh)  {r : (List AlertDef)} (hS : o16 = some r) :
    Ctr Try.prog 16 [] g [] (fun v ψ o => ∃ (Ar_0 : Option Addr) (cr_0 : Nat) (kr_0 : Option Bk), v = vs Ar_0 r cr_0 ∧ o = [kr_0] ∧ Buf ψ tyAlertDef 34 (.slice Ar_0 (r).length cr_0) kr_0 r) := by
  unfold o16 at hS
  refine xFn Try.f16 (Try.f16.body.getD .skip) 46 ?_
  refine xSq ?_
  refine xRg ?_
  refine xB 1 [] [] ?_
  refine xRe ?_
  refine wpq_then ?_
  refine xSq ?_
  refine xRg ?_
  refine xB 2 [] [(1, Value.agg #[vt ([78, 65, 86, 32, 85, 78, 85, 83, 65, 66, 76, 69]), vy 1, Value.int .u16 0]), (2, Value.agg #[vt ([70, 85, 69, 76, 32, 76, 79, 87]), vy 1, Value.int .u16 0])] ?_
  refine xE (eBs (T := (tyI .i64)) (p := g.b) (et := 3) (xs := ([(2 : Int), (7 : Int)] : List Int)) (reps_cons (c := [vi 2]) (show (tyI .i64).rep _ _ _ from rfl) (reps_cons (c := [vi 7]) (show (tyI .i64).rep _ _ _ from rfl) reps_nil)) (by simp)) ?_
  rintro _ _ _ - ⟨A1, c1, k1, rfl, rfl, rfl, h1⟩
  obtain ⟨y2, hy2, hS⟩ := bindO_T hS
  refine xE (eC 0 (fun g' lr eb ln => c39 g' (([(2 : Int), (7 : Int)] : List Int) : List Int) A1 c1 (arr_of_buf h1 (Psi.le_b eb) (lentk 0 (by kernel_rfl) ln)) hy2)) ?_
  rintro _ g3 _ e4 ⟨_, rfl, rfl, rfl⟩
  refine xB 1 [] [(1, Value.agg #[vt ([78, 65, 86, 32, 85, 78, 85, 83, 65, 66, 76, 69]), vy 1, Value.int .u16 0]), (2, Value.agg #[vt ([70, 85, 69, 76, 32, 76, 79, 87]), vy 1, Value.int .u16 0]), (5, Value.agg #[vt ([67, 79, 77, 80, 85, 84, 69, 82, 83, 32, 68, 73, 83, 65, 71, 82, 69, 69]), vy 2, Value.int .u16 y2])] ?_
  refine xE (eBs (T := (tyI .i64)) (p := g3.b) (et := 3) (xs := ([(2 : Int)] : List Int)) (reps_cons (c := [vi 2]) (show (tyI .i64).rep _ _ _ from rfl) reps_nil) (by simp)) ?_
  rintro _ _ _ - ⟨A5, c5, k5, rfl, rfl, rfl, h5⟩
  obtain ⟨y6, hy6, hS⟩ := bindO_T hS
  refine xE (eC 0 (fun g' lr eb ln => c39 g' (([(2 : Int)] : List Int) : List Int) A5 c5 (arr_of_buf h5 (Psi.le_b eb) (lentk 0 (by kernel_rfl) ln)) hy6)) ?_
  rintro _ g7 _ e8 ⟨_, rfl, rfl, rfl⟩
  refine xB 1 [] [(1, Value.agg #[vt ([78, 65, 86, 32, 85, 78, 85, 83, 65, 66, 76, 69]), vy 1, Value.int .u16 0]), (2, Value.agg #[vt ([70, 85, 69, 76, 32, 76, 79, 87]), vy 1, Value.int .u16 0]), (5, Value.agg #[vt ([67, 79, 77, 80, 85, 84, 69, 82, 83, 32, 68, 73, 83, 65, 71, 82, 69, 69]), vy 2, Value.int .u16 y2]), (8, Value.agg #[vt ([76, 65, 84, 69, 82, 65, 76, 32, 82, 69, 86, 69, 82, 83, 73, 79, 78]), vy 2, Value.int .u16 y6])] ?_
  refine xE (eBs (T := (tyI .i64)) (p := g7.b) (et := 3) (xs := ([(2 : Int)] : List Int)) (reps_cons (c := [vi 2]) (show (tyI .i64).rep _ _ _ from rfl) reps_nil) (by simp)) ?_
  rintro _ _ _ - ⟨A9, c9, k9, rfl, rfl, rfl, h9⟩
  obtain ⟨y10, hy10, hS⟩ := bindO_T hS
  refine xE (eC 0 (fun g' lr eb ln => c39 g' (([(2 : Int)] : List Int) : List Int) A9 c9 (arr_of_buf h9 (Psi.le_b eb) (lentk 0 (by kernel_rfl) ln)) hy10)) ?_
  rintro _ g11 _ e12 ⟨_, rfl, rfl, rfl⟩
  refine xB 1 [] [(1, Value.agg #[vt ([78, 65, 86, 32, 85, 78, 85, 83, 65, 66, 76, 69]), vy 1, Value.int .u16 0]), (2, Value.agg #[vt ([70, 85, 69, 76, 32, 76, 79, 87]), vy 1, Value.int .u16 0]), (5, Value.agg #[vt ([67, 79, 77, 80, 85, 84, 69, 82, 83, 32, 68, 73, 83, 65, 71, 82, 69, 69]), vy 2, Value.int .u16 y2]), (8, Value.agg #[vt ([76, 65, 84, 69, 82, 65, 76, 32, 82, 69, 86, 69, 82, 83, 73, 79, 78]), vy 2, Value.int .u16 y6]), (11, Value.agg #[vt ([86, 69, 82, 84, 73, 67, 65, 76, 32, 82, 69, 86, 69, 82, 83, 73, 79, 78]), vy 2, Value.int .u16 y10])] ?_
  refine xE (eBs (T := (tyI .i64)) (p := g11.b) (et := 3) (xs := ([(2 : Int), (7 : Int)] : List Int)) (reps_cons (c := [vi 2]) (show (tyI .i64).rep _ _ _ from rfl) (reps_cons (c := [vi 7]) (show (tyI .i64).rep _ _ _ from rfl) reps_nil)) (by simp)) ?_
  rintro _ _ _ - ⟨A13, c13, k13, rfl, rfl, rfl, h13⟩
  obtain ⟨y14, hy14, hS⟩ := bindO_T hS
  refine xE (eC 0 (fun g' lr eb ln => c39 g' (([(2 : Int), (7 : Int)] : List Int) : List Int) A13 c13 (arr_of_buf h13 (Psi.le_b eb) (lentk 0 (by kernel_rfl) ln)) hy14)) ?_
  rintro _ g15 _ e16 ⟨_, rfl, rfl, rfl⟩
  refine xB 1 [] [(1, Value.agg #[vt ([78, 65, 86, 32, 85, 78, 85, 83, 65, 66, 76, 69]), vy 1, Value.int .u16 0]), (2, Value.agg #[vt ([70, 85, 69, 76, 32, 76, 79, 87]), vy 1, Value.int .u16 0]), (5, Value.agg #[vt ([67, 79, 77, 80, 85, 84, 69, 82, 83, 32, 68, 73, 83, 65, 71, 82, 69, 69]), vy 2, Value.int .u16 y2]), (8, Value.agg #[vt ([76, 65, 84, 69, 82, 65, 76, 32, 82, 69, 86, 69, 82, 83, 73, 79, 78]), vy 2, Value.int .u16 y6]), (11, Value.agg #[vt ([86, 69, 82, 84, 73, 67, 65, 76, 32, 82, 69, 86, 69, 82, 83, 73, 79, 78]), vy 2, Value.int .u16 y10]), (14, Value.agg #[vt ([65, 76, 84, 73, 84, 85, 68, 69, 32, 79, 86, 69, 82, 83, 72, 79, 84]), vy 2, Value.int .u16 y14])] ?_
  refine xE (eBs (T := (tyI .i64)) (p := g15.b) (et := 3) (xs := ([(2 : Int), (3 : Int), (4 : Int), (5 : Int), (6 : Int), (7 : Int), (8 : Int)] : List Int)) (reps_cons (c := [vi 2]) (show (tyI .i64).rep _ _ _ from rfl) (reps_cons (c := [vi 3]) (show (tyI .i64).rep _ _ _ from rfl) (reps_cons (c := [vi 4]) (show (tyI .i64).rep _ _ _ from rfl) (reps_cons (c := [vi 5]) (show (tyI .i64).rep _ _ _ from rfl) (reps_cons (c := [vi 6]) (show (tyI .i64).rep _ _ _ from rfl) (reps_cons (c := [vi 7]) (show (tyI .i64).rep _ _ _ from rfl) (reps_cons (c := [vi 8]) (show (tyI .i64).rep _ _ _ from rfl) reps_nil))))))) (by simp)) ?_
  rintro _ _ _ - ⟨A17, c17, k17, rfl, rfl, rfl, h17⟩
  obtain ⟨y18, hy18, hS⟩ := bindO_T hS
  refine xE (eC 0 (fun g' lr eb ln => c39 g' (([(2 : Int), (3 : Int), (4 : Int), (5 : Int), (6 : Int), (7 : Int), (8 : Int)] : List Int) : List Int) A17 c17 (arr_of_buf h17 (Psi.le_b eb) (lentk 0 (by kernel_rfl) ln)) hy18)) ?_
  rintro _ g19 _ e20 ⟨_, rfl, rfl, rfl⟩
  refine xB 1 [] [(1, Value.agg #[vt ([78, 65, 86, 32, 85, 78, 85, 83, 65, 66, 76, 69]), vy 1, Value.int .u16 0]), (2, Value.agg #[vt ([70, 85, 69, 76, 32, 76, 79, 87]), vy 1, Value.int .u16 0]), (5, Value.agg #[vt ([67, 79, 77, 80, 85, 84, 69, 82, 83, 32, 68, 73, 83, 65, 71, 82, 69, 69]), vy 2, Value.int .u16 y2]), (8, Value.agg #[vt ([76, 65, 84, 69, 82, 65, 76, 32, 82, 69, 86, 69, 82, 83, 73, 79, 78]), vy 2, Value.int .u16 y6]), (11, Value.agg #[vt ([86, 69, 82, 84, 73, 67, 65, 76, 32, 82, 69, 86, 69, 82, 83, 73, 79, 78]), vy 2, Value.int .u16 y10]), (14, Value.agg #[vt ([65, 76, 84, 73, 84, 85, 68, 69, 32, 79, 86, 69, 82, 83, 72, 79, 84]), vy 2, Value.int .u16 y14]), (17, Value.agg #[vt ([68, 65, 84, 65, 66, 65, 83, 69, 32, 69, 88, 80, 73, 82, 69, 68]), vy 2, Value.int .u16 y18])] ?_
  refine xE (eBs (T := (tyI .i64)) (p := g19.b) (et := 3) (xs := ([(2 : Int), (7 : Int)] : List Int)) (reps_cons (c := [vi 2]) (show (tyI .i64).rep _ _ _ from rfl) (reps_cons (c := [vi 7]) (show (tyI .i64).rep _ _ _ from rfl) reps_nil)) (by simp)) ?_
  rintro _ _ _ - ⟨A21, c21, k21, rfl, rfl, rfl, h21⟩
  obtain ⟨y22, hy22, hS⟩ := bindO_T hS
  refine xE (eC 0 (fun g' lr eb ln => c39 g' (([(2 : Int), (7 : Int)] : List Int) : List Int) A21 c21 (arr_of_buf h21 (Psi.le_b eb) (lentk 0 (by kernel_rfl) ln)) hy22)) ?_
  rintro _ g23 _ e24 ⟨_, rfl, rfl, rfl⟩
  refine xB 1 [] [(1, Value.agg #[vt ([78, 65, 86, 32, 85, 78, 85, 83, 65, 66, 76, 69]), vy 1, Value.int .u16 0]), (2, Value.agg #[vt ([70, 85, 69, 76, 32, 76, 79, 87]), vy 1, Value.int .u16 0]), (5, Value.agg #[vt ([67, 79, 77, 80, 85, 84, 69, 82, 83, 32, 68, 73, 83, 65, 71, 82, 69, 69]), vy 2, Value.int .u16 y2]), (8, Value.agg #[vt ([76, 65, 84, 69, 82, 65, 76, 32, 82, 69, 86, 69, 82, 83, 73, 79, 78]), vy 2, Value.int .u16 y6]), (11, Value.agg #[vt ([86, 69, 82, 84, 73, 67, 65, 76, 32, 82, 69, 86, 69, 82, 83, 73, 79, 78]), vy 2, Value.int .u16 y10]), (14, Value.agg #[vt ([65, 76, 84, 73, 84, 85, 68, 69, 32, 79, 86, 69, 82, 83, 72, 79, 84]), vy 2, Value.int .u16 y14]), (17, Value.agg #[vt ([68, 65, 84, 65, 66, 65, 83, 69, 32, 69, 88, 80, 73, 82, 69, 68]), vy 2, Value.int .u16 y18]), (20, Value.agg #[vt ([67, 79, 78, 83, 84, 82, 65, 73, 78, 84, 83, 32, 67, 79, 78, 70, 76, 73, 67, 84]), vy 2, Value.int .u16 y22])] ?_
  refine xE (eBs (T := (tyI .i64)) (p := g23.b) (et := 3) (xs := ([(1 : Int), (2 : Int), (8 : Int)] : List Int)) (reps_cons (c := [vi 1]) (show (tyI .i64).rep _ _ _ from rfl) (reps_cons (c := [vi 2]) (show (tyI .i64).rep _ _ _ from rfl) (reps_cons (c := [vi 8]) (show (tyI .i64).rep _ _ _ from rfl) reps_nil))) (by simp)) ?_
  rintro _ _ _ - ⟨A25, c25, k25, rfl, rfl, rfl, h25⟩
  obtain ⟨y26, hy26, hS⟩ := bindO_T hS
  refine xE (eC 0 (fun g' lr eb ln => c39 g' (([(1 : Int), (2 : Int), (8 : Int)] : List Int) : List Int) A25 c25 (arr_of_buf h25 (Psi.le_b eb) (lentk 0 (by kernel_rfl) ln)) hy26)) ?_
  rintro _ g27 _ e28 ⟨_, rfl, rfl, rfl⟩
  refine xB 1 [] [(1, Value.agg #[vt ([78, 65, 86, 32, 85, 78, 85, 83, 65, 66, 76, 69]), vy 1, Value.int .u16 0]), (2, Value.agg #[vt ([70, 85, 69, 76, 32, 76, 79, 87]), vy 1, Value.int .u16 0]), (5, Value.agg #[vt ([67, 79, 77, 80, 85, 84, 69, 82, 83, 32, 68, 73, 83, 65, 71, 82, 69, 69]), vy 2, Value.int .u16 y2]), (8, Value.agg #[vt ([76, 65, 84, 69, 82, 65, 76, 32, 82, 69, 86, 69, 82, 83, 73, 79, 78]), vy 2, Value.int .u16 y6]), (11, Value.agg #[vt ([86, 69, 82, 84, 73, 67, 65, 76, 32, 82, 69, 86, 69, 82, 83, 73, 79, 78]), vy 2, Value.int .u16 y10]), (14, Value.agg #[vt ([65, 76, 84, 73, 84, 85, 68, 69, 32, 79, 86, 69, 82, 83, 72, 79, 84]), vy 2, Value.int .u16 y14]), (17, Value.agg #[vt ([68, 65, 84, 65, 66, 65, 83, 69, 32, 69, 88, 80, 73, 82, 69, 68]), vy 2, Value.int .u16 y18]), (20, Value.agg #[vt ([67, 79, 78, 83, 84, 82, 65, 73, 78, 84, 83, 32, 67, 79, 78, 70, 76, 73, 67, 84]), vy 2, Value.int .u16 y22]), (23, Value.agg #[vt ([68, 73, 83, 67, 79, 78, 84, 73, 78, 85, 73, 84, 89]), vy 2, Value.int .u16 y26])] ?_
  refine xE (eBs (T := (tyI .i64)) (p := g27.b) (et := 3) (xs := ([(2 : Int), (7 : Int)] : List Int)) (reps_cons (c := [vi 2]) (show (tyI .i64).rep _ _ _ from rfl) (reps_cons (c := [vi 7]) (show (tyI .i64).rep _ _ _ from rfl) reps_nil)) (by simp)) ?_
  rintro _ _ _ - ⟨A29, c29, k29, rfl, rfl, rfl, h29⟩
  obtain ⟨y30, hy30, hS⟩ := bindO_T hS
  refine xE (eC 0 (fun g' lr eb ln => c39 g' (([(2 : Int), (7 : Int)] : List Int) : List Int) A29 c29 (arr_of_buf h29 (Psi.le_b eb) (lentk 0 (by kernel_rfl) ln)) hy30)) ?_
  rintro _ g31 _ e32 ⟨_, rfl, rfl, rfl⟩
  refine xB 1 [] [(1, Value.agg #[vt ([78, 65, 86, 32, 85, 78, 85, 83, 65, 66, 76, 69]), vy 1, Value.int .u16 0]), (2, Value.agg #[vt ([70, 85, 69, 76, 32, 76, 79, 87]), vy 1, Value.int .u16 0]), (5, Value.agg #[vt ([67, 79, 77, 80, 85, 84, 69, 82, 83, 32, 68, 73, 83, 65, 71, 82, 69, 69]), vy 2, Value.int .u16 y2]), (8, Value.agg #[vt ([76, 65, 84, 69, 82, 65, 76, 32, 82, 69, 86, 69, 82, 83, 73, 79, 78]), vy 2, Value.int .u16 y6]), (11, Value.agg #[vt ([86, 69, 82, 84, 73, 67, 65, 76, 32, 82, 69, 86, 69, 82, 83, 73, 79, 78]), vy 2, Value.int .u16 y10]), (14, Value.agg #[vt ([65, 76, 84, 73, 84, 85, 68, 69, 32, 79, 86, 69, 82, 83, 72, 79, 84]), vy 2, Value.int .u16 y14]), (17, Value.agg #[vt ([68, 65, 84, 65, 66, 65, 83, 69, 32, 69, 88, 80, 73, 82, 69, 68]), vy 2, Value.int .u16 y18]), (20, Value.agg #[vt ([67, 79, 78, 83, 84, 82, 65, 73, 78, 84, 83, 32, 67, 79, 78, 70, 76, 73, 67, 84]), vy 2, Value.int .u16 y22]), (23, Value.agg #[vt ([68, 73, 83, 67, 79, 78, 84, 73, 78, 85, 73, 84, 89]), vy 2, Value.int .u16 y26]), (26, Value.agg #[vt ([70, 85, 69, 76, 32, 83, 72, 79, 82, 84]), vy 2, Value.int .u16 y30])] ?_
  refine xE (eBs (T := (tyI .i64)) (p := g31.b) (et := 3) (xs := ([(2 : Int), (6 : Int), (7 : Int)] : List Int)) (reps_cons (c := [vi 2]) (show (tyI .i64).rep _ _ _ from rfl) (reps_cons (c := [vi 6]) (show (tyI .i64).rep _ _ _ from rfl) (reps_cons (c := [vi 7]) (show (tyI .i64).rep _ _ _ from rfl) reps_nil))) (by simp)) ?_
  rintro _ _ _ - ⟨A33, c33, k33, rfl, rfl, rfl, h33⟩
  obtain ⟨y34, hy34, hS⟩ := bindO_T hS
  refine xE (eC 0 (fun g' lr eb ln => c39 g' (([(2 : Int), (6 : Int), (7 : Int)] : List Int) : List Int) A33 c33 (arr_of_buf h33 (Psi.le_b eb) (lentk 0 (by kernel_rfl) ln)) hy34)) ?_
  rintro _ g35 _ e36 ⟨_, rfl, rfl, rfl⟩
  refine xB 1 [] [(1, Value.agg #[vt ([78, 65, 86, 32, 85, 78, 85, 83, 65, 66, 76, 69]), vy 1, Value.int .u16 0]), (2, Value.agg #[vt ([70, 85, 69, 76, 32, 76, 79, 87]), vy 1, Value.int .u16 0]), (5, Value.agg #[vt ([67, 79, 77, 80, 85, 84, 69, 82, 83, 32, 68, 73, 83, 65, 71, 82, 69, 69]), vy 2, Value.int .u16 y2]), (8, Value.agg #[vt ([76, 65, 84, 69, 82, 65, 76, 32, 82, 69, 86, 69, 82, 83, 73, 79, 78]), vy 2, Value.int .u16 y6]), (11, Value.agg #[vt ([86, 69, 82, 84, 73, 67, 65, 76, 32, 82, 69, 86, 69, 82, 83, 73, 79, 78]), vy 2, Value.int .u16 y10]), (14, Value.agg #[vt ([65, 76, 84, 73, 84, 85, 68, 69, 32, 79, 86, 69, 82, 83, 72, 79, 84]), vy 2, Value.int .u16 y14]), (17, Value.agg #[vt ([68, 65, 84, 65, 66, 65, 83, 69, 32, 69, 88, 80, 73, 82, 69, 68]), vy 2, Value.int .u16 y18]), (20, Value.agg #[vt ([67, 79, 78, 83, 84, 82, 65, 73, 78, 84, 83, 32, 67, 79, 78, 70, 76, 73, 67, 84]), vy 2, Value.int .u16 y22]), (23, Value.agg #[vt ([68, 73, 83, 67, 79, 78, 84, 73, 78, 85, 73, 84, 89]), vy 2, Value.int .u16 y26]), (26, Value.agg #[vt ([70, 85, 69, 76, 32, 83, 72, 79, 82, 84]), vy 2, Value.int .u16 y30]), (29, Value.agg #[vt ([83, 73, 78, 71, 76, 69, 32, 67, 79, 77, 80, 85, 84, 69, 82]), vy 3, Value.int .u16 y34])] ?_
  refine xE (eBs (T := (tyI .i64)) (p := g35.b) (et := 3) (xs := ([(2 : Int), (6 : Int), (7 : Int)] : List Int)) (reps_cons (c := [vi 2]) (show (tyI .i64).rep _ _ _ from rfl) (reps_cons (c := [vi 6]) (show (tyI .i64).rep _ _ _ from rfl) (reps_cons (c := [vi 7]) (show (tyI .i64).rep _ _ _ from rfl) reps_nil))) (by simp)) ?_
  rintro _ _ _ - ⟨A37, c37, k37, rfl, rfl, rfl, h37⟩
  obtain ⟨y38, hy38, hS⟩ := bindO_T hS
  refine xE (eC 0 (fun g' lr eb ln => c39 g' (([(2 : Int), (6 : Int), (7 : Int)] : List Int) : List Int) A37 c37 (arr_of_buf h37 (Psi.le_b eb) (lentk 0 (by kernel_rfl) ln)) hy38)) ?_
  rintro _ g39 _ e40 ⟨_, rfl, rfl, rfl⟩
  refine xB 1 [] [(1, Value.agg #[vt ([78, 65, 86, 32, 85, 78, 85, 83, 65, 66, 76, 69]), vy 1, Value.int .u16 0]), (2, Value.agg #[vt ([70, 85, 69, 76, 32, 76, 79, 87]), vy 1, Value.int .u16 0]), (5, Value.agg #[vt ([67, 79, 77, 80, 85, 84, 69, 82, 83, 32, 68, 73, 83, 65, 71, 82, 69, 69]), vy 2, Value.int .u16 y2]), (8, Value.agg #[vt ([76, 65, 84, 69, 82, 65, 76, 32, 82, 69, 86, 69, 82, 83, 73, 79, 78]), vy 2, Value.int .u16 y6]), (11, Value.agg #[vt ([86, 69, 82, 84, 73, 67, 65, 76, 32, 82, 69, 86, 69, 82, 83, 73, 79, 78]), vy 2, Value.int .u16 y10]), (14, Value.agg #[vt ([65, 76, 84, 73, 84, 85, 68, 69, 32, 79, 86, 69, 82, 83, 72, 79, 84]), vy 2, Value.int .u16 y14]), (17, Value.agg #[vt ([68, 65, 84, 65, 66, 65, 83, 69, 32, 69, 88, 80, 73, 82, 69, 68]), vy 2, Value.int .u16 y18]), (20, Value.agg #[vt ([67, 79, 78, 83, 84, 82, 65, 73, 78, 84, 83, 32, 67, 79, 78, 70, 76, 73, 67, 84]), vy 2, Value.int .u16 y22]), (23, Value.agg #[vt ([68, 73, 83, 67, 79, 78, 84, 73, 78, 85, 73, 84, 89]), vy 2, Value.int .u16 y26]), (26, Value.agg #[vt ([70, 85, 69, 76, 32, 83, 72, 79, 82, 84]), vy 2, Value.int .u16 y30]), (29, Value.agg #[vt ([83, 73, 78, 71, 76, 69, 32, 67, 79, 77, 80, 85, 84, 69, 82]), vy 3, Value.int .u16 y34]), (32, Value.agg #[vt ([83, 69, 78, 83, 79, 82, 32, 69, 88, 67, 76, 85, 68, 69, 68]), vy 3, Value.int .u16 y38])] ?_
  refine xE (eBs (T := (tyI .i64)) (p := g39.b) (et := 3) (xs := ([(2 : Int), (6 : Int), (7 : Int)] : List Int)) (reps_cons (c := [vi 2]) (show (tyI .i64).rep _ _ _ from rfl) (reps_cons (c := [vi 6]) (show (tyI .i64).rep _ _ _ from rfl) (reps_cons (c := [vi 7]) (show (tyI .i64).rep _ _ _ from rfl) reps_nil))) (by simp)) ?_
  rintro _ _ _ - ⟨A41, c41, k41, rfl, rfl, rfl, h41⟩
  obtain ⟨y42, hy42, hS⟩ := bindO_T hS
  refine xE (eC 0 (fun g' lr eb ln => c39 g' (([(2 : Int), (6 : Int), (7 : Int)] : List Int) : List Int) A41 c41 (arr_of_buf h41 (Psi.le_b eb) (lentk 0 (by kernel_rfl) ln)) hy42)) ?_
  rintro _ g43 _ e44 ⟨_, rfl, rfl, rfl⟩
  refine xB 1 [] [(1, Value.agg #[vt ([78, 65, 86, 32, 85, 78, 85, 83, 65, 66, 76, 69]), vy 1, Value.int .u16 0]), (2, Value.agg #[vt ([70, 85, 69, 76, 32, 76, 79, 87]), vy 1, Value.int .u16 0]), (5, Value.agg #[vt ([67, 79, 77, 80, 85, 84, 69, 82, 83, 32, 68, 73, 83, 65, 71, 82, 69, 69]), vy 2, Value.int .u16 y2]), (8, Value.agg #[vt ([76, 65, 84, 69, 82, 65, 76, 32, 82, 69, 86, 69, 82, 83, 73, 79, 78]), vy 2, Value.int .u16 y6]), (11, Value.agg #[vt ([86, 69, 82, 84, 73, 67, 65, 76, 32, 82, 69, 86, 69, 82, 83, 73, 79, 78]), vy 2, Value.int .u16 y10]), (14, Value.agg #[vt ([65, 76, 84, 73, 84, 85, 68, 69, 32, 79, 86, 69, 82, 83, 72, 79, 84]), vy 2, Value.int .u16 y14]), (17, Value.agg #[vt ([68, 65, 84, 65, 66, 65, 83, 69, 32, 69, 88, 80, 73, 82, 69, 68]), vy 2, Value.int .u16 y18]), (20, Value.agg #[vt ([67, 79, 78, 83, 84, 82, 65, 73, 78, 84, 83, 32, 67, 79, 78, 70, 76, 73, 67, 84]), vy 2, Value.int .u16 y22]), (23, Value.agg #[vt ([68, 73, 83, 67, 79, 78, 84, 73, 78, 85, 73, 84, 89]), vy 2, Value.int .u16 y26]), (26, Value.agg #[vt ([70, 85, 69, 76, 32, 83, 72, 79, 82, 84]), vy 2, Value.int .u16 y30]), (29, Value.agg #[vt ([83, 73, 78, 71, 76, 69, 32, 67, 79, 77, 80, 85, 84, 69, 82]), vy 3, Value.int .u16 y34]), (32, Value.agg #[vt ([83, 69, 78, 83, 79, 82, 32, 69, 88, 67, 76, 85, 68, 69, 68]), vy 3, Value.int .u16 y38]), (35, Value.agg #[vt ([84, 73, 77, 69, 32, 78, 79, 84, 32, 77, 69, 84]), vy 3, Value.int .u16 y42])] ?_
  refine xE (eBs (T := (tyI .i64)) (p := g43.b) (et := 3) (xs := ([(2 : Int), (5 : Int), (6 : Int), (7 : Int), (8 : Int)] : List Int)) (reps_cons (c := [vi 2]) (show (tyI .i64).rep _ _ _ from rfl) (reps_cons (c := [vi 5]) (show (tyI .i64).rep _ _ _ from rfl) (reps_cons (c := [vi 6]) (show (tyI .i64).rep _ _ _ from rfl) (reps_cons (c := [vi 7]) (show (tyI .i64).rep _ _ _ from rfl) (reps_cons (c := [vi 8]) (show (tyI .i64).rep _ _ _ from rfl) reps_nil))))) (by simp)) ?_
  rintro _ _ _ - ⟨A45, c45, k45, rfl, rfl, rfl, h45⟩
  obtain ⟨y46, hy46, hS⟩ := bindO_T hS
  refine xE (eC 0 (fun g' lr eb ln => c39 g' (([(2 : Int), (5 : Int), (6 : Int), (7 : Int), (8 : Int)] : List Int) : List Int) A45 c45 (arr_of_buf h45 (Psi.le_b eb) (lentk 0 (by kernel_rfl) ln)) hy46)) ?_
  rintro _ g47 _ e48 ⟨_, rfl, rfl, rfl⟩
  refine xB 1 [] [(1, Value.agg #[vt ([78, 65, 86, 32, 85, 78, 85, 83, 65, 66, 76, 69]), vy 1, Value.int .u16 0]), (2, Value.agg #[vt ([70, 85, 69, 76, 32, 76, 79, 87]), vy 1, Value.int .u16 0]), (5, Value.agg #[vt ([67, 79, 77, 80, 85, 84, 69, 82, 83, 32, 68, 73, 83, 65, 71, 82, 69, 69]), vy 2, Value.int .u16 y2]), (8, Value.agg #[vt ([76, 65, 84, 69, 82, 65, 76, 32, 82, 69, 86, 69, 82, 83, 73, 79, 78]), vy 2, Value.int .u16 y6]), (11, Value.agg #[vt ([86, 69, 82, 84, 73, 67, 65, 76, 32, 82, 69, 86, 69, 82, 83, 73, 79, 78]), vy 2, Value.int .u16 y10]), (14, Value.agg #[vt ([65, 76, 84, 73, 84, 85, 68, 69, 32, 79, 86, 69, 82, 83, 72, 79, 84]), vy 2, Value.int .u16 y14]), (17, Value.agg #[vt ([68, 65, 84, 65, 66, 65, 83, 69, 32, 69, 88, 80, 73, 82, 69, 68]), vy 2, Value.int .u16 y18]), (20, Value.agg #[vt ([67, 79, 78, 83, 84, 82, 65, 73, 78, 84, 83, 32, 67, 79, 78, 70, 76, 73, 67, 84]), vy 2, Value.int .u16 y22]), (23, Value.agg #[vt ([68, 73, 83, 67, 79, 78, 84, 73, 78, 85, 73, 84, 89]), vy 2, Value.int .u16 y26]), (26, Value.agg #[vt ([70, 85, 69, 76, 32, 83, 72, 79, 82, 84]), vy 2, Value.int .u16 y30]), (29, Value.agg #[vt ([83, 73, 78, 71, 76, 69, 32, 67, 79, 77, 80, 85, 84, 69, 82]), vy 3, Value.int .u16 y34]), (32, Value.agg #[vt ([83, 69, 78, 83, 79, 82, 32, 69, 88, 67, 76, 85, 68, 69, 68]), vy 3, Value.int .u16 y38]), (35, Value.agg #[vt ([84, 73, 77, 69, 32, 78, 79, 84, 32, 77, 69, 84]), vy 3, Value.int .u16 y42]), (38, Value.agg #[vt ([84, 79, 80, 32, 79, 70, 32, 68, 69, 83, 67, 69, 78, 84]), vy 3, Value.int .u16 y46])] ?_
  refine xE (eBs (T := (tyI .i64)) (p := g47.b) (et := 3) (xs := ([(2 : Int), (7 : Int), (8 : Int)] : List Int)) (reps_cons (c := [vi 2]) (show (tyI .i64).rep _ _ _ from rfl) (reps_cons (c := [vi 7]) (show (tyI .i64).rep _ _ _ from rfl) (reps_cons (c := [vi 8]) (show (tyI .i64).rep _ _ _ from rfl) reps_nil))) (by simp)) ?_
  rintro _ _ _ - ⟨A49, c49, k49, rfl, rfl, rfl, h49⟩
  obtain ⟨y50, hy50, hS⟩ := bindO_T hS
  refine xE (eC 0 (fun g' lr eb ln => c39 g' (([(2 : Int), (7 : Int), (8 : Int)] : List Int) : List Int) A49 c49 (arr_of_buf h49 (Psi.le_b eb) (lentk 0 (by kernel_rfl) ln)) hy50)) ?_
  rintro _ g51 _ e52 ⟨_, rfl, rfl, rfl⟩
  refine xB 1 [] [(1, Value.agg #[vt ([78, 65, 86, 32, 85, 78, 85, 83, 65, 66, 76, 69]), vy 1, Value.int .u16 0]), (2, Value.agg #[vt ([70, 85, 69, 76, 32, 76, 79, 87]), vy 1, Value.int .u16 0]), (5, Value.agg #[vt ([67, 79, 77, 80, 85, 84, 69, 82, 83, 32, 68, 73, 83, 65, 71, 82, 69, 69]), vy 2, Value.int .u16 y2]), (8, Value.agg #[vt ([76, 65, 84, 69, 82, 65, 76, 32, 82, 69, 86, 69, 82, 83, 73, 79, 78]), vy 2, Value.int .u16 y6]), (11, Value.agg #[vt ([86, 69, 82, 84, 73, 67, 65, 76, 32, 82, 69, 86, 69, 82, 83, 73, 79, 78]), vy 2, Value.int .u16 y10]), (14, Value.agg #[vt ([65, 76, 84, 73, 84, 85, 68, 69, 32, 79, 86, 69, 82, 83, 72, 79, 84]), vy 2, Value.int .u16 y14]), (17, Value.agg #[vt ([68, 65, 84, 65, 66, 65, 83, 69, 32, 69, 88, 80, 73, 82, 69, 68]), vy 2, Value.int .u16 y18]), (20, Value.agg #[vt ([67, 79, 78, 83, 84, 82, 65, 73, 78, 84, 83, 32, 67, 79, 78, 70, 76, 73, 67, 84]), vy 2, Value.int .u16 y22]), (23, Value.agg #[vt ([68, 73, 83, 67, 79, 78, 84, 73, 78, 85, 73, 84, 89]), vy 2, Value.int .u16 y26]), (26, Value.agg #[vt ([70, 85, 69, 76, 32, 83, 72, 79, 82, 84]), vy 2, Value.int .u16 y30]), (29, Value.agg #[vt ([83, 73, 78, 71, 76, 69, 32, 67, 79, 77, 80, 85, 84, 69, 82]), vy 3, Value.int .u16 y34]), (32, Value.agg #[vt ([83, 69, 78, 83, 79, 82, 32, 69, 88, 67, 76, 85, 68, 69, 68]), vy 3, Value.int .u16 y38]), (35, Value.agg #[vt ([84, 73, 77, 69, 32, 78, 79, 84, 32, 77, 69, 84]), vy 3, Value.int .u16 y42]), (38, Value.agg #[vt ([84, 79, 80, 32, 79, 70, 32, 68, 69, 83, 67, 69, 78, 84]), vy 3, Value.int .u16 y46]), (41, Value.agg #[vt ([69, 78, 68, 32, 79, 70, 32, 82, 79, 85, 84, 69]), vy 3, Value.int .u16 y50])] ?_
  refine xE (eBs (T := (tyI .i64)) (p := g51.b) (et := 3) (xs := ([(2 : Int), (6 : Int), (7 : Int)] : List Int)) (reps_cons (c := [vi 2]) (show (tyI .i64).rep _ _ _ from rfl) (reps_cons (c := [vi 6]) (show (tyI .i64).rep _ _ _ from rfl) (reps_cons (c := [vi 7]) (show (tyI .i64).rep _ _ _ from rfl) reps_nil))) (by simp)) ?_
  rintro _ _ _ - ⟨A53, c53, k53, rfl, rfl, rfl, h53⟩
  obtain ⟨y54, hy54, hS⟩ := bindO_T hS
  refine xE (eC 0 (fun g' lr eb ln => c39 g' (([(2 : Int), (6 : Int), (7 : Int)] : List Int) : List Int) A53 c53 (arr_of_buf h53 (Psi.le_b eb) (lentk 0 (by kernel_rfl) ln)) hy54)) ?_
  rintro _ g55 _ e56 ⟨_, rfl, rfl, rfl⟩
  refine xB 1 [] [(1, Value.agg #[vt ([78, 65, 86, 32, 85, 78, 85, 83, 65, 66, 76, 69]), vy 1, Value.int .u16 0]), (2, Value.agg #[vt ([70, 85, 69, 76, 32, 76, 79, 87]), vy 1, Value.int .u16 0]), (5, Value.agg #[vt ([67, 79, 77, 80, 85, 84, 69, 82, 83, 32, 68, 73, 83, 65, 71, 82, 69, 69]), vy 2, Value.int .u16 y2]), (8, Value.agg #[vt ([76, 65, 84, 69, 82, 65, 76, 32, 82, 69, 86, 69, 82, 83, 73, 79, 78]), vy 2, Value.int .u16 y6]), (11, Value.agg #[vt ([86, 69, 82, 84, 73, 67, 65, 76, 32, 82, 69, 86, 69, 82, 83, 73, 79, 78]), vy 2, Value.int .u16 y10]), (14, Value.agg #[vt ([65, 76, 84, 73, 84, 85, 68, 69, 32, 79, 86, 69, 82, 83, 72, 79, 84]), vy 2, Value.int .u16 y14]), (17, Value.agg #[vt ([68, 65, 84, 65, 66, 65, 83, 69, 32, 69, 88, 80, 73, 82, 69, 68]), vy 2, Value.int .u16 y18]), (20, Value.agg #[vt ([67, 79, 78, 83, 84, 82, 65, 73, 78, 84, 83, 32, 67, 79, 78, 70, 76, 73, 67, 84]), vy 2, Value.int .u16 y22]), (23, Value.agg #[vt ([68, 73, 83, 67, 79, 78, 84, 73, 78, 85, 73, 84, 89]), vy 2, Value.int .u16 y26]), (26, Value.agg #[vt ([70, 85, 69, 76, 32, 83, 72, 79, 82, 84]), vy 2, Value.int .u16 y30]), (29, Value.agg #[vt ([83, 73, 78, 71, 76, 69, 32, 67, 79, 77, 80, 85, 84, 69, 82]), vy 3, Value.int .u16 y34]), (32, Value.agg #[vt ([83, 69, 78, 83, 79, 82, 32, 69, 88, 67, 76, 85, 68, 69, 68]), vy 3, Value.int .u16 y38]), (35, Value.agg #[vt ([84, 73, 77, 69, 32, 78, 79, 84, 32, 77, 69, 84]), vy 3, Value.int .u16 y42]), (38, Value.agg #[vt ([84, 79, 80, 32, 79, 70, 32, 68, 69, 83, 67, 69, 78, 84]), vy 3, Value.int .u16 y46]), (41, Value.agg #[vt ([69, 78, 68, 32, 79, 70, 32, 82, 79, 85, 84, 69]), vy 3, Value.int .u16 y50]), (44, Value.agg #[vt ([77, 69, 77, 79, 82, 89, 32, 70, 65, 85, 76, 84]), vy 3, Value.int .u16 y54])] ?_
  refine xE (eBs (T := tyAlertDef) (p := g55.b) (et := 34) (xs := ([(⟨([78, 65, 86, 32, 85, 78, 85, 83, 65, 66, 76, 69] : List UInt8), 1, 0⟩ : AlertDef), (⟨([70, 85, 69, 76, 32, 76, 79, 87] : List UInt8), 1, 0⟩ : AlertDef), (⟨([67, 79, 77, 80, 85, 84, 69, 82, 83, 32, 68, 73, 83, 65, 71, 82, 69, 69] : List UInt8), 2, y2⟩ : AlertDef), (⟨([76, 65, 84, 69, 82, 65, 76, 32, 82, 69, 86, 69, 82, 83, 73, 79, 78] : List UInt8), 2, y6⟩ : AlertDef), (⟨([86, 69, 82, 84, 73, 67, 65, 76, 32, 82, 69, 86, 69, 82, 83, 73, 79, 78] : List UInt8), 2, y10⟩ : AlertDef), (⟨([65, 76, 84, 73, 84, 85, 68, 69, 32, 79, 86, 69, 82, 83, 72, 79, 84] : List UInt8), 2, y14⟩ : AlertDef), (⟨([68, 65, 84, 65, 66, 65, 83, 69, 32, 69, 88, 80, 73, 82, 69, 68] : List UInt8), 2, y18⟩ : AlertDef), (⟨([67, 79, 78, 83, 84, 82, 65, 73, 78, 84, 83, 32, 67, 79, 78, 70, 76, 73, 67, 84] : List UInt8), 2, y22⟩ : AlertDef), (⟨([68, 73, 83, 67, 79, 78, 84, 73, 78, 85, 73, 84, 89] : List UInt8), 2, y26⟩ : AlertDef), (⟨([70, 85, 69, 76, 32, 83, 72, 79, 82, 84] : List UInt8), 2, y30⟩ : AlertDef), (⟨([83, 73, 78, 71, 76, 69, 32, 67, 79, 77, 80, 85, 84, 69, 82] : List UInt8), 3, y34⟩ : AlertDef), (⟨([83, 69, 78, 83, 79, 82, 32, 69, 88, 67, 76, 85, 68, 69, 68] : List UInt8), 3, y38⟩ : AlertDef), (⟨([84, 73, 77, 69, 32, 78, 79, 84, 32, 77, 69, 84] : List UInt8), 3, y42⟩ : AlertDef), (⟨([84, 79, 80, 32, 79, 70, 32, 68, 69, 83, 67, 69, 78, 84] : List UInt8), 3, y46⟩ : AlertDef), (⟨([69, 78, 68, 32, 79, 70, 32, 82, 79, 85, 84, 69] : List UInt8), 3, y50⟩ : AlertDef), (⟨([77, 69, 77, 79, 82, 89, 32, 70, 65, 85, 76, 84] : List UInt8), 3, y54⟩ : AlertDef)] : List AlertDef)) (reps_cons (c := [vt ([78, 65, 86, 32, 85, 78, 85, 83, 65, 66, 76, 69]), vy 1, Value.int .u16 0]) (show tyAlertDef.rep _ _ (⟨([78, 65, 86, 32, 85, 78, 85, 83, 65, 66, 76, 69] : List UInt8), 1, 0⟩ : AlertDef) from rfl) (reps_cons (c := [vt ([70, 85, 69, 76, 32, 76, 79, 87]), vy 1, Value.int .u16 0]) (show tyAlertDef.rep _ _ (⟨([70, 85, 69, 76, 32, 76, 79, 87] : List UInt8), 1, 0⟩ : AlertDef) from rfl) (reps_cons (c := [vt ([67, 79, 77, 80, 85, 84, 69, 82, 83, 32, 68, 73, 83, 65, 71, 82, 69, 69]), vy 2, Value.int .u16 y2]) (show tyAlertDef.rep _ _ (⟨([67, 79, 77, 80, 85, 84, 69, 82, 83, 32, 68, 73, 83, 65, 71, 82, 69, 69] : List UInt8), 2, y2⟩ : AlertDef) from rfl) (reps_cons (c := [vt ([76, 65, 84, 69, 82, 65, 76, 32, 82, 69, 86, 69, 82, 83, 73, 79, 78]), vy 2, Value.int .u16 y6]) (show tyAlertDef.rep _ _ (⟨([76, 65, 84, 69, 82, 65, 76, 32, 82, 69, 86, 69, 82, 83, 73, 79, 78] : List UInt8), 2, y6⟩ : AlertDef) from rfl) (reps_cons (c := [vt ([86, 69, 82, 84, 73, 67, 65, 76, 32, 82, 69, 86, 69, 82, 83, 73, 79, 78]), vy 2, Value.int .u16 y10]) (show tyAlertDef.rep _ _ (⟨([86, 69, 82, 84, 73, 67, 65, 76, 32, 82, 69, 86, 69, 82, 83, 73, 79, 78] : List UInt8), 2, y10⟩ : AlertDef) from rfl) (reps_cons (c := [vt ([65, 76, 84, 73, 84, 85, 68, 69, 32, 79, 86, 69, 82, 83, 72, 79, 84]), vy 2, Value.int .u16 y14]) (show tyAlertDef.rep _ _ (⟨([65, 76, 84, 73, 84, 85, 68, 69, 32, 79, 86, 69, 82, 83, 72, 79, 84] : List UInt8), 2, y14⟩ : AlertDef) from rfl) (reps_cons (c := [vt ([68, 65, 84, 65, 66, 65, 83, 69, 32, 69, 88, 80, 73, 82, 69, 68]), vy 2, Value.int .u16 y18]) (show tyAlertDef.rep _ _ (⟨([68, 65, 84, 65, 66, 65, 83, 69, 32, 69, 88, 80, 73, 82, 69, 68] : List UInt8), 2, y18⟩ : AlertDef) from rfl) (reps_cons (c := [vt ([67, 79, 78, 83, 84, 82, 65, 73, 78, 84, 83, 32, 67, 79, 78, 70, 76, 73, 67, 84]), vy 2, Value.int .u16 y22]) (show tyAlertDef.rep _ _ (⟨([67, 79, 78, 83, 84, 82, 65, 73, 78, 84, 83, 32, 67, 79, 78, 70, 76, 73, 67, 84] : List UInt8), 2, y22⟩ : AlertDef) from rfl) (reps_cons (c := [vt ([68, 73, 83, 67, 79, 78, 84, 73, 78, 85, 73, 84, 89]), vy 2, Value.int .u16 y26]) (show tyAlertDef.rep _ _ (⟨([68, 73, 83, 67, 79, 78, 84, 73, 78, 85, 73, 84, 89] : List UInt8), 2, y26⟩ : AlertDef) from rfl) (reps_cons (c := [vt ([70, 85, 69, 76, 32, 83, 72, 79, 82, 84]), vy 2, Value.int .u16 y30]) (show tyAlertDef.rep _ _ (⟨([70, 85, 69, 76, 32, 83, 72, 79, 82, 84] : List UInt8), 2, y30⟩ : AlertDef) from rfl) (reps_cons (c := [vt ([83, 73, 78, 71, 76, 69, 32, 67, 79, 77, 80, 85, 84, 69, 82]), vy 3, Value.int .u16 y34]) (show tyAlertDef.rep _ _ (⟨([83, 73, 78, 71, 76, 69, 32, 67, 79, 77, 80, 85, 84, 69, 82] : List UInt8), 3, y34⟩ : AlertDef) from rfl) (reps_cons (c := [vt ([83, 69, 78, 83, 79, 82, 32, 69, 88, 67, 76, 85, 68, 69, 68]), vy 3, Value.int .u16 y38]) (show tyAlertDef.rep _ _ (⟨([83, 69, 78, 83, 79, 82, 32, 69, 88, 67, 76, 85, 68, 69, 68] : List UInt8), 3, y38⟩ : AlertDef) from rfl) (reps_cons (c := [vt ([84, 73, 77, 69, 32, 78, 79, 84, 32, 77, 69, 84]), vy 3, Value.int .u16 y42]) (show tyAlertDef.rep _ _ (⟨([84, 73, 77, 69, 32, 78, 79, 84, 32, 77, 69, 84] : List UInt8), 3, y42⟩ : AlertDef) from rfl) (reps_cons (c := [vt ([84, 79, 80, 32, 79, 70, 32, 68, 69, 83, 67, 69, 78, 84]), vy 3, Value.int .u16 y46]) (show tyAlertDef.rep _ _ (⟨([84, 79, 80, 32, 79, 70, 32, 68, 69, 83, 67, 69, 78, 84] : List UInt8), 3, y46⟩ : AlertDef) from rfl) (reps_cons (c := [vt ([69, 78, 68, 32, 79, 70, 32, 82, 79, 85, 84, 69]), vy 3, Value.int .u16 y50]) (show tyAlertDef.rep _ _ (⟨([69, 78, 68, 32, 79, 70, 32, 82, 79, 85, 84, 69] : List UInt8), 3, y50⟩ : AlertDef) from rfl) (reps_cons (c := [vt ([77, 69, 77, 79, 82, 89, 32, 70, 65, 85, 76, 84]), vy 3, Value.int .u16 y54]) (show tyAlertDef.rep _ _ (⟨([77, 69, 77, 79, 82, 89, 32, 70, 65, 85, 76, 84] : List UInt8), 3, y54⟩ : AlertDef) from rfl) reps_nil)))))))))))))))) (by simp)) ?_
  rintro _ _ _ - ⟨A57, c57, k57, rfl, rfl, rfl, h57⟩
  refine xB 1 [] [(0, vs A57 ([(⟨([78, 65, 86, 32, 85, 78, 85, 83, 65, 66, 76, 69] : List UInt8), 1, 0⟩ : AlertDef), (⟨([70, 85, 69, 76, 32, 76, 79, 87] : List UInt8), 1, 0⟩ : AlertDef), (⟨([67, 79, 77, 80, 85, 84, 69, 82, 83, 32, 68, 73, 83, 65, 71, 82, 69, 69] : List UInt8), 2, y2⟩ : AlertDef), (⟨([76, 65, 84, 69, 82, 65, 76, 32, 82, 69, 86, 69, 82, 83, 73, 79, 78] : List UInt8), 2, y6⟩ : AlertDef), (⟨([86, 69, 82, 84, 73, 67, 65, 76, 32, 82, 69, 86, 69, 82, 83, 73, 79, 78] : List UInt8), 2, y10⟩ : AlertDef), (⟨([65, 76, 84, 73, 84, 85, 68, 69, 32, 79, 86, 69, 82, 83, 72, 79, 84] : List UInt8), 2, y14⟩ : AlertDef), (⟨([68, 65, 84, 65, 66, 65, 83, 69, 32, 69, 88, 80, 73, 82, 69, 68] : List UInt8), 2, y18⟩ : AlertDef), (⟨([67, 79, 78, 83, 84, 82, 65, 73, 78, 84, 83, 32, 67, 79, 78, 70, 76, 73, 67, 84] : List UInt8), 2, y22⟩ : AlertDef), (⟨([68, 73, 83, 67, 79, 78, 84, 73, 78, 85, 73, 84, 89] : List UInt8), 2, y26⟩ : AlertDef), (⟨([70, 85, 69, 76, 32, 83, 72, 79, 82, 84] : List UInt8), 2, y30⟩ : AlertDef), (⟨([83, 73, 78, 71, 76, 69, 32, 67, 79, 77, 80, 85, 84, 69, 82] : List UInt8), 3, y34⟩ : AlertDef), (⟨([83, 69, 78, 83, 79, 82, 32, 69, 88, 67, 76, 85, 68, 69, 68] : List UInt8), 3, y38⟩ : AlertDef), (⟨([84, 73, 77, 69, 32, 78, 79, 84, 32, 77, 69, 84] : List UInt8), 3, y42⟩ : AlertDef), (⟨([84, 79, 80, 32, 79, 70, 32, 68, 69, 83, 67, 69, 78, 84] : List UInt8), 3, y46⟩ : AlertDef), (⟨([69, 78, 68, 32, 79, 70, 32, 82, 79, 85, 84, 69] : List UInt8), 3, y50⟩ : AlertDef), (⟨([77, 69, 77, 79, 82, 89, 32, 70, 65, 85, 76, 84] : List UInt8), 3, y54⟩ : AlertDef)] : List AlertDef) c57)] ?_
  refine xRe ?_
  refine wpq_then ?_
  have eS := (Option.some.inj hS).symm
  subst eS
  exact xRet [some 0] [0] (e4.trans (e8.trans (e12.trans (e16.trans (e20.trans (e24.trans (e28.trans (e32.trans (e36.trans (e40.trans (e44.trans (e48.trans (e52.trans e56))))))))))))) ⟨A57, c57, k57, by kernel_rfl, by kernel_rfl, h57⟩ (fun _ _ h => h)

def o4_L0 (y5 : (List AlertDef)) (y8 : (List AlertDef)) (s33 : Nat) : Option (Ctl (Nat) (Ctl (Unit) (Bool))) :=
  (cond (decide (((s33 : Nat) : Int) < (((y5).length : Nat) : Int))) (grd (decide (s33 < (y8).length)) (cond ((!((strEq (List.getD y5 s33 default).name (List.getD y8 s33 default).name) && (((List.getD y5 s33 default).level == (List.getD y8 s33 default).level) && ((List.getD y5 s33 default).inhibit == (List.getD y8 s33 default).inhibit))))) (some (Ctl.done (Ctl.done ((false))))) (grd (decide (((s33 : Nat) : Int) + 1 ≤ 9223372036854775807)) (some (Ctl.go (s33 + 1)))))) (some (Ctl.done (Ctl.go ()))))
def o4 (i : Int) : Option (Bool) :=
  (bindO (τ := Bool) (o10) fun y1 => (cond ((!y1)) (some ((false))) (bindO (τ := (List AlertDef)) (o15) fun y5 => (bindO (τ := (List AlertDef)) (o16) fun y8 => (bindO (τ := Bool) (cond (((((y5).length : Nat) : Int) != (((y8).length : Nat) : Int))) (some (true)) (bindO (τ := Int) (o13 (y5 : List AlertDef)) fun y44 => (some (y44 != 0)))) fun t11 => (cond (t11) (some ((false))) (joinO (τ := Unit) (ρ := Bool) (loopO (σ := Nat) (ρ := Ctl (Unit) (Bool)) fuelN (o4_L0 y5 y8) (0)) fun t15 => (grd (decide (0 ≤ (Int.tmod (IntKind.i64.wrap i) 16) ∧ (Int.tmod (IntKind.i64.wrap i) 16) < (((y5).length : Nat) : Int))) (grd (decide (0 ≤ (Int.tmod (IntKind.i64.wrap i) 16) ∧ (Int.tmod (IntKind.i64.wrap i) 16) < (((y8).length : Nat) : Int))) (bindO (τ := (List AlertDef)) (o15) fun y25 => (grd (decide (0 ≤ (Int.tmod (IntKind.i64.wrap i) 16) ∧ (Int.tmod (IntKind.i64.wrap i) 16) < (((y25).length : Nat) : Int))) (some ((((strEq (List.getD y25 ((Int.tmod (IntKind.i64.wrap i) 16)).toNat default).name (List.getD y8 ((Int.tmod (IntKind.i64.wrap i) 16)).toNat default).name) && (((List.getD y25 ((Int.tmod (IntKind.i64.wrap i) 16)).toNat default).level == (List.getD y8 ((Int.tmod (IntKind.i64.wrap i) 16)).toNat default).level) && ((List.getD y25 ((Int.tmod (IntKind.i64.wrap i) 16)).toNat default).inhibit == (List.getD y8 ((Int.tmod (IntKind.i64.wrap i) 16)).toNat default).inhibit)))))))))))))))))
set_option maxRecDepth 100000 in
theorem c4 (g : Gh) (i : Int) {r : Bool} (hS : o4 i = some r) :
    Ctr Try.prog 4 [vy i] g [] (fun v ψ o => v = vb r ∧ o = []) := by
  unfold o4 at hS
  refine xFn Try.f4 (Try.f4.body.getD .skip) 54 ?_
  refine xSq ?_
  refine xRg ?_
  refine xB 1 [] [(0, vy i)] ?_
  refine xRe ?_
  refine wpq_then ?_
  refine xSq ?_
  refine xSq ?_
  refine xRg ?_
  obtain ⟨y1, hy1, hS⟩ := bindO_T hS
  refine xE (eC 0 (fun g' lr eb ln => c10 g'  hy1)) ?_
  rintro _ g2 _ e3 ⟨_, rfl, rfl, rfl⟩
  refine xB 1 [] [(0, vy i), (7, vb (!y1))] ?_
  refine xRe ?_
  refine wpq_then ?_
  refine xCd ((!y1)) (fun h4 => ?_) (fun h4 => ?_)
  · have hS := cond_T h4 hS
    have h4n := not_eq_true_ h4
    refine xSq ?_
    refine xRg ?_
    refine xB 1 [] [(2, vb false)] ?_
    refine xRe ?_
    refine wpq_then ?_
    have eS := (Option.some.inj hS).symm
    subst eS
    exact xRet [] [2] e3 ⟨by kernel_rfl, by kernel_rfl⟩ (fun _ _ h => h)
  · have hS := cond_F h4 hS
    have h4n := not_eq_false_ h4
    refine xSk ?_
    refine wpq_then ?_
    refine xSub [(0, vy i)] ?_
    refine xSq ?_
    refine xRg ?_
    obtain ⟨y5, hy5, hS⟩ := bindO_T hS
    refine xE (eC 0 (fun g' lr eb ln => c15 g'  hy5)) ?_
    rintro _ g6 _ e7 ⟨_, rfl, A5_0, c5_0, k5_0, rfl, rfl, h5_0⟩
    have nh5_0 := h5_0.len
    obtain ⟨y8, hy8, hS⟩ := bindO_T hS
    refine xE (eC 0 (fun g' lr eb ln => c16 g'  hy8)) ?_
    rintro _ g9 _ e10 ⟨_, rfl, A8_0, c8_0, k8_0, rfl, rfl, h8_0⟩
    have nh8_0 := h8_0.len
    refine xB 2 [] [(0, vy i), (3, vs A5_0 y5 c5_0), (4, vs A8_0 y8 c8_0)] ?_
    refine xRe ?_
    refine wpq_then ?_
    refine xSq ?_
    refine xSq ?_
    refine xRg ?_
    refine xB 6 [] [(0, vy i), (3, vs A5_0 y5 c5_0), (4, vs A8_0 y8 c8_0), (15, vb ((((y5).length : Nat) : Int) != (((y8).length : Nat) : Int)))] ?_
    refine xGJo hS 10 (fun g own sl t11 => own = [k5_0, k8_0] ∧ sl = [(0, vy i), (3, vs A5_0 y5 c5_0), (4, vs A8_0 y8 c8_0), (19, vb t11)]) ?_ ?_
    · rintro g12 _ _ t11 e13 ⟨rfl, rfl⟩ hS
      refine xRe ?_
      refine wpq_then ?_
      refine xCd (t11) (fun h14 => ?_) (fun h14 => ?_)
      · have hS := cond_T h14 hS
        refine xSq ?_
        refine xRg ?_
        refine xB 1 [] [(2, vb false)] ?_
        refine xRe ?_
        refine wpq_then ?_
        have eS := (Option.some.inj hS).symm
        subst eS
        exact xRet [] [2] (e3.trans (e7.trans (e10.trans e13))) ⟨by kernel_rfl, by kernel_rfl⟩ (fun _ _ h => h)
      · have hS := cond_F h14 hS
        refine xSk ?_
        refine wpq_then ?_
        refine xSub [(0, vy i), (3, vs A5_0 y5 c5_0), (4, vs A8_0 y8 c8_0)] ?_
        refine xSq ?_
        refine xSq ?_
        refine xRg ?_
        refine xB 3 [] [(0, vy i), (3, vs A5_0 y5 c5_0), (4, vs A8_0 y8 c8_0), (21, vi (((y5).length : Nat) : Int)), (22, vi 0)] ?_
        refine xRe ?_
        refine wpq_then ?_
        refine xJoinO hS (fun g own sl t15 => own = [k5_0, k8_0] ∧ sl = [(0, vy i), (3, vs A5_0 y5 c5_0), (4, vs A8_0 y8 c8_0)]) ?_ ?_
        · rintro g16 _ _ t15 e17 ⟨rfl, rfl⟩ hS
          refine wpq_then ?_
          refine xSq ?_
          refine xRg ?_
          have z1 := i64_in_ i
          refine xB 3 [] [(0, vy i), (4, vs A8_0 y8 c8_0), (35, vs A5_0 y5 c5_0), (37, vi (IntKind.i64.wrap i))] ?_
          refine xV (qRem .i64 ((IntKind.i64.wrap i)) (16) _ (by omega) rfl) ?_
          have h5_0 := h5_0.mono (e10.trans (e13.trans e17)).b
          obtain ⟨q19, hS⟩ := grd_T hS
          have q19p := of_decide_eq_true q19
          have i20 : ((Int.tmod (IntKind.i64.wrap i) 16)).toNat < (y5).length := by omega
          obtain ⟨kc18, cs18, hA18, hk18, hr18, hw18⟩ := h5_0.open_ i20 default
          obtain ⟨kb18, rfl⟩ : ∃ z, z = kc18 := ⟨_, rfl⟩
          subst hk18
          obtain ⟨rfl⟩ := hr18
          refine xV (qIxB ((Int.tmod (IntKind.i64.wrap i) 16)).toNat 3 kb18.g hA18 (show ((Int.tmod (IntKind.i64.wrap i) 16) : Int) = _ from by omega) i20) ?_
          refine xB 1 [] [(0, vy i), (4, vs A8_0 y8 c8_0), (40, Value.pointer (some ⟨kb18.g, ((Int.tmod (IntKind.i64.wrap i) 16)).toNat * 3 + 0, none⟩))] ?_
          refine xD (eStB ((Int.tmod (IntKind.i64.wrap i) 16)).toNat 3 0 0 [vt ([67, 72, 65, 78, 71, 69, 68])] h5_0 rfl hw18 (show tyAlertDef.rep _ _ ({ (List.getD y5 ((Int.tmod (IntKind.i64.wrap i) 16)).toNat default) with name := ([67, 72, 65, 78, 71, 69, 68] : List UInt8) }) from rfl) i20) ?_
          rintro _ _ _ - ⟨k21, rfl, rfl, h21⟩
          have hz21 : (y5).length = ((List.set y5 ((Int.tmod (IntKind.i64.wrap i) 16)).toNat ({ (List.getD y5 ((Int.tmod (IntKind.i64.wrap i) 16)).toNat default) with name := ([67, 72, 65, 78, 71, 69, 68] : List UInt8) }))).length := by simp
          refine xRe ?_
          refine wpq_then ?_
          refine xSub [(0, vy i), (4, vs A8_0 y8 c8_0)] ?_
          refine xSq ?_
          refine xDr 0 [11] [12, 13] [k8_0] 14 (fun RG => ?_) (fun _ _ _ _ _ h => h)
          have z2 := i64_in_ i
          refine xT 12 [1, 2] [] [some 1] [(0, vy i), (4, vs A8_0 y8 c8_0), (43, vi (IntKind.i64.wrap i))] RG (Psi.le.refl _) ?_
          refine xTp 3 RG (fun _ => (qRem .i64 ((IntKind.i64.wrap i)) (16) _ (by omega) rfl)) ?_
          have z3 := i64_in_ i
          refine xT 8 [6, 7, 8] [] [some 1] [(44, vi (Int.tmod (IntKind.i64.wrap i) 16)), (47, vs A8_0 y8 c8_0), (49, vi (IntKind.i64.wrap i))] RG (Psi.le.refl _) ?_
          refine xTp 9 RG (fun _ => (qRem .i64 ((IntKind.i64.wrap i)) (16) _ (by omega) rfl)) ?_
          have h8_0 := h8_0.mono (e13.trans e17).b
          obtain ⟨q23, hS⟩ := grd_T hS
          have q23p := of_decide_eq_true q23
          have i24 : ((Int.tmod (IntKind.i64.wrap i) 16)).toNat < (y8).length := by omega
          obtain ⟨kc22, cs22, hA22, hk22, hr22, hw22⟩ := h8_0.open_ i24 default
          obtain ⟨kb22, rfl⟩ : ∃ z, z = kc22 := ⟨_, rfl⟩
          subst hk22
          obtain ⟨rfl⟩ := hr22
          refine xTp 10 RG (fun _ => (qIxB ((Int.tmod (IntKind.i64.wrap i) 16)).toNat 3 kb22.g hA22 (show ((Int.tmod (IntKind.i64.wrap i) 16) : Int) = _ from by omega) i24)) ?_
          refine xTv 11 [some 1] RG (Psi.le.refl _) (qLdB ((Int.tmod (IntKind.i64.wrap i) 16)).toNat 3 0 0 hw22) ?_
          obtain ⟨y25, hy25, hS⟩ := bindO_T hS
          refine xO1 (lds := [11]) 0 ?_
          refine xIe (lds := [11]) (Psi.le.refl _) (eC 0 (fun g' lr eb ln => c15 g'  hy25)) ?_
          rintro _ g26 _ e27 ⟨_, rfl, A25_0, c25_0, k25_0, rfl, rfl, h25_0⟩
          refine kk [some 2] ?_
          have nh25_0 := h25_0.len
          obtain ⟨q29, hS⟩ := grd_T hS
          have q29p := of_decide_eq_true q29
          have i30 : ((Int.tmod (IntKind.i64.wrap i) 16)).toNat < (y25).length := by omega
          obtain ⟨kc28, cs28, hA28, hk28, hr28, hw28⟩ := h25_0.open_ i30 default
          obtain ⟨kb28, rfl⟩ : ∃ z, z = kc28 := ⟨_, rfl⟩
          subst hk28
          obtain ⟨rfl⟩ := hr28
          refine xTp 4 RG (fun _ => (qIxB ((Int.tmod (IntKind.i64.wrap i) 16)).toNat 3 kb28.g hA28 (show ((Int.tmod (IntKind.i64.wrap i) 16) : Int) = _ from by omega) i30)) ?_
          refine xO1 (lds := [11]) 5 ?_
          refine xIv (lds := [11]) (qLdB ((Int.tmod (IntKind.i64.wrap i) 16)).toNat 3 0 0 hw28) ?_
          refine xTp 12 RG (fun _ => (qEqA (((strEq (List.getD y25 ((Int.tmod (IntKind.i64.wrap i) 16)).toNat default).name (List.getD y8 ((Int.tmod (IntKind.i64.wrap i) 16)).toNat default).name) && (((List.getD y25 ((Int.tmod (IntKind.i64.wrap i) 16)).toNat default).level == (List.getD y8 ((Int.tmod (IntKind.i64.wrap i) 16)).toNat default).level) && ((List.getD y25 ((Int.tmod (IntKind.i64.wrap i) 16)).toNat default).inhibit == (List.getD y8 ((Int.tmod (IntKind.i64.wrap i) 16)).toNat default).inhibit)))))) ?_
          refine xT 0 [13] [] [some 2] [(2, vb ((strEq (List.getD y25 ((Int.tmod (IntKind.i64.wrap i) 16)).toNat default).name (List.getD y8 ((Int.tmod (IntKind.i64.wrap i) 16)).toNat default).name) && (((List.getD y25 ((Int.tmod (IntKind.i64.wrap i) 16)).toNat default).level == (List.getD y8 ((Int.tmod (IntKind.i64.wrap i) 16)).toNat default).level) && ((List.getD y25 ((Int.tmod (IntKind.i64.wrap i) 16)).toNat default).inhibit == (List.getD y8 ((Int.tmod (IntKind.i64.wrap i) 16)).toNat default).inhibit))))] RG e27.r ?_
          refine xAe (lds := [11]) ?_
          refine wpq_then ?_
          have eS := (Option.some.inj hS).symm
          subst eS
          exact xRet [] [2] (e3.trans (e7.trans (e10.trans (e13.trans (e17.trans e27))))) ⟨by kernel_rfl, by kernel_rfl⟩ (fun _ _ h => h)
        · intro uu15 hS hN15 hD15
          refine xBl 0 ?_
          refine xSub [(0, vy i), (3, vs A5_0 y5 c5_0), (4, vs A8_0 y8 c8_0), (21, vi (((y5).length : Nat) : Int)), (22, vi 0)] ?_
          refine xLo hS (fun g own sl s33 => own = [k5_0, k8_0] ∧ sl = [(0, vy i), (3, vs A5_0 y5 c5_0), (4, vs A8_0 y8 c8_0), (21, vi (((y5).length : Nat) : Int)), (22, vi ((s33 : Nat) : Int))]) ⟨by kernel_rfl, by kernel_rfl⟩ ?_
          rintro g34 _ _ s33 uu33 e35 ⟨rfl, rfl⟩ hS Qr33 hN33 hD33
          unfold o4_L0 at hS
          refine xSq ?_
          refine xRg ?_
          refine xB 1 [] [(0, vy i), (3, vs A5_0 y5 c5_0), (4, vs A8_0 y8 c8_0), (21, vi (((y5).length : Nat) : Int)), (22, vi ((s33 : Nat) : Int)), (23, vb (decide (((s33 : Nat) : Int) < (((y5).length : Nat) : Int))))] ?_
          refine xRe ?_
          refine wpq_then ?_
          refine xSq ?_
          refine xCd (decide (((s33 : Nat) : Int) < (((y5).length : Nat) : Int))) (fun h36 => ?_) (fun h36 => ?_)
          · have hS := cond_T h36 hS
            have h36p := of_decide_eq_true h36
            refine xSk ?_
            refine wpq_then ?_
            refine xSub [(0, vy i), (3, vs A5_0 y5 c5_0), (4, vs A8_0 y8 c8_0), (21, vi (((y5).length : Nat) : Int)), (22, vi ((s33 : Nat) : Int))] ?_
            refine xSq ?_
            refine xBl 1 ?_
            refine xSq ?_
            refine xRg ?_
            refine xB 2 [] [(0, vy i), (3, vs A5_0 y5 c5_0), (4, vs A8_0 y8 c8_0), (5, vi ((s33 : Nat) : Int)), (21, vi (((y5).length : Nat) : Int)), (22, vi ((s33 : Nat) : Int))] ?_
            refine xRe ?_
            refine wpq_then ?_
            refine xSq ?_
            refine xDr 0 [3, 7] [8] [k5_0, k8_0] 9 (fun RG => ?_) (fun _ _ _ _ _ h => h)
            have h5_0 := h5_0.mono (e10.trans (e13.trans e35)).b
            have i38 : s33 < (y5).length := by omega
            obtain ⟨kc37, cs37, hA37, hk37, hr37, hw37⟩ := h5_0.open_ i38 default
            obtain ⟨kb37, rfl⟩ : ∃ z, z = kc37 := ⟨_, rfl⟩
            subst hk37
            obtain ⟨rfl⟩ := hr37
            refine xT 7 [0, 1] [] [some 0, some 1] [(0, vy i), (3, vs A5_0 y5 c5_0), (4, vs A8_0 y8 c8_0), (5, vi ((s33 : Nat) : Int)), (21, vi (((y5).length : Nat) : Int)), (22, vi ((s33 : Nat) : Int)), (25, vs A5_0 y5 c5_0), (26, vi ((s33 : Nat) : Int))] RG (Psi.le.refl _) ?_
            refine xTp 2 RG (fun _ => (qIxB s33 3 kb37.g hA37 rfl i38)) ?_
            refine xTv 3 [some 0, some 1] RG (Psi.le.refl _) (qLdB s33 3 0 0 hw37) ?_
            have h8_0 := h8_0.mono (e13.trans e35).b
            obtain ⟨q40, hS⟩ := grd_T hS
            have q40p := of_decide_eq_true q40
            obtain ⟨kc39, cs39, hA39, hk39, hr39, hw39⟩ := h8_0.open_ q40p default
            obtain ⟨kb39, rfl⟩ : ∃ z, z = kc39 := ⟨_, rfl⟩
            subst hk39
            obtain ⟨rfl⟩ := hr39
            refine xT 3 [4, 5] [] [some 0, some 1] [(0, vy i), (3, vs A5_0 y5 c5_0), (4, vs A8_0 y8 c8_0), (21, vi (((y5).length : Nat) : Int)), (22, vi ((s33 : Nat) : Int)), (28, Value.agg #[vt ((List.getD y5 s33 default).name), vy ((List.getD y5 s33 default).level), Value.int .u16 ((List.getD y5 s33 default).inhibit)]), (29, vs A8_0 y8 c8_0), (30, vi ((s33 : Nat) : Int))] RG (Psi.le.refl _) ?_
            refine xTp 6 RG (fun _ => (qIxB s33 3 kb39.g hA39 rfl q40p)) ?_
            refine xTv 7 [some 0, some 1] RG (Psi.le.refl _) (qLdB s33 3 0 1 hw39) ?_
            refine xTp 8 RG (fun _ => (qNeA (((strEq (List.getD y5 s33 default).name (List.getD y8 s33 default).name) && (((List.getD y5 s33 default).level == (List.getD y8 s33 default).level) && ((List.getD y5 s33 default).inhibit == (List.getD y8 s33 default).inhibit)))))) ?_
            refine xAe (lds := [3, 7]) ?_
            refine wpq_then ?_
            refine xSub [(0, vy i), (3, vs A5_0 y5 c5_0), (4, vs A8_0 y8 c8_0), (21, vi (((y5).length : Nat) : Int)), (22, vi ((s33 : Nat) : Int)), (33, vb (!((strEq (List.getD y5 s33 default).name (List.getD y8 s33 default).name) && (((List.getD y5 s33 default).level == (List.getD y8 s33 default).level) && ((List.getD y5 s33 default).inhibit == (List.getD y8 s33 default).inhibit)))))] ?_
            refine xCd ((!((strEq (List.getD y5 s33 default).name (List.getD y8 s33 default).name) && (((List.getD y5 s33 default).level == (List.getD y8 s33 default).level) && ((List.getD y5 s33 default).inhibit == (List.getD y8 s33 default).inhibit))))) (fun h41 => ?_) (fun h41 => ?_)
            · have hS := cond_T h41 hS
              have h41n := not_eq_true_ h41
              refine xSq ?_
              refine xRg ?_
              refine xB 1 [] [(2, vb false)] ?_
              refine xRe ?_
              refine wpq_then ?_
              have eS := (Option.some.inj hS).symm
              have eS := (hD33 _ eS).symm
              have eS := (hD15 _ eS).symm
              subst eS
              exact xRet [] [2] (e3.trans (e7.trans (e10.trans (e13.trans e35)))) ⟨by kernel_rfl, by kernel_rfl⟩ (fun _ _ h => h)
            · have hS := cond_F h41 hS
              have h41n := not_eq_false_ h41
              have h41nl := (and_true_ h41n).1
              have h41nr := (and_true_ h41n).2
              have h41nrl := (and_true_ h41nr).1
              have h41nrr := (and_true_ h41nr).2
              have h41nrlp : (List.getD y5 s33 default).level = (List.getD y8 s33 default).level := eq_of_beq h41nrl
              have h41nrrp : (List.getD y5 s33 default).inhibit = (List.getD y8 s33 default).inhibit := eq_of_beq h41nrr
              refine xSk ?_
              refine wpq_blockN ?_
              refine wpq_then ?_
              refine xSub [(0, vy i), (3, vs A5_0 y5 c5_0), (4, vs A8_0 y8 c8_0), (21, vi (((y5).length : Nat) : Int)), (22, vi ((s33 : Nat) : Int))] ?_
              refine xRg ?_
              obtain ⟨q42, hS⟩ := grd_T hS
              have q42p := of_decide_eq_true q42
              refine xV (qAdd .i64 (((s33 : Nat) : Int)) (1) (wr64 (by omega))) ?_
              refine xB 1 [] [(0, vy i), (3, vs A5_0 y5 c5_0), (4, vs A8_0 y8 c8_0), (21, vi (((y5).length : Nat) : Int)), (22, vi (((s33 : Nat) : Int) + 1))] ?_
              refine xRe ?_
              refine wpq_thenN ?_
              refine xSub [(0, vy i), (3, vs A5_0 y5 c5_0), (4, vs A8_0 y8 c8_0), (21, vi (((y5).length : Nat) : Int)), (22, vi (((s33 : Nat) : Int) + 1))] ?_
              have eS := (Option.some.inj hS).symm
              exact hN33 _ eS _ _ _ (Gh.le.refl _) ⟨by kernel_rfl, by kernel_rfl⟩
          · have hS := cond_F h36 hS
            have h36p := of_decide_eq_false h36
            refine xEx 0 ?_
            refine wpq_thenX ?_
            refine wpq_thenX ?_
            refine wpq_blockE ?_
            refine xSub [(0, vy i), (3, vs A5_0 y5 c5_0), (4, vs A8_0 y8 c8_0)] ?_
            have eS := (Option.some.inj hS).symm
            have eS := (hD33 _ eS).symm
            exact hN15 _ eS _ _ _ e35 ⟨by kernel_rfl, by kernel_rfl⟩
    · intro uu11 hS hN11
      refine wpq_split 15 (b := ((((y5).length : Nat) : Int) != (((y8).length : Nat) : Int))) (by kernel_rfl) (fun q43 => ?_) (fun q43 => ?_)
      · have hS := cond_T q43 hS
        have q43p : ¬ ((((y5).length : Nat) : Int) = (((y8).length : Nat) : Int)) := ne_of_bne_ q43
        refine xB 4 [] [(0, vy i), (3, vs A5_0 y5 c5_0), (4, vs A8_0 y8 c8_0), (19, vb true)] ?_
        refine xSel [some 1, some 0] ?_
        refine xSub [(0, vy i), (3, vs A5_0 y5 c5_0), (4, vs A8_0 y8 c8_0), (19, vb true)] ?_
        exact hN11 _ (Option.some.inj hS).symm _ _ _ (Gh.le.refl _) ⟨by kernel_rfl, by kernel_rfl⟩
      · have hS := cond_F q43 hS
        have q43p : (((y5).length : Nat) : Int) = (((y8).length : Nat) : Int) := eq_of_bne_false_ q43
        refine xB 1 [] [(0, vy i), (3, vs A5_0 y5 c5_0), (4, vs A8_0 y8 c8_0), (15, vb false), (16, vs A5_0 y5 c5_0)] ?_
        have h5_0 := h5_0.mono e10.b
        obtain ⟨y44, hy44, hS⟩ := bindO_T hS
        refine xE (eC 0 (fun g' lr eb ln => c13 g' (y5 : List AlertDef) A5_0 c5_0 (arr_of_buf h5_0 (Psi.le_b eb) (lentk 1 (by kernel_rfl) ln)) hy44)) ?_
        rintro _ g45 _ e46 ⟨_, rfl, rfl, rfl⟩
        refine xB 2 [] [(0, vy i), (3, vs A5_0 y5 c5_0), (4, vs A8_0 y8 c8_0), (19, vb (y44 != 0))] ?_
        refine xSel [some 1, some 0] ?_
        refine xSub [(0, vy i), (3, vs A5_0 y5 c5_0), (4, vs A8_0 y8 c8_0), (19, vb (y44 != 0))] ?_
        exact hN11 _ (Option.some.inj hS).symm _ _ _ e46 ⟨by kernel_rfl, by kernel_rfl⟩

end Go.Proofs.Ytfhchendnfpbkaa
