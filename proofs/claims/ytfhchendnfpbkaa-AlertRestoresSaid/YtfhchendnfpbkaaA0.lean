/-
Walks, printed by wip/gen, with half of their indentation. Conditions: each theorem's own.
-/
import Derived.Test.YtfhchendnfpbkaaG8
import Derived.Test.YtfhchendnfpbkaaED
namespace Go.Proofs.Ytfhchendnfpbkaa
set_option linter.unusedVariables false
set_option linter.unusedSimpArgs false
open Go.RowKit
def o38_L0 (phases : List Int) (s6 : Int × Nat) : Option (Ctl (Int × Nat) (Int)) :=
 (cond (decide (((s6.2 : Nat) : Int) < (((phases).length : Nat) : Int))) (grd (decide (0 ≤ (List.getD phases s6.2 0))) (grd (decide (((s6.2 : Nat) : Int) + 1 ≤ 9223372036854775807)) (some (Ctl.go ((lorK .u16 s6.1 (shlK .u16 1 (List.getD phases s6.2 0))), (s6.2 + 1)))))) (some (Ctl.done (s6.1))))
def o38 (phases : List Int) : Option (Int) :=
 (bindO (τ := Int) (loopO (σ := Int × Nat) (ρ := Int) fuelN (o38_L0 phases) (0, 0)) fun t1 => (some ((t1 : Int))))
set_option maxRecDepth 100000 in
theorem c38 (g : Gh) (phases : List Int) (Aphases : Option Addr) (cphases : Nat) (fphases : Arr g.r (tyI .i64) Aphases cphases phases) {r : Int} (hS : o38 phases = some r) :
  Ctr Try.prog 38 [vs Aphases phases cphases] g [] (fun v ψ o => v = Value.int .u16 r ∧ o = []) := by
 unfold o38 at hS
 refine xFn Try.f38 (Try.f38.body.getD .skip) 18 ?_
 have nfphases := fphases.len
 refine xSq ?_
 refine xRg ?_
 refine xB 1 [] [(0, vs Aphases phases cphases)] ?_
 refine xRe ?_
 refine wpq_then ?_
 refine xSq ?_
 refine xRg ?_
 refine xB 1 [] [(0, vs Aphases phases cphases), (3, Value.int .u16 0)] ?_
 refine xRe ?_
 refine wpq_then ?_
 refine xSq ?_
 refine xSq ?_
 refine xRg ?_
 refine xB 3 [] [(3, Value.int .u16 0), (6, vs Aphases phases cphases), (7, vi (((phases).length : Nat) : Int)), (8, vi 0)] ?_
 refine xRe ?_
 refine wpq_then ?_
 refine xBindO hS (fun g own sl t1 => own = [] ∧ sl = [(3, Value.int .u16 t1)]) ?_ ?_
 ·rintro g2 _ _ t1 e3 ⟨rfl, rfl⟩ hS
  refine wpq_then ?_
  refine xSq ?_
  refine xRg ?_
  refine xB 2 [] [(2, Value.int .u16 t1)] ?_
  refine xRe ?_
  refine wpq_then ?_
  have eS := (Option.some.inj hS).symm
  subst eS
  exact xRet [] [2] e3 ⟨by kernel_rfl, by kernel_rfl⟩ (fun _ _ h => h)
 ·intro uu1 hS hN1
  refine xBl 0 ?_
  refine xSub [(3, Value.int .u16 0), (6, vs Aphases phases cphases), (7, vi (((phases).length : Nat) : Int)), (8, vi 0)] ?_
  refine xLo hS (fun g own sl s6 => own = [] ∧ sl = [(3, Value.int .u16 s6.1), (6, vs Aphases phases cphases), (7, vi (((phases).length : Nat) : Int)), (8, vi ((s6.2 : Nat) : Int))]) ⟨by kernel_rfl, by kernel_rfl⟩ ?_
  rintro g7 _ _ s6 uu6 e8 ⟨rfl, rfl⟩ hS Qr6 hN6 hD6
  unfold o38_L0 at hS
  refine xSq ?_
  refine xRg ?_
  refine xB 1 [] [(3, Value.int .u16 s6.1), (6, vs Aphases phases cphases), (7, vi (((phases).length : Nat) : Int)), (8, vi ((s6.2 : Nat) : Int)), (9, vb (decide (((s6.2 : Nat) : Int) < (((phases).length : Nat) : Int))))] ?_
  refine xRe ?_
  refine wpq_then ?_
  refine xSq ?_
  refine xCd (decide (((s6.2 : Nat) : Int) < (((phases).length : Nat) : Int))) (fun h9 => ?_) (fun h9 => ?_)
  ·have hS := cond_T h9 hS
   have h9p := of_decide_eq_true h9
   refine xSk ?_
   refine wpq_then ?_
   refine xSub [(3, Value.int .u16 s6.1), (6, vs Aphases phases cphases), (7, vi (((phases).length : Nat) : Int)), (8, vi ((s6.2 : Nat) : Int))] ?_
   refine xSq ?_
   refine xBl 1 ?_
   refine xSq ?_
   refine xRg ?_
   have fphases := fphases.mono e8.r
   have i11 : s6.2 < (phases).length := by omega
   obtain ⟨ad10, cs10, hA10, hr10, hc10⟩ := fphases.at_ (get_getD (d := 0) i11)
   have hr10 : cs10 = [vi (List.getD phases s6.2 0)] := hr10
   subst hr10
   refine xV (qIx s6.2 1 hA10 rfl i11) ?_
   refine xV (qLdP (Addr.add ad10 (s6.2 * 1)) 0 hc10) ?_
   refine xB 1 [] [(3, Value.int .u16 s6.1), (5, vi (List.getD phases s6.2 0)), (6, vs Aphases phases cphases), (7, vi (((phases).length : Nat) : Int)), (8, vi ((s6.2 : Nat) : Int))] ?_
   refine xRe ?_
   refine wpq_then ?_
   refine xRg ?_
   obtain ⟨q12, hS⟩ := grd_T hS
   have q12p := of_decide_eq_true q12
   refine xB 2 [] [(3, Value.int .u16 s6.1), (6, vs Aphases phases cphases), (7, vi (((phases).length : Nat) : Int)), (8, vi ((s6.2 : Nat) : Int)), (12, Value.int .u16 s6.1), (13, vi (List.getD phases s6.2 0))] ?_
   refine xV (qShl .u16 .i64 (1) ((List.getD phases s6.2 0)) (by omega)) ?_
   refine xB 2 [] [(3, Value.int .u16 (lorK .u16 s6.1 (shlK .u16 1 (List.getD phases s6.2 0)))), (6, vs Aphases phases cphases), (7, vi (((phases).length : Nat) : Int)), (8, vi ((s6.2 : Nat) : Int))] ?_
   refine xRe ?_
   refine wpq_blockN ?_
   refine wpq_then ?_
   refine xRg ?_
   obtain ⟨q13, hS⟩ := grd_T hS
   have q13p := of_decide_eq_true q13
   refine xV (qAdd .i64 (((s6.2 : Nat) : Int)) (1) (wr64 (by omega))) ?_
   refine xB 1 [] [(3, Value.int .u16 (lorK .u16 s6.1 (shlK .u16 1 (List.getD phases s6.2 0)))), (6, vs Aphases phases cphases), (7, vi (((phases).length : Nat) : Int)), (8, vi (((s6.2 : Nat) : Int) + 1))] ?_
   refine xRe ?_
   refine wpq_thenN ?_
   refine xSub [(3, Value.int .u16 (lorK .u16 s6.1 (shlK .u16 1 (List.getD phases s6.2 0)))), (6, vs Aphases phases cphases), (7, vi (((phases).length : Nat) : Int)), (8, vi (((s6.2 : Nat) : Int) + 1))] ?_
   have eS := (Option.some.inj hS).symm
   exact hN6 _ eS _ _ _ (Gh.le.refl _) ⟨by kernel_rfl, by kernel_rfl⟩
  ·have hS := cond_F h9 hS
   have h9p := of_decide_eq_false h9
   refine xEx 0 ?_
   refine wpq_thenX ?_
   refine wpq_thenX ?_
   refine wpq_blockE ?_
   refine xSub [(3, Value.int .u16 s6.1)] ?_
   have eS := (Option.some.inj hS).symm
   have eS := (hD6 _ eS).symm
   exact hN1 _ eS _ _ _ e8 ⟨by kernel_rfl, by kernel_rfl⟩

def o15 : Option ((List AlertDef)) :=
 (bindO (τ := Int) (o38 (([(2 : Int), (7 : Int)] : List Int) : List Int)) fun y2 => (bindO (τ := Int) (o38 (([(2 : Int)] : List Int) : List Int)) fun y6 => (bindO (τ := Int) (o38 (([(2 : Int)] : List Int) : List Int)) fun y10 => (bindO (τ := Int) (o38 (([(2 : Int), (7 : Int)] : List Int) : List Int)) fun y14 => (bindO (τ := Int) (o38 (([(2 : Int), (3 : Int), (4 : Int), (5 : Int), (6 : Int), (7 : Int), (8 : Int)] : List Int) : List Int)) fun y18 => (bindO (τ := Int) (o38 (([(2 : Int), (7 : Int)] : List Int) : List Int)) fun y22 => (bindO (τ := Int) (o38 (([(1 : Int), (2 : Int), (8 : Int)] : List Int) : List Int)) fun y26 => (bindO (τ := Int) (o38 (([(2 : Int), (7 : Int)] : List Int) : List Int)) fun y30 => (bindO (τ := Int) (o38 (([(2 : Int), (6 : Int), (7 : Int)] : List Int) : List Int)) fun y34 => (bindO (τ := Int) (o38 (([(2 : Int), (6 : Int), (7 : Int)] : List Int) : List Int)) fun y38 => (bindO (τ := Int) (o38 (([(2 : Int), (6 : Int), (7 : Int)] : List Int) : List Int)) fun y42 => (bindO (τ := Int) (o38 (([(2 : Int), (5 : Int), (6 : Int), (7 : Int), (8 : Int)] : List Int) : List Int)) fun y46 => (bindO (τ := Int) (o38 (([(2 : Int), (7 : Int), (8 : Int)] : List Int) : List Int)) fun y50 => (bindO (τ := Int) (o38 (([(2 : Int), (6 : Int), (7 : Int)] : List Int) : List Int)) fun y54 => (some ((([(⟨([78, 65, 86, 32, 85, 78, 85, 83, 65, 66, 76, 69] : List UInt8), 1, 0⟩ : AlertDef), (⟨([70, 85, 69, 76, 32, 76, 79, 87] : List UInt8), 1, 0⟩ : AlertDef), (⟨([67, 79, 77, 80, 85, 84, 69, 82, 83, 32, 68, 73, 83, 65, 71, 82, 69, 69] : List UInt8), 2, y2⟩ : AlertDef), (⟨([76, 65, 84, 69, 82, 65, 76, 32, 82, 69, 86, 69, 82, 83, 73, 79, 78] : List UInt8), 2, y6⟩ : AlertDef), (⟨([86, 69, 82, 84, 73, 67, 65, 76, 32, 82, 69, 86, 69, 82, 83, 73, 79, 78] : List UInt8), 2, y10⟩ : AlertDef), (⟨([65, 76, 84, 73, 84, 85, 68, 69, 32, 79, 86, 69, 82, 83, 72, 79, 84] : List UInt8), 2, y14⟩ : AlertDef), (⟨([68, 65, 84, 65, 66, 65, 83, 69, 32, 69, 88, 80, 73, 82, 69, 68] : List UInt8), 2, y18⟩ : AlertDef), (⟨([67, 79, 78, 83, 84, 82, 65, 73, 78, 84, 83, 32, 67, 79, 78, 70, 76, 73, 67, 84] : List UInt8), 2, y22⟩ : AlertDef), (⟨([68, 73, 83, 67, 79, 78, 84, 73, 78, 85, 73, 84, 89] : List UInt8), 2, y26⟩ : AlertDef), (⟨([70, 85, 69, 76, 32, 83, 72, 79, 82, 84] : List UInt8), 2, y30⟩ : AlertDef), (⟨([83, 73, 78, 71, 76, 69, 32, 67, 79, 77, 80, 85, 84, 69, 82] : List UInt8), 3, y34⟩ : AlertDef), (⟨([83, 69, 78, 83, 79, 82, 32, 69, 88, 67, 76, 85, 68, 69, 68] : List UInt8), 3, y38⟩ : AlertDef), (⟨([84, 73, 77, 69, 32, 78, 79, 84, 32, 77, 69, 84] : List UInt8), 3, y42⟩ : AlertDef), (⟨([84, 79, 80, 32, 79, 70, 32, 68, 69, 83, 67, 69, 78, 84] : List UInt8), 3, y46⟩ : AlertDef), (⟨([69, 78, 68, 32, 79, 70, 32, 82, 79, 85, 84, 69] : List UInt8), 3, y50⟩ : AlertDef), (⟨([77, 69, 77, 79, 82, 89, 32, 70, 65, 85, 76, 84] : List UInt8), 3, y54⟩ : AlertDef)] : List AlertDef) : List AlertDef)))))))))))))))))
set_option maxRecDepth 100000 in
theorem c15 (g : Gh)  {r : (List AlertDef)} (hS : o15 = some r) :
  Ctr Try.prog 15 [] g [] (fun v ψ o => ∃ (Ar_0 : Option Addr) (cr_0 : Nat) (kr_0 : Option Bk), v = vs Ar_0 r cr_0 ∧ o = [kr_0] ∧ Buf ψ tyAlertDef 34 (.slice Ar_0 (r).length cr_0) kr_0 r) := by
 unfold o15 at hS
 refine xFn Try.f15 (Try.f15.body.getD .skip) 46 ?_
 refine xSq ?_
 refine xRg ?_
 refine xB 1 [] [] ?_
 refine xRe ?_
 refine wpq_then ?_
 refine xSq ?_
 refine xRg ?_
 refine xB 2 [] [(1, Value.agg #[vt ([78, 65, 86, 32, 85, 78, 85, 83, 65, 66, 76, 69]), vy 1, Value.int .u16 0]), (2, Value.agg #[vt ([70, 85, 69, 76, 32, 76, 79, 87]), vy 1, Value.int .u16 0])] ?_
 refine xE (eBs (T := (tyI .i64)) (p := g.b) (et := 3) (xs := ([(2 : Int), (7 : Int)] : List Int)) (reps_cons (c := [vi 2]) (show (tyI .i64).rep _ _ _ from rfl) (reps_cons (c := [vi 7]) (show (tyI .i64).rep _ _ _ from rfl) reps_nil)) (by simp)) ?_
 rintro _ _ _ - ⟨A1, c1, k1, rfl, rfl, rfl, h1⟩
 obtain ⟨y2, hy2, hS⟩ := bindO_T hS
 refine xE (eC 0 (fun g' lr eb ln => c38 g' (([(2 : Int), (7 : Int)] : List Int) : List Int) A1 c1 (arr_of_buf h1 (Psi.le_b eb) (lentk 0 (by kernel_rfl) ln)) hy2)) ?_
 rintro _ g3 _ e4 ⟨_, rfl, rfl, rfl⟩
 refine xB 1 [] [(1, Value.agg #[vt ([78, 65, 86, 32, 85, 78, 85, 83, 65, 66, 76, 69]), vy 1, Value.int .u16 0]), (2, Value.agg #[vt ([70, 85, 69, 76, 32, 76, 79, 87]), vy 1, Value.int .u16 0]), (5, Value.agg #[vt ([67, 79, 77, 80, 85, 84, 69, 82, 83, 32, 68, 73, 83, 65, 71, 82, 69, 69]), vy 2, Value.int .u16 y2])] ?_
 refine xE (eBs (T := (tyI .i64)) (p := g3.b) (et := 3) (xs := ([(2 : Int)] : List Int)) (reps_cons (c := [vi 2]) (show (tyI .i64).rep _ _ _ from rfl) reps_nil) (by simp)) ?_
 rintro _ _ _ - ⟨A5, c5, k5, rfl, rfl, rfl, h5⟩
 obtain ⟨y6, hy6, hS⟩ := bindO_T hS
 refine xE (eC 0 (fun g' lr eb ln => c38 g' (([(2 : Int)] : List Int) : List Int) A5 c5 (arr_of_buf h5 (Psi.le_b eb) (lentk 0 (by kernel_rfl) ln)) hy6)) ?_
 rintro _ g7 _ e8 ⟨_, rfl, rfl, rfl⟩
 refine xB 1 [] [(1, Value.agg #[vt ([78, 65, 86, 32, 85, 78, 85, 83, 65, 66, 76, 69]), vy 1, Value.int .u16 0]), (2, Value.agg #[vt ([70, 85, 69, 76, 32, 76, 79, 87]), vy 1, Value.int .u16 0]), (5, Value.agg #[vt ([67, 79, 77, 80, 85, 84, 69, 82, 83, 32, 68, 73, 83, 65, 71, 82, 69, 69]), vy 2, Value.int .u16 y2]), (8, Value.agg #[vt ([76, 65, 84, 69, 82, 65, 76, 32, 82, 69, 86, 69, 82, 83, 73, 79, 78]), vy 2, Value.int .u16 y6])] ?_
 refine xE (eBs (T := (tyI .i64)) (p := g7.b) (et := 3) (xs := ([(2 : Int)] : List Int)) (reps_cons (c := [vi 2]) (show (tyI .i64).rep _ _ _ from rfl) reps_nil) (by simp)) ?_
 rintro _ _ _ - ⟨A9, c9, k9, rfl, rfl, rfl, h9⟩
 obtain ⟨y10, hy10, hS⟩ := bindO_T hS
 refine xE (eC 0 (fun g' lr eb ln => c38 g' (([(2 : Int)] : List Int) : List Int) A9 c9 (arr_of_buf h9 (Psi.le_b eb) (lentk 0 (by kernel_rfl) ln)) hy10)) ?_
 rintro _ g11 _ e12 ⟨_, rfl, rfl, rfl⟩
 refine xB 1 [] [(1, Value.agg #[vt ([78, 65, 86, 32, 85, 78, 85, 83, 65, 66, 76, 69]), vy 1, Value.int .u16 0]), (2, Value.agg #[vt ([70, 85, 69, 76, 32, 76, 79, 87]), vy 1, Value.int .u16 0]), (5, Value.agg #[vt ([67, 79, 77, 80, 85, 84, 69, 82, 83, 32, 68, 73, 83, 65, 71, 82, 69, 69]), vy 2, Value.int .u16 y2]), (8, Value.agg #[vt ([76, 65, 84, 69, 82, 65, 76, 32, 82, 69, 86, 69, 82, 83, 73, 79, 78]), vy 2, Value.int .u16 y6]), (11, Value.agg #[vt ([86, 69, 82, 84, 73, 67, 65, 76, 32, 82, 69, 86, 69, 82, 83, 73, 79, 78]), vy 2, Value.int .u16 y10])] ?_
 refine xE (eBs (T := (tyI .i64)) (p := g11.b) (et := 3) (xs := ([(2 : Int), (7 : Int)] : List Int)) (reps_cons (c := [vi 2]) (show (tyI .i64).rep _ _ _ from rfl) (reps_cons (c := [vi 7]) (show (tyI .i64).rep _ _ _ from rfl) reps_nil)) (by simp)) ?_
 rintro _ _ _ - ⟨A13, c13, k13, rfl, rfl, rfl, h13⟩
 obtain ⟨y14, hy14, hS⟩ := bindO_T hS
 refine xE (eC 0 (fun g' lr eb ln => c38 g' (([(2 : Int), (7 : Int)] : List Int) : List Int) A13 c13 (arr_of_buf h13 (Psi.le_b eb) (lentk 0 (by kernel_rfl) ln)) hy14)) ?_
 rintro _ g15 _ e16 ⟨_, rfl, rfl, rfl⟩
 refine xB 1 [] [(1, Value.agg #[vt ([78, 65, 86, 32, 85, 78, 85, 83, 65, 66, 76, 69]), vy 1, Value.int .u16 0]), (2, Value.agg #[vt ([70, 85, 69, 76, 32, 76, 79, 87]), vy 1, Value.int .u16 0]), (5, Value.agg #[vt ([67, 79, 77, 80, 85, 84, 69, 82, 83, 32, 68, 73, 83, 65, 71, 82, 69, 69]), vy 2, Value.int .u16 y2]), (8, Value.agg #[vt ([76, 65, 84, 69, 82, 65, 76, 32, 82, 69, 86, 69, 82, 83, 73, 79, 78]), vy 2, Value.int .u16 y6]), (11, Value.agg #[vt ([86, 69, 82, 84, 73, 67, 65, 76, 32, 82, 69, 86, 69, 82, 83, 73, 79, 78]), vy 2, Value.int .u16 y10]), (14, Value.agg #[vt ([65, 76, 84, 73, 84, 85, 68, 69, 32, 79, 86, 69, 82, 83, 72, 79, 84]), vy 2, Value.int .u16 y14])] ?_
 refine xE (eBs (T := (tyI .i64)) (p := g15.b) (et := 3) (xs := ([(2 : Int), (3 : Int), (4 : Int), (5 : Int), (6 : Int), (7 : Int), (8 : Int)] : List Int)) (reps_cons (c := [vi 2]) (show (tyI .i64).rep _ _ _ from rfl) (reps_cons (c := [vi 3]) (show (tyI .i64).rep _ _ _ from rfl) (reps_cons (c := [vi 4]) (show (tyI .i64).rep _ _ _ from rfl) (reps_cons (c := [vi 5]) (show (tyI .i64).rep _ _ _ from rfl) (reps_cons (c := [vi 6]) (show (tyI .i64).rep _ _ _ from rfl) (reps_cons (c := [vi 7]) (show (tyI .i64).rep _ _ _ from rfl) (reps_cons (c := [vi 8]) (show (tyI .i64).rep _ _ _ from rfl) reps_nil))))))) (by simp)) ?_
 rintro _ _ _ - ⟨A17, c17, k17, rfl, rfl, rfl, h17⟩
 obtain ⟨y18, hy18, hS⟩ := bindO_T hS
 refine xE (eC 0 (fun g' lr eb ln => c38 g' (([(2 : Int), (3 : Int), (4 : Int), (5 : Int), (6 : Int), (7 : Int), (8 : Int)] : List Int) : List Int) A17 c17 (arr_of_buf h17 (Psi.le_b eb) (lentk 0 (by kernel_rfl) ln)) hy18)) ?_
 rintro _ g19 _ e20 ⟨_, rfl, rfl, rfl⟩
 refine xB 1 [] [(1, Value.agg #[vt ([78, 65, 86, 32, 85, 78, 85, 83, 65, 66, 76, 69]), vy 1, Value.int .u16 0]), (2, Value.agg #[vt ([70, 85, 69, 76, 32, 76, 79, 87]), vy 1, Value.int .u16 0]), (5, Value.agg #[vt ([67, 79, 77, 80, 85, 84, 69, 82, 83, 32, 68, 73, 83, 65, 71, 82, 69, 69]), vy 2, Value.int .u16 y2]), (8, Value.agg #[vt ([76, 65, 84, 69, 82, 65, 76, 32, 82, 69, 86, 69, 82, 83, 73, 79, 78]), vy 2, Value.int .u16 y6]), (11, Value.agg #[vt ([86, 69, 82, 84, 73, 67, 65, 76, 32, 82, 69, 86, 69, 82, 83, 73, 79, 78]), vy 2, Value.int .u16 y10]), (14, Value.agg #[vt ([65, 76, 84, 73, 84, 85, 68, 69, 32, 79, 86, 69, 82, 83, 72, 79, 84]), vy 2, Value.int .u16 y14]), (17, Value.agg #[vt ([68, 65, 84, 65, 66, 65, 83, 69, 32, 69, 88, 80, 73, 82, 69, 68]), vy 2, Value.int .u16 y18])] ?_
 refine xE (eBs (T := (tyI .i64)) (p := g19.b) (et := 3) (xs := ([(2 : Int), (7 : Int)] : List Int)) (reps_cons (c := [vi 2]) (show (tyI .i64).rep _ _ _ from rfl) (reps_cons (c := [vi 7]) (show (tyI .i64).rep _ _ _ from rfl) reps_nil)) (by simp)) ?_
 rintro _ _ _ - ⟨A21, c21, k21, rfl, rfl, rfl, h21⟩
 obtain ⟨y22, hy22, hS⟩ := bindO_T hS
 refine xE (eC 0 (fun g' lr eb ln => c38 g' (([(2 : Int), (7 : Int)] : List Int) : List Int) A21 c21 (arr_of_buf h21 (Psi.le_b eb) (lentk 0 (by kernel_rfl) ln)) hy22)) ?_
 rintro _ g23 _ e24 ⟨_, rfl, rfl, rfl⟩
 refine xB 1 [] [(1, Value.agg #[vt ([78, 65, 86, 32, 85, 78, 85, 83, 65, 66, 76, 69]), vy 1, Value.int .u16 0]), (2, Value.agg #[vt ([70, 85, 69, 76, 32, 76, 79, 87]), vy 1, Value.int .u16 0]), (5, Value.agg #[vt ([67, 79, 77, 80, 85, 84, 69, 82, 83, 32, 68, 73, 83, 65, 71, 82, 69, 69]), vy 2, Value.int .u16 y2]), (8, Value.agg #[vt ([76, 65, 84, 69, 82, 65, 76, 32, 82, 69, 86, 69, 82, 83, 73, 79, 78]), vy 2, Value.int .u16 y6]), (11, Value.agg #[vt ([86, 69, 82, 84, 73, 67, 65, 76, 32, 82, 69, 86, 69, 82, 83, 73, 79, 78]), vy 2, Value.int .u16 y10]), (14, Value.agg #[vt ([65, 76, 84, 73, 84, 85, 68, 69, 32, 79, 86, 69, 82, 83, 72, 79, 84]), vy 2, Value.int .u16 y14]), (17, Value.agg #[vt ([68, 65, 84, 65, 66, 65, 83, 69, 32, 69, 88, 80, 73, 82, 69, 68]), vy 2, Value.int .u16 y18]), (20, Value.agg #[vt ([67, 79, 78, 83, 84, 82, 65, 73, 78, 84, 83, 32, 67, 79, 78, 70, 76, 73, 67, 84]), vy 2, Value.int .u16 y22])] ?_
 refine xE (eBs (T := (tyI .i64)) (p := g23.b) (et := 3) (xs := ([(1 : Int), (2 : Int), (8 : Int)] : List Int)) (reps_cons (c := [vi 1]) (show (tyI .i64).rep _ _ _ from rfl) (reps_cons (c := [vi 2]) (show (tyI .i64).rep _ _ _ from rfl) (reps_cons (c := [vi 8]) (show (tyI .i64).rep _ _ _ from rfl) reps_nil))) (by simp)) ?_
 rintro _ _ _ - ⟨A25, c25, k25, rfl, rfl, rfl, h25⟩
 obtain ⟨y26, hy26, hS⟩ := bindO_T hS
 refine xE (eC 0 (fun g' lr eb ln => c38 g' (([(1 : Int), (2 : Int), (8 : Int)] : List Int) : List Int) A25 c25 (arr_of_buf h25 (Psi.le_b eb) (lentk 0 (by kernel_rfl) ln)) hy26)) ?_
 rintro _ g27 _ e28 ⟨_, rfl, rfl, rfl⟩
 refine xB 1 [] [(1, Value.agg #[vt ([78, 65, 86, 32, 85, 78, 85, 83, 65, 66, 76, 69]), vy 1, Value.int .u16 0]), (2, Value.agg #[vt ([70, 85, 69, 76, 32, 76, 79, 87]), vy 1, Value.int .u16 0]), (5, Value.agg #[vt ([67, 79, 77, 80, 85, 84, 69, 82, 83, 32, 68, 73, 83, 65, 71, 82, 69, 69]), vy 2, Value.int .u16 y2]), (8, Value.agg #[vt ([76, 65, 84, 69, 82, 65, 76, 32, 82, 69, 86, 69, 82, 83, 73, 79, 78]), vy 2, Value.int .u16 y6]), (11, Value.agg #[vt ([86, 69, 82, 84, 73, 67, 65, 76, 32, 82, 69, 86, 69, 82, 83, 73, 79, 78]), vy 2, Value.int .u16 y10]), (14, Value.agg #[vt ([65, 76, 84, 73, 84, 85, 68, 69, 32, 79, 86, 69, 82, 83, 72, 79, 84]), vy 2, Value.int .u16 y14]), (17, Value.agg #[vt ([68, 65, 84, 65, 66, 65, 83, 69, 32, 69, 88, 80, 73, 82, 69, 68]), vy 2, Value.int .u16 y18]), (20, Value.agg #[vt ([67, 79, 78, 83, 84, 82, 65, 73, 78, 84, 83, 32, 67, 79, 78, 70, 76, 73, 67, 84]), vy 2, Value.int .u16 y22]), (23, Value.agg #[vt ([68, 73, 83, 67, 79, 78, 84, 73, 78, 85, 73, 84, 89]), vy 2, Value.int .u16 y26])] ?_
 refine xE (eBs (T := (tyI .i64)) (p := g27.b) (et := 3) (xs := ([(2 : Int), (7 : Int)] : List Int)) (reps_cons (c := [vi 2]) (show (tyI .i64).rep _ _ _ from rfl) (reps_cons (c := [vi 7]) (show (tyI .i64).rep _ _ _ from rfl) reps_nil)) (by simp)) ?_
 rintro _ _ _ - ⟨A29, c29, k29, rfl, rfl, rfl, h29⟩
 obtain ⟨y30, hy30, hS⟩ := bindO_T hS
 refine xE (eC 0 (fun g' lr eb ln => c38 g' (([(2 : Int), (7 : Int)] : List Int) : List Int) A29 c29 (arr_of_buf h29 (Psi.le_b eb) (lentk 0 (by kernel_rfl) ln)) hy30)) ?_
 rintro _ g31 _ e32 ⟨_, rfl, rfl, rfl⟩
 refine xB 1 [] [(1, Value.agg #[vt ([78, 65, 86, 32, 85, 78, 85, 83, 65, 66, 76, 69]), vy 1, Value.int .u16 0]), (2, Value.agg #[vt ([70, 85, 69, 76, 32, 76, 79, 87]), vy 1, Value.int .u16 0]), (5, Value.agg #[vt ([67, 79, 77, 80, 85, 84, 69, 82, 83, 32, 68, 73, 83, 65, 71, 82, 69, 69]), vy 2, Value.int .u16 y2]), (8, Value.agg #[vt ([76, 65, 84, 69, 82, 65, 76, 32, 82, 69, 86, 69, 82, 83, 73, 79, 78]), vy 2, Value.int .u16 y6]), (11, Value.agg #[vt ([86, 69, 82, 84, 73, 67, 65, 76, 32, 82, 69, 86, 69, 82, 83, 73, 79, 78]), vy 2, Value.int .u16 y10]), (14, Value.agg #[vt ([65, 76, 84, 73, 84, 85, 68, 69, 32, 79, 86, 69, 82, 83, 72, 79, 84]), vy 2, Value.int .u16 y14]), (17, Value.agg #[vt ([68, 65, 84, 65, 66, 65, 83, 69, 32, 69, 88, 80, 73, 82, 69, 68]), vy 2, Value.int .u16 y18]), (20, Value.agg #[vt ([67, 79, 78, 83, 84, 82, 65, 73, 78, 84, 83, 32, 67, 79, 78, 70, 76, 73, 67, 84]), vy 2, Value.int .u16 y22]), (23, Value.agg #[vt ([68, 73, 83, 67, 79, 78, 84, 73, 78, 85, 73, 84, 89]), vy 2, Value.int .u16 y26]), (26, Value.agg #[vt ([70, 85, 69, 76, 32, 83, 72, 79, 82, 84]), vy 2, Value.int .u16 y30])] ?_
 refine xE (eBs (T := (tyI .i64)) (p := g31.b) (et := 3) (xs := ([(2 : Int), (6 : Int), (7 : Int)] : List Int)) (reps_cons (c := [vi 2]) (show (tyI .i64).rep _ _ _ from rfl) (reps_cons (c := [vi 6]) (show (tyI .i64).rep _ _ _ from rfl) (reps_cons (c := [vi 7]) (show (tyI .i64).rep _ _ _ from rfl) reps_nil))) (by simp)) ?_
 rintro _ _ _ - ⟨A33, c33, k33, rfl, rfl, rfl, h33⟩
 obtain ⟨y34, hy34, hS⟩ := bindO_T hS
 refine xE (eC 0 (fun g' lr eb ln => c38 g' (([(2 : Int), (6 : Int), (7 : Int)] : List Int) : List Int) A33 c33 (arr_of_buf h33 (Psi.le_b eb) (lentk 0 (by kernel_rfl) ln)) hy34)) ?_
 rintro _ g35 _ e36 ⟨_, rfl, rfl, rfl⟩
 refine xB 1 [] [(1, Value.agg #[vt ([78, 65, 86, 32, 85, 78, 85, 83, 65, 66, 76, 69]), vy 1, Value.int .u16 0]), (2, Value.agg #[vt ([70, 85, 69, 76, 32, 76, 79, 87]), vy 1, Value.int .u16 0]), (5, Value.agg #[vt ([67, 79, 77, 80, 85, 84, 69, 82, 83, 32, 68, 73, 83, 65, 71, 82, 69, 69]), vy 2, Value.int .u16 y2]), (8, Value.agg #[vt ([76, 65, 84, 69, 82, 65, 76, 32, 82, 69, 86, 69, 82, 83, 73, 79, 78]), vy 2, Value.int .u16 y6]), (11, Value.agg #[vt ([86, 69, 82, 84, 73, 67, 65, 76, 32, 82, 69, 86, 69, 82, 83, 73, 79, 78]), vy 2, Value.int .u16 y10]), (14, Value.agg #[vt ([65, 76, 84, 73, 84, 85, 68, 69, 32, 79, 86, 69, 82, 83, 72, 79, 84]), vy 2, Value.int .u16 y14]), (17, Value.agg #[vt ([68, 65, 84, 65, 66, 65, 83, 69, 32, 69, 88, 80, 73, 82, 69, 68]), vy 2, Value.int .u16 y18]), (20, Value.agg #[vt ([67, 79, 78, 83, 84, 82, 65, 73, 78, 84, 83, 32, 67, 79, 78, 70, 76, 73, 67, 84]), vy 2, Value.int .u16 y22]), (23, Value.agg #[vt ([68, 73, 83, 67, 79, 78, 84, 73, 78, 85, 73, 84, 89]), vy 2, Value.int .u16 y26]), (26, Value.agg #[vt ([70, 85, 69, 76, 32, 83, 72, 79, 82, 84]), vy 2, Value.int .u16 y30]), (29, Value.agg #[vt ([83, 73, 78, 71, 76, 69, 32, 67, 79, 77, 80, 85, 84, 69, 82]), vy 3, Value.int .u16 y34])] ?_
 refine xE (eBs (T := (tyI .i64)) (p := g35.b) (et := 3) (xs := ([(2 : Int), (6 : Int), (7 : Int)] : List Int)) (reps_cons (c := [vi 2]) (show (tyI .i64).rep _ _ _ from rfl) (reps_cons (c := [vi 6]) (show (tyI .i64).rep _ _ _ from rfl) (reps_cons (c := [vi 7]) (show (tyI .i64).rep _ _ _ from rfl) reps_nil))) (by simp)) ?_
 rintro _ _ _ - ⟨A37, c37, k37, rfl, rfl, rfl, h37⟩
 obtain ⟨y38, hy38, hS⟩ := bindO_T hS
 refine xE (eC 0 (fun g' lr eb ln => c38 g' (([(2 : Int), (6 : Int), (7 : Int)] : List Int) : List Int) A37 c37 (arr_of_buf h37 (Psi.le_b eb) (lentk 0 (by kernel_rfl) ln)) hy38)) ?_
 rintro _ g39 _ e40 ⟨_, rfl, rfl, rfl⟩
 refine xB 1 [] [(1, Value.agg #[vt ([78, 65, 86, 32, 85, 78, 85, 83, 65, 66, 76, 69]), vy 1, Value.int .u16 0]), (2, Value.agg #[vt ([70, 85, 69, 76, 32, 76, 79, 87]), vy 1, Value.int .u16 0]), (5, Value.agg #[vt ([67, 79, 77, 80, 85, 84, 69, 82, 83, 32, 68, 73, 83, 65, 71, 82, 69, 69]), vy 2, Value.int .u16 y2]), (8, Value.agg #[vt ([76, 65, 84, 69, 82, 65, 76, 32, 82, 69, 86, 69, 82, 83, 73, 79, 78]), vy 2, Value.int .u16 y6]), (11, Value.agg #[vt ([86, 69, 82, 84, 73, 67, 65, 76, 32, 82, 69, 86, 69, 82, 83, 73, 79, 78]), vy 2, Value.int .u16 y10]), (14, Value.agg #[vt ([65, 76, 84, 73, 84, 85, 68, 69, 32, 79, 86, 69, 82, 83, 72, 79, 84]), vy 2, Value.int .u16 y14]), (17, Value.agg #[vt ([68, 65, 84, 65, 66, 65, 83, 69, 32, 69, 88, 80, 73, 82, 69, 68]), vy 2, Value.int .u16 y18]), (20, Value.agg #[vt ([67, 79, 78, 83, 84, 82, 65, 73, 78, 84, 83, 32, 67, 79, 78, 70, 76, 73, 67, 84]), vy 2, Value.int .u16 y22]), (23, Value.agg #[vt ([68, 73, 83, 67, 79, 78, 84, 73, 78, 85, 73, 84, 89]), vy 2, Value.int .u16 y26]), (26, Value.agg #[vt ([70, 85, 69, 76, 32, 83, 72, 79, 82, 84]), vy 2, Value.int .u16 y30]), (29, Value.agg #[vt ([83, 73, 78, 71, 76, 69, 32, 67, 79, 77, 80, 85, 84, 69, 82]), vy 3, Value.int .u16 y34]), (32, Value.agg #[vt ([83, 69, 78, 83, 79, 82, 32, 69, 88, 67, 76, 85, 68, 69, 68]), vy 3, Value.int .u16 y38])] ?_
 refine xE (eBs (T := (tyI .i64)) (p := g39.b) (et := 3) (xs := ([(2 : Int), (6 : Int), (7 : Int)] : List Int)) (reps_cons (c := [vi 2]) (show (tyI .i64).rep _ _ _ from rfl) (reps_cons (c := [vi 6]) (show (tyI .i64).rep _ _ _ from rfl) (reps_cons (c := [vi 7]) (show (tyI .i64).rep _ _ _ from rfl) reps_nil))) (by simp)) ?_
 rintro _ _ _ - ⟨A41, c41, k41, rfl, rfl, rfl, h41⟩
 obtain ⟨y42, hy42, hS⟩ := bindO_T hS
 refine xE (eC 0 (fun g' lr eb ln => c38 g' (([(2 : Int), (6 : Int), (7 : Int)] : List Int) : List Int) A41 c41 (arr_of_buf h41 (Psi.le_b eb) (lentk 0 (by kernel_rfl) ln)) hy42)) ?_
 rintro _ g43 _ e44 ⟨_, rfl, rfl, rfl⟩
 refine xB 1 [] [(1, Value.agg #[vt ([78, 65, 86, 32, 85, 78, 85, 83, 65, 66, 76, 69]), vy 1, Value.int .u16 0]), (2, Value.agg #[vt ([70, 85, 69, 76, 32, 76, 79, 87]), vy 1, Value.int .u16 0]), (5, Value.agg #[vt ([67, 79, 77, 80, 85, 84, 69, 82, 83, 32, 68, 73, 83, 65, 71, 82, 69, 69]), vy 2, Value.int .u16 y2]), (8, Value.agg #[vt ([76, 65, 84, 69, 82, 65, 76, 32, 82, 69, 86, 69, 82, 83, 73, 79, 78]), vy 2, Value.int .u16 y6]), (11, Value.agg #[vt ([86, 69, 82, 84, 73, 67, 65, 76, 32, 82, 69, 86, 69, 82, 83, 73, 79, 78]), vy 2, Value.int .u16 y10]), (14, Value.agg #[vt ([65, 76, 84, 73, 84, 85, 68, 69, 32, 79, 86, 69, 82, 83, 72, 79, 84]), vy 2, Value.int .u16 y14]), (17, Value.agg #[vt ([68, 65, 84, 65, 66, 65, 83, 69, 32, 69, 88, 80, 73, 82, 69, 68]), vy 2, Value.int .u16 y18]), (20, Value.agg #[vt ([67, 79, 78, 83, 84, 82, 65, 73, 78, 84, 83, 32, 67, 79, 78, 70, 76, 73, 67, 84]), vy 2, Value.int .u16 y22]), (23, Value.agg #[vt ([68, 73, 83, 67, 79, 78, 84, 73, 78, 85, 73, 84, 89]), vy 2, Value.int .u16 y26]), (26, Value.agg #[vt ([70, 85, 69, 76, 32, 83, 72, 79, 82, 84]), vy 2, Value.int .u16 y30]), (29, Value.agg #[vt ([83, 73, 78, 71, 76, 69, 32, 67, 79, 77, 80, 85, 84, 69, 82]), vy 3, Value.int .u16 y34]), (32, Value.agg #[vt ([83, 69, 78, 83, 79, 82, 32, 69, 88, 67, 76, 85, 68, 69, 68]), vy 3, Value.int .u16 y38]), (35, Value.agg #[vt ([84, 73, 77, 69, 32, 78, 79, 84, 32, 77, 69, 84]), vy 3, Value.int .u16 y42])] ?_
 refine xE (eBs (T := (tyI .i64)) (p := g43.b) (et := 3) (xs := ([(2 : Int), (5 : Int), (6 : Int), (7 : Int), (8 : Int)] : List Int)) (reps_cons (c := [vi 2]) (show (tyI .i64).rep _ _ _ from rfl) (reps_cons (c := [vi 5]) (show (tyI .i64).rep _ _ _ from rfl) (reps_cons (c := [vi 6]) (show (tyI .i64).rep _ _ _ from rfl) (reps_cons (c := [vi 7]) (show (tyI .i64).rep _ _ _ from rfl) (reps_cons (c := [vi 8]) (show (tyI .i64).rep _ _ _ from rfl) reps_nil))))) (by simp)) ?_
 rintro _ _ _ - ⟨A45, c45, k45, rfl, rfl, rfl, h45⟩
 obtain ⟨y46, hy46, hS⟩ := bindO_T hS
 refine xE (eC 0 (fun g' lr eb ln => c38 g' (([(2 : Int), (5 : Int), (6 : Int), (7 : Int), (8 : Int)] : List Int) : List Int) A45 c45 (arr_of_buf h45 (Psi.le_b eb) (lentk 0 (by kernel_rfl) ln)) hy46)) ?_
 rintro _ g47 _ e48 ⟨_, rfl, rfl, rfl⟩
 refine xB 1 [] [(1, Value.agg #[vt ([78, 65, 86, 32, 85, 78, 85, 83, 65, 66, 76, 69]), vy 1, Value.int .u16 0]), (2, Value.agg #[vt ([70, 85, 69, 76, 32, 76, 79, 87]), vy 1, Value.int .u16 0]), (5, Value.agg #[vt ([67, 79, 77, 80, 85, 84, 69, 82, 83, 32, 68, 73, 83, 65, 71, 82, 69, 69]), vy 2, Value.int .u16 y2]), (8, Value.agg #[vt ([76, 65, 84, 69, 82, 65, 76, 32, 82, 69, 86, 69, 82, 83, 73, 79, 78]), vy 2, Value.int .u16 y6]), (11, Value.agg #[vt ([86, 69, 82, 84, 73, 67, 65, 76, 32, 82, 69, 86, 69, 82, 83, 73, 79, 78]), vy 2, Value.int .u16 y10]), (14, Value.agg #[vt ([65, 76, 84, 73, 84, 85, 68, 69, 32, 79, 86, 69, 82, 83, 72, 79, 84]), vy 2, Value.int .u16 y14]), (17, Value.agg #[vt ([68, 65, 84, 65, 66, 65, 83, 69, 32, 69, 88, 80, 73, 82, 69, 68]), vy 2, Value.int .u16 y18]), (20, Value.agg #[vt ([67, 79, 78, 83, 84, 82, 65, 73, 78, 84, 83, 32, 67, 79, 78, 70, 76, 73, 67, 84]), vy 2, Value.int .u16 y22]), (23, Value.agg #[vt ([68, 73, 83, 67, 79, 78, 84, 73, 78, 85, 73, 84, 89]), vy 2, Value.int .u16 y26]), (26, Value.agg #[vt ([70, 85, 69, 76, 32, 83, 72, 79, 82, 84]), vy 2, Value.int .u16 y30]), (29, Value.agg #[vt ([83, 73, 78, 71, 76, 69, 32, 67, 79, 77, 80, 85, 84, 69, 82]), vy 3, Value.int .u16 y34]), (32, Value.agg #[vt ([83, 69, 78, 83, 79, 82, 32, 69, 88, 67, 76, 85, 68, 69, 68]), vy 3, Value.int .u16 y38]), (35, Value.agg #[vt ([84, 73, 77, 69, 32, 78, 79, 84, 32, 77, 69, 84]), vy 3, Value.int .u16 y42]), (38, Value.agg #[vt ([84, 79, 80, 32, 79, 70, 32, 68, 69, 83, 67, 69, 78, 84]), vy 3, Value.int .u16 y46])] ?_
 refine xE (eBs (T := (tyI .i64)) (p := g47.b) (et := 3) (xs := ([(2 : Int), (7 : Int), (8 : Int)] : List Int)) (reps_cons (c := [vi 2]) (show (tyI .i64).rep _ _ _ from rfl) (reps_cons (c := [vi 7]) (show (tyI .i64).rep _ _ _ from rfl) (reps_cons (c := [vi 8]) (show (tyI .i64).rep _ _ _ from rfl) reps_nil))) (by simp)) ?_
 rintro _ _ _ - ⟨A49, c49, k49, rfl, rfl, rfl, h49⟩
 obtain ⟨y50, hy50, hS⟩ := bindO_T hS
 refine xE (eC 0 (fun g' lr eb ln => c38 g' (([(2 : Int), (7 : Int), (8 : Int)] : List Int) : List Int) A49 c49 (arr_of_buf h49 (Psi.le_b eb) (lentk 0 (by kernel_rfl) ln)) hy50)) ?_
 rintro _ g51 _ e52 ⟨_, rfl, rfl, rfl⟩
 refine xB 1 [] [(1, Value.agg #[vt ([78, 65, 86, 32, 85, 78, 85, 83, 65, 66, 76, 69]), vy 1, Value.int .u16 0]), (2, Value.agg #[vt ([70, 85, 69, 76, 32, 76, 79, 87]), vy 1, Value.int .u16 0]), (5, Value.agg #[vt ([67, 79, 77, 80, 85, 84, 69, 82, 83, 32, 68, 73, 83, 65, 71, 82, 69, 69]), vy 2, Value.int .u16 y2]), (8, Value.agg #[vt ([76, 65, 84, 69, 82, 65, 76, 32, 82, 69, 86, 69, 82, 83, 73, 79, 78]), vy 2, Value.int .u16 y6]), (11, Value.agg #[vt ([86, 69, 82, 84, 73, 67, 65, 76, 32, 82, 69, 86, 69, 82, 83, 73, 79, 78]), vy 2, Value.int .u16 y10]), (14, Value.agg #[vt ([65, 76, 84, 73, 84, 85, 68, 69, 32, 79, 86, 69, 82, 83, 72, 79, 84]), vy 2, Value.int .u16 y14]), (17, Value.agg #[vt ([68, 65, 84, 65, 66, 65, 83, 69, 32, 69, 88, 80, 73, 82, 69, 68]), vy 2, Value.int .u16 y18]), (20, Value.agg #[vt ([67, 79, 78, 83, 84, 82, 65, 73, 78, 84, 83, 32, 67, 79, 78, 70, 76, 73, 67, 84]), vy 2, Value.int .u16 y22]), (23, Value.agg #[vt ([68, 73, 83, 67, 79, 78, 84, 73, 78, 85, 73, 84, 89]), vy 2, Value.int .u16 y26]), (26, Value.agg #[vt ([70, 85, 69, 76, 32, 83, 72, 79, 82, 84]), vy 2, Value.int .u16 y30]), (29, Value.agg #[vt ([83, 73, 78, 71, 76, 69, 32, 67, 79, 77, 80, 85, 84, 69, 82]), vy 3, Value.int .u16 y34]), (32, Value.agg #[vt ([83, 69, 78, 83, 79, 82, 32, 69, 88, 67, 76, 85, 68, 69, 68]), vy 3, Value.int .u16 y38]), (35, Value.agg #[vt ([84, 73, 77, 69, 32, 78, 79, 84, 32, 77, 69, 84]), vy 3, Value.int .u16 y42]), (38, Value.agg #[vt ([84, 79, 80, 32, 79, 70, 32, 68, 69, 83, 67, 69, 78, 84]), vy 3, Value.int .u16 y46]), (41, Value.agg #[vt ([69, 78, 68, 32, 79, 70, 32, 82, 79, 85, 84, 69]), vy 3, Value.int .u16 y50])] ?_
 refine xE (eBs (T := (tyI .i64)) (p := g51.b) (et := 3) (xs := ([(2 : Int), (6 : Int), (7 : Int)] : List Int)) (reps_cons (c := [vi 2]) (show (tyI .i64).rep _ _ _ from rfl) (reps_cons (c := [vi 6]) (show (tyI .i64).rep _ _ _ from rfl) (reps_cons (c := [vi 7]) (show (tyI .i64).rep _ _ _ from rfl) reps_nil))) (by simp)) ?_
 rintro _ _ _ - ⟨A53, c53, k53, rfl, rfl, rfl, h53⟩
 obtain ⟨y54, hy54, hS⟩ := bindO_T hS
 refine xE (eC 0 (fun g' lr eb ln => c38 g' (([(2 : Int), (6 : Int), (7 : Int)] : List Int) : List Int) A53 c53 (arr_of_buf h53 (Psi.le_b eb) (lentk 0 (by kernel_rfl) ln)) hy54)) ?_
 rintro _ g55 _ e56 ⟨_, rfl, rfl, rfl⟩
 refine xB 1 [] [(1, Value.agg #[vt ([78, 65, 86, 32, 85, 78, 85, 83, 65, 66, 76, 69]), vy 1, Value.int .u16 0]), (2, Value.agg #[vt ([70, 85, 69, 76, 32, 76, 79, 87]), vy 1, Value.int .u16 0]), (5, Value.agg #[vt ([67, 79, 77, 80, 85, 84, 69, 82, 83, 32, 68, 73, 83, 65, 71, 82, 69, 69]), vy 2, Value.int .u16 y2]), (8, Value.agg #[vt ([76, 65, 84, 69, 82, 65, 76, 32, 82, 69, 86, 69, 82, 83, 73, 79, 78]), vy 2, Value.int .u16 y6]), (11, Value.agg #[vt ([86, 69, 82, 84, 73, 67, 65, 76, 32, 82, 69, 86, 69, 82, 83, 73, 79, 78]), vy 2, Value.int .u16 y10]), (14, Value.agg #[vt ([65, 76, 84, 73, 84, 85, 68, 69, 32, 79, 86, 69, 82, 83, 72, 79, 84]), vy 2, Value.int .u16 y14]), (17, Value.agg #[vt ([68, 65, 84, 65, 66, 65, 83, 69, 32, 69, 88, 80, 73, 82, 69, 68]), vy 2, Value.int .u16 y18]), (20, Value.agg #[vt ([67, 79, 78, 83, 84, 82, 65, 73, 78, 84, 83, 32, 67, 79, 78, 70, 76, 73, 67, 84]), vy 2, Value.int .u16 y22]), (23, Value.agg #[vt ([68, 73, 83, 67, 79, 78, 84, 73, 78, 85, 73, 84, 89]), vy 2, Value.int .u16 y26]), (26, Value.agg #[vt ([70, 85, 69, 76, 32, 83, 72, 79, 82, 84]), vy 2, Value.int .u16 y30]), (29, Value.agg #[vt ([83, 73, 78, 71, 76, 69, 32, 67, 79, 77, 80, 85, 84, 69, 82]), vy 3, Value.int .u16 y34]), (32, Value.agg #[vt ([83, 69, 78, 83, 79, 82, 32, 69, 88, 67, 76, 85, 68, 69, 68]), vy 3, Value.int .u16 y38]), (35, Value.agg #[vt ([84, 73, 77, 69, 32, 78, 79, 84, 32, 77, 69, 84]), vy 3, Value.int .u16 y42]), (38, Value.agg #[vt ([84, 79, 80, 32, 79, 70, 32, 68, 69, 83, 67, 69, 78, 84]), vy 3, Value.int .u16 y46]), (41, Value.agg #[vt ([69, 78, 68, 32, 79, 70, 32, 82, 79, 85, 84, 69]), vy 3, Value.int .u16 y50]), (44, Value.agg #[vt ([77, 69, 77, 79, 82, 89, 32, 70, 65, 85, 76, 84]), vy 3, Value.int .u16 y54])] ?_
 refine xE (eBs (T := tyAlertDef) (p := g55.b) (et := 34) (xs := ([(⟨([78, 65, 86, 32, 85, 78, 85, 83, 65, 66, 76, 69] : List UInt8), 1, 0⟩ : AlertDef), (⟨([70, 85, 69, 76, 32, 76, 79, 87] : List UInt8), 1, 0⟩ : AlertDef), (⟨([67, 79, 77, 80, 85, 84, 69, 82, 83, 32, 68, 73, 83, 65, 71, 82, 69, 69] : List UInt8), 2, y2⟩ : AlertDef), (⟨([76, 65, 84, 69, 82, 65, 76, 32, 82, 69, 86, 69, 82, 83, 73, 79, 78] : List UInt8), 2, y6⟩ : AlertDef), (⟨([86, 69, 82, 84, 73, 67, 65, 76, 32, 82, 69, 86, 69, 82, 83, 73, 79, 78] : List UInt8), 2, y10⟩ : AlertDef), (⟨([65, 76, 84, 73, 84, 85, 68, 69, 32, 79, 86, 69, 82, 83, 72, 79, 84] : List UInt8), 2, y14⟩ : AlertDef), (⟨([68, 65, 84, 65, 66, 65, 83, 69, 32, 69, 88, 80, 73, 82, 69, 68] : List UInt8), 2, y18⟩ : AlertDef), (⟨([67, 79, 78, 83, 84, 82, 65, 73, 78, 84, 83, 32, 67, 79, 78, 70, 76, 73, 67, 84] : List UInt8), 2, y22⟩ : AlertDef), (⟨([68, 73, 83, 67, 79, 78, 84, 73, 78, 85, 73, 84, 89] : List UInt8), 2, y26⟩ : AlertDef), (⟨([70, 85, 69, 76, 32, 83, 72, 79, 82, 84] : List UInt8), 2, y30⟩ : AlertDef), (⟨([83, 73, 78, 71, 76, 69, 32, 67, 79, 77, 80, 85, 84, 69, 82] : List UInt8), 3, y34⟩ : AlertDef), (⟨([83, 69, 78, 83, 79, 82, 32, 69, 88, 67, 76, 85, 68, 69, 68] : List UInt8), 3, y38⟩ : AlertDef), (⟨([84, 73, 77, 69, 32, 78, 79, 84, 32, 77, 69, 84] : List UInt8), 3, y42⟩ : AlertDef), (⟨([84, 79, 80, 32, 79, 70, 32, 68, 69, 83, 67, 69, 78, 84] : List UInt8), 3, y46⟩ : AlertDef), (⟨([69, 78, 68, 32, 79, 70, 32, 82, 79, 85, 84, 69] : List UInt8), 3, y50⟩ : AlertDef), (⟨([77, 69, 77, 79, 82, 89, 32, 70, 65, 85, 76, 84] : List UInt8), 3, y54⟩ : AlertDef)] : List AlertDef)) (reps_cons (c := [vt ([78, 65, 86, 32, 85, 78, 85, 83, 65, 66, 76, 69]), vy 1, Value.int .u16 0]) (show tyAlertDef.rep _ _ (⟨([78, 65, 86, 32, 85, 78, 85, 83, 65, 66, 76, 69] : List UInt8), 1, 0⟩ : AlertDef) from rfl) (reps_cons (c := [vt ([70, 85, 69, 76, 32, 76, 79, 87]), vy 1, Value.int .u16 0]) (show tyAlertDef.rep _ _ (⟨([70, 85, 69, 76, 32, 76, 79, 87] : List UInt8), 1, 0⟩ : AlertDef) from rfl) (reps_cons (c := [vt ([67, 79, 77, 80, 85, 84, 69, 82, 83, 32, 68, 73, 83, 65, 71, 82, 69, 69]), vy 2, Value.int .u16 y2]) (show tyAlertDef.rep _ _ (⟨([67, 79, 77, 80, 85, 84, 69, 82, 83, 32, 68, 73, 83, 65, 71, 82, 69, 69] : List UInt8), 2, y2⟩ : AlertDef) from rfl) (reps_cons (c := [vt ([76, 65, 84, 69, 82, 65, 76, 32, 82, 69, 86, 69, 82, 83, 73, 79, 78]), vy 2, Value.int .u16 y6]) (show tyAlertDef.rep _ _ (⟨([76, 65, 84, 69, 82, 65, 76, 32, 82, 69, 86, 69, 82, 83, 73, 79, 78] : List UInt8), 2, y6⟩ : AlertDef) from rfl) (reps_cons (c := [vt ([86, 69, 82, 84, 73, 67, 65, 76, 32, 82, 69, 86, 69, 82, 83, 73, 79, 78]), vy 2, Value.int .u16 y10]) (show tyAlertDef.rep _ _ (⟨([86, 69, 82, 84, 73, 67, 65, 76, 32, 82, 69, 86, 69, 82, 83, 73, 79, 78] : List UInt8), 2, y10⟩ : AlertDef) from rfl) (reps_cons (c := [vt ([65, 76, 84, 73, 84, 85, 68, 69, 32, 79, 86, 69, 82, 83, 72, 79, 84]), vy 2, Value.int .u16 y14]) (show tyAlertDef.rep _ _ (⟨([65, 76, 84, 73, 84, 85, 68, 69, 32, 79, 86, 69, 82, 83, 72, 79, 84] : List UInt8), 2, y14⟩ : AlertDef) from rfl) (reps_cons (c := [vt ([68, 65, 84, 65, 66, 65, 83, 69, 32, 69, 88, 80, 73, 82, 69, 68]), vy 2, Value.int .u16 y18]) (show tyAlertDef.rep _ _ (⟨([68, 65, 84, 65, 66, 65, 83, 69, 32, 69, 88, 80, 73, 82, 69, 68] : List UInt8), 2, y18⟩ : AlertDef) from rfl) (reps_cons (c := [vt ([67, 79, 78, 83, 84, 82, 65, 73, 78, 84, 83, 32, 67, 79, 78, 70, 76, 73, 67, 84]), vy 2, Value.int .u16 y22]) (show tyAlertDef.rep _ _ (⟨([67, 79, 78, 83, 84, 82, 65, 73, 78, 84, 83, 32, 67, 79, 78, 70, 76, 73, 67, 84] : List UInt8), 2, y22⟩ : AlertDef) from rfl) (reps_cons (c := [vt ([68, 73, 83, 67, 79, 78, 84, 73, 78, 85, 73, 84, 89]), vy 2, Value.int .u16 y26]) (show tyAlertDef.rep _ _ (⟨([68, 73, 83, 67, 79, 78, 84, 73, 78, 85, 73, 84, 89] : List UInt8), 2, y26⟩ : AlertDef) from rfl) (reps_cons (c := [vt ([70, 85, 69, 76, 32, 83, 72, 79, 82, 84]), vy 2, Value.int .u16 y30]) (show tyAlertDef.rep _ _ (⟨([70, 85, 69, 76, 32, 83, 72, 79, 82, 84] : List UInt8), 2, y30⟩ : AlertDef) from rfl) (reps_cons (c := [vt ([83, 73, 78, 71, 76, 69, 32, 67, 79, 77, 80, 85, 84, 69, 82]), vy 3, Value.int .u16 y34]) (show tyAlertDef.rep _ _ (⟨([83, 73, 78, 71, 76, 69, 32, 67, 79, 77, 80, 85, 84, 69, 82] : List UInt8), 3, y34⟩ : AlertDef) from rfl) (reps_cons (c := [vt ([83, 69, 78, 83, 79, 82, 32, 69, 88, 67, 76, 85, 68, 69, 68]), vy 3, Value.int .u16 y38]) (show tyAlertDef.rep _ _ (⟨([83, 69, 78, 83, 79, 82, 32, 69, 88, 67, 76, 85, 68, 69, 68] : List UInt8), 3, y38⟩ : AlertDef) from rfl) (reps_cons (c := [vt ([84, 73, 77, 69, 32, 78, 79, 84, 32, 77, 69, 84]), vy 3, Value.int .u16 y42]) (show tyAlertDef.rep _ _ (⟨([84, 73, 77, 69, 32, 78, 79, 84, 32, 77, 69, 84] : List UInt8), 3, y42⟩ : AlertDef) from rfl) (reps_cons (c := [vt ([84, 79, 80, 32, 79, 70, 32, 68, 69, 83, 67, 69, 78, 84]), vy 3, Value.int .u16 y46]) (show tyAlertDef.rep _ _ (⟨([84, 79, 80, 32, 79, 70, 32, 68, 69, 83, 67, 69, 78, 84] : List UInt8), 3, y46⟩ : AlertDef) from rfl) (reps_cons (c := [vt ([69, 78, 68, 32, 79, 70, 32, 82, 79, 85, 84, 69]), vy 3, Value.int .u16 y50]) (show tyAlertDef.rep _ _ (⟨([69, 78, 68, 32, 79, 70, 32, 82, 79, 85, 84, 69] : List UInt8), 3, y50⟩ : AlertDef) from rfl) (reps_cons (c := [vt ([77, 69, 77, 79, 82, 89, 32, 70, 65, 85, 76, 84]), vy 3, Value.int .u16 y54]) (show tyAlertDef.rep _ _ (⟨([77, 69, 77, 79, 82, 89, 32, 70, 65, 85, 76, 84] : List UInt8), 3, y54⟩ : AlertDef) from rfl) reps_nil)))))))))))))))) (by simp)) ?_
 rintro _ _ _ - ⟨A57, c57, k57, rfl, rfl, rfl, h57⟩
 refine xB 1 [] [(0, vs A57 ([(⟨([78, 65, 86, 32, 85, 78, 85, 83, 65, 66, 76, 69] : List UInt8), 1, 0⟩ : AlertDef), (⟨([70, 85, 69, 76, 32, 76, 79, 87] : List UInt8), 1, 0⟩ : AlertDef), (⟨([67, 79, 77, 80, 85, 84, 69, 82, 83, 32, 68, 73, 83, 65, 71, 82, 69, 69] : List UInt8), 2, y2⟩ : AlertDef), (⟨([76, 65, 84, 69, 82, 65, 76, 32, 82, 69, 86, 69, 82, 83, 73, 79, 78] : List UInt8), 2, y6⟩ : AlertDef), (⟨([86, 69, 82, 84, 73, 67, 65, 76, 32, 82, 69, 86, 69, 82, 83, 73, 79, 78] : List UInt8), 2, y10⟩ : AlertDef), (⟨([65, 76, 84, 73, 84, 85, 68, 69, 32, 79, 86, 69, 82, 83, 72, 79, 84] : List UInt8), 2, y14⟩ : AlertDef), (⟨([68, 65, 84, 65, 66, 65, 83, 69, 32, 69, 88, 80, 73, 82, 69, 68] : List UInt8), 2, y18⟩ : AlertDef), (⟨([67, 79, 78, 83, 84, 82, 65, 73, 78, 84, 83, 32, 67, 79, 78, 70, 76, 73, 67, 84] : List UInt8), 2, y22⟩ : AlertDef), (⟨([68, 73, 83, 67, 79, 78, 84, 73, 78, 85, 73, 84, 89] : List UInt8), 2, y26⟩ : AlertDef), (⟨([70, 85, 69, 76, 32, 83, 72, 79, 82, 84] : List UInt8), 2, y30⟩ : AlertDef), (⟨([83, 73, 78, 71, 76, 69, 32, 67, 79, 77, 80, 85, 84, 69, 82] : List UInt8), 3, y34⟩ : AlertDef), (⟨([83, 69, 78, 83, 79, 82, 32, 69, 88, 67, 76, 85, 68, 69, 68] : List UInt8), 3, y38⟩ : AlertDef), (⟨([84, 73, 77, 69, 32, 78, 79, 84, 32, 77, 69, 84] : List UInt8), 3, y42⟩ : AlertDef), (⟨([84, 79, 80, 32, 79, 70, 32, 68, 69, 83, 67, 69, 78, 84] : List UInt8), 3, y46⟩ : AlertDef), (⟨([69, 78, 68, 32, 79, 70, 32, 82, 79, 85, 84, 69] : List UInt8), 3, y50⟩ : AlertDef), (⟨([77, 69, 77, 79, 82, 89, 32, 70, 65, 85, 76, 84] : List UInt8), 3, y54⟩ : AlertDef)] : List AlertDef) c57)] ?_
 refine xRe ?_
 refine wpq_then ?_
 have eS := (Option.some.inj hS).symm
 subst eS
 exact xRet [some 0] [0] (e4.trans (e8.trans (e12.trans (e16.trans (e20.trans (e24.trans (e28.trans (e32.trans (e36.trans (e40.trans (e44.trans (e48.trans (e52.trans e56))))))))))))) ⟨A57, c57, k57, by kernel_rfl, by kernel_rfl, h57⟩ (fun _ _ h => h)

def o34_L0 (s : List UInt8) (s8 : Nat) : Option (Ctl (Nat) (Ctl (Unit) (Bool))) :=
 (cond (decide (((s8 : Nat) : Int) < (((s).length : Nat) : Int))) (bindO (τ := Bool) (cond (((((((List.getD (s : List UInt8) s8 0)).toNat : Int) == 32) && decide (((s8 : Nat) : Int) > 0)) && decide (((s8 : Nat) : Int) < ((((s).length : Nat) : Int) - 1)))) (grd (decide (0 ≤ (((s8 : Nat) : Int) - 1) ∧ (((s8 : Nat) : Int) - 1) < (((s).length : Nat) : Int))) (some ((((List.getD (s : List UInt8) ((((s8 : Nat) : Int) - 1)).toNat 0)).toNat : Int) != 32))) (some (false))) fun t27 => (cond (((!((decide ((((List.getD (s : List UInt8) s8 0)).toNat : Int) ≥ 65) && decide ((((List.getD (s : List UInt8) s8 0)).toNat : Int) ≤ 90)) || (decide ((((List.getD (s : List UInt8) s8 0)).toNat : Int) ≥ 48) && decide ((((List.getD (s : List UInt8) s8 0)).toNat : Int) ≤ 57)))) && (!t27))) (some (Ctl.done (Ctl.done ((false))))) (grd (decide (((s8 : Nat) : Int) + 1 ≤ 9223372036854775807)) (some (Ctl.go (s8 + 1)))))) (some (Ctl.done (Ctl.go ()))))
def o34 (s : List UInt8) : Option (Bool) :=
 (cond ((decide ((((s).length : Nat) : Int) < 1) || decide ((((s).length : Nat) : Int) > 20))) (some ((false))) (joinO (τ := Unit) (ρ := Bool) (loopO (σ := Nat) (ρ := Ctl (Unit) (Bool)) fuelN (o34_L0 s) (0)) fun t3 => (some ((true)))))
set_option maxRecDepth 100000 in
theorem c34 (g : Gh) (s : List UInt8) {r : Bool} (hS : o34 s = some r) :
  Ctr Try.prog 34 [vt s] g [] (fun v ψ o => v = vb r ∧ o = []) := by
 unfold o34 at hS
 refine xFn Try.f34 (Try.f34.body.getD .skip) 70 ?_
 refine xSq ?_
 refine xRg ?_
 refine xB 1 [] [(0, vt s)] ?_
 refine xRe ?_
 refine wpq_then ?_
 refine xSq ?_
 refine xSq ?_
 refine xRg ?_
 refine xB 4 [] [(0, vt s), (9, vb (decide ((((s).length : Nat) : Int) < 1)))] ?_
 refine wpr_grp 8 [(0, vt s), (13, vb (decide ((((s).length : Nat) : Int) < 1) || decide ((((s).length : Nat) : Int) > 20)))] (fun hk3 => ?_) ?_
 ·refine wpq_split 9 (b := decide ((((s).length : Nat) : Int) < 1)) (by kernel_rfl) (fun q1 => ?_) (fun q1 => ?_)
  ·have q1p := of_decide_eq_true q1
   refine xB 4 [] [(0, vt s), (13, vb true)] ?_
   refine wpq_re 13 (v := vb true) (Value.bool ((decide ((((s).length : Nat) : Int) < 1) || decide ((((s).length : Nat) : Int) > 20)))) (by kernel_rfl) (re_or1 q1) ?_
   exact wpq_sub _ (by kernel_rfl) hk3
  ·have q1p := of_decide_eq_false q1
   refine xB 4 [] [(0, vt s), (13, vb (decide ((((s).length : Nat) : Int) > 20)))] ?_
   refine wpq_re 13 (v := vb (decide ((((s).length : Nat) : Int) > 20))) (Value.bool ((decide ((((s).length : Nat) : Int) < 1) || decide ((((s).length : Nat) : Int) > 20)))) (by kernel_rfl) (re_or0 q1) ?_
   exact wpq_sub _ (by kernel_rfl) hk3
 ·refine xRe ?_
  refine wpq_then ?_
  refine xCd ((decide ((((s).length : Nat) : Int) < 1) || decide ((((s).length : Nat) : Int) > 20))) (fun h2 => ?_) (fun h2 => ?_)
  ·have hS := cond_T h2 hS
   refine xSq ?_
   refine xRg ?_
   refine xB 1 [] [(2, vb false)] ?_
   refine xRe ?_
   refine wpq_then ?_
   have eS := (Option.some.inj hS).symm
   subst eS
   exact xRet [] [2] (Gh.le.refl _) ⟨by kernel_rfl, by kernel_rfl⟩ (fun _ _ h => h)
  ·have hS := cond_F h2 hS
   have h2l := (or_false_ h2).1
   have h2r := (or_false_ h2).2
   have h2lp := of_decide_eq_false h2l
   have h2rp := of_decide_eq_false h2r
   refine xSk ?_
   refine wpq_then ?_
   refine xSub [(0, vt s)] ?_
   refine xSq ?_
   refine xSq ?_
   refine xRg ?_
   refine xB 3 [] [(0, vt s), (15, vi (((s).length : Nat) : Int)), (16, vi 0)] ?_
   refine xRe ?_
   refine wpq_then ?_
   refine xJoinO hS (fun g own sl t3 => own = [] ∧ sl = []) ?_ ?_
   ·rintro g4 _ _ t3 e5 ⟨rfl, rfl⟩ hS
    refine wpq_then ?_
    refine xSq ?_
    refine xRg ?_
    refine xB 1 [] [(2, vb true)] ?_
    refine xRe ?_
    refine wpq_then ?_
    have eS := (Option.some.inj hS).symm
    subst eS
    exact xRet [] [2] e5 ⟨by kernel_rfl, by kernel_rfl⟩ (fun _ _ h => h)
   ·intro uu3 hS hN3 hD3
    refine xBl 0 ?_
    refine xSub [(0, vt s), (15, vi (((s).length : Nat) : Int)), (16, vi 0)] ?_
    refine xLo hS (fun g own sl s8 => own = [] ∧ sl = [(0, vt s), (15, vi (((s).length : Nat) : Int)), (16, vi ((s8 : Nat) : Int))]) ⟨by kernel_rfl, by kernel_rfl⟩ ?_
    rintro g9 _ _ s8 uu8 e10 ⟨rfl, rfl⟩ hS Qr8 hN8 hD8
    unfold o34_L0 at hS
    refine xSq ?_
    refine xRg ?_
    refine xB 1 [] [(0, vt s), (15, vi (((s).length : Nat) : Int)), (16, vi ((s8 : Nat) : Int)), (17, vb (decide (((s8 : Nat) : Int) < (((s).length : Nat) : Int))))] ?_
    refine xRe ?_
    refine wpq_then ?_
    refine xSq ?_
    refine xCd (decide (((s8 : Nat) : Int) < (((s).length : Nat) : Int))) (fun h11 => ?_) (fun h11 => ?_)
    ·have hS := cond_T h11 hS
     have h11p := of_decide_eq_true h11
     refine xSk ?_
     refine wpq_then ?_
     refine xSub [(0, vt s), (15, vi (((s).length : Nat) : Int)), (16, vi ((s8 : Nat) : Int))] ?_
     refine xSq ?_
     refine xBl 1 ?_
     refine xSq ?_
     refine xRg ?_
     refine xB 2 [] [(0, vt s), (3, vi ((s8 : Nat) : Int)), (15, vi (((s).length : Nat) : Int)), (16, vi ((s8 : Nat) : Int))] ?_
     refine xRe ?_
     refine wpq_then ?_
     refine xSq ?_
     refine xRg ?_
     have i12 : s8 < (s).length := by omega
     have nb13 := UInt8.toNat_lt (List.getD (s : List UInt8) s8 0)
     refine xB 2 [] [(0, vt s), (3, vi ((s8 : Nat) : Int)), (15, vi (((s).length : Nat) : Int)), (16, vi ((s8 : Nat) : Int)), (19, vt s), (20, vi ((s8 : Nat) : Int))] ?_
     refine xV (qIxS s8 rfl i12) ?_
     refine xB 2 [] [(0, vt s), (3, vi ((s8 : Nat) : Int)), (15, vi (((s).length : Nat) : Int)), (16, vi ((s8 : Nat) : Int)), (23, vb (decide ((((List.getD (s : List UInt8) s8 0)).toNat : Int) ≥ 65)))] ?_
     refine wpr_grp 10 [(0, vt s), (3, vi ((s8 : Nat) : Int)), (15, vi (((s).length : Nat) : Int)), (16, vi ((s8 : Nat) : Int)), (28, vb (decide ((((List.getD (s : List UInt8) s8 0)).toNat : Int) ≥ 65) && decide ((((List.getD (s : List UInt8) s8 0)).toNat : Int) ≤ 90)))] (fun hk4 => ?_) ?_
     ·refine wpq_split 23 (b := decide ((((List.getD (s : List UInt8) s8 0)).toNat : Int) ≥ 65)) (by kernel_rfl) (fun q14 => ?_) (fun q14 => ?_)
      ·have q14p := of_decide_eq_true q14
       have i15 : s8 < (s).length := by omega
       have nb16 := UInt8.toNat_lt (List.getD (s : List UInt8) s8 0)
       refine xB 2 [] [(0, vt s), (3, vi ((s8 : Nat) : Int)), (15, vi (((s).length : Nat) : Int)), (16, vi ((s8 : Nat) : Int)), (23, vb true), (24, vt s), (25, vi ((s8 : Nat) : Int))] ?_
       refine xV (qIxS s8 rfl i15) ?_
       refine xB 2 [] [(0, vt s), (3, vi ((s8 : Nat) : Int)), (15, vi (((s).length : Nat) : Int)), (16, vi ((s8 : Nat) : Int)), (28, vb (decide ((((List.getD (s : List UInt8) s8 0)).toNat : Int) ≤ 90)))] ?_
       refine wpq_re 28 (v := vb (decide ((((List.getD (s : List UInt8) s8 0)).toNat : Int) ≤ 90))) (Value.bool ((decide ((((List.getD (s : List UInt8) s8 0)).toNat : Int) ≥ 65) && decide ((((List.getD (s : List UInt8) s8 0)).toNat : Int) ≤ 90)))) (by kernel_rfl) (re_and1 q14) ?_
       exact wpq_sub _ (by kernel_rfl) hk4
      ·have q14p := of_decide_eq_false q14
       refine xB 5 [] [(0, vt s), (3, vi ((s8 : Nat) : Int)), (15, vi (((s).length : Nat) : Int)), (16, vi ((s8 : Nat) : Int)), (28, vb false)] ?_
       refine wpq_re 28 (v := vb false) (Value.bool ((decide ((((List.getD (s : List UInt8) s8 0)).toNat : Int) ≥ 65) && decide ((((List.getD (s : List UInt8) s8 0)).toNat : Int) ≤ 90)))) (by kernel_rfl) (re_and0 q14) ?_
       exact wpq_sub _ (by kernel_rfl) hk4
     ·refine xB 1 [] [(0, vt s), (3, vi ((s8 : Nat) : Int)), (15, vi (((s).length : Nat) : Int)), (16, vi ((s8 : Nat) : Int)), (29, vb (decide ((((List.getD (s : List UInt8) s8 0)).toNat : Int) ≥ 65) && decide ((((List.getD (s : List UInt8) s8 0)).toNat : Int) ≤ 90)))] ?_
      refine wpr_grp 22 [(0, vt s), (3, vi ((s8 : Nat) : Int)), (15, vi (((s).length : Nat) : Int)), (16, vi ((s8 : Nat) : Int)), (40, vb ((decide ((((List.getD (s : List UInt8) s8 0)).toNat : Int) ≥ 65) && decide ((((List.getD (s : List UInt8) s8 0)).toNat : Int) ≤ 90)) || (decide ((((List.getD (s : List UInt8) s8 0)).toNat : Int) ≥ 48) && decide ((((List.getD (s : List UInt8) s8 0)).toNat : Int) ≤ 57))))] (fun hk10 => ?_) ?_
      ·refine wpq_split 29 (b := (decide ((((List.getD (s : List UInt8) s8 0)).toNat : Int) ≥ 65) && decide ((((List.getD (s : List UInt8) s8 0)).toNat : Int) ≤ 90))) (by kernel_rfl) (fun q17 => ?_) (fun q17 => ?_)
       ·have q17l := (and_true_ q17).1
        have q17r := (and_true_ q17).2
        have q17lp := of_decide_eq_true q17l
        have q17rp := of_decide_eq_true q17r
        refine xB 11 [] [(0, vt s), (3, vi ((s8 : Nat) : Int)), (15, vi (((s).length : Nat) : Int)), (16, vi ((s8 : Nat) : Int)), (40, vb true)] ?_
        refine wpq_re 40 (v := vb true) (Value.bool (((decide ((((List.getD (s : List UInt8) s8 0)).toNat : Int) ≥ 65) && decide ((((List.getD (s : List UInt8) s8 0)).toNat : Int) ≤ 90)) || (decide ((((List.getD (s : List UInt8) s8 0)).toNat : Int) ≥ 48) && decide ((((List.getD (s : List UInt8) s8 0)).toNat : Int) ≤ 57))))) (by kernel_rfl) (re_or1 q17) ?_
        exact wpq_sub _ (by kernel_rfl) hk10
       ·have i18 : s8 < (s).length := by omega
        have nb19 := UInt8.toNat_lt (List.getD (s : List UInt8) s8 0)
        refine xB 2 [] [(0, vt s), (3, vi ((s8 : Nat) : Int)), (15, vi (((s).length : Nat) : Int)), (16, vi ((s8 : Nat) : Int)), (29, vb false), (30, vt s), (31, vi ((s8 : Nat) : Int))] ?_
        refine xV (qIxS s8 rfl i18) ?_
        refine xB 2 [] [(0, vt s), (3, vi ((s8 : Nat) : Int)), (15, vi (((s).length : Nat) : Int)), (16, vi ((s8 : Nat) : Int)), (29, vb false), (34, vb (decide ((((List.getD (s : List UInt8) s8 0)).toNat : Int) ≥ 48)))] ?_
        refine wpr_grp 21 [(0, vt s), (3, vi ((s8 : Nat) : Int)), (15, vi (((s).length : Nat) : Int)), (16, vi ((s8 : Nat) : Int)), (29, vb false), (39, vb (decide ((((List.getD (s : List UInt8) s8 0)).toNat : Int) ≥ 48) && decide ((((List.getD (s : List UInt8) s8 0)).toNat : Int) ≤ 57)))] (fun hk15 => ?_) ?_
        ·refine wpq_split 34 (b := decide ((((List.getD (s : List UInt8) s8 0)).toNat : Int) ≥ 48)) (by kernel_rfl) (fun q20 => ?_) (fun q20 => ?_)
         ·have q20p := of_decide_eq_true q20
          have i21 : s8 < (s).length := by omega
          have nb22 := UInt8.toNat_lt (List.getD (s : List UInt8) s8 0)
          refine xB 2 [] [(0, vt s), (3, vi ((s8 : Nat) : Int)), (15, vi (((s).length : Nat) : Int)), (16, vi ((s8 : Nat) : Int)), (29, vb false), (34, vb true), (35, vt s), (36, vi ((s8 : Nat) : Int))] ?_
          refine xV (qIxS s8 rfl i21) ?_
          refine xB 2 [] [(0, vt s), (3, vi ((s8 : Nat) : Int)), (15, vi (((s).length : Nat) : Int)), (16, vi ((s8 : Nat) : Int)), (29, vb false), (39, vb (decide ((((List.getD (s : List UInt8) s8 0)).toNat : Int) ≤ 57)))] ?_
          refine wpq_re 39 (v := vb (decide ((((List.getD (s : List UInt8) s8 0)).toNat : Int) ≤ 57))) (Value.bool ((decide ((((List.getD (s : List UInt8) s8 0)).toNat : Int) ≥ 48) && decide ((((List.getD (s : List UInt8) s8 0)).toNat : Int) ≤ 57)))) (by kernel_rfl) (re_and1 q20) ?_
          exact wpq_sub _ (by kernel_rfl) hk15
         ·have q20p := of_decide_eq_false q20
          refine xB 5 [] [(0, vt s), (3, vi ((s8 : Nat) : Int)), (15, vi (((s).length : Nat) : Int)), (16, vi ((s8 : Nat) : Int)), (29, vb false), (39, vb false)] ?_
          refine wpq_re 39 (v := vb false) (Value.bool ((decide ((((List.getD (s : List UInt8) s8 0)).toNat : Int) ≥ 48) && decide ((((List.getD (s : List UInt8) s8 0)).toNat : Int) ≤ 57)))) (by kernel_rfl) (re_and0 q20) ?_
          exact wpq_sub _ (by kernel_rfl) hk15
        ·refine xB 1 [] [(0, vt s), (3, vi ((s8 : Nat) : Int)), (15, vi (((s).length : Nat) : Int)), (16, vi ((s8 : Nat) : Int)), (40, vb (decide ((((List.getD (s : List UInt8) s8 0)).toNat : Int) ≥ 48) && decide ((((List.getD (s : List UInt8) s8 0)).toNat : Int) ≤ 57)))] ?_
         refine wpq_re 40 (v := vb (decide ((((List.getD (s : List UInt8) s8 0)).toNat : Int) ≥ 48) && decide ((((List.getD (s : List UInt8) s8 0)).toNat : Int) ≤ 57))) (Value.bool (((decide ((((List.getD (s : List UInt8) s8 0)).toNat : Int) ≥ 65) && decide ((((List.getD (s : List UInt8) s8 0)).toNat : Int) ≤ 90)) || (decide ((((List.getD (s : List UInt8) s8 0)).toNat : Int) ≥ 48) && decide ((((List.getD (s : List UInt8) s8 0)).toNat : Int) ≤ 57))))) (by kernel_rfl) (re_or0 q17) ?_
         exact wpq_sub _ (by kernel_rfl) hk10
      ·refine xB 1 [] [(0, vt s), (3, vi ((s8 : Nat) : Int)), (4, vb ((decide ((((List.getD (s : List UInt8) s8 0)).toNat : Int) ≥ 65) && decide ((((List.getD (s : List UInt8) s8 0)).toNat : Int) ≤ 90)) || (decide ((((List.getD (s : List UInt8) s8 0)).toNat : Int) ≥ 48) && decide ((((List.getD (s : List UInt8) s8 0)).toNat : Int) ≤ 57)))), (15, vi (((s).length : Nat) : Int)), (16, vi ((s8 : Nat) : Int))] ?_
       refine xRe ?_
       refine wpq_then ?_
       refine xSq ?_
       refine xRg ?_
       have i23 : s8 < (s).length := by omega
       have nb24 := UInt8.toNat_lt (List.getD (s : List UInt8) s8 0)
       refine xB 2 [] [(0, vt s), (3, vi ((s8 : Nat) : Int)), (4, vb ((decide ((((List.getD (s : List UInt8) s8 0)).toNat : Int) ≥ 65) && decide ((((List.getD (s : List UInt8) s8 0)).toNat : Int) ≤ 90)) || (decide ((((List.getD (s : List UInt8) s8 0)).toNat : Int) ≥ 48) && decide ((((List.getD (s : List UInt8) s8 0)).toNat : Int) ≤ 57)))), (15, vi (((s).length : Nat) : Int)), (16, vi ((s8 : Nat) : Int)), (41, vt s), (42, vi ((s8 : Nat) : Int))] ?_
       refine xV (qIxS s8 rfl i23) ?_
       refine xB 2 [] [(0, vt s), (3, vi ((s8 : Nat) : Int)), (4, vb ((decide ((((List.getD (s : List UInt8) s8 0)).toNat : Int) ≥ 65) && decide ((((List.getD (s : List UInt8) s8 0)).toNat : Int) ≤ 90)) || (decide ((((List.getD (s : List UInt8) s8 0)).toNat : Int) ≥ 48) && decide ((((List.getD (s : List UInt8) s8 0)).toNat : Int) ≤ 57)))), (15, vi (((s).length : Nat) : Int)), (16, vi ((s8 : Nat) : Int)), (45, vb ((((List.getD (s : List UInt8) s8 0)).toNat : Int) == 32))] ?_
       refine wpr_grp 8 [(0, vt s), (3, vi ((s8 : Nat) : Int)), (4, vb ((decide ((((List.getD (s : List UInt8) s8 0)).toNat : Int) ≥ 65) && decide ((((List.getD (s : List UInt8) s8 0)).toNat : Int) ≤ 90)) || (decide ((((List.getD (s : List UInt8) s8 0)).toNat : Int) ≥ 48) && decide ((((List.getD (s : List UInt8) s8 0)).toNat : Int) ≤ 57)))), (15, vi (((s).length : Nat) : Int)), (16, vi ((s8 : Nat) : Int)), (48, vb (((((List.getD (s : List UInt8) s8 0)).toNat : Int) == 32) && decide (((s8 : Nat) : Int) > 0)))] (fun hk4 => ?_) ?_
       ·refine wpq_split 45 (b := ((((List.getD (s : List UInt8) s8 0)).toNat : Int) == 32)) (by kernel_rfl) (fun q25 => ?_) (fun q25 => ?_)
        ·have q25p : (((List.getD (s : List UInt8) s8 0)).toNat : Int) = 32 := eq_of_beq q25
         refine xB 3 [] [(0, vt s), (3, vi ((s8 : Nat) : Int)), (4, vb ((decide ((((List.getD (s : List UInt8) s8 0)).toNat : Int) ≥ 65) && decide ((((List.getD (s : List UInt8) s8 0)).toNat : Int) ≤ 90)) || (decide ((((List.getD (s : List UInt8) s8 0)).toNat : Int) ≥ 48) && decide ((((List.getD (s : List UInt8) s8 0)).toNat : Int) ≤ 57)))), (15, vi (((s).length : Nat) : Int)), (16, vi ((s8 : Nat) : Int)), (48, vb (decide (((s8 : Nat) : Int) > 0)))] ?_
         refine wpq_re 48 (v := vb (decide (((s8 : Nat) : Int) > 0))) (Value.bool ((((((List.getD (s : List UInt8) s8 0)).toNat : Int) == 32) && decide (((s8 : Nat) : Int) > 0)))) (by kernel_rfl) (re_and1 q25) ?_
         exact wpq_sub _ (by kernel_rfl) hk4
        ·have q25p : ¬ ((((List.getD (s : List UInt8) s8 0)).toNat : Int) = 32) := ne_of_beq_false_ q25
         refine xB 3 [] [(0, vt s), (3, vi ((s8 : Nat) : Int)), (4, vb ((decide ((((List.getD (s : List UInt8) s8 0)).toNat : Int) ≥ 65) && decide ((((List.getD (s : List UInt8) s8 0)).toNat : Int) ≤ 90)) || (decide ((((List.getD (s : List UInt8) s8 0)).toNat : Int) ≥ 48) && decide ((((List.getD (s : List UInt8) s8 0)).toNat : Int) ≤ 57)))), (15, vi (((s).length : Nat) : Int)), (16, vi ((s8 : Nat) : Int)), (48, vb false)] ?_
         refine wpq_re 48 (v := vb false) (Value.bool ((((((List.getD (s : List UInt8) s8 0)).toNat : Int) == 32) && decide (((s8 : Nat) : Int) > 0)))) (by kernel_rfl) (re_and0 q25) ?_
         exact wpq_sub _ (by kernel_rfl) hk4
       ·refine xB 1 [] [(0, vt s), (3, vi ((s8 : Nat) : Int)), (4, vb ((decide ((((List.getD (s : List UInt8) s8 0)).toNat : Int) ≥ 65) && decide ((((List.getD (s : List UInt8) s8 0)).toNat : Int) ≤ 90)) || (decide ((((List.getD (s : List UInt8) s8 0)).toNat : Int) ≥ 48) && decide ((((List.getD (s : List UInt8) s8 0)).toNat : Int) ≤ 57)))), (15, vi (((s).length : Nat) : Int)), (16, vi ((s8 : Nat) : Int)), (49, vb (((((List.getD (s : List UInt8) s8 0)).toNat : Int) == 32) && decide (((s8 : Nat) : Int) > 0)))] ?_
        refine wpr_grp 15 [(0, vt s), (3, vi ((s8 : Nat) : Int)), (4, vb ((decide ((((List.getD (s : List UInt8) s8 0)).toNat : Int) ≥ 65) && decide ((((List.getD (s : List UInt8) s8 0)).toNat : Int) ≤ 90)) || (decide ((((List.getD (s : List UInt8) s8 0)).toNat : Int) ≥ 48) && decide ((((List.getD (s : List UInt8) s8 0)).toNat : Int) ≤ 57)))), (15, vi (((s).length : Nat) : Int)), (16, vi ((s8 : Nat) : Int)), (55, vb ((((((List.getD (s : List UInt8) s8 0)).toNat : Int) == 32) && decide (((s8 : Nat) : Int) > 0)) && decide (((s8 : Nat) : Int) < ((((s).length : Nat) : Int) - 1))))] (fun hk8 => ?_) ?_
        ·refine wpq_split 49 (b := (((((List.getD (s : List UInt8) s8 0)).toNat : Int) == 32) && decide (((s8 : Nat) : Int) > 0))) (by kernel_rfl) (fun q26 => ?_) (fun q26 => ?_)
         ·have q26l := (and_true_ q26).1
          have q26r := (and_true_ q26).2
          have q26lp : (((List.getD (s : List UInt8) s8 0)).toNat : Int) = 32 := eq_of_beq q26l
          have q26rp := of_decide_eq_true q26r
          refine xB 3 [] [(0, vt s), (3, vi ((s8 : Nat) : Int)), (4, vb ((decide ((((List.getD (s : List UInt8) s8 0)).toNat : Int) ≥ 65) && decide ((((List.getD (s : List UInt8) s8 0)).toNat : Int) ≤ 90)) || (decide ((((List.getD (s : List UInt8) s8 0)).toNat : Int) ≥ 48) && decide ((((List.getD (s : List UInt8) s8 0)).toNat : Int) ≤ 57)))), (15, vi (((s).length : Nat) : Int)), (16, vi ((s8 : Nat) : Int)), (49, vb true), (50, vi ((s8 : Nat) : Int)), (52, vi (((s).length : Nat) : Int))] ?_
          refine xV (qSub .i64 ((((s).length : Nat) : Int)) (1) (wr64 (by omega))) ?_
          refine xB 2 [] [(0, vt s), (3, vi ((s8 : Nat) : Int)), (4, vb ((decide ((((List.getD (s : List UInt8) s8 0)).toNat : Int) ≥ 65) && decide ((((List.getD (s : List UInt8) s8 0)).toNat : Int) ≤ 90)) || (decide ((((List.getD (s : List UInt8) s8 0)).toNat : Int) ≥ 48) && decide ((((List.getD (s : List UInt8) s8 0)).toNat : Int) ≤ 57)))), (15, vi (((s).length : Nat) : Int)), (16, vi ((s8 : Nat) : Int)), (55, vb (decide (((s8 : Nat) : Int) < ((((s).length : Nat) : Int) - 1))))] ?_
          refine wpq_re 55 (v := vb (decide (((s8 : Nat) : Int) < ((((s).length : Nat) : Int) - 1)))) (Value.bool (((((((List.getD (s : List UInt8) s8 0)).toNat : Int) == 32) && decide (((s8 : Nat) : Int) > 0)) && decide (((s8 : Nat) : Int) < ((((s).length : Nat) : Int) - 1))))) (by kernel_rfl) (re_and1 q26) ?_
          exact wpq_sub _ (by kernel_rfl) hk8
         ·refine xB 6 [] [(0, vt s), (3, vi ((s8 : Nat) : Int)), (4, vb ((decide ((((List.getD (s : List UInt8) s8 0)).toNat : Int) ≥ 65) && decide ((((List.getD (s : List UInt8) s8 0)).toNat : Int) ≤ 90)) || (decide ((((List.getD (s : List UInt8) s8 0)).toNat : Int) ≥ 48) && decide ((((List.getD (s : List UInt8) s8 0)).toNat : Int) ≤ 57)))), (15, vi (((s).length : Nat) : Int)), (16, vi ((s8 : Nat) : Int)), (55, vb false)] ?_
          refine wpq_re 55 (v := vb false) (Value.bool (((((((List.getD (s : List UInt8) s8 0)).toNat : Int) == 32) && decide (((s8 : Nat) : Int) > 0)) && decide (((s8 : Nat) : Int) < ((((s).length : Nat) : Int) - 1))))) (by kernel_rfl) (re_and0 q26) ?_
          exact wpq_sub _ (by kernel_rfl) hk8
        ·refine xB 1 [] [(0, vt s), (3, vi ((s8 : Nat) : Int)), (4, vb ((decide ((((List.getD (s : List UInt8) s8 0)).toNat : Int) ≥ 65) && decide ((((List.getD (s : List UInt8) s8 0)).toNat : Int) ≤ 90)) || (decide ((((List.getD (s : List UInt8) s8 0)).toNat : Int) ≥ 48) && decide ((((List.getD (s : List UInt8) s8 0)).toNat : Int) ≤ 57)))), (15, vi (((s).length : Nat) : Int)), (16, vi ((s8 : Nat) : Int)), (56, vb ((((((List.getD (s : List UInt8) s8 0)).toNat : Int) == 32) && decide (((s8 : Nat) : Int) > 0)) && decide (((s8 : Nat) : Int) < ((((s).length : Nat) : Int) - 1))))] ?_
         refine xGJo hS 22 (fun g own sl t27 => own = [] ∧ sl = [(0, vt s), (4, vb ((decide ((((List.getD (s : List UInt8) s8 0)).toNat : Int) ≥ 65) && decide ((((List.getD (s : List UInt8) s8 0)).toNat : Int) ≤ 90)) || (decide ((((List.getD (s : List UInt8) s8 0)).toNat : Int) ≥ 48) && decide ((((List.getD (s : List UInt8) s8 0)).toNat : Int) ≤ 57)))), (15, vi (((s).length : Nat) : Int)), (16, vi ((s8 : Nat) : Int)), (62, vb t27)]) ?_ ?_
         ·rintro g28 _ _ t27 e29 ⟨rfl, rfl⟩ hS
          refine xB 1 [] [(0, vt s), (4, vb ((decide ((((List.getD (s : List UInt8) s8 0)).toNat : Int) ≥ 65) && decide ((((List.getD (s : List UInt8) s8 0)).toNat : Int) ≤ 90)) || (decide ((((List.getD (s : List UInt8) s8 0)).toNat : Int) ≥ 48) && decide ((((List.getD (s : List UInt8) s8 0)).toNat : Int) ≤ 57)))), (5, vb t27), (15, vi (((s).length : Nat) : Int)), (16, vi ((s8 : Nat) : Int))] ?_
          refine xRe ?_
          refine wpq_then ?_
          refine xSq ?_
          refine xRg ?_
          refine xB 3 [] [(0, vt s), (5, vb t27), (15, vi (((s).length : Nat) : Int)), (16, vi ((s8 : Nat) : Int)), (65, vb (!((decide ((((List.getD (s : List UInt8) s8 0)).toNat : Int) ≥ 65) && decide ((((List.getD (s : List UInt8) s8 0)).toNat : Int) ≤ 90)) || (decide ((((List.getD (s : List UInt8) s8 0)).toNat : Int) ≥ 48) && decide ((((List.getD (s : List UInt8) s8 0)).toNat : Int) ≤ 57)))))] ?_
          refine wpr_grp 6 [(0, vt s), (15, vi (((s).length : Nat) : Int)), (16, vi ((s8 : Nat) : Int)), (68, vb ((!((decide ((((List.getD (s : List UInt8) s8 0)).toNat : Int) ≥ 65) && decide ((((List.getD (s : List UInt8) s8 0)).toNat : Int) ≤ 90)) || (decide ((((List.getD (s : List UInt8) s8 0)).toNat : Int) ≥ 48) && decide ((((List.getD (s : List UInt8) s8 0)).toNat : Int) ≤ 57)))) && (!t27)))] (fun hk2 => ?_) ?_
          ·refine wpq_split 65 (b := (!((decide ((((List.getD (s : List UInt8) s8 0)).toNat : Int) ≥ 65) && decide ((((List.getD (s : List UInt8) s8 0)).toNat : Int) ≤ 90)) || (decide ((((List.getD (s : List UInt8) s8 0)).toNat : Int) ≥ 48) && decide ((((List.getD (s : List UInt8) s8 0)).toNat : Int) ≤ 57))))) (by kernel_rfl) (fun q30 => ?_) (fun q30 => ?_)
           ·have q30n := not_eq_true_ q30
            have q30nl := (or_false_ q30n).1
            have q30nr := (or_false_ q30n).2
            refine xB 3 [] [(0, vt s), (15, vi (((s).length : Nat) : Int)), (16, vi ((s8 : Nat) : Int)), (68, vb (!t27))] ?_
            refine wpq_re 68 (v := vb (!t27)) (Value.bool (((!((decide ((((List.getD (s : List UInt8) s8 0)).toNat : Int) ≥ 65) && decide ((((List.getD (s : List UInt8) s8 0)).toNat : Int) ≤ 90)) || (decide ((((List.getD (s : List UInt8) s8 0)).toNat : Int) ≥ 48) && decide ((((List.getD (s : List UInt8) s8 0)).toNat : Int) ≤ 57)))) && (!t27)))) (by kernel_rfl) (re_and1 q30) ?_
            exact wpq_sub _ (by kernel_rfl) hk2
           ·have q30n := not_eq_false_ q30
            refine xB 3 [] [(0, vt s), (15, vi (((s).length : Nat) : Int)), (16, vi ((s8 : Nat) : Int)), (68, vb false)] ?_
            refine wpq_re 68 (v := vb false) (Value.bool (((!((decide ((((List.getD (s : List UInt8) s8 0)).toNat : Int) ≥ 65) && decide ((((List.getD (s : List UInt8) s8 0)).toNat : Int) ≤ 90)) || (decide ((((List.getD (s : List UInt8) s8 0)).toNat : Int) ≥ 48) && decide ((((List.getD (s : List UInt8) s8 0)).toNat : Int) ≤ 57)))) && (!t27)))) (by kernel_rfl) (re_and0 q30) ?_
            exact wpq_sub _ (by kernel_rfl) hk2
          ·refine xRe ?_
           refine wpq_then ?_
           refine xCd (((!((decide ((((List.getD (s : List UInt8) s8 0)).toNat : Int) ≥ 65) && decide ((((List.getD (s : List UInt8) s8 0)).toNat : Int) ≤ 90)) || (decide ((((List.getD (s : List UInt8) s8 0)).toNat : Int) ≥ 48) && decide ((((List.getD (s : List UInt8) s8 0)).toNat : Int) ≤ 57)))) && (!t27))) (fun h31 => ?_) (fun h31 => ?_)
           ·have hS := cond_T h31 hS
            have h31l := (and_true_ h31).1
            have h31r := (and_true_ h31).2
            have h31ln := not_eq_true_ h31l
            have h31lnl := (or_false_ h31ln).1
            have h31lnr := (or_false_ h31ln).2
            have h31rn := not_eq_true_ h31r
            refine xSq ?_
            refine xRg ?_
            refine xB 1 [] [(2, vb false)] ?_
            refine xRe ?_
            refine wpq_then ?_
            have eS := (Option.some.inj hS).symm
            have eS := (hD8 _ eS).symm
            have eS := (hD3 _ eS).symm
            subst eS
            exact xRet [] [2] (e10.trans e29) ⟨by kernel_rfl, by kernel_rfl⟩ (fun _ _ h => h)
           ·have hS := cond_F h31 hS
            refine xSk ?_
            refine wpq_blockN ?_
            refine wpq_then ?_
            refine xSub [(0, vt s), (15, vi (((s).length : Nat) : Int)), (16, vi ((s8 : Nat) : Int))] ?_
            refine xRg ?_
            obtain ⟨q32, hS⟩ := grd_T hS
            have q32p := of_decide_eq_true q32
            refine xV (qAdd .i64 (((s8 : Nat) : Int)) (1) (wr64 (by omega))) ?_
            refine xB 1 [] [(0, vt s), (15, vi (((s).length : Nat) : Int)), (16, vi (((s8 : Nat) : Int) + 1))] ?_
            refine xRe ?_
            refine wpq_thenN ?_
            refine xSub [(0, vt s), (15, vi (((s).length : Nat) : Int)), (16, vi (((s8 : Nat) : Int) + 1))] ?_
            have eS := (Option.some.inj hS).symm
            exact hN8 _ eS _ _ _ e29 ⟨by kernel_rfl, by kernel_rfl⟩
         ·intro uu27 hS hN27
          refine wpq_split 56 (b := ((((((List.getD (s : List UInt8) s8 0)).toNat : Int) == 32) && decide (((s8 : Nat) : Int) > 0)) && decide (((s8 : Nat) : Int) < ((((s).length : Nat) : Int) - 1)))) (by kernel_rfl) (fun q33 => ?_) (fun q33 => ?_)
          ·have hS := cond_T q33 hS
           have q33l := (and_true_ q33).1
           have q33r := (and_true_ q33).2
           have q33ll := (and_true_ q33l).1
           have q33lr := (and_true_ q33l).2
           have q33llp : (((List.getD (s : List UInt8) s8 0)).toNat : Int) = 32 := eq_of_beq q33ll
           have q33lrp := of_decide_eq_true q33lr
           have q33rp := of_decide_eq_true q33r
           refine xB 2 [] [(0, vt s), (4, vb ((decide ((((List.getD (s : List UInt8) s8 0)).toNat : Int) ≥ 65) && decide ((((List.getD (s : List UInt8) s8 0)).toNat : Int) ≤ 90)) || (decide ((((List.getD (s : List UInt8) s8 0)).toNat : Int) ≥ 48) && decide ((((List.getD (s : List UInt8) s8 0)).toNat : Int) ≤ 57)))), (15, vi (((s).length : Nat) : Int)), (16, vi ((s8 : Nat) : Int)), (56, vb true), (57, vt s), (58, vi ((s8 : Nat) : Int))] ?_
           refine xV (qSub .i64 (((s8 : Nat) : Int)) (1) (wr64 (by omega))) ?_
           obtain ⟨q34, hS⟩ := grd_T hS
           have q34p := of_decide_eq_true q34
           have i35 : ((((s8 : Nat) : Int) - 1)).toNat < (s).length := by omega
           have nb36 := UInt8.toNat_lt (List.getD (s : List UInt8) ((((s8 : Nat) : Int) - 1)).toNat 0)
           refine xV (qIxS ((((s8 : Nat) : Int) - 1)).toNat (show ((((s8 : Nat) : Int) - 1) : Int) = _ from by omega) i35) ?_
           refine xB 2 [] [(0, vt s), (4, vb ((decide ((((List.getD (s : List UInt8) s8 0)).toNat : Int) ≥ 65) && decide ((((List.getD (s : List UInt8) s8 0)).toNat : Int) ≤ 90)) || (decide ((((List.getD (s : List UInt8) s8 0)).toNat : Int) ≥ 48) && decide ((((List.getD (s : List UInt8) s8 0)).toNat : Int) ≤ 57)))), (15, vi (((s).length : Nat) : Int)), (16, vi ((s8 : Nat) : Int)), (62, vb ((((List.getD (s : List UInt8) ((((s8 : Nat) : Int) - 1)).toNat 0)).toNat : Int) != 32))] ?_
           refine xSub [(0, vt s), (4, vb ((decide ((((List.getD (s : List UInt8) s8 0)).toNat : Int) ≥ 65) && decide ((((List.getD (s : List UInt8) s8 0)).toNat : Int) ≤ 90)) || (decide ((((List.getD (s : List UInt8) s8 0)).toNat : Int) ≥ 48) && decide ((((List.getD (s : List UInt8) s8 0)).toNat : Int) ≤ 57)))), (15, vi (((s).length : Nat) : Int)), (16, vi ((s8 : Nat) : Int)), (62, vb ((((List.getD (s : List UInt8) ((((s8 : Nat) : Int) - 1)).toNat 0)).toNat : Int) != 32))] ?_
           exact hN27 _ (Option.some.inj hS).symm _ _ _ (Gh.le.refl _) ⟨by kernel_rfl, by kernel_rfl⟩
          ·have hS := cond_F q33 hS
           refine xB 6 [] [(0, vt s), (4, vb ((decide ((((List.getD (s : List UInt8) s8 0)).toNat : Int) ≥ 65) && decide ((((List.getD (s : List UInt8) s8 0)).toNat : Int) ≤ 90)) || (decide ((((List.getD (s : List UInt8) s8 0)).toNat : Int) ≥ 48) && decide ((((List.getD (s : List UInt8) s8 0)).toNat : Int) ≤ 57)))), (15, vi (((s).length : Nat) : Int)), (16, vi ((s8 : Nat) : Int)), (62, vb false)] ?_
           refine xSub [(0, vt s), (4, vb ((decide ((((List.getD (s : List UInt8) s8 0)).toNat : Int) ≥ 65) && decide ((((List.getD (s : List UInt8) s8 0)).toNat : Int) ≤ 90)) || (decide ((((List.getD (s : List UInt8) s8 0)).toNat : Int) ≥ 48) && decide ((((List.getD (s : List UInt8) s8 0)).toNat : Int) ≤ 57)))), (15, vi (((s).length : Nat) : Int)), (16, vi ((s8 : Nat) : Int)), (62, vb false)] ?_
           exact hN27 _ (Option.some.inj hS).symm _ _ _ (Gh.le.refl _) ⟨by kernel_rfl, by kernel_rfl⟩
    ·have hS := cond_F h11 hS
     have h11p := of_decide_eq_false h11
     refine xEx 0 ?_
     refine wpq_thenX ?_
     refine wpq_thenX ?_
     refine wpq_blockE ?_
     refine xSub [] ?_
     have eS := (Option.some.inj hS).symm
     have eS := (hD8 _ eS).symm
     exact hN3 _ eS _ _ _ e10 ⟨by kernel_rfl, by kernel_rfl⟩

def o36 (x : AlertDef) (fv : AlertDef) : Bool :=
 (((x.name == fv.name)))
set_option maxRecDepth 100000 in
theorem c36 (g : Gh) (x : AlertDef) (a_fv : Addr) (fv : AlertDef) (hc_fv : Cells g.r a_fv [vt fv.name, vy fv.level, Value.int .u16 fv.inhibit]) {r : Bool} (hS : o36 x fv = r) :
  Ctr Try.prog 36 [Value.agg #[vt x.name, vy x.level, Value.int .u16 x.inhibit], Value.pointer (some a_fv)] g [] (fun v ψ o => v = vb r ∧ o = []) := by
 unfold o36 at hS
 refine xFn Try.f36 (Try.f36.body.getD .skip) 9 ?_
 refine xSq ?_
 refine xRg ?_
 refine xE eB ?_
 rintro _ _ _ - ⟨b1, rfl, rfl, rfl⟩
 refine xB 1 [] [(1, Value.pointer (some a_fv)), (2, vp b1 0)] ?_
 refine xRe ?_
 refine wpq_then ?_
 refine xSq ?_
 refine xRg ?_
 refine xB 3 [(1, 0)] [(5, vt x.name), (6, Value.pointer (some a_fv))] ?_
 refine xV (qLdP a_fv 0 hc_fv) ?_
 refine xV (qEqS (x.name) (fv.name)) ?_
 refine xB 1 [] [(3, vb (x.name == fv.name))] ?_
 refine xRe ?_
 refine wpq_then ?_
 have eS := hS.symm
 subst eS
 exact xRet [] [3] (Gh.le.refl _) ⟨by kernel_rfl, by kernel_rfl⟩ (fun _ _ h => h)

def o58f36_L0 (s : List AlertDef) (fc : AlertDef) (s6 : Nat) : Option (Ctl (Nat) (Ctl (Unit) (Int))) :=
 (cond (decide (((s6 : Nat) : Int) < (((s).length : Nat) : Int))) (letJ (τ := Bool) (o36 (List.getD s s6 default) fc) fun y12 => (cond (y12) (some (Ctl.done (Ctl.done ((((s6 : Nat) : Int) : Int))))) (grd (decide (((s6 : Nat) : Int) + 1 ≤ 9223372036854775807)) (some (Ctl.go (s6 + 1)))))) (some (Ctl.done (Ctl.go ()))))
def o58f36 (s : List AlertDef) (fc : AlertDef) : Option (Int) :=
 (joinO (τ := Unit) (ρ := Int) (loopO (σ := Nat) (ρ := Ctl (Unit) (Int)) fuelN (o58f36_L0 s fc) (0)) fun t1 => (some ((-1 : Int))))
set_option maxRecDepth 100000 in
theorem c58f36 (g : Gh) (s : List AlertDef) (As : Option Addr) (cs : Nat) (a_fc : Addr) (fc : AlertDef) (fs : Arr g.r tyAlertDef As cs s) (hc_fc : Cells g.r a_fc [vt fc.name, vy fc.level, Value.int .u16 fc.inhibit]) {r : Int} (hS : o58f36 s fc = some r) :
  Ctr Try.prog 58 [vs As s cs, Value.func (.func 36) #[] #[Value.pointer (some a_fc)]] g [] (fun v ψ o => v = vi r ∧ o = []) := by
 unfold o58f36 at hS
 refine xFn Try.f58 (Try.f58.body.getD .skip) 19 ?_
 have nfs := fs.len
 refine xSq ?_
 refine xRg ?_
 refine xB 1 [] [(0, vs As s cs), (1, Value.func (.func 36) #[] #[Value.pointer (some a_fc)])] ?_
 refine xRe ?_
 refine wpq_then ?_
 refine xSq ?_
 refine xSq ?_
 refine xRg ?_
 refine xB 3 [] [(0, vs As s cs), (1, Value.func (.func 36) #[] #[Value.pointer (some a_fc)]), (7, vi (((s).length : Nat) : Int)), (8, vi 0)] ?_
 refine xRe ?_
 refine wpq_then ?_
 refine xJoinO hS (fun g own sl t1 => own = [] ∧ sl = []) ?_ ?_
 ·rintro g2 _ _ t1 e3 ⟨rfl, rfl⟩ hS
  refine wpq_then ?_
  refine xSq ?_
  refine xRg ?_
  refine xB 1 [] [(4, vi (-1))] ?_
  refine xRe ?_
  refine wpq_then ?_
  have eS := (Option.some.inj hS).symm
  subst eS
  exact xRet [] [4] e3 ⟨by kernel_rfl, by kernel_rfl⟩ (fun _ _ h => h)
 ·intro uu1 hS hN1 hD1
  refine xBl 0 ?_
  refine xSub [(0, vs As s cs), (1, Value.func (.func 36) #[] #[Value.pointer (some a_fc)]), (7, vi (((s).length : Nat) : Int)), (8, vi 0)] ?_
  refine xLo hS (fun g own sl s6 => own = [] ∧ sl = [(0, vs As s cs), (1, Value.func (.func 36) #[] #[Value.pointer (some a_fc)]), (7, vi (((s).length : Nat) : Int)), (8, vi ((s6 : Nat) : Int))]) ⟨by kernel_rfl, by kernel_rfl⟩ ?_
  rintro g7 _ _ s6 uu6 e8 ⟨rfl, rfl⟩ hS Qr6 hN6 hD6
  unfold o58f36_L0 at hS
  refine xSq ?_
  refine xRg ?_
  refine xB 1 [] [(0, vs As s cs), (1, Value.func (.func 36) #[] #[Value.pointer (some a_fc)]), (7, vi (((s).length : Nat) : Int)), (8, vi ((s6 : Nat) : Int)), (9, vb (decide (((s6 : Nat) : Int) < (((s).length : Nat) : Int))))] ?_
  refine xRe ?_
  refine wpq_then ?_
  refine xSq ?_
  refine xCd (decide (((s6 : Nat) : Int) < (((s).length : Nat) : Int))) (fun h9 => ?_) (fun h9 => ?_)
  ·have hS := cond_T h9 hS
   have h9p := of_decide_eq_true h9
   refine xSk ?_
   refine wpq_then ?_
   refine xSub [(0, vs As s cs), (1, Value.func (.func 36) #[] #[Value.pointer (some a_fc)]), (7, vi (((s).length : Nat) : Int)), (8, vi ((s6 : Nat) : Int))] ?_
   refine xSq ?_
   refine xBl 1 ?_
   refine xSq ?_
   refine xRg ?_
   refine xB 2 [] [(0, vs As s cs), (1, Value.func (.func 36) #[] #[Value.pointer (some a_fc)]), (5, vi ((s6 : Nat) : Int)), (7, vi (((s).length : Nat) : Int)), (8, vi ((s6 : Nat) : Int))] ?_
   refine xRe ?_
   refine wpq_then ?_
   refine xSq ?_
   refine xRg ?_
   have fs := fs.mono e8.r
   have i11 : s6 < (s).length := by omega
   obtain ⟨ad10, cs10, hA10, hr10, hc10⟩ := fs.at_ (get_getD (d := default) i11)
   obtain ⟨rfl⟩ := hr10
   refine xB 3 [] [(0, vs As s cs), (1, Value.func (.func 36) #[] #[Value.pointer (some a_fc)]), (5, vi ((s6 : Nat) : Int)), (7, vi (((s).length : Nat) : Int)), (8, vi ((s6 : Nat) : Int)), (11, Value.func (.func 36) #[] #[Value.pointer (some a_fc)]), (12, vs As s cs), (13, vi ((s6 : Nat) : Int))] ?_
   refine xV (qIx s6 3 hA10 rfl i11) ?_
   refine xV (qLdP (Addr.add ad10 (s6 * 3)) 0 hc10) ?_
   have hc_fc := hc_fc.mono e8.r
   obtain ⟨y12, hy12, hS⟩ := letJ_T hS
   refine xE (eC 0 (fun g' lr eb ln => c36 g' (List.getD s s6 default) a_fc fc (hc_fc.mono lr) hy12)) ?_
   rintro _ g13 _ e14 ⟨_, rfl, rfl, rfl⟩
   refine xRe ?_
   refine wpq_then ?_
   refine xSub [(0, vs As s cs), (1, Value.func (.func 36) #[] #[Value.pointer (some a_fc)]), (5, vi ((s6 : Nat) : Int)), (7, vi (((s).length : Nat) : Int)), (8, vi ((s6 : Nat) : Int)), (16, vb y12)] ?_
   refine xCd (y12) (fun h15 => ?_) (fun h15 => ?_)
   ·have hS := cond_T h15 hS
    refine xSq ?_
    refine xRg ?_
    refine xB 2 [] [(4, vi ((s6 : Nat) : Int))] ?_
    refine xRe ?_
    refine wpq_then ?_
    have eS := (Option.some.inj hS).symm
    have eS := (hD6 _ eS).symm
    have eS := (hD1 _ eS).symm
    subst eS
    exact xRet [] [4] (e8.trans e14) ⟨by kernel_rfl, by kernel_rfl⟩ (fun _ _ h => h)
   ·have hS := cond_F h15 hS
    refine xSk ?_
    refine wpq_blockN ?_
    refine wpq_then ?_
    refine xSub [(0, vs As s cs), (1, Value.func (.func 36) #[] #[Value.pointer (some a_fc)]), (7, vi (((s).length : Nat) : Int)), (8, vi ((s6 : Nat) : Int))] ?_
    refine xRg ?_
    obtain ⟨q16, hS⟩ := grd_T hS
    have q16p := of_decide_eq_true q16
    refine xV (qAdd .i64 (((s6 : Nat) : Int)) (1) (wr64 (by omega))) ?_
    refine xB 1 [] [(0, vs As s cs), (1, Value.func (.func 36) #[] #[Value.pointer (some a_fc)]), (7, vi (((s).length : Nat) : Int)), (8, vi (((s6 : Nat) : Int) + 1))] ?_
    refine xRe ?_
    refine wpq_thenN ?_
    refine xSub [(0, vs As s cs), (1, Value.func (.func 36) #[] #[Value.pointer (some a_fc)]), (7, vi (((s).length : Nat) : Int)), (8, vi (((s6 : Nat) : Int) + 1))] ?_
    have eS := (Option.some.inj hS).symm
    exact hN6 _ eS _ _ _ e14 ⟨by kernel_rfl, by kernel_rfl⟩
  ·have hS := cond_F h9 hS
   have h9p := of_decide_eq_false h9
   refine xEx 0 ?_
   refine wpq_thenX ?_
   refine wpq_thenX ?_
   refine wpq_blockE ?_
   refine xSub [] ?_
   have eS := (Option.some.inj hS).symm
   have eS := (hD6 _ eS).symm
   exact hN1 _ eS _ _ _ e8 ⟨by kernel_rfl, by kernel_rfl⟩

def o35f36 (s : List AlertDef) (fc : AlertDef) : Option (Bool) :=
 (bindO (τ := Int) (o58f36 (s : List AlertDef) fc) fun y1 => (some ((decide (y1 ≥ 0)))))
set_option maxRecDepth 100000 in
theorem c35f36 (g : Gh) (s : List AlertDef) (As : Option Addr) (cs : Nat) (a_fc : Addr) (fc : AlertDef) (fs : Arr g.r tyAlertDef As cs s) (hc_fc : Cells g.r a_fc [vt fc.name, vy fc.level, Value.int .u16 fc.inhibit]) {r : Bool} (hS : o35f36 s fc = some r) :
  Ctr Try.prog 35 [vs As s cs, Value.func (.func 36) #[] #[Value.pointer (some a_fc)]] g [] (fun v ψ o => v = vb r ∧ o = []) := by
 unfold o35f36 at hS
 refine xFn Try.f35 (Try.f35.body.getD .skip) 9 ?_
 have nfs := fs.len
 refine xSq ?_
 refine xRg ?_
 refine xB 1 [] [(0, vs As s cs), (1, Value.func (.func 36) #[] #[Value.pointer (some a_fc)])] ?_
 refine xRe ?_
 refine wpq_then ?_
 refine xSq ?_
 refine xRg ?_
 refine xB 2 [] [(5, vs As s cs), (6, Value.func (.func 36) #[] #[Value.pointer (some a_fc)])] ?_
 obtain ⟨y1, hy1, hS⟩ := bindO_T hS
 refine xE (eC 0 (fun g' lr eb ln => c58f36 g' (s : List AlertDef) As cs a_fc fc (fs.mono lr) (hc_fc.mono lr) hy1)) ?_
 rintro _ g2 _ e3 ⟨_, rfl, rfl, rfl⟩
 refine xB 2 [] [(4, vb (decide (y1 ≥ 0)))] ?_
 refine xRe ?_
 refine wpq_then ?_
 have eS := (Option.some.inj hS).symm
 subst eS
 exact xRet [] [4] e3 ⟨by kernel_rfl, by kernel_rfl⟩ (fun _ _ h => h)

def o13_L0 (l : List AlertDef) (s7 : Nat) : Option (Ctl (Nat) (Ctl (Unit) (Int))) :=
 (cond (decide (((s7 : Nat) : Int) < (((l).length : Nat) : Int))) (bindO (τ := Bool) (o34 (List.getD l s7 default).name) fun y14 => (cond ((!y14)) (some (Ctl.done (Ctl.done ((5 : Int))))) (bindO (τ := Bool) (o35f36 ((List.take s7 l) : List AlertDef) (List.getD l s7 default)) fun y19 => (cond (y19) (some (Ctl.done (Ctl.done ((7 : Int))))) (cond ((decide ((List.getD l s7 default).level < 1) || decide ((List.getD l s7 default).level > 3))) (some (Ctl.done (Ctl.done ((2 : Int))))) (cond (((landnK .u16 (List.getD l s7 default).inhibit 510) != 0)) (some (Ctl.done (Ctl.done ((1 : Int))))) (grd (decide (((s7 : Nat) : Int) + 1 ≤ 9223372036854775807)) (some (Ctl.go (s7 + 1)))))))))) (some (Ctl.done (Ctl.go ()))))
def o13 (l : List AlertDef) : Option (Int) :=
 (cond (decide ((((l).length : Nat) : Int) > 16)) (some ((3 : Int))) (joinO (τ := Unit) (ρ := Int) (loopO (σ := Nat) (ρ := Ctl (Unit) (Int)) fuelN (o13_L0 l) (0)) fun t2 => (some ((0 : Int)))))
set_option maxRecDepth 100000 in
theorem c13 (g : Gh) (l : List AlertDef) (Al : Option Addr) (cl : Nat) (fl : Arr g.r tyAlertDef Al cl l) {r : Int} (hS : o13 l = some r) :
  Ctr Try.prog 13 [vs Al l cl] g [] (fun v ψ o => v = vi r ∧ o = []) := by
 unfold o13 at hS
 refine xFn Try.f13 (Try.f13.body.getD .skip) 37 ?_
 have nfl := fl.len
 refine xSq ?_
 refine xRg ?_
 refine xB 1 [] [(0, vs Al l cl)] ?_
 refine xRe ?_
 refine wpq_then ?_
 refine xSq ?_
 refine xSq ?_
 refine xRg ?_
 refine xB 3 [] [(0, vs Al l cl), (7, vb (decide ((((l).length : Nat) : Int) > 16)))] ?_
 refine xRe ?_
 refine wpq_then ?_
 refine xCd (decide ((((l).length : Nat) : Int) > 16)) (fun h1 => ?_) (fun h1 => ?_)
 ·have hS := cond_T h1 hS
  have h1p := of_decide_eq_true h1
  refine xSq ?_
  refine xRg ?_
  refine xB 1 [] [(2, vi 3)] ?_
  refine xRe ?_
  refine wpq_then ?_
  have eS := (Option.some.inj hS).symm
  subst eS
  exact xRet [] [2] (Gh.le.refl _) ⟨by kernel_rfl, by kernel_rfl⟩ (fun _ _ h => h)
 ·have hS := cond_F h1 hS
  have h1p := of_decide_eq_false h1
  refine xSk ?_
  refine wpq_then ?_
  refine xSub [(0, vs Al l cl)] ?_
  refine xSq ?_
  refine xSq ?_
  refine xRg ?_
  refine xB 3 [] [(0, vs Al l cl), (8, vs Al l cl), (9, vi (((l).length : Nat) : Int)), (10, vi 0)] ?_
  refine xRe ?_
  refine wpq_then ?_
  refine xJoinO hS (fun g own sl t2 => own = [] ∧ sl = []) ?_ ?_
  ·rintro g3 _ _ t2 e4 ⟨rfl, rfl⟩ hS
   refine wpq_then ?_
   refine xSq ?_
   refine xRg ?_
   refine xB 1 [] [(2, vi 0)] ?_
   refine xRe ?_
   refine wpq_then ?_
   have eS := (Option.some.inj hS).symm
   subst eS
   exact xRet [] [2] e4 ⟨by kernel_rfl, by kernel_rfl⟩ (fun _ _ h => h)
  ·intro uu2 hS hN2 hD2
   refine xBl 0 ?_
   refine xSub [(0, vs Al l cl), (8, vs Al l cl), (9, vi (((l).length : Nat) : Int)), (10, vi 0)] ?_
   refine xLo hS (fun g own sl s7 => own = [] ∧ sl = [(0, vs Al l cl), (8, vs Al l cl), (9, vi (((l).length : Nat) : Int)), (10, vi ((s7 : Nat) : Int))]) ⟨by kernel_rfl, by kernel_rfl⟩ ?_
   rintro g8 _ _ s7 uu7 e9 ⟨rfl, rfl⟩ hS Qr7 hN7 hD7
   unfold o13_L0 at hS
   refine xSq ?_
   refine xRg ?_
   refine xB 1 [] [(0, vs Al l cl), (8, vs Al l cl), (9, vi (((l).length : Nat) : Int)), (10, vi ((s7 : Nat) : Int)), (11, vb (decide (((s7 : Nat) : Int) < (((l).length : Nat) : Int))))] ?_
   refine xRe ?_
   refine wpq_then ?_
   refine xSq ?_
   refine xCd (decide (((s7 : Nat) : Int) < (((l).length : Nat) : Int))) (fun h10 => ?_) (fun h10 => ?_)
   ·have hS := cond_T h10 hS
    have h10p := of_decide_eq_true h10
    refine xSk ?_
    refine wpq_then ?_
    refine xSub [(0, vs Al l cl), (8, vs Al l cl), (9, vi (((l).length : Nat) : Int)), (10, vi ((s7 : Nat) : Int))] ?_
    refine xSq ?_
    refine xBl 1 ?_
    refine xSq ?_
    refine xRg ?_
    have fl := fl.mono e9.r
    have i12 : s7 < (l).length := by omega
    obtain ⟨ad11, cs11, hA11, hr11, hc11⟩ := fl.at_ (get_getD (d := default) i12)
    obtain ⟨rfl⟩ := hr11
    refine xB 1 [] [(0, vs Al l cl), (8, vs Al l cl), (9, vi (((l).length : Nat) : Int)), (10, vi ((s7 : Nat) : Int)), (12, vi ((s7 : Nat) : Int))] ?_
    refine xV (qIx s7 3 hA11 rfl i12) ?_
    refine xV (qLdP (Addr.add ad11 (s7 * 3)) 0 hc11) ?_
    refine xE eB ?_
    rintro _ _ _ - ⟨b13, rfl, rfl, rfl⟩
    refine xBo 2 [(5, 0)] [some ⟨b13, 34, [vt ((List.getD l s7 default).name), vy ((List.getD l s7 default).level), Value.int .u16 ((List.getD l s7 default).inhibit)]⟩] [(0, vs Al l cl), (3, vi ((s7 : Nat) : Int)), (4, vp b13 0), (8, vs Al l cl), (9, vi (((l).length : Nat) : Int)), (10, vi ((s7 : Nat) : Int))] ?_
    refine xRe ?_
    refine wpq_then ?_
    refine xSq ?_
    refine xSq ?_
    refine xRg ?_
    refine xB 2 [(1, 0)] [(0, vs Al l cl), (3, vi ((s7 : Nat) : Int)), (4, vp b13 0), (8, vs Al l cl), (9, vi (((l).length : Nat) : Int)), (10, vi ((s7 : Nat) : Int)), (16, vt ((List.getD l s7 default).name))] ?_
    obtain ⟨y14, hy14, hS⟩ := bindO_T hS
    refine xE (eC 0 (fun g' lr eb ln => c34 g' (List.getD l s7 default).name hy14)) ?_
    rintro _ g15 _ e16 ⟨_, rfl, rfl, rfl⟩
    refine xB 1 [] [(0, vs Al l cl), (3, vi ((s7 : Nat) : Int)), (4, vp b13 0), (8, vs Al l cl), (9, vi (((l).length : Nat) : Int)), (10, vi ((s7 : Nat) : Int)), (18, vb (!y14))] ?_
    refine xRe ?_
    refine wpq_then ?_
    refine xCd ((!y14)) (fun h17 => ?_) (fun h17 => ?_)
    ·have hS := cond_T h17 hS
     have h17n := not_eq_true_ h17
     refine xSq ?_
     refine xRg ?_
     refine xB 1 [] [(2, vi 5)] ?_
     refine xRe ?_
     refine wpq_then ?_
     have eS := (Option.some.inj hS).symm
     have eS := (hD7 _ eS).symm
     have eS := (hD2 _ eS).symm
     subst eS
     exact xRet [] [2] (e9.trans e16) ⟨by kernel_rfl, by kernel_rfl⟩ (fun _ _ h => h)
    ·have hS := cond_F h17 hS
     have h17n := not_eq_false_ h17
     refine xSk ?_
     refine wpq_then ?_
     refine xSub [(0, vs Al l cl), (3, vi ((s7 : Nat) : Int)), (4, vp b13 0), (8, vs Al l cl), (9, vi (((l).length : Nat) : Int)), (10, vi ((s7 : Nat) : Int))] ?_
     refine xSq ?_
     refine xSq ?_
     refine xRg ?_
     have fl := fl.mono e16.r
     have ncapf18 := fl.cap
     have f18 : Arr g15.r tyAlertDef (offA Al cl 0 3) (cl - 0) (List.take s7 l) := fl.cut_to s7 (by omega)
     have nf18 := f18.len
     have hlf18 : s7 - 0 = ((List.take s7 l)).length := by simp only [List.length_take, List.length_drop] <;> omega
     have hvf18 : ((((List.take s7 l)).length : Nat) : Int) = ((s7 : Nat) : Int) - 0 := by omega
     refine xB 2 [] [(0, vs Al l cl), (4, vp b13 0), (8, vs Al l cl), (9, vi (((l).length : Nat) : Int)), (10, vi ((s7 : Nat) : Int)), (19, vs Al l cl), (20, vi ((s7 : Nat) : Int))] ?_
     refine xV (qSl (m := 3) (A := Al) (len := (l).length) (c := cl) 0 s7 none (some ((s7 : Nat) : Int)) ((List.take s7 l)).length rfl rfl (by omega) (by omega) hlf18) ?_
     refine xB 1 [] [(0, vs Al l cl), (4, vp b13 0), (8, vs Al l cl), (9, vi (((l).length : Nat) : Int)), (10, vi ((s7 : Nat) : Int)), (21, vs (offA Al cl 0 3) (List.take s7 l) (cl - 0)), (22, Value.func (.func 36) #[] #[vp b13 0])] ?_
     obtain ⟨y19, hy19, hS⟩ := bindO_T hS
     refine xE (eC 0 (fun g' lr eb ln => c35f36 g' ((List.take s7 l) : List AlertDef) (offA Al cl 0 3) (cl - 0) ⟨b13, 0, none⟩ (List.getD l s7 default) (f18.mono lr) (cells_lent' 0 b13 0 [vt ((List.getD l s7 default).name), vy ((List.getD l s7 default).level), Value.int .u16 ((List.getD l s7 default).inhibit)] ln) hy19)) ?_
     rintro _ g20 _ e21 ⟨_, rfl, rfl, rfl⟩
     refine xRe ?_
     refine wpq_then ?_
     refine xSub [(0, vs Al l cl), (4, vp b13 0), (8, vs Al l cl), (9, vi (((l).length : Nat) : Int)), (10, vi ((s7 : Nat) : Int)), (23, vb y19)] ?_
     refine xCd (y19) (fun h22 => ?_) (fun h22 => ?_)
     ·have hS := cond_T h22 hS
      refine xSq ?_
      refine xRg ?_
      refine xB 1 [] [(2, vi 7)] ?_
      refine xRe ?_
      refine wpq_then ?_
      have eS := (Option.some.inj hS).symm
      have eS := (hD7 _ eS).symm
      have eS := (hD2 _ eS).symm
      subst eS
      exact xRet [] [2] (e9.trans (e16.trans e21)) ⟨by kernel_rfl, by kernel_rfl⟩ (fun _ _ h => h)
     ·have hS := cond_F h22 hS
      refine xSk ?_
      refine wpq_then ?_
      refine xSub [(0, vs Al l cl), (4, vp b13 0), (8, vs Al l cl), (9, vi (((l).length : Nat) : Int)), (10, vi ((s7 : Nat) : Int))] ?_
      refine xSq ?_
      refine xSq ?_
      refine xRg ?_
      refine xB 4 [(1, 0)] [(0, vs Al l cl), (4, vp b13 0), (8, vs Al l cl), (9, vi (((l).length : Nat) : Int)), (10, vi ((s7 : Nat) : Int)), (27, vb (decide ((List.getD l s7 default).level < 1)))] ?_
      refine wpr_grp 8 [(0, vs Al l cl), (4, vp b13 0), (8, vs Al l cl), (9, vi (((l).length : Nat) : Int)), (10, vi ((s7 : Nat) : Int)), (31, vb (decide ((List.getD l s7 default).level < 1) || decide ((List.getD l s7 default).level > 3)))] (fun hk3 => ?_) ?_
      ·refine wpq_split 27 (b := decide ((List.getD l s7 default).level < 1)) (by kernel_rfl) (fun q23 => ?_) (fun q23 => ?_)
       ·have q23p := of_decide_eq_true q23
        refine xB 4 [] [(0, vs Al l cl), (4, vp b13 0), (8, vs Al l cl), (9, vi (((l).length : Nat) : Int)), (10, vi ((s7 : Nat) : Int)), (31, vb true)] ?_
        refine wpq_re 31 (v := vb true) (Value.bool ((decide ((List.getD l s7 default).level < 1) || decide ((List.getD l s7 default).level > 3)))) (by kernel_rfl) (re_or1 q23) ?_
        exact wpq_sub _ (by kernel_rfl) hk3
       ·have q23p := of_decide_eq_false q23
        refine xB 4 [(5, 0)] [(0, vs Al l cl), (4, vp b13 0), (8, vs Al l cl), (9, vi (((l).length : Nat) : Int)), (10, vi ((s7 : Nat) : Int)), (31, vb (decide ((List.getD l s7 default).level > 3)))] ?_
        refine wpq_re 31 (v := vb (decide ((List.getD l s7 default).level > 3))) (Value.bool ((decide ((List.getD l s7 default).level < 1) || decide ((List.getD l s7 default).level > 3)))) (by kernel_rfl) (re_or0 q23) ?_
        exact wpq_sub _ (by kernel_rfl) hk3
      ·refine xRe ?_
       refine wpq_then ?_
       refine xCd ((decide ((List.getD l s7 default).level < 1) || decide ((List.getD l s7 default).level > 3))) (fun h24 => ?_) (fun h24 => ?_)
       ·have hS := cond_T h24 hS
        refine xSq ?_
        refine xRg ?_
        refine xB 1 [] [(2, vi 2)] ?_
        refine xRe ?_
        refine wpq_then ?_
        have eS := (Option.some.inj hS).symm
        have eS := (hD7 _ eS).symm
        have eS := (hD2 _ eS).symm
        subst eS
        exact xRet [] [2] (e9.trans (e16.trans e21)) ⟨by kernel_rfl, by kernel_rfl⟩ (fun _ _ h => h)
       ·have hS := cond_F h24 hS
        have h24l := (or_false_ h24).1
        have h24r := (or_false_ h24).2
        have h24lp := of_decide_eq_false h24l
        have h24rp := of_decide_eq_false h24r
        refine xSk ?_
        refine wpq_then ?_
        refine xSub [(0, vs Al l cl), (4, vp b13 0), (8, vs Al l cl), (9, vi (((l).length : Nat) : Int)), (10, vi ((s7 : Nat) : Int))] ?_
        refine xSq ?_
        refine xRg ?_
        refine xB 4 [(1, 0)] [(0, vs Al l cl), (8, vs Al l cl), (9, vi (((l).length : Nat) : Int)), (10, vi ((s7 : Nat) : Int)), (35, vb ((landnK .u16 (List.getD l s7 default).inhibit 510) != 0))] ?_
        refine xRe ?_
        refine wpq_then ?_
        refine xCd (((landnK .u16 (List.getD l s7 default).inhibit 510) != 0)) (fun h25 => ?_) (fun h25 => ?_)
        ·have hS := cond_T h25 hS
         have h25p : ¬ ((landnK .u16 (List.getD l s7 default).inhibit 510) = 0) := ne_of_bne_ h25
         refine xSq ?_
         refine xRg ?_
         refine xB 1 [] [(2, vi 1)] ?_
         refine xRe ?_
         refine wpq_then ?_
         have eS := (Option.some.inj hS).symm
         have eS := (hD7 _ eS).symm
         have eS := (hD2 _ eS).symm
         subst eS
         exact xRet [] [2] (e9.trans (e16.trans e21)) ⟨by kernel_rfl, by kernel_rfl⟩ (fun _ _ h => h)
        ·have hS := cond_F h25 hS
         have h25p : (landnK .u16 (List.getD l s7 default).inhibit 510) = 0 := eq_of_bne_false_ h25
         refine xSk ?_
         refine wpq_blockN ?_
         refine wpq_then ?_
         refine xSub [(0, vs Al l cl), (8, vs Al l cl), (9, vi (((l).length : Nat) : Int)), (10, vi ((s7 : Nat) : Int))] ?_
         refine xRg ?_
         obtain ⟨q26, hS⟩ := grd_T hS
         have q26p := of_decide_eq_true q26
         refine xV (qAdd .i64 (((s7 : Nat) : Int)) (1) (wr64 (by omega))) ?_
         refine xB 1 [] [(0, vs Al l cl), (8, vs Al l cl), (9, vi (((l).length : Nat) : Int)), (10, vi (((s7 : Nat) : Int) + 1))] ?_
         refine xRe ?_
         refine wpq_thenN ?_
         refine xSel [] ?_
         refine xSub [(0, vs Al l cl), (8, vs Al l cl), (9, vi (((l).length : Nat) : Int)), (10, vi (((s7 : Nat) : Int) + 1))] ?_
         have eS := (Option.some.inj hS).symm
         exact hN7 _ eS _ _ _ (e16.trans e21) ⟨by kernel_rfl, by kernel_rfl⟩
   ·have hS := cond_F h10 hS
    have h10p := of_decide_eq_false h10
    refine xEx 0 ?_
    refine wpq_thenX ?_
    refine wpq_thenX ?_
    refine wpq_blockE ?_
    refine xSub [] ?_
    have eS := (Option.some.inj hS).symm
    have eS := (hD7 _ eS).symm
    exact hN2 _ eS _ _ _ e9 ⟨by kernel_rfl, by kernel_rfl⟩

def o33 (s : List AlertDef) : Option ((List AlertDef)) :=
 (grd (decide ((0 + (s).length) * 24 ≤ 140737488355328)) (some ((s : List AlertDef))))
set_option maxRecDepth 100000 in
theorem c33 (g : Gh) (s : List AlertDef) (As : Option Addr) (cs : Nat) (fs : ArrM g.r g.b tyAlertDef As cs s) {r : (List AlertDef)} (hS : o33 s = some r) :
  Ctr Try.prog 33 [vs As s cs] g [] (fun v ψ o => ∃ (Ar_0 : Option Addr) (cr_0 : Nat) (kr_0 : Option Bk), v = vs Ar_0 r cr_0 ∧ o = [kr_0] ∧ Buf ψ tyAlertDef 34 (.slice Ar_0 (r).length cr_0) kr_0 r) := by
 unfold o33 at hS
 refine xFn Try.f33 (Try.f33.body.getD .skip) 8 ?_
 have nfs := fs.len
 refine xSq ?_
 refine xRg ?_
 refine xB 1 [] [(0, vs As s cs)] ?_
 refine xRe ?_
 refine wpq_then ?_
 refine xSq ?_
 refine xSq ?_
 refine xRg ?_
 refine xB 1 [] [(0, vs As s cs), (3, vs As s cs)] ?_
 refine xV (qNil As) ?_
 refine xRe ?_
 refine wpq_then ?_
 refine xSub [(0, vs As s cs), (4, vb (Option.isNone As))] ?_
 refine xCd ((Option.isNone As)) (fun h1 => ?_) (fun h1 => ?_)
 ·have hsh1 := fs.nil_of h1
  subst hsh1
  refine xSq ?_
  refine xRg ?_
  refine xB 1 [] [(2, Value.slice none 0 0)] ?_
  refine xRe ?_
  refine wpq_then ?_
  have eS : r = ([] : List AlertDef) := by first | exact hS.symm | exact hS | (simp [grd] at hS; first | exact hS.symm | exact hS)
  subst eS
  exact xRet [none] [2] (Gh.le.refl _) ⟨none, 0, none, by kernel_rfl, by kernel_rfl, Buf.nil⟩ (fun _ _ h => h)
 ·refine xSk ?_
  refine wpq_then ?_
  refine xSub [(0, vs As s cs)] ?_
  refine xSq ?_
  refine xRg ?_
  refine xE (eBs (T := tyAlertDef) (p := g.b) (et := 34) (xs := ([] : List AlertDef)) reps_nil (by simp)) ?_
  rintro _ _ _ - ⟨A2, c2, k2, rfl, rfl, rfl, h2⟩
  refine xB 1 [] [(5, vs A2 ([] : List AlertDef) c2), (6, vs As s cs)] ?_
  obtain ⟨nw3, hp3, hs3⟩ := fs.srcM
  obtain ⟨q4, hS⟩ := grd_T hS
  have q4p := of_decide_eq_true q4
  refine xE (eApp (T := tyAlertDef) (p := g.b) (et := 34) (bytes := 24) (xs := ([] : List AlertDef)) (ys := (s : List AlertDef)) 0 h2 rfl (fun w hs => hs3 w _ hs) hp3 (by first | omega | (simp only [List.length_cons, List.length_nil] at *; omega)) (by first | omega | (simp only [List.length_cons, List.length_nil] at *; omega))) ?_
  rintro _ _ _ - ⟨A3, c3, k3, rfl, rfl, rfl, h3⟩
  have h3 : Buf g.b tyAlertDef 34 (.slice A3 ((s : List AlertDef)).length c3) k3 (s : List AlertDef) := h3
  have nh3 := h3.len
  refine xB 1 [] [(2, vs A3 s c3)] ?_
  refine xRe ?_
  refine wpq_then ?_
  have eS := (Option.some.inj hS).symm
  subst eS
  exact xRet [some 0] [2] (Gh.le.refl _) ⟨A3, c3, k3, by kernel_rfl, by kernel_rfl, h3⟩ (fun _ _ h => h)

def o12 (l : List AlertDef) : Option ((Option Board) × Int) :=
 (bindO (τ := Int) (o13 (l : List AlertDef)) fun y1 => (cond ((y1 != 0)) (some (((none : Option Board), (y1 : Int)))) (bindO (τ := (List AlertDef)) (o33 (l : List AlertDef)) fun y6 => (grd (decide (0 ≤ (((l).length : Nat) : Int) ∧ (((l).length : Nat) : Int) * 16 ≤ 140737488355328)) (some (((some (⟨y6, 0, 1, (List.replicate (l).length (default : Cnd))⟩ : Board)), (0 : Int))))))))
set_option maxRecDepth 100000 in
theorem c12 (g : Gh) (l : List AlertDef) (Al : Option Addr) (cl : Nat) (fl : ArrM g.r g.b tyAlertDef Al cl l) {r : (Option Board) × Int} (hS : o12 l = some r) :
  Ctr Try.prog 12 [vs Al l cl] g [] (fun v ψ o => ∃ (vr_0 : Value) (kr_0 : Option Bk) (kr_0_0 : Option Bk), v = Value.tuple #[vr_0, vi r.2] ∧ o = [kr_0, kr_0_0] ∧ (r.1 = none → vr_0 = Value.pointer none) ∧ (∀ d, r.1 = some d → ∃ (bd : Nat) (Ad_defs : Option Addr) (cd_defs : Nat) (Ad_conds : Option Addr) (cd_conds : Nat) (kd_conds : Option Bk), vr_0 = Value.pointer (some ⟨bd, 0, none⟩) ∧ kr_0 = some ⟨bd, 71, [vs Ad_defs d.defs cd_defs, vi d.steps, vy d.phase, vs Ad_conds d.conds cd_conds]⟩ ∧ kr_0_0 = kd_conds ∧ Arr ψ tyAlertDef Ad_defs cd_defs d.defs ∧ Buf ψ tyCnd 79 (.slice Ad_conds (d.conds).length cd_conds) kd_conds d.conds)) := by
 unfold o12 at hS
 refine xFn Try.f12 (Try.f12.body.getD .skip) 17 ?_
 have nfl := fl.len
 refine xSq ?_
 refine xRg ?_
 refine xB 2 [] [(0, vs Al l cl)] ?_
 refine xRe ?_
 refine wpq_then ?_
 refine xSq ?_
 refine xSq ?_
 refine xRg ?_
 refine xB 1 [] [(0, vs Al l cl), (5, vs Al l cl)] ?_
 obtain ⟨y1, hy1, hS⟩ := bindO_T hS
 refine xE (eC 0 (fun g' lr eb ln => c13 g' (l : List AlertDef) Al cl ((fl.toArr g.br).mono lr) hy1)) ?_
 rintro _ g2 _ e3 ⟨_, rfl, rfl, rfl⟩
 refine xB 1 [] [(0, vs Al l cl), (4, vi y1)] ?_
 refine xRe ?_
 refine wpq_then ?_
 refine xSq ?_
 refine xRg ?_
 refine xB 2 [] [(0, vs Al l cl), (4, vi y1), (8, vb (y1 != 0))] ?_
 refine xRe ?_
 refine wpq_then ?_
 refine xCd ((y1 != 0)) (fun h4 => ?_) (fun h4 => ?_)
 ·have hS := cond_T h4 hS
  have h4p : ¬ (y1 = 0) := ne_of_bne_ h4
  refine xSq ?_
  refine xRg ?_
  refine xB 3 [] [(2, vn), (3, vi y1)] ?_
  refine xRe ?_
  refine wpq_then ?_
  have eS := (Option.some.inj hS).symm
  subst eS
  exact xRet [none, none] [2, 3] e3 ⟨Value.pointer none, none, none, by kernel_rfl, by kernel_rfl, (fun _ => rfl), (fun _ h => by cases h)⟩ (fun _ _ h => h)
 ·have hS := cond_F h4 hS
  have h4p : y1 = 0 := eq_of_bne_false_ h4
  refine xSk ?_
  refine wpq_then ?_
  refine xSub [(0, vs Al l cl)] ?_
  refine xSq ?_
  refine xDr 0 [] [0, 2, 3, 5, 7, 8] [] 9 (fun RG => ?_) (fun _ _ _ _ _ h => h)
  refine xT 6 [0, 2, 3] [] [] [(10, vs Al l cl), (13, vi (((l).length : Nat) : Int))] RG (Psi.le.refl _) ?_
  obtain ⟨y6, hy6, hS⟩ := bindO_T hS
  obtain ⟨q9, hS⟩ := grd_T hS
  have q9p := of_decide_eq_true q9
  refine wpa_meet (fun g own sl => ∃ (A6_0 : Option Addr) (c6_0 : Nat) (k6_0 : Option Bk) (A10 : Option Addr) (c10 : Nat) (k10 : Option Bk), own = [k10, k6_0] ∧ sl = [(11, vs A6_0 y6 c6_0), (14, vs A10 (List.replicate (l).length (default : Cnd)) c10)] ∧ Buf g.b tyAlertDef 34 (.slice A6_0 (y6).length c6_0) k6_0 y6 ∧ Buf g.b tyCnd 79 (.slice A10 ((List.replicate (l).length (default : Cnd))).length c10) k10 (List.replicate (l).length (default : Cnd))) 4 [true, true, true, true, true, false, false, false, false] ?_ (fun hD5 => ?_)
  ·rintro g206 _ _ e207 ⟨A6_0, c6_0, k6_0, A10, c10, k10, rfl, rfl, h6_0, h10⟩
   have nh6_0 := h6_0.len
   have nh10 := h10.len
   have hlh10 : ((List.replicate (l).length (default : Cnd))).length = (l).length := List.length_replicate
   refine xT 3 [5] [] [] [(15, Value.agg #[vs A6_0 y6 c6_0, vi 0, vy 1, vs A10 (List.replicate (l).length (default : Cnd)) c10])] RG e207.r ?_
   refine xO1 (lds := []) 6 ?_
   refine xIe (lds := []) e207.r eB ?_
   rintro _ _ _ - ⟨b208, rfl, rfl, rfl⟩
   refine kk [] ?_
   refine xT 0 [7, 8] [] [] [(2, vp b208 0), (3, vi 0)] RG e207.r ?_
   refine xAe (lds := []) ?_
   refine wpq_then ?_
   refine wpq_freeze 2 (by kernel_rfl) h6_0 (fun g209 e210 f211 => ?_)
   have h10 := h10.mono e210.b
   have eS := (Option.some.inj hS).symm
   subst eS
   exact xRet [some 0, some 1] [2, 3] (e3.trans (e207.trans e210)) ⟨vp b208 0, some ⟨b208, 71, (cBoard (⟨y6, 0, 1, (List.replicate (l).length (default : Cnd))⟩ : Board) A6_0 c6_0 A10 c10)⟩, k10, by kernel_rfl, by kernel_rfl, (fun h => by cases h), (fun _ h => by cases h; exact ⟨b208, A6_0, c6_0, A10, c10, k10, rfl, rfl, rfl, f211, h10⟩)⟩ (fun _ _ h => h)
  ·refine xO2 (lds := []) 1 4 ?_ ?_
   ·have fl := fl.mono e3.r e3.b
    refine xIe (lds := []) (Psi.le.refl _) (eC 0 (fun g' lr eb ln => c33 g' (l : List AlertDef) Al cl (ArrM.lent fl lr eb) hy6)) ?_
    rintro _ g213 _ e214 ⟨_, rfl, A6_0, c6_0, k6_0, rfl, rfl, h6_0⟩
    refine kk [] ?_
    have nh6_0 := h6_0.len
    refine xO1 (lds := []) 4 ?_
    refine xIe (lds := []) e214.r (eMk (T := tyCnd) (p := g213.b) (et := 79) (bytes := 16) (z := (default : Cnd)) (l).length rfl (show tyCnd.rep _ _ _ from rfl) (by omega) (by omega)) ?_
    rintro _ _ _ - ⟨A216, c216, k216, rfl, rfl, rfl, h216⟩
    refine kk [] ?_
    have nh216 := h216.len
    have hlh216 : ((List.replicate (l).length (default : Cnd))).length = (l).length := List.length_replicate
    refine xSub [(11, vs A6_0 y6 c6_0), (14, vs A216 (List.replicate (l).length (default : Cnd)) c216)] ?_
    exact hD5 _ _ _ e214 ⟨A6_0, c6_0, k6_0, A216, c216, k216, by kernel_rfl, by kernel_rfl, h6_0, h216⟩
   ·refine xIe (lds := []) (Psi.le.refl _) (eMk (T := tyCnd) (p := g2.b) (et := 79) (bytes := 16) (z := (default : Cnd)) (l).length rfl (show tyCnd.rep _ _ _ from rfl) (by omega) (by omega)) ?_
    rintro _ _ _ - ⟨A218, c218, k218, rfl, rfl, rfl, h218⟩
    refine kk [] ?_
    have nh218 := h218.len
    have hlh218 : ((List.replicate (l).length (default : Cnd))).length = (l).length := List.length_replicate
    have fl := fl.mono e3.r e3.b
    refine xO1 (lds := []) 1 ?_
    refine xIe (lds := []) (Psi.le.refl _) (eC 0 (fun g' lr eb ln => c33 g' (l : List AlertDef) Al cl (ArrM.lent fl lr eb) hy6)) ?_
    rintro _ g220 _ e221 ⟨_, rfl, A6_0, c6_0, k6_0, rfl, rfl, h6_0⟩
    refine kk [] ?_
    have nh6_0 := h6_0.len
    refine xSel [some 1, some 0] ?_
    refine xSub [(11, vs A6_0 y6 c6_0), (14, vs A218 (List.replicate (l).length (default : Cnd)) c218)] ?_
    have h218 := h218.mono e221.b
    exact hD5 _ _ _ e221 ⟨A6_0, c6_0, k6_0, A218, c218, k218, by kernel_rfl, by kernel_rfl, h6_0, h218⟩

def o17_L0 (b : Board) (conds : Int) (s9 : Nat × (List Cnd)) : Option (Ctl (Nat × (List Cnd)) ((List Cnd))) :=
 (cond (decide (((s9.1 : Nat) : Int) < (((b.conds).length : Nat) : Int))) (grd (decide (s9.1 < (s9.2).length)) (letJ (τ := (List Cnd)) (cond (((landK .u16 (shrK .u16 conds ((s9.1 : Nat) : Int)) 1) == 0)) (((List.set s9.2 s9.1 (⟨0, false⟩ : Cnd)) : List Cnd)) (letJ (τ := (List Cnd)) (cond (((List.getD s9.2 s9.1 default).onset == 0)) (((List.set s9.2 s9.1 (⟨(IntKind.i64.wrap (b.steps + 1)), false⟩ : Cnd)) : List Cnd)) ((s9.2 : List Cnd))) fun t21 => ((t21 : List Cnd)))) fun t15 => (grd (decide (((s9.1 : Nat) : Int) + 1 ≤ 9223372036854775807)) (some (Ctl.go ((s9.1 + 1), (t15 : List Cnd))))))) (some (Ctl.done ((s9.2 : List Cnd)))))
def o17 (b : Board) (conds : Int) (phase : Int) : Option (Board × Int) :=
 (cond (((shrK .i64 (IntKind.i64.wrap conds) (((b.defs).length : Nat) : Int)) != 0)) (some ((b, (1 : Int)))) (cond ((decide (phase < 1) || decide (phase > 8))) (some ((b, (2 : Int)))) (bindO (τ := (List Cnd)) (loopO (σ := Nat × (List Cnd)) (ρ := (List Cnd)) fuelN (o17_L0 b conds) (0, (b.conds : List Cnd))) fun t4 => (some (((⟨b.defs, (IntKind.i64.wrap (b.steps + 1)), phase, t4⟩ : Board), (0 : Int)))))))
set_option maxRecDepth 100000 in
theorem c17 (g : Gh) (b_b : Nat) (b : Board) (Ab_defs : Option Addr) (cb_defs : Nat) (Ab_conds : Option Addr) (cb_conds : Nat) (kb_conds : Option Bk) (conds : Int) (phase : Int) (fb_defs : Arr g.b tyAlertDef Ab_defs cb_defs b.defs) (hb_conds : Buf g.b tyCnd 79 (.slice Ab_conds (b.conds).length cb_conds) kb_conds b.conds) {r : Board × Int} (hS : o17 b conds phase = some r) :
  Ctr Try.prog 17 [vp b_b 0, Value.int .u16 conds, vy phase] g [some ⟨b_b, 71, (cBoard b Ab_defs cb_defs Ab_conds cb_conds)⟩, kb_conds] (fun v ψ o => ∃ (Ao_b_defs : Option Addr) (co_b_defs : Nat) (Ao_b_conds : Option Addr) (co_b_conds : Nat) (ko_b_conds : Option Bk), v = vi r.2 ∧ o = [some ⟨b_b, 71, (cBoard r.1 Ao_b_defs co_b_defs Ao_b_conds co_b_conds)⟩, ko_b_conds] ∧ Arr ψ tyAlertDef Ao_b_defs co_b_defs r.1.defs ∧ Buf ψ tyCnd 79 (.slice Ao_b_conds (r.1.conds).length co_b_conds) ko_b_conds r.1.conds) := by
 unfold o17 at hS
 refine xFn Try.f17 (Try.f17.body.getD .skip) 74 ?_
 have nfb_defs := fb_defs.len
 have nhb_conds := hb_conds.len
 refine xSq ?_
 refine xRg ?_
 refine xB 1 [] [(0, vp b_b 0), (1, Value.int .u16 conds), (2, vy phase)] ?_
 refine xRe ?_
 refine wpq_then ?_
 refine xSq ?_
 refine xSq ?_
 refine xRg ?_
 refine xB 2 [] [(0, vp b_b 0), (1, Value.int .u16 conds), (2, vy phase), (10, vb false)] ?_
 refine xRe ?_
 refine wpq_then ?_
 refine xCf ?_
 refine xSk ?_
 refine wpq_then ?_
 refine xSub [(0, vp b_b 0), (1, Value.int .u16 conds), (2, vy phase)] ?_
 refine xSq ?_
 refine xSq ?_
 refine xRg ?_
 have z1 := i64_in_ conds
 refine xB 7 [(5, 0)] [(0, vp b_b 0), (1, Value.int .u16 conds), (2, vy phase), (12, vi (IntKind.i64.wrap conds)), (17, vi (((b.defs).length : Nat) : Int))] ?_
 refine xV (qShr .i64 .i64 ((IntKind.i64.wrap conds)) ((((b.defs).length : Nat) : Int)) (by omega)) ?_
 refine xB 1 [] [(0, vp b_b 0), (1, Value.int .u16 conds), (2, vy phase), (19, vb ((shrK .i64 (IntKind.i64.wrap conds) (((b.defs).length : Nat) : Int)) != 0))] ?_
 refine xRe ?_
 refine wpq_then ?_
 refine xCd (((shrK .i64 (IntKind.i64.wrap conds) (((b.defs).length : Nat) : Int)) != 0)) (fun h1 => ?_) (fun h1 => ?_)
 ·have hS := cond_T h1 hS
  have h1p : ¬ ((shrK .i64 (IntKind.i64.wrap conds) (((b.defs).length : Nat) : Int)) = 0) := ne_of_bne_ h1
  refine xSq ?_
  refine xRg ?_
  refine xB 1 [] [(6, vi 1)] ?_
  refine xRe ?_
  refine wpq_then ?_
  have eS := (Option.some.inj hS).symm
  subst eS
  exact xRet [some 0, some 1] [6] (Gh.le.refl _) ⟨Ab_defs, cb_defs, Ab_conds, cb_conds, kb_conds, by kernel_rfl, by kernel_rfl, fb_defs, hb_conds⟩ (fun _ _ h => h)
 ·have hS := cond_F h1 hS
  have h1p : (shrK .i64 (IntKind.i64.wrap conds) (((b.defs).length : Nat) : Int)) = 0 := eq_of_bne_false_ h1
  refine xSk ?_
  refine wpq_then ?_
  refine xSub [(0, vp b_b 0), (1, Value.int .u16 conds), (2, vy phase)] ?_
  refine xSq ?_
  refine xSq ?_
  refine xRg ?_
  refine xB 3 [] [(0, vp b_b 0), (1, Value.int .u16 conds), (2, vy phase), (22, vb (decide (phase < 1)))] ?_
  refine wpr_grp 6 [(0, vp b_b 0), (1, Value.int .u16 conds), (2, vy phase), (25, vb (decide (phase < 1) || decide (phase > 8)))] (fun hk2 => ?_) ?_
  ·refine wpq_split 22 (b := decide (phase < 1)) (by kernel_rfl) (fun q2 => ?_) (fun q2 => ?_)
   ·have q2p := of_decide_eq_true q2
    refine xB 3 [] [(0, vp b_b 0), (1, Value.int .u16 conds), (2, vy phase), (25, vb true)] ?_
    refine wpq_re 25 (v := vb true) (Value.bool ((decide (phase < 1) || decide (phase > 8)))) (by kernel_rfl) (re_or1 q2) ?_
    exact wpq_sub _ (by kernel_rfl) hk2
   ·have q2p := of_decide_eq_false q2
    refine xB 3 [] [(0, vp b_b 0), (1, Value.int .u16 conds), (2, vy phase), (25, vb (decide (phase > 8)))] ?_
    refine wpq_re 25 (v := vb (decide (phase > 8))) (Value.bool ((decide (phase < 1) || decide (phase > 8)))) (by kernel_rfl) (re_or0 q2) ?_
    exact wpq_sub _ (by kernel_rfl) hk2
  ·refine xRe ?_
   refine wpq_then ?_
   refine xCd ((decide (phase < 1) || decide (phase > 8))) (fun h3 => ?_) (fun h3 => ?_)
   ·have hS := cond_T h3 hS
    refine xSq ?_
    refine xRg ?_
    refine xB 1 [] [(6, vi 2)] ?_
    refine xRe ?_
    refine wpq_then ?_
    have eS := (Option.some.inj hS).symm
    subst eS
    exact xRet [some 0, some 1] [6] (Gh.le.refl _) ⟨Ab_defs, cb_defs, Ab_conds, cb_conds, kb_conds, by kernel_rfl, by kernel_rfl, fb_defs, hb_conds⟩ (fun _ _ h => h)
   ·have hS := cond_F h3 hS
    have h3l := (or_false_ h3).1
    have h3r := (or_false_ h3).2
    have h3lp := of_decide_eq_false h3l
    have h3rp := of_decide_eq_false h3r
    refine xSk ?_
    refine wpq_then ?_
    refine xSub [(0, vp b_b 0), (1, Value.int .u16 conds), (2, vy phase)] ?_
    refine xSq ?_
    refine xRg ?_
    have z2 := i64_in_ (b.steps + 1)
    refine xBo 8 [(3, 0), (7, 0)] [some ⟨b_b, 71, (cBoard ({ b with steps := (IntKind.i64.wrap (b.steps + 1)) }) Ab_defs cb_defs Ab_conds cb_conds)⟩, kb_conds] [(0, vp b_b 0), (1, Value.int .u16 conds), (2, vy phase)] ?_
    refine xRe ?_
    refine wpq_then ?_
    refine xSq ?_
    refine xRg ?_
    refine xBo 5 [(4, 0)] [some ⟨b_b, 71, (cBoard ({ b with steps := (IntKind.i64.wrap (b.steps + 1)), phase := phase }) Ab_defs cb_defs Ab_conds cb_conds)⟩, kb_conds] [(0, vp b_b 0), (1, Value.int .u16 conds)] ?_
    refine xRe ?_
    refine wpq_then ?_
    refine xSq ?_
    refine xSq ?_
    refine xRg ?_
    refine xB 6 [(3, 0)] [(0, vp b_b 0), (1, Value.int .u16 conds), (41, vi (((b.conds).length : Nat) : Int)), (42, vi 0)] ?_
    refine xRe ?_
    refine wpq_then ?_
    refine xBindO hS (fun g own sl t4 => ∃ (k4_0 : Option Bk), own = [some ⟨b_b, 71, (cBoard (⟨b.defs, (IntKind.i64.wrap (b.steps + 1)), phase, t4⟩ : Board) Ab_defs cb_defs Ab_conds cb_conds)⟩, k4_0] ∧ sl = [] ∧ Buf g.b tyCnd 79 (.slice Ab_conds (t4).length cb_conds) k4_0 t4) ?_ ?_
    ·rintro g5 _ _ t4 e6 ⟨k4_0, rfl, rfl, h4_0⟩ hS
     have nh4_0 := h4_0.len
     refine wpq_then ?_
     refine xSq ?_
     refine xRg ?_
     refine xB 1 [] [(6, vi 0)] ?_
     refine xRe ?_
     refine wpq_then ?_
     have fb_defs := fb_defs.mono e6.b
     have eS := (Option.some.inj hS).symm
     subst eS
     exact xRet [some 0, some 1] [6] e6 ⟨Ab_defs, cb_defs, Ab_conds, cb_conds, k4_0, by kernel_rfl, by kernel_rfl, fb_defs, h4_0⟩ (fun _ _ h => h)
    ·intro uu4 hS hN4
     refine xBl 0 ?_
     refine xSub [(0, vp b_b 0), (1, Value.int .u16 conds), (41, vi (((b.conds).length : Nat) : Int)), (42, vi 0)] ?_
     refine xLo hS (fun g own sl s9 => ∃ (k9_1 : Option Bk), own = [some ⟨b_b, 71, (cBoard (⟨b.defs, (IntKind.i64.wrap (b.steps + 1)), phase, s9.2⟩ : Board) Ab_defs cb_defs Ab_conds cb_conds)⟩, k9_1] ∧ sl = [(0, vp b_b 0), (1, Value.int .u16 conds), (41, vi (((b.conds).length : Nat) : Int)), (42, vi ((s9.1 : Nat) : Int))] ∧ Buf g.b tyCnd 79 (.slice Ab_conds (s9.2).length cb_conds) k9_1 s9.2) ⟨kb_conds, by kernel_rfl, by kernel_rfl, hb_conds⟩ ?_
     rintro g10 _ _ s9 uu9 e11 ⟨k9_1, rfl, rfl, h9_1⟩ hS Qr9 hN9 hD9
     have nh9_1 := h9_1.len
     unfold o17_L0 at hS
     refine xSq ?_
     refine xRg ?_
     refine xB 1 [] [(0, vp b_b 0), (1, Value.int .u16 conds), (41, vi (((b.conds).length : Nat) : Int)), (42, vi ((s9.1 : Nat) : Int)), (43, vb (decide (((s9.1 : Nat) : Int) < (((b.conds).length : Nat) : Int))))] ?_
     refine xRe ?_
     refine wpq_then ?_
     refine xSq ?_
     refine xCd (decide (((s9.1 : Nat) : Int) < (((b.conds).length : Nat) : Int))) (fun h12 => ?_) (fun h12 => ?_)
     ·have hS := cond_T h12 hS
      have h12p := of_decide_eq_true h12
      refine xSk ?_
      refine wpq_then ?_
      refine xSub [(0, vp b_b 0), (1, Value.int .u16 conds), (41, vi (((b.conds).length : Nat) : Int)), (42, vi ((s9.1 : Nat) : Int))] ?_
      refine xSq ?_
      refine xBl 1 ?_
      refine xSq ?_
      refine xRg ?_
      refine xB 2 [] [(0, vp b_b 0), (1, Value.int .u16 conds), (7, vi ((s9.1 : Nat) : Int)), (41, vi (((b.conds).length : Nat) : Int)), (42, vi ((s9.1 : Nat) : Int))] ?_
      refine xRe ?_
      refine wpq_then ?_
      refine xSq ?_
      refine xRg ?_
      obtain ⟨q14, hS⟩ := grd_T hS
      have q14p := of_decide_eq_true q14
      obtain ⟨kc13, cs13, hA13, hk13, hr13, hw13⟩ := h9_1.open_ q14p default
      obtain ⟨kb13, rfl⟩ : ∃ z, z = kc13 := ⟨_, rfl⟩
      subst hk13
      obtain ⟨rfl⟩ := hr13
      refine xB 5 [(3, 0)] [(0, vp b_b 0), (1, Value.int .u16 conds), (7, vi ((s9.1 : Nat) : Int)), (41, vi (((b.conds).length : Nat) : Int)), (42, vi ((s9.1 : Nat) : Int)), (48, vs Ab_conds s9.2 cb_conds), (49, vi ((s9.1 : Nat) : Int))] ?_
      refine xV (qIxB s9.1 2 kb13.g hA13 rfl q14p) ?_
      refine xB 1 [] [(0, vp b_b 0), (1, Value.int .u16 conds), (7, vi ((s9.1 : Nat) : Int)), (8, Value.pointer (some ⟨kb13.g, s9.1 * 2 + 0, none⟩)), (41, vi (((b.conds).length : Nat) : Int)), (42, vi ((s9.1 : Nat) : Int))] ?_
      refine xRe ?_
      refine wpq_then ?_
      refine xBl 2 ?_
      refine xSq ?_
      refine xRg ?_
      refine xB 2 [] [(0, vp b_b 0), (1, Value.int .u16 conds), (8, Value.pointer (some ⟨kb13.g, s9.1 * 2 + 0, none⟩)), (41, vi (((b.conds).length : Nat) : Int)), (42, vi ((s9.1 : Nat) : Int)), (52, Value.int .u16 conds), (53, vi ((s9.1 : Nat) : Int))] ?_
      refine xV (qShr .u16 .i64 (conds) (((s9.1 : Nat) : Int)) (by omega)) ?_
      refine xB 3 [] [(0, vp b_b 0), (1, Value.int .u16 conds), (8, Value.pointer (some ⟨kb13.g, s9.1 * 2 + 0, none⟩)), (41, vi (((b.conds).length : Nat) : Int)), (42, vi ((s9.1 : Nat) : Int)), (51, vb ((landK .u16 (shrK .u16 conds ((s9.1 : Nat) : Int)) 1) == 0))] ?_
      refine xRe ?_
      refine wpq_then ?_
      refine xLetJ hS (fun g own sl t15 => ∃ (k15_0 : Option Bk), own = [some ⟨b_b, 71, (cBoard (⟨b.defs, (IntKind.i64.wrap (b.steps + 1)), phase, t15⟩ : Board) Ab_defs cb_defs Ab_conds cb_conds)⟩, k15_0] ∧ sl = [(0, vp b_b 0), (1, Value.int .u16 conds), (41, vi (((b.conds).length : Nat) : Int)), (42, vi ((s9.1 : Nat) : Int))] ∧ Buf g.b tyCnd 79 (.slice Ab_conds (t15).length cb_conds) k15_0 t15) ?_ ?_
      ·rintro g16 _ _ t15 e17 ⟨k15_0, rfl, rfl, h15_0⟩ hS
       have nh15_0 := h15_0.len
       refine wpq_blockN ?_
       refine wpq_blockN ?_
       refine wpq_then ?_
       refine xRg ?_
       obtain ⟨q18, hS⟩ := grd_T hS
       have q18p := of_decide_eq_true q18
       refine xV (qAdd .i64 (((s9.1 : Nat) : Int)) (1) (wr64 (by omega))) ?_
       refine xB 1 [] [(0, vp b_b 0), (1, Value.int .u16 conds), (41, vi (((b.conds).length : Nat) : Int)), (42, vi (((s9.1 : Nat) : Int) + 1))] ?_
       refine xRe ?_
       refine wpq_thenN ?_
       refine xSub [(0, vp b_b 0), (1, Value.int .u16 conds), (41, vi (((b.conds).length : Nat) : Int)), (42, vi (((s9.1 : Nat) : Int) + 1))] ?_
       have eS := (Option.some.inj hS).symm
       exact hN9 _ eS _ _ _ e17 ⟨k15_0, by kernel_rfl, by kernel_rfl, h15_0⟩
      ·intro uu15 hS hN15
       refine xCd (((landK .u16 (shrK .u16 conds ((s9.1 : Nat) : Int)) 1) == 0)) (fun h19 => ?_) (fun h19 => ?_)
       ·have hS := cond_T h19 hS
        have h19p : (landK .u16 (shrK .u16 conds ((s9.1 : Nat) : Int)) 1) = 0 := eq_of_beq h19
        refine xRg ?_
        refine xB 3 [] [(0, vp b_b 0), (1, Value.int .u16 conds), (41, vi (((b.conds).length : Nat) : Int)), (42, vi ((s9.1 : Nat) : Int)), (58, Value.agg #[vi 0, vb false]), (59, Value.pointer (some ⟨kb13.g, s9.1 * 2 + 0, none⟩))] ?_
        refine xD (eStB s9.1 2 0 1 [vi 0, vb false] h9_1 rfl hw13 (show tyCnd.rep _ _ (⟨0, false⟩ : Cnd) from rfl) q14p) ?_
        rintro _ _ _ - ⟨k20, rfl, rfl, h20⟩
        have hz20 : (s9.2).length = ((List.set s9.2 s9.1 (⟨0, false⟩ : Cnd))).length := by simp
        refine xRe ?_
        refine xOwn [some ⟨b_b, 71, [vs Ab_defs b.defs cb_defs, vi (IntKind.i64.wrap (b.steps + 1)), vy phase, Value.slice Ab_conds ((s9.2).length) cb_conds]⟩, k20] ?_
        have h20 := Buf.re h20 hz20 (rfl : (List.set s9.2 s9.1 (⟨0, false⟩ : Cnd)) = _)
        refine wpq_own [some ⟨b_b, 71, (cBoard (⟨b.defs, (IntKind.i64.wrap (b.steps + 1)), phase, (List.set s9.2 s9.1 (⟨0, false⟩ : Cnd))⟩ : Board) Ab_defs cb_defs Ab_conds cb_conds)⟩, k20] (by rw [hz20]) ?_
        refine xSub [(0, vp b_b 0), (1, Value.int .u16 conds), (41, vi (((b.conds).length : Nat) : Int)), (42, vi ((s9.1 : Nat) : Int))] ?_
        have eS := hS.symm
        exact hN15 _ eS _ _ _ (Gh.le.refl _) ⟨k20, by kernel_rfl, by kernel_rfl, h20⟩
       ·have hS := cond_F h19 hS
        have h19p : ¬ ((landK .u16 (shrK .u16 conds ((s9.1 : Nat) : Int)) 1) = 0) := ne_of_beq_false_ h19
        refine xSq ?_
        refine xRg ?_
        refine xB 3 [] [(0, vp b_b 0), (1, Value.int .u16 conds), (8, Value.pointer (some ⟨kb13.g, s9.1 * 2 + 0, none⟩)), (41, vi (((b.conds).length : Nat) : Int)), (42, vi ((s9.1 : Nat) : Int)), (63, Value.pointer (some ⟨kb13.g, s9.1 * 2 + 0, none⟩))] ?_
        refine xV (qLdB s9.1 2 0 1 hw13) ?_
        refine xB 2 [] [(0, vp b_b 0), (1, Value.int .u16 conds), (8, Value.pointer (some ⟨kb13.g, s9.1 * 2 + 0, none⟩)), (41, vi (((b.conds).length : Nat) : Int)), (42, vi ((s9.1 : Nat) : Int)), (60, vb ((List.getD s9.2 s9.1 default).onset == 0))] ?_
        refine xRe ?_
        refine wpq_then ?_
        refine xLetJ hS (fun g own sl t21 => ∃ (k21_0 : Option Bk), own = [some ⟨b_b, 71, (cBoard (⟨b.defs, (IntKind.i64.wrap (b.steps + 1)), phase, t21⟩ : Board) Ab_defs cb_defs Ab_conds cb_conds)⟩, k21_0] ∧ sl = [(0, vp b_b 0), (1, Value.int .u16 conds), (41, vi (((b.conds).length : Nat) : Int)), (42, vi ((s9.1 : Nat) : Int))] ∧ Buf g.b tyCnd 79 (.slice Ab_conds (t21).length cb_conds) k21_0 t21) ?_ ?_
        ·rintro g22 _ _ t21 e23 ⟨k21_0, rfl, rfl, h21_0⟩ hS
         have nh21_0 := h21_0.len
         refine xSub [(0, vp b_b 0), (1, Value.int .u16 conds), (41, vi (((b.conds).length : Nat) : Int)), (42, vi ((s9.1 : Nat) : Int))] ?_
         have eS := hS.symm
         exact hN15 _ eS _ _ _ e23 ⟨k21_0, by kernel_rfl, by kernel_rfl, h21_0⟩
        ·intro uu21 hS hN21
         refine xCd (((List.getD s9.2 s9.1 default).onset == 0)) (fun h24 => ?_) (fun h24 => ?_)
         ·have hS := cond_T h24 hS
          have h24p : (List.getD s9.2 s9.1 default).onset = 0 := eq_of_beq h24
          refine xRg ?_
          refine xB 7 [(4, 0)] [(0, vp b_b 0), (1, Value.int .u16 conds), (41, vi (((b.conds).length : Nat) : Int)), (42, vi ((s9.1 : Nat) : Int)), (71, Value.agg #[vi (IntKind.i64.wrap (b.steps + 1)), vb false]), (72, Value.pointer (some ⟨kb13.g, s9.1 * 2 + 0, none⟩))] ?_
          refine xD (eStB s9.1 2 0 1 [vi (IntKind.i64.wrap (b.steps + 1)), vb false] h9_1 rfl hw13 (show tyCnd.rep _ _ (⟨(IntKind.i64.wrap (b.steps + 1)), false⟩ : Cnd) from rfl) q14p) ?_
          rintro _ _ _ - ⟨k25, rfl, rfl, h25⟩
          have hz25 : (s9.2).length = ((List.set s9.2 s9.1 (⟨(IntKind.i64.wrap (b.steps + 1)), false⟩ : Cnd))).length := by simp
          refine xRe ?_
          refine xOwn [some ⟨b_b, 71, [vs Ab_defs b.defs cb_defs, vi (IntKind.i64.wrap (b.steps + 1)), vy phase, Value.slice Ab_conds ((s9.2).length) cb_conds]⟩, k25] ?_
          have h25 := Buf.re h25 hz25 (rfl : (List.set s9.2 s9.1 (⟨(IntKind.i64.wrap (b.steps + 1)), false⟩ : Cnd)) = _)
          refine wpq_own [some ⟨b_b, 71, (cBoard (⟨b.defs, (IntKind.i64.wrap (b.steps + 1)), phase, (List.set s9.2 s9.1 (⟨(IntKind.i64.wrap (b.steps + 1)), false⟩ : Cnd))⟩ : Board) Ab_defs cb_defs Ab_conds cb_conds)⟩, k25] (by rw [hz25]) ?_
          refine xSub [(0, vp b_b 0), (1, Value.int .u16 conds), (41, vi (((b.conds).length : Nat) : Int)), (42, vi ((s9.1 : Nat) : Int))] ?_
          have eS := hS.symm
          exact hN21 _ eS _ _ _ (Gh.le.refl _) ⟨k25, by kernel_rfl, by kernel_rfl, h25⟩
         ·have hS := cond_F h24 hS
          have h24p : ¬ ((List.getD s9.2 s9.1 default).onset = 0) := ne_of_beq_false_ h24
          refine xSk ?_
          refine xSub [(0, vp b_b 0), (1, Value.int .u16 conds), (41, vi (((b.conds).length : Nat) : Int)), (42, vi ((s9.1 : Nat) : Int))] ?_
          have eS := hS.symm
          exact hN21 _ eS _ _ _ (Gh.le.refl _) ⟨(some kb13), by kernel_rfl, by kernel_rfl, h9_1⟩
     ·have hS := cond_F h12 hS
      have h12p := of_decide_eq_false h12
      refine xEx 0 ?_
      refine wpq_thenX ?_
      refine wpq_thenX ?_
      refine wpq_blockE ?_
      refine xSub [] ?_
      have eS := (Option.some.inj hS).symm
      have eS := (hD9 _ eS).symm
      exact hN4 _ eS _ _ _ e11 ⟨k9_1, by kernel_rfl, by kernel_rfl, h9_1⟩

def o23_L0 (b : Board) (s6 : (List Int) × Nat) : Option (Ctl ((List Int) × Nat) ((List Int))) :=
 (cond (decide (((s6.2 : Nat) : Int) < (((b.conds).length : Nat) : Int))) (bindO (τ := (List Int)) (cond (((List.getD b.conds s6.2 default).onset != 0)) (grd (decide (((s6.1).length + (([(((s6.2 : Nat) : Int) : Int)] : List Int)).length) * 8 ≤ 140737488355328)) (some (((s6.1 ++ ([(((s6.2 : Nat) : Int) : Int)] : List Int)) : List Int)))) (some ((s6.1 : List Int)))) fun t13 => (grd (decide (((s6.2 : Nat) : Int) + 1 ≤ 9223372036854775807)) (some (Ctl.go ((t13 : List Int), (s6.2 + 1)))))) (some (Ctl.done ((s6.1 : List Int)))))
def o23 (b : Board) : Option ((List Int)) :=
 (bindO (τ := (List Int)) (loopO (σ := (List Int) × Nat) (ρ := (List Int)) fuelN (o23_L0 b) (([] : List Int), 0)) fun t1 => (some ((t1 : List Int))))
set_option maxRecDepth 100000 in
theorem c23 (g : Gh) (a_b : Addr) (b : Board) (Ab_defs : Option Addr) (cb_defs : Nat) (Ab_conds : Option Addr) (cb_conds : Nat) (hc_b : Cells g.r a_b (cBoard b Ab_defs cb_defs Ab_conds cb_conds)) (fb_defs : Arr g.r tyAlertDef Ab_defs cb_defs b.defs) (fb_conds : ArrM g.r g.b tyCnd Ab_conds cb_conds b.conds) {r : (List Int)} (hS : o23 b = some r) :
  Ctr Try.prog 23 [Value.pointer (some a_b)] g [] (fun v ψ o => ∃ (Ar_0 : Option Addr) (cr_0 : Nat) (kr_0 : Option Bk), v = vs Ar_0 r cr_0 ∧ o = [kr_0] ∧ Buf ψ (tyI .i64) 3 (.slice Ar_0 (r).length cr_0) kr_0 r) := by
 unfold o23 at hS
 refine xFn Try.f23 (Try.f23.body.getD .skip) 27 ?_
 have nfb_defs := fb_defs.len
 have nfb_conds := fb_conds.len
 refine xSq ?_
 refine xRg ?_
 refine xB 1 [] [(0, Value.pointer (some a_b))] ?_
 refine xRe ?_
 refine wpq_then ?_
 refine xSq ?_
 refine xSq ?_
 refine xRg ?_
 refine xB 2 [] [(0, Value.pointer (some a_b)), (7, vb false)] ?_
 refine xRe ?_
 refine wpq_then ?_
 refine xCf ?_
 refine xSk ?_
 refine wpq_then ?_
 refine xSub [(0, Value.pointer (some a_b))] ?_
 refine xSq ?_
 refine xRg ?_
 refine xB 1 [] [(0, Value.pointer (some a_b)), (3, Value.slice none 0 0)] ?_
 refine xRe ?_
 refine wpq_then ?_
 refine xSq ?_
 refine xSq ?_
 refine xRg ?_
 refine xB 3 [] [(3, Value.slice none 0 0), (10, Value.pointer (some (Addr.add a_b 3)))] ?_
 refine xV (qLdP a_b 3 hc_b) ?_
 refine xB 2 [] [(3, Value.slice none 0 0), (11, vs Ab_conds b.conds cb_conds), (12, vi (((b.conds).length : Nat) : Int)), (13, vi 0)] ?_
 refine xRe ?_
 refine wpq_then ?_
 refine xBindO hS (fun g own sl t1 => ∃ (A1_0 : Option Addr) (c1_0 : Nat) (k1_0 : Option Bk), own = [k1_0] ∧ sl = [(3, vs A1_0 t1 c1_0)] ∧ Buf g.b (tyI .i64) 3 (.slice A1_0 (t1).length c1_0) k1_0 t1) ?_ ?_
 ·rintro g2 _ _ t1 e3 ⟨A1_0, c1_0, k1_0, rfl, rfl, h1_0⟩ hS
  have nh1_0 := h1_0.len
  refine wpq_then ?_
  refine xSq ?_
  refine xRg ?_
  refine xB 2 [] [(2, vs A1_0 t1 c1_0)] ?_
  refine xRe ?_
  refine wpq_then ?_
  have eS := (Option.some.inj hS).symm
  subst eS
  exact xRet [some 0] [2] e3 ⟨A1_0, c1_0, k1_0, by kernel_rfl, by kernel_rfl, h1_0⟩ (fun _ _ h => h)
 ·intro uu1 hS hN1
  refine xBl 0 ?_
  refine xSel [none] ?_
  refine xSub [(3, Value.slice none 0 0), (11, vs Ab_conds b.conds cb_conds), (12, vi (((b.conds).length : Nat) : Int)), (13, vi 0)] ?_
  refine xLo hS (fun g own sl s6 => ∃ (A6_0 : Option Addr) (c6_0 : Nat) (k6_0 : Option Bk), own = [k6_0] ∧ sl = [(3, vs A6_0 s6.1 c6_0), (11, vs Ab_conds b.conds cb_conds), (12, vi (((b.conds).length : Nat) : Int)), (13, vi ((s6.2 : Nat) : Int))] ∧ Buf g.b (tyI .i64) 3 (.slice A6_0 (s6.1).length c6_0) k6_0 s6.1) ⟨none, 0, none, by kernel_rfl, by kernel_rfl, Buf.nil⟩ ?_
  rintro g7 _ _ s6 uu6 e8 ⟨A6_0, c6_0, k6_0, rfl, rfl, h6_0⟩ hS Qr6 hN6 hD6
  have nh6_0 := h6_0.len
  unfold o23_L0 at hS
  refine xSq ?_
  refine xRg ?_
  refine xB 1 [] [(3, vs A6_0 s6.1 c6_0), (11, vs Ab_conds b.conds cb_conds), (12, vi (((b.conds).length : Nat) : Int)), (13, vi ((s6.2 : Nat) : Int)), (14, vb (decide (((s6.2 : Nat) : Int) < (((b.conds).length : Nat) : Int))))] ?_
  refine xRe ?_
  refine wpq_then ?_
  refine xSq ?_
  refine xCd (decide (((s6.2 : Nat) : Int) < (((b.conds).length : Nat) : Int))) (fun h9 => ?_) (fun h9 => ?_)
  ·have hS := cond_T h9 hS
   have h9p := of_decide_eq_true h9
   refine xSk ?_
   refine wpq_then ?_
   refine xSub [(3, vs A6_0 s6.1 c6_0), (11, vs Ab_conds b.conds cb_conds), (12, vi (((b.conds).length : Nat) : Int)), (13, vi ((s6.2 : Nat) : Int))] ?_
   refine xSq ?_
   refine xBl 1 ?_
   refine xSq ?_
   refine xRg ?_
   have fb_conds := fb_conds.mono e8.r e8.b
   have i11 : s6.2 < (b.conds).length := by omega
   obtain ⟨ad10, cs10, hA10, hr10, hc10⟩ := fb_conds.at_ (get_getD (d := default) i11)
   obtain ⟨rfl⟩ := hr10
   refine xB 1 [] [(3, vs A6_0 s6.1 c6_0), (11, vs Ab_conds b.conds cb_conds), (12, vi (((b.conds).length : Nat) : Int)), (13, vi ((s6.2 : Nat) : Int)), (15, vi ((s6.2 : Nat) : Int))] ?_
   refine xV (qIx s6.2 2 hA10 rfl i11) ?_
   refine xV (qLdP (Addr.add ad10 (s6.2 * 2)) 0 hc10) ?_
   refine xE eB ?_
   rintro _ _ _ - ⟨b12, rfl, rfl, rfl⟩
   refine xBo 2 [(5, 0)] [some ⟨b12, 79, [vi ((List.getD b.conds s6.2 default).onset), vb ((List.getD b.conds s6.2 default).acked)]⟩, k6_0] [(3, vs A6_0 s6.1 c6_0), (4, vi ((s6.2 : Nat) : Int)), (5, vp b12 0), (11, vs Ab_conds b.conds cb_conds), (12, vi (((b.conds).length : Nat) : Int)), (13, vi ((s6.2 : Nat) : Int))] ?_
   refine xRe ?_
   refine wpq_then ?_
   refine xSq ?_
   refine xRg ?_
   refine xB 3 [(1, 0)] [(3, vs A6_0 s6.1 c6_0), (4, vi ((s6.2 : Nat) : Int)), (11, vs Ab_conds b.conds cb_conds), (12, vi (((b.conds).length : Nat) : Int)), (13, vi ((s6.2 : Nat) : Int)), (20, vb ((List.getD b.conds s6.2 default).onset != 0))] ?_
   refine xRe ?_
   refine wpq_then ?_
   refine xBindO hS (fun g own sl t13 => ∃ (A13_0 : Option Addr) (c13_0 : Nat) (k13_0 : Option Bk), own = [k13_0] ∧ sl = [(3, vs A13_0 t13 c13_0), (11, vs Ab_conds b.conds cb_conds), (12, vi (((b.conds).length : Nat) : Int)), (13, vi ((s6.2 : Nat) : Int))] ∧ Buf g.b (tyI .i64) 3 (.slice A13_0 (t13).length c13_0) k13_0 t13) ?_ ?_
   ·rintro g14 _ _ t13 e15 ⟨A13_0, c13_0, k13_0, rfl, rfl, h13_0⟩ hS
    have nh13_0 := h13_0.len
    refine wpq_blockN ?_
    refine wpq_then ?_
    refine xRg ?_
    obtain ⟨q16, hS⟩ := grd_T hS
    have q16p := of_decide_eq_true q16
    refine xV (qAdd .i64 (((s6.2 : Nat) : Int)) (1) (wr64 (by omega))) ?_
    refine xB 1 [] [(3, vs A13_0 t13 c13_0), (11, vs Ab_conds b.conds cb_conds), (12, vi (((b.conds).length : Nat) : Int)), (13, vi (((s6.2 : Nat) : Int) + 1))] ?_
    refine xRe ?_
    refine wpq_thenN ?_
    refine xSub [(3, vs A13_0 t13 c13_0), (11, vs Ab_conds b.conds cb_conds), (12, vi (((b.conds).length : Nat) : Int)), (13, vi (((s6.2 : Nat) : Int) + 1))] ?_
    have eS := (Option.some.inj hS).symm
    exact hN6 _ eS _ _ _ e15 ⟨A13_0, c13_0, k13_0, by kernel_rfl, by kernel_rfl, h13_0⟩
   ·intro uu13 hS hN13
    refine xCd (((List.getD b.conds s6.2 default).onset != 0)) (fun h17 => ?_) (fun h17 => ?_)
    ·have hS := cond_T h17 hS
     have h17p : ¬ ((List.getD b.conds s6.2 default).onset = 0) := ne_of_bne_ h17
     refine xRg ?_
     refine xB 2 [] [(3, vs A6_0 s6.1 c6_0), (11, vs Ab_conds b.conds cb_conds), (12, vi (((b.conds).length : Nat) : Int)), (13, vi ((s6.2 : Nat) : Int)), (21, vs A6_0 s6.1 c6_0), (22, vi ((s6.2 : Nat) : Int))] ?_
     refine xE (eBs (T := (tyI .i64)) (p := g7.b) (et := 3) (xs := ([(((s6.2 : Nat) : Int) : Int)] : List Int)) (reps_cons (c := [vi ((s6.2 : Nat) : Int)]) (show (tyI .i64).rep _ _ _ from rfl) reps_nil) (by simp)) ?_
     rintro _ _ _ - ⟨A18, c18, k18, rfl, rfl, rfl, h18⟩
     obtain ⟨nw19, hp19, hs19⟩ := h18.srcO (g := g7)
     obtain ⟨q20, hS⟩ := grd_T hS
     have q20p := of_decide_eq_true q20
     refine xE (eApp (T := (tyI .i64)) (p := g7.b) (et := 3) (bytes := 8) (xs := (s6.1 : List Int)) (ys := (([(((s6.2 : Nat) : Int) : Int)] : List Int) : List Int)) 2 h6_0 rfl (fun w hs => hs19 0 w _ hs (by kernel_rfl)) hp19 (by first | omega | (simp only [List.length_cons, List.length_nil] at *; omega)) (by first | omega | (simp only [List.length_cons, List.length_nil] at *; omega))) ?_
     rintro _ _ _ - ⟨A19, c19, k19, rfl, rfl, rfl, h19⟩
     have nh19 := h19.len
     have hz19 : ((s6.1 ++ ([(((s6.2 : Nat) : Int) : Int)] : List Int)) : List Int).length = (s6.1).length + (([(((s6.2 : Nat) : Int) : Int)] : List Int)).length := List.length_append
     refine xB 1 [] [(3, vs A19 (s6.1 ++ ([(((s6.2 : Nat) : Int) : Int)] : List Int)) c19), (11, vs Ab_conds b.conds cb_conds), (12, vi (((b.conds).length : Nat) : Int)), (13, vi ((s6.2 : Nat) : Int))] ?_
     refine xRe ?_
     refine xSel [some 2] ?_
     refine xSub [(3, vs A19 (s6.1 ++ ([(((s6.2 : Nat) : Int) : Int)] : List Int)) c19), (11, vs Ab_conds b.conds cb_conds), (12, vi (((b.conds).length : Nat) : Int)), (13, vi ((s6.2 : Nat) : Int))] ?_
     have eS := (Option.some.inj hS).symm
     exact hN13 _ eS _ _ _ (Gh.le.refl _) ⟨A19, c19, k19, by kernel_rfl, by kernel_rfl, h19⟩
    ·have hS := cond_F h17 hS
     have h17p : (List.getD b.conds s6.2 default).onset = 0 := eq_of_bne_false_ h17
     refine xSk ?_
     refine xSel [some 1] ?_
     refine xSub [(3, vs A6_0 s6.1 c6_0), (11, vs Ab_conds b.conds cb_conds), (12, vi (((b.conds).length : Nat) : Int)), (13, vi ((s6.2 : Nat) : Int))] ?_
     have eS := (Option.some.inj hS).symm
     exact hN13 _ eS _ _ _ (Gh.le.refl _) ⟨A6_0, c6_0, k6_0, by kernel_rfl, by kernel_rfl, h6_0⟩
  ·have hS := cond_F h9 hS
   have h9p := of_decide_eq_false h9
   refine xEx 0 ?_
   refine wpq_thenX ?_
   refine wpq_thenX ?_
   refine wpq_blockE ?_
   refine xSub [(3, vs A6_0 s6.1 c6_0)] ?_
   have eS := (Option.some.inj hS).symm
   have eS := (hD6 _ eS).symm
   exact hN1 _ eS _ _ _ e8 ⟨A6_0, c6_0, k6_0, by kernel_rfl, by kernel_rfl, h6_0⟩

def o32_L0 (a : List Int) (b : List Int) (s7 : Nat) : Option (Ctl (Nat) (Ctl (Unit) (Bool))) :=
 (cond (decide (((s7 : Nat) : Int) < (((a).length : Nat) : Int))) (grd (decide (s7 < (b).length)) (cond (((List.getD a s7 0) != (List.getD b s7 0))) (some (Ctl.done (Ctl.done ((false))))) (grd (decide (((s7 : Nat) : Int) + 1 ≤ 9223372036854775807)) (some (Ctl.go (s7 + 1)))))) (some (Ctl.done (Ctl.go ()))))
def o32 (a : List Int) (b : List Int) : Option (Bool) :=
 (cond (((((a).length : Nat) : Int) != (((b).length : Nat) : Int))) (some ((false))) (joinO (τ := Unit) (ρ := Bool) (loopO (σ := Nat) (ρ := Ctl (Unit) (Bool)) fuelN (o32_L0 a b) (0)) fun t2 => (some ((true)))))
set_option maxRecDepth 100000 in
theorem c32 (g : Gh) (a : List Int) (Aa : Option Addr) (ca : Nat) (b : List Int) (Ab : Option Addr) (cb : Nat) (fa : Arr g.r (tyI .i64) Aa ca a) (fb : Arr g.r (tyI .i64) Ab cb b) {r : Bool} (hS : o32 a b = some r) :
  Ctr Try.prog 32 [vs Aa a ca, vs Ab b cb] g [] (fun v ψ o => v = vb r ∧ o = []) := by
 unfold o32 at hS
 refine xFn Try.f32 (Try.f32.body.getD .skip) 26 ?_
 have nfa := fa.len
 have nfb := fb.len
 refine xSq ?_
 refine xRg ?_
 refine xB 1 [] [(0, vs Aa a ca), (1, vs Ab b cb)] ?_
 refine xRe ?_
 refine wpq_then ?_
 refine xSq ?_
 refine xSq ?_
 refine xRg ?_
 refine xB 5 [] [(0, vs Aa a ca), (1, vs Ab b cb), (10, vb ((((a).length : Nat) : Int) != (((b).length : Nat) : Int)))] ?_
 refine xRe ?_
 refine wpq_then ?_
 refine xCd (((((a).length : Nat) : Int) != (((b).length : Nat) : Int))) (fun h1 => ?_) (fun h1 => ?_)
 ·have hS := cond_T h1 hS
  have h1p : ¬ ((((a).length : Nat) : Int) = (((b).length : Nat) : Int)) := ne_of_bne_ h1
  refine xSq ?_
  refine xRg ?_
  refine xB 1 [] [(4, vb false)] ?_
  refine xRe ?_
  refine wpq_then ?_
  have eS := (Option.some.inj hS).symm
  subst eS
  exact xRet [] [4] (Gh.le.refl _) ⟨by kernel_rfl, by kernel_rfl⟩ (fun _ _ h => h)
 ·have hS := cond_F h1 hS
  have h1p : (((a).length : Nat) : Int) = (((b).length : Nat) : Int) := eq_of_bne_false_ h1
  refine xSk ?_
  refine wpq_then ?_
  refine xSub [(0, vs Aa a ca), (1, vs Ab b cb)] ?_
  refine xSq ?_
  refine xSq ?_
  refine xRg ?_
  refine xB 3 [] [(0, vs Aa a ca), (1, vs Ab b cb), (12, vi (((a).length : Nat) : Int)), (13, vi 0)] ?_
  refine xRe ?_
  refine wpq_then ?_
  refine xJoinO hS (fun g own sl t2 => own = [] ∧ sl = []) ?_ ?_
  ·rintro g3 _ _ t2 e4 ⟨rfl, rfl⟩ hS
   refine wpq_then ?_
   refine xSq ?_
   refine xRg ?_
   refine xB 1 [] [(4, vb true)] ?_
   refine xRe ?_
   refine wpq_then ?_
   have eS := (Option.some.inj hS).symm
   subst eS
   exact xRet [] [4] e4 ⟨by kernel_rfl, by kernel_rfl⟩ (fun _ _ h => h)
  ·intro uu2 hS hN2 hD2
   refine xBl 0 ?_
   refine xSub [(0, vs Aa a ca), (1, vs Ab b cb), (12, vi (((a).length : Nat) : Int)), (13, vi 0)] ?_
   refine xLo hS (fun g own sl s7 => own = [] ∧ sl = [(0, vs Aa a ca), (1, vs Ab b cb), (12, vi (((a).length : Nat) : Int)), (13, vi ((s7 : Nat) : Int))]) ⟨by kernel_rfl, by kernel_rfl⟩ ?_
   rintro g8 _ _ s7 uu7 e9 ⟨rfl, rfl⟩ hS Qr7 hN7 hD7
   unfold o32_L0 at hS
   refine xSq ?_
   refine xRg ?_
   refine xB 1 [] [(0, vs Aa a ca), (1, vs Ab b cb), (12, vi (((a).length : Nat) : Int)), (13, vi ((s7 : Nat) : Int)), (14, vb (decide (((s7 : Nat) : Int) < (((a).length : Nat) : Int))))] ?_
   refine xRe ?_
   refine wpq_then ?_
   refine xSq ?_
   refine xCd (decide (((s7 : Nat) : Int) < (((a).length : Nat) : Int))) (fun h10 => ?_) (fun h10 => ?_)
   ·have hS := cond_T h10 hS
    have h10p := of_decide_eq_true h10
    refine xSk ?_
    refine wpq_then ?_
    refine xSub [(0, vs Aa a ca), (1, vs Ab b cb), (12, vi (((a).length : Nat) : Int)), (13, vi ((s7 : Nat) : Int))] ?_
    refine xSq ?_
    refine xBl 1 ?_
    refine xSq ?_
    refine xRg ?_
    refine xB 2 [] [(0, vs Aa a ca), (1, vs Ab b cb), (5, vi ((s7 : Nat) : Int)), (12, vi (((a).length : Nat) : Int)), (13, vi ((s7 : Nat) : Int))] ?_
    refine xRe ?_
    refine wpq_then ?_
    refine xSq ?_
    refine xDr 0 [3, 7] [8] [] 9 (fun RG => ?_) (fun _ _ _ _ _ h => h)
    have fa := fa.mono e9.r
    have i12 : s7 < (a).length := by omega
    obtain ⟨ad11, cs11, hA11, hr11, hc11⟩ := fa.at_ (get_getD (d := 0) i12)
    have hr11 : cs11 = [vi (List.getD a s7 0)] := hr11
    subst hr11
    refine xT 7 [0, 1] [] [] [(0, vs Aa a ca), (1, vs Ab b cb), (5, vi ((s7 : Nat) : Int)), (12, vi (((a).length : Nat) : Int)), (13, vi ((s7 : Nat) : Int)), (16, vs Aa a ca), (17, vi ((s7 : Nat) : Int))] RG (Psi.le.refl _) ?_
    refine xTp 2 RG (fun _ => (qIx s7 1 hA11 rfl i12)) ?_
    refine xTv 3 [] RG (Psi.le.refl _) (qLdP (Addr.add ad11 (s7 * 1)) 0 hc11) ?_
    have fb := fb.mono e9.r
    obtain ⟨q14, hS⟩ := grd_T hS
    have q14p := of_decide_eq_true q14
    obtain ⟨ad13, cs13, hA13, hr13, hc13⟩ := fb.at_ (get_getD (d := 0) q14p)
    have hr13 : cs13 = [vi (List.getD b s7 0)] := hr13
    subst hr13
    refine xT 3 [4, 5] [] [] [(0, vs Aa a ca), (1, vs Ab b cb), (12, vi (((a).length : Nat) : Int)), (13, vi ((s7 : Nat) : Int)), (19, vi (List.getD a s7 0)), (20, vs Ab b cb), (21, vi ((s7 : Nat) : Int))] RG (Psi.le.refl _) ?_
    refine xTp 6 RG (fun _ => (qIx s7 1 hA13 rfl q14p)) ?_
    refine xTv 7 [] RG (Psi.le.refl _) (qLdP (Addr.add ad13 (s7 * 1)) 0 hc13) ?_
    refine xT 0 [8] [] [] [(0, vs Aa a ca), (1, vs Ab b cb), (12, vi (((a).length : Nat) : Int)), (13, vi ((s7 : Nat) : Int)), (24, vb ((List.getD a s7 0) != (List.getD b s7 0)))] RG (Psi.le.refl _) ?_
    refine xAe (lds := [3, 7]) ?_
    refine wpq_then ?_
    refine xCd (((List.getD a s7 0) != (List.getD b s7 0))) (fun h15 => ?_) (fun h15 => ?_)
    ·have hS := cond_T h15 hS
     have h15p : ¬ ((List.getD a s7 0) = (List.getD b s7 0)) := ne_of_bne_ h15
     refine xSq ?_
     refine xRg ?_
     refine xB 1 [] [(4, vb false)] ?_
     refine xRe ?_
     refine wpq_then ?_
     have eS := (Option.some.inj hS).symm
     have eS := (hD7 _ eS).symm
     have eS := (hD2 _ eS).symm
     subst eS
     exact xRet [] [4] e9 ⟨by kernel_rfl, by kernel_rfl⟩ (fun _ _ h => h)
    ·have hS := cond_F h15 hS
     have h15p : (List.getD a s7 0) = (List.getD b s7 0) := eq_of_bne_false_ h15
     refine xSk ?_
     refine wpq_blockN ?_
     refine wpq_then ?_
     refine xSub [(0, vs Aa a ca), (1, vs Ab b cb), (12, vi (((a).length : Nat) : Int)), (13, vi ((s7 : Nat) : Int))] ?_
     refine xRg ?_
     obtain ⟨q16, hS⟩ := grd_T hS
     have q16p := of_decide_eq_true q16
     refine xV (qAdd .i64 (((s7 : Nat) : Int)) (1) (wr64 (by omega))) ?_
     refine xB 1 [] [(0, vs Aa a ca), (1, vs Ab b cb), (12, vi (((a).length : Nat) : Int)), (13, vi (((s7 : Nat) : Int) + 1))] ?_
     refine xRe ?_
     refine wpq_thenN ?_
     refine xSub [(0, vs Aa a ca), (1, vs Ab b cb), (12, vi (((a).length : Nat) : Int)), (13, vi (((s7 : Nat) : Int) + 1))] ?_
     have eS := (Option.some.inj hS).symm
     exact hN7 _ eS _ _ _ (Gh.le.refl _) ⟨by kernel_rfl, by kernel_rfl⟩
   ·have hS := cond_F h10 hS
    have h10p := of_decide_eq_false h10
    refine xEx 0 ?_
    refine wpq_thenX ?_
    refine wpq_thenX ?_
    refine wpq_blockE ?_
    refine xSub [] ?_
    have eS := (Option.some.inj hS).symm
    have eS := (hD7 _ eS).symm
    exact hN2 _ eS _ _ _ e9 ⟨by kernel_rfl, by kernel_rfl⟩

def o40 (b : Board) (i : Int) : Option (Bool) :=
 (grd (decide (0 ≤ i ∧ i < (((b.conds).length : Nat) : Int))) (bindO (τ := Bool) (cond ((((List.getD b.conds (i).toNat default).onset != 0) && (!(List.getD b.conds (i).toNat default).acked))) (grd (decide (0 ≤ i ∧ i < (((b.defs).length : Nat) : Int))) (grd (decide (0 ≤ b.phase)) (some ((landK .u16 (shrK .u16 (List.getD b.defs (i).toNat default).inhibit b.phase) 1) == 0)))) (some (false))) fun t6 => (some ((t6)))))
set_option maxRecDepth 100000 in
theorem c40 (g : Gh) (a_b : Addr) (b : Board) (Ab_defs : Option Addr) (cb_defs : Nat) (Ab_conds : Option Addr) (cb_conds : Nat) (i : Int) (hc_b : Cells g.r a_b (cBoard b Ab_defs cb_defs Ab_conds cb_conds)) (fb_defs : Arr g.r tyAlertDef Ab_defs cb_defs b.defs) (fb_conds : ArrM g.r g.b tyCnd Ab_conds cb_conds b.conds) {r : Bool} (hS : o40 b i = some r) :
  Ctr Try.prog 40 [Value.pointer (some a_b), vi i] g [] (fun v ψ o => v = vb r ∧ o = []) := by
 unfold o40 at hS
 refine xFn Try.f40 (Try.f40.body.getD .skip) 38 ?_
 have nfb_defs := fb_defs.len
 have nfb_conds := fb_conds.len
 refine xSq ?_
 refine xRg ?_
 refine xB 1 [] [(0, Value.pointer (some a_b)), (1, vi i)] ?_
 refine xRe ?_
 refine wpq_then ?_
 refine xSq ?_
 refine xRg ?_
 refine xB 3 [] [(0, Value.pointer (some a_b)), (1, vi i), (8, Value.pointer (some (Addr.add a_b 3)))] ?_
 refine xV (qLdP a_b 3 hc_b) ?_
 obtain ⟨q2, hS⟩ := grd_T hS
 have q2p := of_decide_eq_true q2
 have i3 : (i).toNat < (b.conds).length := by omega
 obtain ⟨ad1, cs1, hA1, hr1, hc1⟩ := fb_conds.at_ (get_getD (d := default) i3)
 obtain ⟨rfl⟩ := hr1
 refine xB 1 [] [(0, Value.pointer (some a_b)), (1, vi i), (9, vs Ab_conds b.conds cb_conds), (10, vi i)] ?_
 refine xV (qIx (i).toNat 2 hA1 (show (i : Int) = _ from by omega) i3) ?_
 refine xV (qLdP (Addr.add ad1 ((i).toNat * 2)) 0 hc1) ?_
 refine xE eB ?_
 rintro _ _ _ - ⟨b4, rfl, rfl, rfl⟩
 refine xBo 1 [(8, 0)] [some ⟨b4, 79, [vi ((List.getD b.conds (i).toNat default).onset), vb ((List.getD b.conds (i).toNat default).acked)]⟩] [(0, Value.pointer (some a_b)), (1, vi i), (5, vp b4 0)] ?_
 refine xRe ?_
 refine wpq_then ?_
 refine xSq ?_
 refine xDr 0 [1, 5, 12, 16, 20] [25] [some ⟨b4, 79, [vi ((List.getD b.conds (i).toNat default).onset), vb ((List.getD b.conds (i).toNat default).acked)]⟩] 26 (fun RG => ?_) (fun _ _ _ _ _ h => h)
 refine xT 22 [0, 1, 2, 3] [(1, 0)] [some 0] [(0, Value.pointer (some a_b)), (1, vi i), (5, vp b4 0), (16, vb ((List.getD b.conds (i).toNat default).onset != 0))] RG (Psi.le.refl _) ?_
 refine wpa_grp 18 [true, true, true, true, true, true, true, true, false, false, false, false, false, false, false, false, false, false, false, false, false, false, false, false, false, false] [(0, Value.pointer (some a_b)), (1, vi i), (20, vb (((List.getD b.conds (i).toNat default).onset != 0) && (!(List.getD b.conds (i).toNat default).acked)))] (fun hk3 => ?_) ?_
 ·refine wpq_split 16 (b := ((List.getD b.conds (i).toNat default).onset != 0)) (by kernel_rfl) (fun q5 => ?_) (fun q5 => ?_)
  ·have q5p : ¬ ((List.getD b.conds (i).toNat default).onset = 0) := ne_of_bne_ q5
   refine xT 18 [4, 5, 6, 7] [(5, 0)] [some 0] [(0, Value.pointer (some a_b)), (1, vi i), (20, vb (!(List.getD b.conds (i).toNat default).acked))] RG (Psi.le.refl _) ?_
   refine wpq_re 20 (v := vb (!(List.getD b.conds (i).toNat default).acked)) (Value.bool ((((List.getD b.conds (i).toNat default).onset != 0) && (!(List.getD b.conds (i).toNat default).acked)))) (by kernel_rfl) (re_and1 q5) ?_
   exact wpq_sub _ (by kernel_rfl) hk3
  ·have q5p : (List.getD b.conds (i).toNat default).onset = 0 := eq_of_bne_false_ q5
   refine xT 18 [4, 5, 6, 7] [] [some 0] [(0, Value.pointer (some a_b)), (1, vi i), (20, vb false)] RG (Psi.le.refl _) ?_
   refine wpq_re 20 (v := vb false) (Value.bool ((((List.getD b.conds (i).toNat default).onset != 0) && (!(List.getD b.conds (i).toNat default).acked)))) (by kernel_rfl) (re_and0 q5) ?_
   exact wpq_sub _ (by kernel_rfl) hk3
 ·refine xT 17 [8] [] [some 0] [(0, Value.pointer (some a_b)), (1, vi i), (21, vb (((List.getD b.conds (i).toNat default).onset != 0) && (!(List.getD b.conds (i).toNat default).acked)))] RG (Psi.le.refl _) ?_
  refine xGJoA hS 1 [true, true, true, true, true, true, true, true, true, true, true, true, true, true, true, true, true, true, true, true, true, true, true, true, true, false] (fun g own sl t6 => own = [some ⟨b4, 79, [vi ((List.getD b.conds (i).toNat default).onset), vb ((List.getD b.conds (i).toNat default).acked)]⟩] ∧ sl = [(37, vb t6)]) ?_ ?_
  ·rintro g7 _ _ t6 e8 ⟨rfl, rfl⟩ hS
   refine xT 0 [25] [] [some 0] [(4, vb t6)] RG e8.r ?_
   refine xAe (lds := [1, 5, 12, 16, 20]) ?_
   refine wpq_then ?_
   have eS := (Option.some.inj hS).symm
   subst eS
   exact xRet [] [4] e8 ⟨by kernel_rfl, by kernel_rfl⟩ (fun _ _ h => h)
  ·intro uu6 hS hN6
   refine wpq_split 21 (b := (((List.getD b.conds (i).toNat default).onset != 0) && (!(List.getD b.conds (i).toNat default).acked))) (by kernel_rfl) (fun q9 => ?_) (fun q9 => ?_)
   ·have hS := cond_T q9 hS
    have q9l := (and_true_ q9).1
    have q9r := (and_true_ q9).2
    have q9lp : ¬ ((List.getD b.conds (i).toNat default).onset = 0) := ne_of_bne_ q9l
    have q9rn := not_eq_true_ q9r
    refine xT 14 [9, 10, 11] [] [some 0] [(0, Value.pointer (some a_b)), (1, vi i), (21, vb true), (24, Value.pointer (some a_b))] RG (Psi.le.refl _) ?_
    refine xTv 12 [some 0] RG (Psi.le.refl _) (qLdP a_b 0 hc_b) ?_
    obtain ⟨q11, hS⟩ := grd_T hS
    have q11p := of_decide_eq_true q11
    have i12 : (i).toNat < (b.defs).length := by omega
    obtain ⟨ad10, cs10, hA10, hr10, hc10⟩ := fb_defs.at_ (get_getD (d := default) i12)
    obtain ⟨rfl⟩ := hr10
    refine xT 12 [13] [] [some 0] [(0, Value.pointer (some a_b)), (21, vb true), (25, vs Ab_defs b.defs cb_defs), (26, vi i)] RG (Psi.le.refl _) ?_
    refine xTp 14 RG (fun _ => (qIx (i).toNat 3 hA10 (show (i : Int) = _ from by omega) i12)) ?_
    refine xT 10 [15] [] [some 0] [(0, Value.pointer (some a_b)), (21, vb true), (28, Value.pointer (some (Addr.add (Addr.add ad10 ((i).toNat * 3)) 2)))] RG (Psi.le.refl _) ?_
    refine xTv 16 [some 0] RG (Psi.le.refl _) (qLdP (Addr.add ad10 ((i).toNat * 3)) 2 hc10) ?_
    refine xT 6 [17, 18, 19] [] [some 0] [(21, vb true), (29, Value.int .u16 ((List.getD b.defs (i).toNat default).inhibit)), (32, Value.pointer (some (Addr.add a_b 2)))] RG (Psi.le.refl _) ?_
    refine xTv 20 [some 0] RG (Psi.le.refl _) (qLdP a_b 2 hc_b) ?_
    obtain ⟨q13, hS⟩ := grd_T hS
    have q13p := of_decide_eq_true q13
    refine xTp 21 RG (fun _ => (qShr .u16 .u8 ((List.getD b.defs (i).toNat default).inhibit) (b.phase) (by omega))) ?_
    refine xT 1 [22, 23, 24] [] [some 0] [(37, vb ((landK .u16 (shrK .u16 (List.getD b.defs (i).toNat default).inhibit b.phase) 1) == 0))] RG (Psi.le.refl _) ?_
    refine xSub [(37, vb ((landK .u16 (shrK .u16 (List.getD b.defs (i).toNat default).inhibit b.phase) 1) == 0))] ?_
    exact hN6 _ (Option.some.inj hS).symm _ _ _ (Gh.le.refl _) ⟨by kernel_rfl, by kernel_rfl⟩
   ·have hS := cond_F q9 hS
    refine xT 1 [9, 10, 11, 12, 13, 14, 15, 16, 17, 18, 19, 20, 21, 22, 23, 24] [] [some 0] [(37, vb false)] RG (Psi.le.refl _) ?_
    refine xSub [(37, vb false)] ?_
    exact hN6 _ (Option.some.inj hS).symm _ _ _ (Gh.le.refl _) ⟨by kernel_rfl, by kernel_rfl⟩

def o75 (x : Int) : Option (Int) :=
 (letJ (τ := Int × Nat) (cond (decide (x ≥ 4294967296)) (((shrK .u64 x 32), 32)) ((x, 0))) fun t1 => (letJ (τ := Int × Nat) (cond (decide (t1.1 ≥ 65536)) (((shrK .u64 t1.1 16), (t1.2 + 16))) ((t1.1, t1.2))) fun t4 => (letJ (τ := Int × Nat) (cond (decide (t4.1 ≥ 256)) (((shrK .u64 t4.1 8), (t4.2 + 8))) ((t4.1, t4.2))) fun t7 => (grd (decide (0 ≤ (IntKind.u8.wrap t7.1) ∧ (IntKind.u8.wrap t7.1) < (((len8L).length : Nat) : Int))) (some (((((t7.2 : Nat) : Int) + (((List.getD (len8L : List UInt8) ((IntKind.u8.wrap t7.1)).toNat 0)).toNat : Int)) : Int)))))))
set_option maxRecDepth 100000 in
theorem c75 (g : Gh) (x : Int) {r : Int} (hS : o75 x = some r) :
  Ctr Try.prog 75 [Value.int .u64 x] g [] (fun v ψ o => v = vi r ∧ o = []) := by
 unfold o75 at hS
 refine xFn Try.f75 (Try.f75.body.getD .skip) 25 ?_
 refine xSq ?_
 refine xRg ?_
 refine xB 1 [] [(0, Value.int .u64 x), (2, vi 0)] ?_
 refine xRe ?_
 refine wpq_then ?_
 refine xSq ?_
 refine xSq ?_
 refine xRg ?_
 refine xB 2 [] [(0, Value.int .u64 x), (2, vi 0), (4, vb (decide (x ≥ 4294967296)))] ?_
 refine xRe ?_
 refine wpq_then ?_
 refine xLetJ hS (fun g own sl t1 => own = [] ∧ sl = [(0, Value.int .u64 t1.1), (2, vi ((t1.2 : Nat) : Int))] ∧ (0 ≤ t1.2 ∧ t1.2 ≤ 32)) ?_ ?_
 ·rintro g2 _ _ t1 e3 ⟨rfl, rfl, ⟨r1_0l, r1_0r⟩⟩ hS
  refine wpq_then ?_
  refine xSq ?_
  refine xSq ?_
  refine xRg ?_
  refine xB 2 [] [(0, Value.int .u64 t1.1), (2, vi ((t1.2 : Nat) : Int)), (8, vb (decide (t1.1 ≥ 65536)))] ?_
  refine xRe ?_
  refine wpq_then ?_
  refine xLetJ hS (fun g own sl t4 => own = [] ∧ sl = [(0, Value.int .u64 t4.1), (2, vi ((t4.2 : Nat) : Int))] ∧ (0 ≤ t4.2 ∧ t4.2 ≤ 48)) ?_ ?_
  ·rintro g5 _ _ t4 e6 ⟨rfl, rfl, ⟨r4_0l, r4_0r⟩⟩ hS
   refine wpq_then ?_
   refine xSq ?_
   refine xSq ?_
   refine xRg ?_
   refine xB 2 [] [(0, Value.int .u64 t4.1), (2, vi ((t4.2 : Nat) : Int)), (14, vb (decide (t4.1 ≥ 256)))] ?_
   refine xRe ?_
   refine wpq_then ?_
   refine xLetJ hS (fun g own sl t7 => own = [] ∧ sl = [(0, Value.int .u64 t7.1), (2, vi ((t7.2 : Nat) : Int))] ∧ (0 ≤ t7.2 ∧ t7.2 ≤ 56)) ?_ ?_
   ·rintro g8 _ _ t7 e9 ⟨rfl, rfl, ⟨r7_0l, r7_0r⟩⟩ hS
    refine wpq_then ?_
    refine xSq ?_
    refine xRg ?_
    have z1 := u8_in_ t7.1
    obtain ⟨q10, hS⟩ := grd_T hS
    have q10p := of_decide_eq_true q10
    have i11 : ((IntKind.u8.wrap t7.1)).toNat < (len8L).length := by omega
    have nb12 := UInt8.toNat_lt (List.getD (len8L : List UInt8) ((IntKind.u8.wrap t7.1)).toNat 0)
    refine xB 3 [] [(2, vi ((t7.2 : Nat) : Int)), (19, vi ((t7.2 : Nat) : Int)), (21, vy (IntKind.u8.wrap t7.1))] ?_
    refine xV (qIxS ((IntKind.u8.wrap t7.1)).toNat (show ((IntKind.u8.wrap t7.1) : Int) = _ from by omega) i11) ?_
    refine xV (qConv .u8 .i64 ((((List.getD (len8L : List UInt8) ((IntKind.u8.wrap t7.1)).toNat 0)).toNat : Int)) ((((List.getD (len8L : List UInt8) ((IntKind.u8.wrap t7.1)).toNat 0)).toNat : Int)) (wr64 (by omega))) ?_
    refine xV (qAdd .i64 (((t7.2 : Nat) : Int)) ((((List.getD (len8L : List UInt8) ((IntKind.u8.wrap t7.1)).toNat 0)).toNat : Int)) (wr64 (by omega))) ?_
    refine xB 1 [] [(2, vi (((t7.2 : Nat) : Int) + (((List.getD (len8L : List UInt8) ((IntKind.u8.wrap t7.1)).toNat 0)).toNat : Int)))] ?_
    refine xRe ?_
    refine wpq_then ?_
    have eS := (Option.some.inj hS).symm
    subst eS
    exact xRet [] [2] (e3.trans (e6.trans e9)) ⟨by kernel_rfl, by kernel_rfl⟩ (fun _ _ h => h)
   ·intro uu7 hS hN7
    refine xCd (decide (t4.1 ≥ 256)) (fun h13 => ?_) (fun h13 => ?_)
    ·have hS := cond_T h13 hS
     have h13p := of_decide_eq_true h13
     refine xSq ?_
     refine xRg ?_
     refine xB 3 [] [(0, Value.int .u64 (shrK .u64 t4.1 8)), (2, vi ((t4.2 : Nat) : Int))] ?_
     refine xRe ?_
     refine wpq_then ?_
     refine xRg ?_
     refine xB 1 [] [(0, Value.int .u64 (shrK .u64 t4.1 8)), (2, vi ((t4.2 : Nat) : Int)), (17, vi ((t4.2 : Nat) : Int))] ?_
     refine xV (qAdd .i64 (((t4.2 : Nat) : Int)) (8) (wr64 (by omega))) ?_
     refine xB 1 [] [(0, Value.int .u64 (shrK .u64 t4.1 8)), (2, vi (((t4.2 : Nat) : Int) + 8))] ?_
     refine xRe ?_
     refine xSub [(0, Value.int .u64 (shrK .u64 t4.1 8)), (2, vi (((t4.2 : Nat) : Int) + 8))] ?_
     have eS := hS.symm
     exact hN7 _ eS _ _ _ (Gh.le.refl _) ⟨by kernel_rfl, by kernel_rfl, okI⟩
    ·have hS := cond_F h13 hS
     have h13p := of_decide_eq_false h13
     refine xSk ?_
     refine xSub [(0, Value.int .u64 t4.1), (2, vi ((t4.2 : Nat) : Int))] ?_
     have eS := hS.symm
     exact hN7 _ eS _ _ _ (Gh.le.refl _) ⟨by kernel_rfl, by kernel_rfl, okI⟩
  ·intro uu4 hS hN4
   refine xCd (decide (t1.1 ≥ 65536)) (fun h14 => ?_) (fun h14 => ?_)
   ·have hS := cond_T h14 hS
    have h14p := of_decide_eq_true h14
    refine xSq ?_
    refine xRg ?_
    refine xB 3 [] [(0, Value.int .u64 (shrK .u64 t1.1 16)), (2, vi ((t1.2 : Nat) : Int))] ?_
    refine xRe ?_
    refine wpq_then ?_
    refine xRg ?_
    refine xB 1 [] [(0, Value.int .u64 (shrK .u64 t1.1 16)), (2, vi ((t1.2 : Nat) : Int)), (11, vi ((t1.2 : Nat) : Int))] ?_
    refine xV (qAdd .i64 (((t1.2 : Nat) : Int)) (16) (wr64 (by omega))) ?_
    refine xB 1 [] [(0, Value.int .u64 (shrK .u64 t1.1 16)), (2, vi (((t1.2 : Nat) : Int) + 16))] ?_
    refine xRe ?_
    refine xSub [(0, Value.int .u64 (shrK .u64 t1.1 16)), (2, vi (((t1.2 : Nat) : Int) + 16))] ?_
    have eS := hS.symm
    exact hN4 _ eS _ _ _ (Gh.le.refl _) ⟨by kernel_rfl, by kernel_rfl, okI⟩
   ·have hS := cond_F h14 hS
    have h14p := of_decide_eq_false h14
    refine xSk ?_
    refine xSub [(0, Value.int .u64 t1.1), (2, vi ((t1.2 : Nat) : Int))] ?_
    have eS := hS.symm
    exact hN4 _ eS _ _ _ (Gh.le.refl _) ⟨by kernel_rfl, by kernel_rfl, okI⟩
 ·intro uu1 hS hN1
  refine xCd (decide (x ≥ 4294967296)) (fun h15 => ?_) (fun h15 => ?_)
  ·have hS := cond_T h15 hS
   have h15p := of_decide_eq_true h15
   refine xSq ?_
   refine xRg ?_
   refine xB 3 [] [(0, Value.int .u64 (shrK .u64 x 32))] ?_
   refine xRe ?_
   refine wpq_then ?_
   refine xRg ?_
   refine xB 1 [] [(0, Value.int .u64 (shrK .u64 x 32)), (2, vi 32)] ?_
   refine xRe ?_
   refine xSub [(0, Value.int .u64 (shrK .u64 x 32)), (2, vi 32)] ?_
   have eS := hS.symm
   exact hN1 _ eS _ _ _ (Gh.le.refl _) ⟨by kernel_rfl, by kernel_rfl, okI⟩
  ·have hS := cond_F h15 hS
   have h15p := of_decide_eq_false h15
   refine xSk ?_
   refine xSub [(0, Value.int .u64 x), (2, vi 0)] ?_
   have eS := hS.symm
   exact hN1 _ eS _ _ _ (Gh.le.refl _) ⟨by kernel_rfl, by kernel_rfl, okI⟩

def o60 (x : Int) : Option (Int) :=
 (bindO (τ := Int) (o75 (x : Int)) fun y1 => (some ((y1 : Int))))
set_option maxRecDepth 100000 in
theorem c60 (g : Gh) (x : Int) {r : Int} (hS : o60 x = some r) :
  Ctr Try.prog 60 [Value.int .u64 x] g [] (fun v ψ o => v = vi r ∧ o = []) := by
 unfold o60 at hS
 refine xFn Try.f60 (Try.f60.body.getD .skip) 8 ?_
 refine xSq ?_
 refine xRg ?_
 refine xB 1 [] [(0, Value.int .u64 x)] ?_
 refine xRe ?_
 refine wpq_then ?_
 refine xSq ?_
 refine xCf ?_
 refine xSk ?_
 refine wpq_then ?_
 refine xSq ?_
 refine xRg ?_
 refine xB 1 [] [(6, Value.int .u64 x)] ?_
 obtain ⟨y1, hy1, hS⟩ := bindO_T hS
 refine xE (eC 0 (fun g' lr eb ln => c75 g' (x : Int) hy1)) ?_
 rintro _ g2 _ e3 ⟨_, rfl, rfl, rfl⟩
 refine xB 1 [] [(2, vi y1)] ?_
 refine xRe ?_
 refine wpq_then ?_
 have eS := (Option.some.inj hS).symm
 subst eS
 exact xRet [] [2] e3 ⟨by kernel_rfl, by kernel_rfl⟩ (fun _ _ h => h)

def o61 (x : Int) : Bool :=
 (((x != x)))
set_option maxRecDepth 100000 in
theorem c61 (g : Gh) (x : Int) {r : Bool} (hS : o61 x = r) :
  Ctr Try.prog 61 [vy x] g [] (fun v ψ o => v = vb r ∧ o = []) := by
 unfold o61 at hS
 refine xFn Try.f61 (Try.f61.body.getD .skip) 6 ?_
 refine xSq ?_
 refine xRg ?_
 refine xB 1 [] [(0, vy x)] ?_
 refine xRe ?_
 refine wpq_then ?_
 refine xSq ?_
 refine xRg ?_
 refine xB 4 [] [(2, vb (x != x))] ?_
 refine xRe ?_
 refine wpq_then ?_
 have eS := hS.symm
 subst eS
 exact xRet [] [2] (Gh.le.refl _) ⟨by kernel_rfl, by kernel_rfl⟩ (fun _ _ h => h)

def o44 (x : Int) (y : Int) : Int :=
 (letJ (τ := Bool) (o61 (x : Int)) fun y1 => (letJ (τ := Bool) (o61 (y : Int)) fun y4 => (cond (y1) (cond (y4) ((0 : Int)) ((-1 : Int))) (cond (y4) ((1 : Int)) (cond (decide (x < y)) ((-1 : Int)) (cond (decide (x > y)) ((1 : Int)) ((0 : Int))))))))
set_option maxRecDepth 100000 in
theorem c44 (g : Gh) (x : Int) (y : Int) {r : Int} (hS : o44 x y = r) :
  Ctr Try.prog 44 [vy x, vy y] g [] (fun v ψ o => v = vi r ∧ o = []) := by
 unfold o44 at hS
 refine xFn Try.f44 (Try.f44.body.getD .skip) 20 ?_
 refine xSq ?_
 refine xRg ?_
 refine xB 1 [] [(0, vy x), (1, vy y)] ?_
 refine xRe ?_
 refine wpq_then ?_
 refine xSq ?_
 refine xRg ?_
 refine xB 1 [] [(0, vy x), (1, vy y), (7, vy x)] ?_
 obtain ⟨y1, hy1, hS⟩ := letJ_T hS
 refine xE (eC 0 (fun g' lr eb ln => c61 g' (x : Int) hy1)) ?_
 rintro _ g2 _ e3 ⟨_, rfl, rfl, rfl⟩
 refine xB 1 [] [(0, vy x), (1, vy y), (5, vb y1)] ?_
 refine xRe ?_
 refine wpq_then ?_
 refine xSq ?_
 refine xRg ?_
 refine xB 1 [] [(0, vy x), (1, vy y), (5, vb y1), (9, vy y)] ?_
 obtain ⟨y4, hy4, hS⟩ := letJ_T hS
 refine xE (eC 0 (fun g' lr eb ln => c61 g' (y : Int) hy4)) ?_
 rintro _ g5 _ e6 ⟨_, rfl, rfl, rfl⟩
 refine xB 1 [] [(0, vy x), (1, vy y), (5, vb y1), (6, vb y4)] ?_
 refine xRe ?_
 refine wpq_then ?_
 refine xSq ?_
 refine xSq ?_
 refine xRg ?_
 refine xB 1 [] [(0, vy x), (1, vy y), (6, vb y4), (11, vb y1)] ?_
 refine xRe ?_
 refine wpq_then ?_
 refine xCd (y1) (fun h7 => ?_) (fun h7 => ?_)
 ·have hS := cond_T h7 hS
  refine xSq ?_
  refine xSq ?_
  refine xRg ?_
  refine xB 1 [] [(12, vb y4)] ?_
  refine xRe ?_
  refine wpq_then ?_
  refine xCd (y4) (fun h8 => ?_) (fun h8 => ?_)
  ·have hS := cond_T h8 hS
   refine xSq ?_
   refine xRg ?_
   refine xB 1 [] [(4, vi 0)] ?_
   refine xRe ?_
   refine wpq_then ?_
   have eS := hS.symm
   subst eS
   exact xRet [] [4] (e3.trans e6) ⟨by kernel_rfl, by kernel_rfl⟩ (fun _ _ h => h)
  ·have hS := cond_F h8 hS
   refine xSk ?_
   refine wpq_then ?_
   refine xSub [] ?_
   refine xSq ?_
   refine xRg ?_
   refine xB 1 [] [(4, vi (-1))] ?_
   refine xRe ?_
   refine wpq_then ?_
   have eS := hS.symm
   subst eS
   exact xRet [] [4] (e3.trans e6) ⟨by kernel_rfl, by kernel_rfl⟩ (fun _ _ h => h)
 ·have hS := cond_F h7 hS
  refine xSk ?_
  refine wpq_then ?_
  refine xSub [(0, vy x), (1, vy y), (6, vb y4)] ?_
  refine xSq ?_
  refine xSq ?_
  refine xRg ?_
  refine xB 1 [] [(0, vy x), (1, vy y), (13, vb y4)] ?_
  refine xRe ?_
  refine wpq_then ?_
  refine xCd (y4) (fun h9 => ?_) (fun h9 => ?_)
  ·have hS := cond_T h9 hS
   refine xSq ?_
   refine xRg ?_
   refine xB 1 [] [(4, vi 1)] ?_
   refine xRe ?_
   refine wpq_then ?_
   have eS := hS.symm
   subst eS
   exact xRet [] [4] (e3.trans e6) ⟨by kernel_rfl, by kernel_rfl⟩ (fun _ _ h => h)
  ·have hS := cond_F h9 hS
   refine xSk ?_
   refine wpq_then ?_
   refine xSub [(0, vy x), (1, vy y)] ?_
   refine xSq ?_
   refine xSq ?_
   refine xRg ?_
   refine xB 3 [] [(0, vy x), (1, vy y), (16, vb (decide (x < y)))] ?_
   refine xRe ?_
   refine wpq_then ?_
   refine xCd (decide (x < y)) (fun h10 => ?_) (fun h10 => ?_)
   ·have hS := cond_T h10 hS
    have h10p := of_decide_eq_true h10
    refine xSq ?_
    refine xRg ?_
    refine xB 1 [] [(4, vi (-1))] ?_
    refine xRe ?_
    refine wpq_then ?_
    have eS := hS.symm
    subst eS
    exact xRet [] [4] (e3.trans e6) ⟨by kernel_rfl, by kernel_rfl⟩ (fun _ _ h => h)
   ·have hS := cond_F h10 hS
    have h10p := of_decide_eq_false h10
    refine xSk ?_
    refine wpq_then ?_
    refine xSub [(0, vy x), (1, vy y)] ?_
    refine xSq ?_
    refine xSq ?_
    refine xRg ?_
    refine xB 3 [] [(19, vb (decide (x > y)))] ?_
    refine xRe ?_
    refine wpq_then ?_
    refine xCd (decide (x > y)) (fun h11 => ?_) (fun h11 => ?_)
    ·have hS := cond_T h11 hS
     have h11p := of_decide_eq_true h11
     refine xSq ?_
     refine xRg ?_
     refine xB 1 [] [(4, vi 1)] ?_
     refine xRe ?_
     refine wpq_then ?_
     have eS := hS.symm
     subst eS
     exact xRet [] [4] (e3.trans e6) ⟨by kernel_rfl, by kernel_rfl⟩ (fun _ _ h => h)
    ·have hS := cond_F h11 hS
     have h11p := of_decide_eq_false h11
     refine xSk ?_
     refine wpq_then ?_
     refine xSub [] ?_
     refine xSq ?_
     refine xRg ?_
     refine xB 1 [] [(4, vi 0)] ?_
     refine xRe ?_
     refine wpq_then ?_
     have eS := hS.symm
     subst eS
     exact xRet [] [4] (e3.trans e6) ⟨by kernel_rfl, by kernel_rfl⟩ (fun _ _ h => h)

def o62 (x : Int) : Bool :=
 (((x != x)))
set_option maxRecDepth 100000 in
theorem c62 (g : Gh) (x : Int) {r : Bool} (hS : o62 x = r) :
  Ctr Try.prog 62 [vi x] g [] (fun v ψ o => v = vb r ∧ o = []) := by
 unfold o62 at hS
 refine xFn Try.f62 (Try.f62.body.getD .skip) 6 ?_
 refine xSq ?_
 refine xRg ?_
 refine xB 1 [] [(0, vi x)] ?_
 refine xRe ?_
 refine wpq_then ?_
 refine xSq ?_
 refine xRg ?_
 refine xB 4 [] [(2, vb (x != x))] ?_
 refine xRe ?_
 refine wpq_then ?_
 have eS := hS.symm
 subst eS
 exact xRet [] [2] (Gh.le.refl _) ⟨by kernel_rfl, by kernel_rfl⟩ (fun _ _ h => h)

def o45 (x : Int) (y : Int) : Int :=
 (letJ (τ := Bool) (o62 (x : Int)) fun y1 => (letJ (τ := Bool) (o62 (y : Int)) fun y4 => (cond (y1) (cond (y4) ((0 : Int)) ((-1 : Int))) (cond (y4) ((1 : Int)) (cond (decide (x < y)) ((-1 : Int)) (cond (decide (x > y)) ((1 : Int)) ((0 : Int))))))))
set_option maxRecDepth 100000 in
theorem c45 (g : Gh) (x : Int) (y : Int) {r : Int} (hS : o45 x y = r) :
  Ctr Try.prog 45 [vi x, vi y] g [] (fun v ψ o => v = vi r ∧ o = []) := by
 unfold o45 at hS
 refine xFn Try.f45 (Try.f45.body.getD .skip) 20 ?_
 refine xSq ?_
 refine xRg ?_
 refine xB 1 [] [(0, vi x), (1, vi y)] ?_
 refine xRe ?_
 refine wpq_then ?_
 refine xSq ?_
 refine xRg ?_
 refine xB 1 [] [(0, vi x), (1, vi y), (7, vi x)] ?_
 obtain ⟨y1, hy1, hS⟩ := letJ_T hS
 refine xE (eC 0 (fun g' lr eb ln => c62 g' (x : Int) hy1)) ?_
 rintro _ g2 _ e3 ⟨_, rfl, rfl, rfl⟩
 refine xB 1 [] [(0, vi x), (1, vi y), (5, vb y1)] ?_
 refine xRe ?_
 refine wpq_then ?_
 refine xSq ?_
 refine xRg ?_
 refine xB 1 [] [(0, vi x), (1, vi y), (5, vb y1), (9, vi y)] ?_
 obtain ⟨y4, hy4, hS⟩ := letJ_T hS
 refine xE (eC 0 (fun g' lr eb ln => c62 g' (y : Int) hy4)) ?_
 rintro _ g5 _ e6 ⟨_, rfl, rfl, rfl⟩
 refine xB 1 [] [(0, vi x), (1, vi y), (5, vb y1), (6, vb y4)] ?_
 refine xRe ?_
 refine wpq_then ?_
 refine xSq ?_
 refine xSq ?_
 refine xRg ?_
 refine xB 1 [] [(0, vi x), (1, vi y), (6, vb y4), (11, vb y1)] ?_
 refine xRe ?_
 refine wpq_then ?_
 refine xCd (y1) (fun h7 => ?_) (fun h7 => ?_)
 ·have hS := cond_T h7 hS
  refine xSq ?_
  refine xSq ?_
  refine xRg ?_
  refine xB 1 [] [(12, vb y4)] ?_
  refine xRe ?_
  refine wpq_then ?_
  refine xCd (y4) (fun h8 => ?_) (fun h8 => ?_)
  ·have hS := cond_T h8 hS
   refine xSq ?_
   refine xRg ?_
   refine xB 1 [] [(4, vi 0)] ?_
   refine xRe ?_
   refine wpq_then ?_
   have eS := hS.symm
   subst eS
   exact xRet [] [4] (e3.trans e6) ⟨by kernel_rfl, by kernel_rfl⟩ (fun _ _ h => h)
  ·have hS := cond_F h8 hS
   refine xSk ?_
   refine wpq_then ?_
   refine xSub [] ?_
   refine xSq ?_
   refine xRg ?_
   refine xB 1 [] [(4, vi (-1))] ?_
   refine xRe ?_
   refine wpq_then ?_
   have eS := hS.symm
   subst eS
   exact xRet [] [4] (e3.trans e6) ⟨by kernel_rfl, by kernel_rfl⟩ (fun _ _ h => h)
 ·have hS := cond_F h7 hS
  refine xSk ?_
  refine wpq_then ?_
  refine xSub [(0, vi x), (1, vi y), (6, vb y4)] ?_
  refine xSq ?_
  refine xSq ?_
  refine xRg ?_
  refine xB 1 [] [(0, vi x), (1, vi y), (13, vb y4)] ?_
  refine xRe ?_
  refine wpq_then ?_
  refine xCd (y4) (fun h9 => ?_) (fun h9 => ?_)
  ·have hS := cond_T h9 hS
   refine xSq ?_
   refine xRg ?_
   refine xB 1 [] [(4, vi 1)] ?_
   refine xRe ?_
   refine wpq_then ?_
   have eS := hS.symm
   subst eS
   exact xRet [] [4] (e3.trans e6) ⟨by kernel_rfl, by kernel_rfl⟩ (fun _ _ h => h)
  ·have hS := cond_F h9 hS
   refine xSk ?_
   refine wpq_then ?_
   refine xSub [(0, vi x), (1, vi y)] ?_
   refine xSq ?_
   refine xSq ?_
   refine xRg ?_
   refine xB 3 [] [(0, vi x), (1, vi y), (16, vb (decide (x < y)))] ?_
   refine xRe ?_
   refine wpq_then ?_
   refine xCd (decide (x < y)) (fun h10 => ?_) (fun h10 => ?_)
   ·have hS := cond_T h10 hS
    have h10p := of_decide_eq_true h10
    refine xSq ?_
    refine xRg ?_
    refine xB 1 [] [(4, vi (-1))] ?_
    refine xRe ?_
    refine wpq_then ?_
    have eS := hS.symm
    subst eS
    exact xRet [] [4] (e3.trans e6) ⟨by kernel_rfl, by kernel_rfl⟩ (fun _ _ h => h)
   ·have hS := cond_F h10 hS
    have h10p := of_decide_eq_false h10
    refine xSk ?_
    refine wpq_then ?_
    refine xSub [(0, vi x), (1, vi y)] ?_
    refine xSq ?_
    refine xSq ?_
    refine xRg ?_
    refine xB 3 [] [(19, vb (decide (x > y)))] ?_
    refine xRe ?_
    refine wpq_then ?_
    refine xCd (decide (x > y)) (fun h11 => ?_) (fun h11 => ?_)
    ·have hS := cond_T h11 hS
     have h11p := of_decide_eq_true h11
     refine xSq ?_
     refine xRg ?_
     refine xB 1 [] [(4, vi 1)] ?_
     refine xRe ?_
     refine wpq_then ?_
     have eS := hS.symm
     subst eS
     exact xRet [] [4] (e3.trans e6) ⟨by kernel_rfl, by kernel_rfl⟩ (fun _ _ h => h)
    ·have hS := cond_F h11 hS
     have h11p := of_decide_eq_false h11
     refine xSk ?_
     refine wpq_then ?_
     refine xSub [] ?_
     refine xSq ?_
     refine xRg ?_
     refine xB 1 [] [(4, vi 0)] ?_
     refine xRe ?_
     refine wpq_then ?_
     have eS := hS.symm
     subst eS
     exact xRet [] [4] (e3.trans e6) ⟨by kernel_rfl, by kernel_rfl⟩ (fun _ _ h => h)

def o63 (x : Int) : Bool :=
 (((x != x)))
set_option maxRecDepth 100000 in
theorem c63 (g : Gh) (x : Int) {r : Bool} (hS : o63 x = r) :
  Ctr Try.prog 63 [vi x] g [] (fun v ψ o => v = vb r ∧ o = []) := by
 unfold o63 at hS
 refine xFn Try.f63 (Try.f63.body.getD .skip) 6 ?_
 refine xSq ?_
 refine xRg ?_
 refine xB 1 [] [(0, vi x)] ?_
 refine xRe ?_
 refine wpq_then ?_
 refine xSq ?_
 refine xRg ?_
 refine xB 4 [] [(2, vb (x != x))] ?_
 refine xRe ?_
 refine wpq_then ?_
 have eS := hS.symm
 subst eS
 exact xRet [] [2] (Gh.le.refl _) ⟨by kernel_rfl, by kernel_rfl⟩ (fun _ _ h => h)

def o46 (x : Int) (y : Int) : Int :=
 (letJ (τ := Bool) (o63 (x : Int)) fun y1 => (letJ (τ := Bool) (o63 (y : Int)) fun y4 => (cond (y1) (cond (y4) ((0 : Int)) ((-1 : Int))) (cond (y4) ((1 : Int)) (cond (decide (x < y)) ((-1 : Int)) (cond (decide (x > y)) ((1 : Int)) ((0 : Int))))))))
set_option maxRecDepth 100000 in
theorem c46 (g : Gh) (x : Int) (y : Int) {r : Int} (hS : o46 x y = r) :
  Ctr Try.prog 46 [vi x, vi y] g [] (fun v ψ o => v = vi r ∧ o = []) := by
 unfold o46 at hS
 refine xFn Try.f46 (Try.f46.body.getD .skip) 20 ?_
 refine xSq ?_
 refine xRg ?_
 refine xB 1 [] [(0, vi x), (1, vi y)] ?_
 refine xRe ?_
 refine wpq_then ?_
 refine xSq ?_
 refine xRg ?_
 refine xB 1 [] [(0, vi x), (1, vi y), (7, vi x)] ?_
 obtain ⟨y1, hy1, hS⟩ := letJ_T hS
 refine xE (eC 0 (fun g' lr eb ln => c63 g' (x : Int) hy1)) ?_
 rintro _ g2 _ e3 ⟨_, rfl, rfl, rfl⟩
 refine xB 1 [] [(0, vi x), (1, vi y), (5, vb y1)] ?_
 refine xRe ?_
 refine wpq_then ?_
 refine xSq ?_
 refine xRg ?_
 refine xB 1 [] [(0, vi x), (1, vi y), (5, vb y1), (9, vi y)] ?_
 obtain ⟨y4, hy4, hS⟩ := letJ_T hS
 refine xE (eC 0 (fun g' lr eb ln => c63 g' (y : Int) hy4)) ?_
 rintro _ g5 _ e6 ⟨_, rfl, rfl, rfl⟩
 refine xB 1 [] [(0, vi x), (1, vi y), (5, vb y1), (6, vb y4)] ?_
 refine xRe ?_
 refine wpq_then ?_
 refine xSq ?_
 refine xSq ?_
 refine xRg ?_
 refine xB 1 [] [(0, vi x), (1, vi y), (6, vb y4), (11, vb y1)] ?_
 refine xRe ?_
 refine wpq_then ?_
 refine xCd (y1) (fun h7 => ?_) (fun h7 => ?_)
 ·have hS := cond_T h7 hS
  refine xSq ?_
  refine xSq ?_
  refine xRg ?_
  refine xB 1 [] [(12, vb y4)] ?_
  refine xRe ?_
  refine wpq_then ?_
  refine xCd (y4) (fun h8 => ?_) (fun h8 => ?_)
  ·have hS := cond_T h8 hS
   refine xSq ?_
   refine xRg ?_
   refine xB 1 [] [(4, vi 0)] ?_
   refine xRe ?_
   refine wpq_then ?_
   have eS := hS.symm
   subst eS
   exact xRet [] [4] (e3.trans e6) ⟨by kernel_rfl, by kernel_rfl⟩ (fun _ _ h => h)
  ·have hS := cond_F h8 hS
   refine xSk ?_
   refine wpq_then ?_
   refine xSub [] ?_
   refine xSq ?_
   refine xRg ?_
   refine xB 1 [] [(4, vi (-1))] ?_
   refine xRe ?_
   refine wpq_then ?_
   have eS := hS.symm
   subst eS
   exact xRet [] [4] (e3.trans e6) ⟨by kernel_rfl, by kernel_rfl⟩ (fun _ _ h => h)
 ·have hS := cond_F h7 hS
  refine xSk ?_
  refine wpq_then ?_
  refine xSub [(0, vi x), (1, vi y), (6, vb y4)] ?_
  refine xSq ?_
  refine xSq ?_
  refine xRg ?_
  refine xB 1 [] [(0, vi x), (1, vi y), (13, vb y4)] ?_
  refine xRe ?_
  refine wpq_then ?_
  refine xCd (y4) (fun h9 => ?_) (fun h9 => ?_)
  ·have hS := cond_T h9 hS
   refine xSq ?_
   refine xRg ?_
   refine xB 1 [] [(4, vi 1)] ?_
   refine xRe ?_
   refine wpq_then ?_
   have eS := hS.symm
   subst eS
   exact xRet [] [4] (e3.trans e6) ⟨by kernel_rfl, by kernel_rfl⟩ (fun _ _ h => h)
  ·have hS := cond_F h9 hS
   refine xSk ?_
   refine wpq_then ?_
   refine xSub [(0, vi x), (1, vi y)] ?_
   refine xSq ?_
   refine xSq ?_
   refine xRg ?_
   refine xB 3 [] [(0, vi x), (1, vi y), (16, vb (decide (x < y)))] ?_
   refine xRe ?_
   refine wpq_then ?_
   refine xCd (decide (x < y)) (fun h10 => ?_) (fun h10 => ?_)
   ·have hS := cond_T h10 hS
    have h10p := of_decide_eq_true h10
    refine xSq ?_
    refine xRg ?_
    refine xB 1 [] [(4, vi (-1))] ?_
    refine xRe ?_
    refine wpq_then ?_
    have eS := hS.symm
    subst eS
    exact xRet [] [4] (e3.trans e6) ⟨by kernel_rfl, by kernel_rfl⟩ (fun _ _ h => h)
   ·have hS := cond_F h10 hS
    have h10p := of_decide_eq_false h10
    refine xSk ?_
    refine wpq_then ?_
    refine xSub [(0, vi x), (1, vi y)] ?_
    refine xSq ?_
    refine xSq ?_
    refine xRg ?_
    refine xB 3 [] [(19, vb (decide (x > y)))] ?_
    refine xRe ?_
    refine wpq_then ?_
    refine xCd (decide (x > y)) (fun h11 => ?_) (fun h11 => ?_)
    ·have hS := cond_T h11 hS
     have h11p := of_decide_eq_true h11
     refine xSq ?_
     refine xRg ?_
     refine xB 1 [] [(4, vi 1)] ?_
     refine xRe ?_
     refine wpq_then ?_
     have eS := hS.symm
     subst eS
     exact xRet [] [4] (e3.trans e6) ⟨by kernel_rfl, by kernel_rfl⟩ (fun _ _ h => h)
    ·have hS := cond_F h11 hS
     have h11p := of_decide_eq_false h11
     refine xSk ?_
     refine wpq_then ?_
     refine xSub [] ?_
     refine xSq ?_
     refine xRg ?_
     refine xB 1 [] [(4, vi 0)] ?_
     refine xRe ?_
     refine wpq_then ?_
     have eS := hS.symm
     subst eS
     exact xRet [] [4] (e3.trans e6) ⟨by kernel_rfl, by kernel_rfl⟩ (fun _ _ h => h)

def o43_L0 (vals : List Int) (s6 : Nat) : Option (Ctl (Nat) (Ctl (Unit) (Int))) :=
 (cond (decide (((s6 : Nat) : Int) < (((vals).length : Nat) : Int))) (cond (((List.getD vals s6 0) != 0)) (some (Ctl.done (Ctl.done (((List.getD vals s6 0) : Int))))) (grd (decide (((s6 : Nat) : Int) + 1 ≤ 9223372036854775807)) (some (Ctl.go (s6 + 1))))) (some (Ctl.done (Ctl.go ()))))
def o43 (vals : List Int) : Option (Int) :=
 (joinO (τ := Unit) (ρ := Int) (loopO (σ := Nat) (ρ := Ctl (Unit) (Int)) fuelN (o43_L0 vals) (0)) fun t1 => (some ((0 : Int))))
set_option maxRecDepth 100000 in
theorem c43 (g : Gh) (vals : List Int) (Avals : Option Addr) (cvals : Nat) (fvals : Arr g.r (tyI .i64) Avals cvals vals) {r : Int} (hS : o43 vals = some r) :
  Ctr Try.prog 43 [vs Avals vals cvals] g [] (fun v ψ o => v = vi r ∧ o = []) := by
 unfold o43 at hS
 refine xFn Try.f43 (Try.f43.body.getD .skip) 18 ?_
 have nfvals := fvals.len
 refine xSq ?_
 refine xRg ?_
 refine xB 1 [] [(0, vs Avals vals cvals)] ?_
 refine xRe ?_
 refine wpq_then ?_
 refine xSq ?_
 refine xRg ?_
 refine xB 1 [] [(0, vs Avals vals cvals), (3, vi 0)] ?_
 refine xRe ?_
 refine wpq_then ?_
 refine xSq ?_
 refine xSq ?_
 refine xRg ?_
 refine xB 3 [] [(3, vi 0), (6, vs Avals vals cvals), (7, vi (((vals).length : Nat) : Int)), (8, vi 0)] ?_
 refine xRe ?_
 refine wpq_then ?_
 refine xJoinO hS (fun g own sl t1 => own = [] ∧ sl = [(3, vi 0)]) ?_ ?_
 ·rintro g2 _ _ t1 e3 ⟨rfl, rfl⟩ hS
  refine wpq_then ?_
  refine xSq ?_
  refine xRg ?_
  refine xB 2 [] [(2, vi 0)] ?_
  refine xRe ?_
  refine wpq_then ?_
  have eS := (Option.some.inj hS).symm
  subst eS
  exact xRet [] [2] e3 ⟨by kernel_rfl, by kernel_rfl⟩ (fun _ _ h => h)
 ·intro uu1 hS hN1 hD1
  refine xBl 0 ?_
  refine xSub [(3, vi 0), (6, vs Avals vals cvals), (7, vi (((vals).length : Nat) : Int)), (8, vi 0)] ?_
  refine xLo hS (fun g own sl s6 => own = [] ∧ sl = [(3, vi 0), (6, vs Avals vals cvals), (7, vi (((vals).length : Nat) : Int)), (8, vi ((s6 : Nat) : Int))]) ⟨by kernel_rfl, by kernel_rfl⟩ ?_
  rintro g7 _ _ s6 uu6 e8 ⟨rfl, rfl⟩ hS Qr6 hN6 hD6
  unfold o43_L0 at hS
  refine xSq ?_
  refine xRg ?_
  refine xB 1 [] [(3, vi 0), (6, vs Avals vals cvals), (7, vi (((vals).length : Nat) : Int)), (8, vi ((s6 : Nat) : Int)), (9, vb (decide (((s6 : Nat) : Int) < (((vals).length : Nat) : Int))))] ?_
  refine xRe ?_
  refine wpq_then ?_
  refine xSq ?_
  refine xCd (decide (((s6 : Nat) : Int) < (((vals).length : Nat) : Int))) (fun h9 => ?_) (fun h9 => ?_)
  ·have hS := cond_T h9 hS
   have h9p := of_decide_eq_true h9
   refine xSk ?_
   refine wpq_then ?_
   refine xSub [(3, vi 0), (6, vs Avals vals cvals), (7, vi (((vals).length : Nat) : Int)), (8, vi ((s6 : Nat) : Int))] ?_
   refine xSq ?_
   refine xBl 1 ?_
   refine xSq ?_
   refine xRg ?_
   have fvals := fvals.mono e8.r
   have i11 : s6 < (vals).length := by omega
   obtain ⟨ad10, cs10, hA10, hr10, hc10⟩ := fvals.at_ (get_getD (d := 0) i11)
   have hr10 : cs10 = [vi (List.getD vals s6 0)] := hr10
   subst hr10
   refine xV (qIx s6 1 hA10 rfl i11) ?_
   refine xV (qLdP (Addr.add ad10 (s6 * 1)) 0 hc10) ?_
   refine xB 1 [] [(3, vi 0), (5, vi (List.getD vals s6 0)), (6, vs Avals vals cvals), (7, vi (((vals).length : Nat) : Int)), (8, vi ((s6 : Nat) : Int))] ?_
   refine xRe ?_
   refine wpq_then ?_
   refine xSq ?_
   refine xRg ?_
   refine xB 3 [] [(3, vi 0), (5, vi (List.getD vals s6 0)), (6, vs Avals vals cvals), (7, vi (((vals).length : Nat) : Int)), (8, vi ((s6 : Nat) : Int)), (14, vb ((List.getD vals s6 0) != 0))] ?_
   refine xRe ?_
   refine wpq_then ?_
   refine xCd (((List.getD vals s6 0) != 0)) (fun h12 => ?_) (fun h12 => ?_)
   ·have hS := cond_T h12 hS
    have h12p : ¬ ((List.getD vals s6 0) = 0) := ne_of_bne_ h12
    refine xSq ?_
    refine xRg ?_
    refine xB 2 [] [(2, vi (List.getD vals s6 0))] ?_
    refine xRe ?_
    refine wpq_then ?_
    have eS := (Option.some.inj hS).symm
    have eS := (hD6 _ eS).symm
    have eS := (hD1 _ eS).symm
    subst eS
    exact xRet [] [2] e8 ⟨by kernel_rfl, by kernel_rfl⟩ (fun _ _ h => h)
   ·have hS := cond_F h12 hS
    have h12p : (List.getD vals s6 0) = 0 := eq_of_bne_false_ h12
    refine xSk ?_
    refine wpq_blockN ?_
    refine wpq_then ?_
    refine xSub [(3, vi 0), (6, vs Avals vals cvals), (7, vi (((vals).length : Nat) : Int)), (8, vi ((s6 : Nat) : Int))] ?_
    refine xRg ?_
    obtain ⟨q13, hS⟩ := grd_T hS
    have q13p := of_decide_eq_true q13
    refine xV (qAdd .i64 (((s6 : Nat) : Int)) (1) (wr64 (by omega))) ?_
    refine xB 1 [] [(3, vi 0), (6, vs Avals vals cvals), (7, vi (((vals).length : Nat) : Int)), (8, vi (((s6 : Nat) : Int) + 1))] ?_
    refine xRe ?_
    refine wpq_thenN ?_
    refine xSub [(3, vi 0), (6, vs Avals vals cvals), (7, vi (((vals).length : Nat) : Int)), (8, vi (((s6 : Nat) : Int) + 1))] ?_
    have eS := (Option.some.inj hS).symm
    exact hN6 _ eS _ _ _ (Gh.le.refl _) ⟨by kernel_rfl, by kernel_rfl⟩
  ·have hS := cond_F h9 hS
   have h9p := of_decide_eq_false h9
   refine xEx 0 ?_
   refine wpq_thenX ?_
   refine wpq_thenX ?_
   refine wpq_blockE ?_
   refine xSub [(3, vi 0)] ?_
   have eS := (Option.some.inj hS).symm
   have eS := (hD6 _ eS).symm
   exact hN1 _ eS _ _ _ e8 ⟨by kernel_rfl, by kernel_rfl⟩

end Go.Proofs.Ytfhchendnfpbkaa
