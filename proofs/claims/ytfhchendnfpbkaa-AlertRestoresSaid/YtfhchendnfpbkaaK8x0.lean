/-
Walks, printed by wip/gen, with half of their indentation. Conditions: each theorem's own.
-/
import Derived.Test.YtfhchendnfpbkaaA4
namespace Go.Proofs.Ytfhchendnfpbkaa
set_option linter.unusedVariables false
set_option linter.unusedSimpArgs false
open Go.RowKit
def o11 (l : List AlertDef) : (List AlertDef) :=
 (((List.take ((minI (((l).length : Nat) : Int) 18)).toNat l) : List AlertDef))
set_option maxRecDepth 100000 in
theorem c11 (g : Gh) (l : List AlertDef) (Al : Option Addr) (cl : Nat) (fl : Arr g.b tyAlertDef Al cl l) {r : (List AlertDef)} (hS : o11 l = r) :
  Ctr Try.prog 11 [vs Al l cl] g [] (fun v ψ o => ∃ (Ar_0 : Option Addr) (cr_0 : Nat) (kr_0 : Option Bk), v = vs Ar_0 r cr_0 ∧ o = [kr_0] ∧ Buf ψ tyAlertDef 34 (.slice Ar_0 (r).length cr_0) kr_0 r) := by
 unfold o11 at hS
 refine xFn Try.f11 (Try.f11.body.getD .skip) 10 ?_
 have nfl := fl.len
 refine xSq ?_
 refine xRg ?_
 refine xB 1 [] [(0, vs Al l cl)] ?_
 refine xRe ?_
 refine wpq_then ?_
 refine xSq ?_
 refine xRg ?_
 refine xE (eBs (T := tyAlertDef) (p := g.b) (et := 34) (xs := ([] : List AlertDef)) reps_nil (by simp)) ?_
 rintro _ _ _ - ⟨A1, c1, k1, rfl, rfl, rfl, h1⟩
 have z1 := minI_spec (((l).length : Nat) : Int) 18
 have ncapf2 := fl.cap
 have f2 : Arr g.b tyAlertDef (offA Al cl 0 3) (cl - 0) (List.take ((minI (((l).length : Nat) : Int) 18)).toNat l) := fl.cut_to ((minI (((l).length : Nat) : Int) 18)).toNat (by omega)
 have nf2 := f2.len
 have hlf2 : ((minI (((l).length : Nat) : Int) 18)).toNat - 0 = ((List.take ((minI (((l).length : Nat) : Int) 18)).toNat l)).length := by simp only [List.length_take, List.length_drop] <;> omega
 have hvf2 : ((((List.take ((minI (((l).length : Nat) : Int) 18)).toNat l)).length : Nat) : Int) = (minI (((l).length : Nat) : Int) 18) - 0 := by omega
 refine xB 4 [] [(3, vs A1 ([] : List AlertDef) c1), (4, vs Al l cl), (7, vi (minI (((l).length : Nat) : Int) 18))] ?_
 refine xV (qSl (m := 3) (A := Al) (len := (l).length) (c := cl) 0 ((minI (((l).length : Nat) : Int) 18)).toNat none (some (minI (((l).length : Nat) : Int) 18)) ((List.take ((minI (((l).length : Nat) : Int) 18)).toNat l)).length rfl (show _ = _ by omega) (by omega) (by omega) hlf2) ?_
 obtain ⟨nw3, hp3, hs3⟩ := f2.srcB
 refine xE (eApp (T := tyAlertDef) (p := g.b) (et := 34) (bytes := 24) (xs := ([] : List AlertDef)) (ys := ((List.take ((minI (((l).length : Nat) : Int) 18)).toNat l) : List AlertDef)) 0 h1 rfl (fun w hs => hs3 w _ hs) hp3 (by first | omega | (simp only [List.length_cons, List.length_nil] at *; omega)) (by first | omega | (simp only [List.length_cons, List.length_nil] at *; omega))) ?_
 rintro _ _ _ - ⟨A3, c3, k3, rfl, rfl, rfl, h3⟩
 have h3 : Buf g.b tyAlertDef 34 (.slice A3 (((List.take ((minI (((l).length : Nat) : Int) 18)).toNat l) : List AlertDef)).length c3) k3 ((List.take ((minI (((l).length : Nat) : Int) 18)).toNat l) : List AlertDef) := h3
 have nh3 := h3.len
 refine xB 1 [] [(2, vs A3 (List.take ((minI (((l).length : Nat) : Int) 18)).toNat l) c3)] ?_
 refine xRe ?_
 refine wpq_then ?_
 have eS := hS.symm
 subst eS
 exact xRet [some 0] [2] (Gh.le.refl _) ⟨A3, c3, k3, by kernel_rfl, by kernel_rfl, h3⟩ (fun _ _ h => h)

def o48_L0 (p : List UInt8) (s6 : Int × Nat) : Option (Ctl (Int × Nat) (Int)) :=
 (cond (decide (((s6.2 : Nat) : Int) < 8)) (grd (decide (s6.2 < (p).length)) (grd (decide (0 ≤ (IntKind.i64.wrap (8 * ((s6.2 : Nat) : Int))))) (grd (decide (((s6.2 : Nat) : Int) + 1 ≤ 9223372036854775807)) (some (Ctl.go ((lorK .u64 s6.1 (shlK .u64 ((List.getD p s6.2 0).toNat : Int) (IntKind.i64.wrap (8 * ((s6.2 : Nat) : Int))))), (s6.2 + 1))))))) (some (Ctl.done (s6.1))))
def o48 (p : List UInt8) : Option (Int) :=
 (bindO (τ := Int) (loopO (σ := Int × Nat) (ρ := Int) fuelN (o48_L0 p) (0, 0)) fun t1 => (some (((IntKind.i64.wrap t1) : Int))))
set_option maxRecDepth 100000 in
theorem c48 (g : Gh) (p : List UInt8) (Ap : Option Addr) (cp : Nat) (fp : Arr g.r tyU8 Ap cp p) {r : Int} (hS : o48 p = some r) :
  Ctr Try.prog 48 [vs Ap p cp] g [] (fun v ψ o => v = vi r ∧ o = []) := by
 unfold o48 at hS
 refine xFn Try.f48 (Try.f48.body.getD .skip) 21 ?_
 have nfp := fp.len
 refine xSq ?_
 refine xRg ?_
 refine xB 1 [] [(0, vs Ap p cp)] ?_
 refine xRe ?_
 refine wpq_then ?_
 refine xSq ?_
 refine xRg ?_
 refine xB 1 [] [(0, vs Ap p cp), (3, Value.int .u64 0)] ?_
 refine xRe ?_
 refine wpq_then ?_
 refine xSq ?_
 refine xSq ?_
 refine xRg ?_
 refine xB 1 [] [(0, vs Ap p cp), (3, Value.int .u64 0), (5, vi 0)] ?_
 refine xRe ?_
 refine wpq_then ?_
 refine xBindO hS (fun g own sl t1 => own = [] ∧ sl = [(3, Value.int .u64 t1)]) ?_ ?_
 ·rintro g2 _ _ t1 e3 ⟨rfl, rfl⟩ hS
  refine wpq_then ?_
  refine xSq ?_
  refine xRg ?_
  have z7 := i64_in_ t1
  refine xB 3 [] [(2, vi (IntKind.i64.wrap t1))] ?_
  refine xRe ?_
  refine wpq_then ?_
  have eS := (Option.some.inj hS).symm
  subst eS
  exact xRet [] [2] e3 ⟨by kernel_rfl, by kernel_rfl⟩ (fun _ _ h => h)
 ·intro uu1 hS hN1
  refine xBl 0 ?_
  refine xSub [(0, vs Ap p cp), (3, Value.int .u64 0), (5, vi 0)] ?_
  refine xLo hS (fun g own sl s6 => own = [] ∧ sl = [(0, vs Ap p cp), (3, Value.int .u64 s6.1), (5, vi ((s6.2 : Nat) : Int))]) ⟨by kernel_rfl, by kernel_rfl⟩ ?_
  rintro g7 _ _ s6 uu6 e8 ⟨rfl, rfl⟩ hS Qr6 hN6 hD6
  unfold o48_L0 at hS
  refine xSq ?_
  refine xRg ?_
  refine xB 1 [] [(0, vs Ap p cp), (3, Value.int .u64 s6.1), (5, vi ((s6.2 : Nat) : Int)), (6, vb (decide (((s6.2 : Nat) : Int) < 8)))] ?_
  refine xRe ?_
  refine wpq_then ?_
  refine xSq ?_
  refine xCd (decide (((s6.2 : Nat) : Int) < 8)) (fun h9 => ?_) (fun h9 => ?_)
  ·have hS := cond_T h9 hS
   have h9p := of_decide_eq_true h9
   refine xSk ?_
   refine wpq_then ?_
   refine xSub [(0, vs Ap p cp), (3, Value.int .u64 s6.1), (5, vi ((s6.2 : Nat) : Int))] ?_
   refine xSq ?_
   refine xBl 1 ?_
   refine xSq ?_
   refine xRg ?_
   refine xB 2 [] [(0, vs Ap p cp), (3, Value.int .u64 s6.1), (4, vi ((s6.2 : Nat) : Int)), (5, vi ((s6.2 : Nat) : Int))] ?_
   refine xRe ?_
   refine wpq_then ?_
   refine xRg ?_
   have fp := fp.mono e8.r
   obtain ⟨q11, hS⟩ := grd_T hS
   have q11p := of_decide_eq_true q11
   obtain ⟨ad10, cs10, hA10, hr10, hc10⟩ := fp.at_ (get_getD (d := 0) q11p)
   have hr10 : cs10 = [vy ((List.getD p s6.2 0).toNat : Int)] := hr10
   subst hr10
   have nb10 := UInt8.toNat_lt (List.getD p s6.2 0)
   refine xB 3 [] [(0, vs Ap p cp), (3, Value.int .u64 s6.1), (4, vi ((s6.2 : Nat) : Int)), (5, vi ((s6.2 : Nat) : Int)), (8, Value.int .u64 s6.1), (9, vs Ap p cp), (10, vi ((s6.2 : Nat) : Int))] ?_
   refine xV (qIx s6.2 1 hA10 rfl q11p) ?_
   refine xV (qLdP (Addr.add ad10 (s6.2 * 1)) 0 hc10) ?_
   refine xV (qConv .u8 .u64 (((List.getD p s6.2 0).toNat : Int)) (((List.getD p s6.2 0).toNat : Int)) (wr_u64 (by omega))) ?_
   have z13 := i64_in_ (8 * ((s6.2 : Nat) : Int))
   obtain ⟨q12, hS⟩ := grd_T hS
   have q12p := of_decide_eq_true q12
   refine xB 2 [] [(0, vs Ap p cp), (3, Value.int .u64 s6.1), (5, vi ((s6.2 : Nat) : Int)), (8, Value.int .u64 s6.1), (13, Value.int .u64 ((List.getD p s6.2 0).toNat : Int)), (15, vi (IntKind.i64.wrap (8 * ((s6.2 : Nat) : Int))))] ?_
   refine xV (qShl .u64 .i64 (((List.getD p s6.2 0).toNat : Int)) ((IntKind.i64.wrap (8 * ((s6.2 : Nat) : Int)))) (by omega)) ?_
   refine xB 2 [] [(0, vs Ap p cp), (3, Value.int .u64 (lorK .u64 s6.1 (shlK .u64 ((List.getD p s6.2 0).toNat : Int) (IntKind.i64.wrap (8 * ((s6.2 : Nat) : Int)))))), (5, vi ((s6.2 : Nat) : Int))] ?_
   refine xRe ?_
   refine wpq_blockN ?_
   refine wpq_then ?_
   refine xRg ?_
   obtain ⟨q13, hS⟩ := grd_T hS
   have q13p := of_decide_eq_true q13
   refine xV (qAdd .i64 (((s6.2 : Nat) : Int)) (1) (wr64 (by omega))) ?_
   refine xB 1 [] [(0, vs Ap p cp), (3, Value.int .u64 (lorK .u64 s6.1 (shlK .u64 ((List.getD p s6.2 0).toNat : Int) (IntKind.i64.wrap (8 * ((s6.2 : Nat) : Int)))))), (5, vi (((s6.2 : Nat) : Int) + 1))] ?_
   refine xRe ?_
   refine wpq_thenN ?_
   refine xSub [(0, vs Ap p cp), (3, Value.int .u64 (lorK .u64 s6.1 (shlK .u64 ((List.getD p s6.2 0).toNat : Int) (IntKind.i64.wrap (8 * ((s6.2 : Nat) : Int)))))), (5, vi (((s6.2 : Nat) : Int) + 1))] ?_
   have eS := (Option.some.inj hS).symm
   exact hN6 _ eS _ _ _ (Gh.le.refl _) ⟨by kernel_rfl, by kernel_rfl⟩
  ·have hS := cond_F h9 hS
   have h9p := of_decide_eq_false h9
   refine xEx 0 ?_
   refine wpq_thenX ?_
   refine wpq_thenX ?_
   refine wpq_blockE ?_
   refine xSub [(3, Value.int .u64 s6.1)] ?_
   have eS := (Option.some.inj hS).symm
   have eS := (hD6 _ eS).symm
   exact hN1 _ eS _ _ _ e8 ⟨by kernel_rfl, by kernel_rfl⟩

def o25_L0 (p : List UInt8) (y8 : Int) (d11 : Board) (s23 : Nat × (List Cnd)) : Option (Ctl (Nat × (List Cnd)) (Ctl ((List Cnd)) ((Option Board) × Int))) :=
 (cond (decide (((s23.1 : Nat) : Int) < (((d11.conds).length : Nat) : Int))) (grd (decide (0 ≤ (IntKind.i64.wrap (9 + (IntKind.i64.wrap (9 * ((s23.1 : Nat) : Int))))) ∧ (IntKind.i64.wrap (9 + (IntKind.i64.wrap (9 * ((s23.1 : Nat) : Int))))) ≤ (((p).length : Nat) : Int))) (grd (decide (0 < ((List.drop ((IntKind.i64.wrap (9 + (IntKind.i64.wrap (9 * ((s23.1 : Nat) : Int)))))).toNat p)).length)) (grd (decide (1 ≤ ((((List.drop ((IntKind.i64.wrap (9 + (IntKind.i64.wrap (9 * ((s23.1 : Nat) : Int)))))).toNat p)).length : Nat) : Int))) (bindO (τ := Int) (o48 ((List.drop 1 (List.drop ((IntKind.i64.wrap (9 + (IntKind.i64.wrap (9 * ((s23.1 : Nat) : Int)))))).toNat p)) : List UInt8)) fun y33 => (cond ((((decide (((List.getD (List.drop ((IntKind.i64.wrap (9 + (IntKind.i64.wrap (9 * ((s23.1 : Nat) : Int)))))).toNat p) 0 0).toNat : Int) > 3) || (((List.getD (List.drop ((IntKind.i64.wrap (9 + (IntKind.i64.wrap (9 * ((s23.1 : Nat) : Int)))))).toNat p) 0 0).toNat : Int) == 2)) || ((((List.getD (List.drop ((IntKind.i64.wrap (9 + (IntKind.i64.wrap (9 * ((s23.1 : Nat) : Int)))))).toNat p) 0 0).toNat : Int) == 0) && (y33 != 0))) || ((((List.getD (List.drop ((IntKind.i64.wrap (9 + (IntKind.i64.wrap (9 * ((s23.1 : Nat) : Int)))))).toNat p) 0 0).toNat : Int) != 0) && (decide (y33 < 1) || decide (y33 > y8))))) (some (Ctl.done (Ctl.done (((none : Option Board), (4 : Int)))))) (grd (decide (s23.1 < (s23.2).length)) (grd (decide (((s23.1 : Nat) : Int) + 1 ≤ 9223372036854775807)) (some (Ctl.go ((s23.1 + 1), ((List.set s23.2 s23.1 (⟨y33, (((List.getD (List.drop ((IntKind.i64.wrap (9 + (IntKind.i64.wrap (9 * ((s23.1 : Nat) : Int)))))).toNat p) 0 0).toNat : Int) == 3)⟩ : Cnd)) : List Cnd))))))))))) (some (Ctl.done (Ctl.go (s23.2 : List Cnd)))))
def o25 (l : List AlertDef) (p : List UInt8) : Option ((Option Board) × Int) :=
 (bindO (τ := (Option Board) × Int) (o12 (l : List AlertDef)) fun y1 => (cond ((y1.2 != 0)) (some (((none : Option Board), (y1.2 : Int)))) (cond (((((p).length : Nat) : Int) != (9 + (9 * (((l).length : Nat) : Int))))) (some (((none : Option Board), (4 : Int)))) (bindO (τ := Int) (o48 (p : List UInt8)) fun y8 => (bindO (τ := Board) (y1.1) fun d11 => (cond (((((decide (y8 < 0) || decide (y8 > 4611686018427387904)) || decide (((List.getD p 8 0).toNat : Int) < 1)) || decide (((List.getD p 8 0).toNat : Int) > 8)) || ((y8 == 0) && (((List.getD p 8 0).toNat : Int) != 1)))) (some (((none : Option Board), (4 : Int)))) (joinO (τ := (List Cnd)) (ρ := (Option Board) × Int) (loopO (σ := Nat × (List Cnd)) (ρ := Ctl ((List Cnd)) ((Option Board) × Int)) fuelN (o25_L0 p y8 d11) (0, (d11.conds : List Cnd))) fun t18 => (some (((some (⟨d11.defs, y8, ((List.getD p 8 0).toNat : Int), t18⟩ : Board)), (0 : Int)))))))))))
set_option maxRecDepth 100000 in
theorem c25 (g : Gh) (l : List AlertDef) (Al : Option Addr) (cl : Nat) (p : List UInt8) (Ap : Option Addr) (cp : Nat) (fl : ArrM g.r g.b tyAlertDef Al cl l) (fp : Arr g.r tyU8 Ap cp p) {r : (Option Board) × Int} (hS : o25 l p = some r) :
  Ctr Try.prog 25 [vs Al l cl, vs Ap p cp] g [] (fun v ψ o => ∃ (vr_0 : Value) (kr_0 : Option Bk) (kr_0_0 : Option Bk), v = Value.tuple #[vr_0, vi r.2] ∧ o = [kr_0, kr_0_0] ∧ (r.1 = none → vr_0 = Value.pointer none) ∧ (∀ d, r.1 = some d → ∃ (bd : Nat) (Ad_defs : Option Addr) (cd_defs : Nat) (Ad_conds : Option Addr) (cd_conds : Nat) (kd_conds : Option Bk), vr_0 = Value.pointer (some ⟨bd, 0, none⟩) ∧ kr_0 = some ⟨bd, 71, [vs Ad_defs d.defs cd_defs, vi d.steps, vy d.phase, vs Ad_conds d.conds cd_conds]⟩ ∧ kr_0_0 = kd_conds ∧ Arr ψ tyAlertDef Ad_defs cd_defs d.defs ∧ Buf ψ tyCnd 79 (.slice Ad_conds (d.conds).length cd_conds) kd_conds d.conds)) := by
 unfold o25 at hS
 refine xFn Try.f25 (Try.f25.body.getD .skip) 139 ?_
 have nfl := fl.len
 have nfp := fp.len
 refine xSq ?_
 refine xRg ?_
 refine xB 2 [] [(0, vs Al l cl), (1, vs Ap p cp)] ?_
 refine xRe ?_
 refine wpq_then ?_
 refine xSq ?_
 refine xRg ?_
 refine xB 1 [] [(0, vs Al l cl), (1, vs Ap p cp), (13, vs Al l cl)] ?_
 obtain ⟨y1, hy1, hS⟩ := bindO_T hS
 refine xE (eC 0 (fun g' lr eb ln => c12 g' (l : List AlertDef) Al cl (ArrM.lent fl lr eb) hy1)) ?_
 rintro _ g2 _ e3 ⟨_, rfl, v1_0, k1_0, k1_0_0, rfl, rfl, hn1_0, hs1_0⟩
 refine xB 5 [] [(0, vs Al l cl), (1, vs Ap p cp), (6, v1_0), (7, vi y1.2)] ?_
 refine xRe ?_
 refine wpq_then ?_
 refine xSq ?_
 refine xSq ?_
 refine xRg ?_
 refine xB 2 [] [(0, vs Al l cl), (1, vs Ap p cp), (6, v1_0), (7, vi y1.2), (18, vb (y1.2 != 0))] ?_
 refine xRe ?_
 refine wpq_then ?_
 refine xCd ((y1.2 != 0)) (fun h4 => ?_) (fun h4 => ?_)
 ·have hS := cond_T h4 hS
  have h4p : ¬ (y1.2 = 0) := ne_of_bne_ h4
  refine xSq ?_
  refine xRg ?_
  refine xB 3 [] [(4, vn), (5, vi y1.2)] ?_
  refine xRe ?_
  refine wpq_then ?_
  have eS := (Option.some.inj hS).symm
  subst eS
  exact xRet [none, none] [4, 5] e3 ⟨Value.pointer none, none, none, by kernel_rfl, by kernel_rfl, (fun _ => rfl), (fun _ h => by cases h)⟩ (fun _ _ h => h)
 ·have hS := cond_F h4 hS
  have h4p : y1.2 = 0 := eq_of_bne_false_ h4
  refine xSk ?_
  refine wpq_then ?_
  refine xSub [(0, vs Al l cl), (1, vs Ap p cp), (6, v1_0)] ?_
  refine xSq ?_
  refine xSq ?_
  refine xRg ?_
  refine xB 4 [] [(1, vs Ap p cp), (6, v1_0), (21, vi (((p).length : Nat) : Int)), (23, vi (((l).length : Nat) : Int))] ?_
  refine xV (qMul .i64 (9) ((((l).length : Nat) : Int)) (wr64 (by omega))) ?_
  refine xV (qAdd .i64 (9) ((9 * (((l).length : Nat) : Int))) (wr64 (by omega))) ?_
  refine xB 1 [] [(1, vs Ap p cp), (6, v1_0), (26, vb ((((p).length : Nat) : Int) != (9 + (9 * (((l).length : Nat) : Int)))))] ?_
  refine xRe ?_
  refine wpq_then ?_
  refine xCd (((((p).length : Nat) : Int) != (9 + (9 * (((l).length : Nat) : Int))))) (fun h5 => ?_) (fun h5 => ?_)
  ·have hS := cond_T h5 hS
   have h5p : ¬ ((((p).length : Nat) : Int) = (9 + (9 * (((l).length : Nat) : Int)))) := ne_of_bne_ h5
   refine xSq ?_
   refine xRg ?_
   refine xB 2 [] [(4, vn), (5, vi 4)] ?_
   refine xRe ?_
   refine wpq_then ?_
   have eS := (Option.some.inj hS).symm
   subst eS
   exact xRet [none, none] [4, 5] e3 ⟨Value.pointer none, none, none, by kernel_rfl, by kernel_rfl, (fun _ => rfl), (fun _ h => by cases h)⟩ (fun _ _ h => h)
  ·have hS := cond_F h5 hS
   have h5p : (((p).length : Nat) : Int) = (9 + (9 * (((l).length : Nat) : Int))) := eq_of_bne_false_ h5
   refine xSk ?_
   refine wpq_then ?_
   refine xSub [(1, vs Ap p cp), (6, v1_0)] ?_
   refine xSq ?_
   refine xDr 0 [6] [9, 12, 7, 8, 10, 11] [] 13 (fun RG => ?_) (fun _ _ _ _ _ h => h)
   have fp := fp.mono e3.r
   have i7 : 8 < (p).length := by omega
   obtain ⟨ad6, cs6, hA6, hr6, hc6⟩ := fp.at_ (get_getD (d := 0) i7)
   have hr6 : cs6 = [vy ((List.getD p 8 0).toNat : Int)] := hr6
   subst hr6
   have nb6 := UInt8.toNat_lt (List.getD p 8 0)
   refine xT 9 [0, 1, 2, 4] [] [] [(1, vs Ap p cp), (6, v1_0), (27, v1_0), (28, v1_0), (29, vs Ap p cp), (31, vs Ap p cp)] RG (Psi.le.refl _) ?_
   refine xTp 5 RG (fun _ => (qIx 8 1 hA6 rfl i7)) ?_
   refine xTv 6 [] RG (Psi.le.refl _) (qLdP (Addr.add ad6 (8 * 1)) 0 hc6) ?_
   obtain ⟨y8, hy8, hS⟩ := bindO_T hS
   refine xO1 (lds := [6]) 3 ?_
   refine xIe (lds := [6]) (Psi.le.refl _) (eC 0 (fun g' lr eb ln => c48 g' (p : List UInt8) Ap cp (fp.mono lr) hy8)) ?_
   rintro _ g9 _ e10 ⟨_, rfl, rfl, rfl⟩
   refine kk [] ?_
   obtain ⟨d11, ed11, hS⟩ := bindO_T hS
   obtain ⟨bd11, Ad11_defs, cd11_defs, Ad11_conds, cd11_conds, kd11_conds, rfl, rfl, rfl, fd11_defs, hd11_conds⟩ := hs1_0 d11 ed11
   have nfd11_defs := fd11_defs.len
   have nhd11_conds := hd11_conds.len
   refine xT 4 [7, 8] [] [] [(1, vs Ap p cp), (6, vp bd11 0), (28, vp bd11 0), (30, vi y8), (33, vy ((List.getD p 8 0).toNat : Int)), (35, vp bd11 1)] RG e10.r ?_
   refine xO1 (lds := [6]) 9 ?_
   refine xId (lds := [6]) e10.r (eStL bd11 1 0) ?_
   rintro _ _ _ - ⟨rfl, rfl⟩
   refine kf ?_
   refine xT 1 [10, 11] [] [] [(1, vs Ap p cp), (6, vp bd11 0), (33, vy ((List.getD p 8 0).toNat : Int)), (37, vp bd11 2)] RG e10.r ?_
   refine xO1 (lds := [6]) 12 ?_
   refine xId (lds := [6]) e10.r (eStL bd11 2 0) ?_
   rintro _ _ _ - ⟨rfl, rfl⟩
   refine kf ?_
   refine xAe (lds := [6]) ?_
   refine wpq_then ?_
   refine xSub [(1, vs Ap p cp), (6, vp bd11 0)] ?_
   refine xSq ?_
   refine xSq ?_
   refine xRg ?_
   refine xB 6 [(3, 0)] [(1, vs Ap p cp), (6, vp bd11 0), (43, vb (decide (y8 < 0)))] ?_
   refine wpr_grp 12 [(1, vs Ap p cp), (6, vp bd11 0), (49, vb (decide (y8 < 0) || decide (y8 > 4611686018427387904)))] (fun hk5 => ?_) ?_
   ·refine wpq_split 43 (b := decide (y8 < 0)) (by kernel_rfl) (fun q12 => ?_) (fun q12 => ?_)
    ·have q12p := of_decide_eq_true q12
     refine xB 6 [] [(1, vs Ap p cp), (6, vp bd11 0), (49, vb true)] ?_
     refine wpq_re 49 (v := vb true) (Value.bool ((decide (y8 < 0) || decide (y8 > 4611686018427387904)))) (by kernel_rfl) (re_or1 q12) ?_
     exact wpq_sub _ (by kernel_rfl) hk5
    ·have q12p := of_decide_eq_false q12
     refine xB 6 [(9, 0)] [(1, vs Ap p cp), (6, vp bd11 0), (49, vb (decide (y8 > 4611686018427387904)))] ?_
     refine wpq_re 49 (v := vb (decide (y8 > 4611686018427387904))) (Value.bool ((decide (y8 < 0) || decide (y8 > 4611686018427387904)))) (by kernel_rfl) (re_or0 q12) ?_
     exact wpq_sub _ (by kernel_rfl) hk5
   ·refine xB 1 [] [(1, vs Ap p cp), (6, vp bd11 0), (50, vb (decide (y8 < 0) || decide (y8 > 4611686018427387904)))] ?_
    refine wpr_grp 19 [(1, vs Ap p cp), (6, vp bd11 0), (56, vb ((decide (y8 < 0) || decide (y8 > 4611686018427387904)) || decide (((List.getD p 8 0).toNat : Int) < 1)))] (fun hk12 => ?_) ?_
    ·refine wpq_split 50 (b := (decide (y8 < 0) || decide (y8 > 4611686018427387904))) (by kernel_rfl) (fun q13 => ?_) (fun q13 => ?_)
     ·refine xB 6 [] [(1, vs Ap p cp), (6, vp bd11 0), (56, vb true)] ?_
      refine wpq_re 56 (v := vb true) (Value.bool (((decide (y8 < 0) || decide (y8 > 4611686018427387904)) || decide (((List.getD p 8 0).toNat : Int) < 1)))) (by kernel_rfl) (re_or1 q13) ?_
      exact wpq_sub _ (by kernel_rfl) hk12
     ·have q13l := (or_false_ q13).1
      have q13r := (or_false_ q13).2
      have q13lp := of_decide_eq_false q13l
      have q13rp := of_decide_eq_false q13r
      refine xB 6 [(16, 0)] [(1, vs Ap p cp), (6, vp bd11 0), (56, vb (decide (((List.getD p 8 0).toNat : Int) < 1)))] ?_
      refine wpq_re 56 (v := vb (decide (((List.getD p 8 0).toNat : Int) < 1))) (Value.bool (((decide (y8 < 0) || decide (y8 > 4611686018427387904)) || decide (((List.getD p 8 0).toNat : Int) < 1)))) (by kernel_rfl) (re_or0 q13) ?_
      exact wpq_sub _ (by kernel_rfl) hk12
    ·refine xB 1 [] [(1, vs Ap p cp), (6, vp bd11 0), (57, vb ((decide (y8 < 0) || decide (y8 > 4611686018427387904)) || decide (((List.getD p 8 0).toNat : Int) < 1)))] ?_
     refine wpr_grp 26 [(1, vs Ap p cp), (6, vp bd11 0), (63, vb (((decide (y8 < 0) || decide (y8 > 4611686018427387904)) || decide (((List.getD p 8 0).toNat : Int) < 1)) || decide (((List.getD p 8 0).toNat : Int) > 8)))] (fun hk19 => ?_) ?_
     ·refine wpq_split 57 (b := ((decide (y8 < 0) || decide (y8 > 4611686018427387904)) || decide (((List.getD p 8 0).toNat : Int) < 1))) (by kernel_rfl) (fun q14 => ?_) (fun q14 => ?_)
      ·refine xB 6 [] [(1, vs Ap p cp), (6, vp bd11 0), (63, vb true)] ?_
       refine wpq_re 63 (v := vb true) (Value.bool ((((decide (y8 < 0) || decide (y8 > 4611686018427387904)) || decide (((List.getD p 8 0).toNat : Int) < 1)) || decide (((List.getD p 8 0).toNat : Int) > 8)))) (by kernel_rfl) (re_or1 q14) ?_
       exact wpq_sub _ (by kernel_rfl) hk19
      ·have q14l := (or_false_ q14).1
       have q14r := (or_false_ q14).2
       have q14ll := (or_false_ q14l).1
       have q14lr := (or_false_ q14l).2
       have q14llp := of_decide_eq_false q14ll
       have q14lrp := of_decide_eq_false q14lr
       have q14rp := of_decide_eq_false q14r
       refine xB 6 [(23, 0)] [(1, vs Ap p cp), (6, vp bd11 0), (63, vb (decide (((List.getD p 8 0).toNat : Int) > 8)))] ?_
       refine wpq_re 63 (v := vb (decide (((List.getD p 8 0).toNat : Int) > 8))) (Value.bool ((((decide (y8 < 0) || decide (y8 > 4611686018427387904)) || decide (((List.getD p 8 0).toNat : Int) < 1)) || decide (((List.getD p 8 0).toNat : Int) > 8)))) (by kernel_rfl) (re_or0 q14) ?_
       exact wpq_sub _ (by kernel_rfl) hk19
     ·refine xB 1 [] [(1, vs Ap p cp), (6, vp bd11 0), (64, vb (((decide (y8 < 0) || decide (y8 > 4611686018427387904)) || decide (((List.getD p 8 0).toNat : Int) < 1)) || decide (((List.getD p 8 0).toNat : Int) > 8)))] ?_
      refine wpr_grp 40 [(1, vs Ap p cp), (6, vp bd11 0), (77, vb ((((decide (y8 < 0) || decide (y8 > 4611686018427387904)) || decide (((List.getD p 8 0).toNat : Int) < 1)) || decide (((List.getD p 8 0).toNat : Int) > 8)) || ((y8 == 0) && (((List.getD p 8 0).toNat : Int) != 1))))] (fun hk26 => ?_) ?_
      ·refine wpq_split 64 (b := (((decide (y8 < 0) || decide (y8 > 4611686018427387904)) || decide (((List.getD p 8 0).toNat : Int) < 1)) || decide (((List.getD p 8 0).toNat : Int) > 8))) (by kernel_rfl) (fun q15 => ?_) (fun q15 => ?_)
       ·refine xB 13 [] [(1, vs Ap p cp), (6, vp bd11 0), (77, vb true)] ?_
        refine wpq_re 77 (v := vb true) (Value.bool (((((decide (y8 < 0) || decide (y8 > 4611686018427387904)) || decide (((List.getD p 8 0).toNat : Int) < 1)) || decide (((List.getD p 8 0).toNat : Int) > 8)) || ((y8 == 0) && (((List.getD p 8 0).toNat : Int) != 1))))) (by kernel_rfl) (re_or1 q15) ?_
        exact wpq_sub _ (by kernel_rfl) hk26
       ·have q15l := (or_false_ q15).1
        have q15r := (or_false_ q15).2
        have q15ll := (or_false_ q15l).1
        have q15lr := (or_false_ q15l).2
        have q15lll := (or_false_ q15ll).1
        have q15llr := (or_false_ q15ll).2
        have q15lllp := of_decide_eq_false q15lll
        have q15llrp := of_decide_eq_false q15llr
        have q15lrp := of_decide_eq_false q15lr
        have q15rp := of_decide_eq_false q15r
        refine xB 6 [(30, 0)] [(1, vs Ap p cp), (6, vp bd11 0), (64, vb false), (70, vb (y8 == 0))] ?_
        refine wpr_grp 39 [(1, vs Ap p cp), (6, vp bd11 0), (64, vb false), (76, vb ((y8 == 0) && (((List.getD p 8 0).toNat : Int) != 1)))] (fun hk32 => ?_) ?_
        ·refine wpq_split 70 (b := (y8 == 0)) (by kernel_rfl) (fun q16 => ?_) (fun q16 => ?_)
         ·have q16p : y8 = 0 := eq_of_beq q16
          refine xB 6 [(36, 0)] [(1, vs Ap p cp), (6, vp bd11 0), (64, vb false), (76, vb (((List.getD p 8 0).toNat : Int) != 1))] ?_
          refine wpq_re 76 (v := vb (((List.getD p 8 0).toNat : Int) != 1)) (Value.bool (((y8 == 0) && (((List.getD p 8 0).toNat : Int) != 1)))) (by kernel_rfl) (re_and1 q16) ?_
          exact wpq_sub _ (by kernel_rfl) hk32
         ·have q16p : ¬ (y8 = 0) := ne_of_beq_false_ q16
          refine xB 6 [] [(1, vs Ap p cp), (6, vp bd11 0), (64, vb false), (76, vb false)] ?_
          refine wpq_re 76 (v := vb false) (Value.bool (((y8 == 0) && (((List.getD p 8 0).toNat : Int) != 1)))) (by kernel_rfl) (re_and0 q16) ?_
          exact wpq_sub _ (by kernel_rfl) hk32
        ·refine xB 1 [] [(1, vs Ap p cp), (6, vp bd11 0), (77, vb ((y8 == 0) && (((List.getD p 8 0).toNat : Int) != 1)))] ?_
         refine wpq_re 77 (v := vb ((y8 == 0) && (((List.getD p 8 0).toNat : Int) != 1))) (Value.bool (((((decide (y8 < 0) || decide (y8 > 4611686018427387904)) || decide (((List.getD p 8 0).toNat : Int) < 1)) || decide (((List.getD p 8 0).toNat : Int) > 8)) || ((y8 == 0) && (((List.getD p 8 0).toNat : Int) != 1))))) (by kernel_rfl) (re_or0 q15) ?_
         exact wpq_sub _ (by kernel_rfl) hk26
      ·refine xRe ?_
       refine wpq_then ?_
       refine xCd (((((decide (y8 < 0) || decide (y8 > 4611686018427387904)) || decide (((List.getD p 8 0).toNat : Int) < 1)) || decide (((List.getD p 8 0).toNat : Int) > 8)) || ((y8 == 0) && (((List.getD p 8 0).toNat : Int) != 1)))) (fun h17 => ?_) (fun h17 => ?_)
       ·have hS := cond_T h17 hS
        refine xSq ?_
        refine xRg ?_
        refine xB 2 [] [(4, vn), (5, vi 4)] ?_
        refine xRe ?_
        refine wpq_then ?_
        have eS := (Option.some.inj hS).symm
        subst eS
        exact xRet [none, none] [4, 5] (e3.trans e10) ⟨Value.pointer none, none, none, by kernel_rfl, by kernel_rfl, (fun _ => rfl), (fun _ h => by cases h)⟩ (fun _ _ h => h)
       ·have hS := cond_F h17 hS
        have h17l := (or_false_ h17).1
        have h17r := (or_false_ h17).2
        have h17ll := (or_false_ h17l).1
        have h17lr := (or_false_ h17l).2
        have h17lll := (or_false_ h17ll).1
        have h17llr := (or_false_ h17ll).2
        have h17llll := (or_false_ h17lll).1
        have h17lllr := (or_false_ h17lll).2
        have h17llllp := of_decide_eq_false h17llll
        have h17lllrp := of_decide_eq_false h17lllr
        have h17llrp := of_decide_eq_false h17llr
        have h17lrp := of_decide_eq_false h17lr
        refine xSk ?_
        refine wpq_then ?_
        refine xSub [(1, vs Ap p cp), (6, vp bd11 0)] ?_
        refine xSq ?_
        refine xSq ?_
        refine xRg ?_
        refine xB 6 [(3, 0)] [(1, vs Ap p cp), (6, vp bd11 0), (82, vi (((d11.conds).length : Nat) : Int)), (83, vi 0)] ?_
        refine xRe ?_
        refine wpq_then ?_
        refine xJoinO hS (fun g own sl t18 => ∃ (k18_0 : Option Bk), own = [some ⟨bd11, 71, (cBoard (⟨d11.defs, y8, ((List.getD p 8 0).toNat : Int), t18⟩ : Board) Ad11_defs cd11_defs Ad11_conds cd11_conds)⟩, k18_0] ∧ sl = [(6, vp bd11 0)] ∧ Buf g.b tyCnd 79 (.slice Ad11_conds (t18).length cd11_conds) k18_0 t18) ?_ ?_
        ·rintro g19 _ _ t18 e20 ⟨k18_0, rfl, rfl, h18_0⟩ hS
         have nh18_0 := h18_0.len
         refine wpq_then ?_
         refine xSq ?_
         refine xRg ?_
         refine xB 3 [] [(4, vp bd11 0), (5, vi 0)] ?_
         refine xRe ?_
         refine wpq_then ?_
         have fd11_defs := fd11_defs.mono (e10.trans e20).b
         have eS := (Option.some.inj hS).symm
         subst eS
         exact xRet [some 0, some 1] [4, 5] (e3.trans (e10.trans e20)) ⟨vp bd11 0, some ⟨bd11, 71, (cBoard (⟨d11.defs, y8, ((List.getD p 8 0).toNat : Int), t18⟩ : Board) Ad11_defs cd11_defs Ad11_conds cd11_conds)⟩, k18_0, by kernel_rfl, by kernel_rfl, (fun h => by cases h), (fun _ h => by cases h; exact ⟨bd11, Ad11_defs, cd11_defs, Ad11_conds, cd11_conds, k18_0, rfl, rfl, rfl, fd11_defs, h18_0⟩)⟩ (fun _ _ h => h)
        ·intro uu18 hS hN18 hD18
         refine xBl 0 ?_
         have hd11_conds := hd11_conds.mono e10.b
         refine xSub [(1, vs Ap p cp), (6, vp bd11 0), (82, vi (((d11.conds).length : Nat) : Int)), (83, vi 0)] ?_
         refine xLo hS (fun g own sl s23 => ∃ (k23_1 : Option Bk), own = [some ⟨bd11, 71, (cBoard (⟨d11.defs, y8, ((List.getD p 8 0).toNat : Int), s23.2⟩ : Board) Ad11_defs cd11_defs Ad11_conds cd11_conds)⟩, k23_1] ∧ sl = [(1, vs Ap p cp), (6, vp bd11 0), (82, vi (((d11.conds).length : Nat) : Int)), (83, vi ((s23.1 : Nat) : Int))] ∧ Buf g.b tyCnd 79 (.slice Ad11_conds (s23.2).length cd11_conds) k23_1 s23.2) ⟨k1_0_0, by kernel_rfl, by kernel_rfl, hd11_conds⟩ ?_
         rintro g24 _ _ s23 uu23 e25 ⟨k23_1, rfl, rfl, h23_1⟩ hS Qr23 hN23 hD23
         have nh23_1 := h23_1.len
         unfold o25_L0 at hS
         refine xSq ?_
         refine xRg ?_
         refine xB 1 [] [(1, vs Ap p cp), (6, vp bd11 0), (82, vi (((d11.conds).length : Nat) : Int)), (83, vi ((s23.1 : Nat) : Int)), (84, vb (decide (((s23.1 : Nat) : Int) < (((d11.conds).length : Nat) : Int))))] ?_
         refine xRe ?_
         refine wpq_then ?_
         refine xSq ?_
         refine xCd (decide (((s23.1 : Nat) : Int) < (((d11.conds).length : Nat) : Int))) (fun h26 => ?_) (fun h26 => ?_)
         ·have hS := cond_T h26 hS
          have h26p := of_decide_eq_true h26
          refine xSk ?_
          refine wpq_then ?_
          refine xSub [(1, vs Ap p cp), (6, vp bd11 0), (82, vi (((d11.conds).length : Nat) : Int)), (83, vi ((s23.1 : Nat) : Int))] ?_
          refine xSq ?_
          refine xBl 1 ?_
          refine xSq ?_
          refine xRg ?_
          refine xB 2 [] [(1, vs Ap p cp), (6, vp bd11 0), (8, vi ((s23.1 : Nat) : Int)), (82, vi (((d11.conds).length : Nat) : Int)), (83, vi ((s23.1 : Nat) : Int))] ?_
          refine xRe ?_
          refine wpq_then ?_
          refine xSq ?_
          refine xRg ?_
          have z23 := i64_in_ (9 * ((s23.1 : Nat) : Int))
          have z24 := i64_in_ (9 + (IntKind.i64.wrap (9 * ((s23.1 : Nat) : Int))))
          have fp := fp.mono (e10.trans e25).r
          obtain ⟨q27, hS⟩ := grd_T hS
          have q27p := of_decide_eq_true q27
          have ncapf28 := fp.cap
          have f28 : Arr g24.r tyU8 (offA Ap cp ((IntKind.i64.wrap (9 + (IntKind.i64.wrap (9 * ((s23.1 : Nat) : Int)))))).toNat 1) (cp - ((IntKind.i64.wrap (9 + (IntKind.i64.wrap (9 * ((s23.1 : Nat) : Int)))))).toNat) (List.drop ((IntKind.i64.wrap (9 + (IntKind.i64.wrap (9 * ((s23.1 : Nat) : Int)))))).toNat p) := fp.cut_from ((IntKind.i64.wrap (9 + (IntKind.i64.wrap (9 * ((s23.1 : Nat) : Int)))))).toNat (by omega)
          have nf28 := f28.len
          have hlf28 : (p).length - ((IntKind.i64.wrap (9 + (IntKind.i64.wrap (9 * ((s23.1 : Nat) : Int)))))).toNat = ((List.drop ((IntKind.i64.wrap (9 + (IntKind.i64.wrap (9 * ((s23.1 : Nat) : Int)))))).toNat p)).length := by simp only [List.length_take, List.length_drop] <;> omega
          have hvf28 : ((((List.drop ((IntKind.i64.wrap (9 + (IntKind.i64.wrap (9 * ((s23.1 : Nat) : Int)))))).toNat p)).length : Nat) : Int) = (((p).length : Nat) : Int) - (IntKind.i64.wrap (9 + (IntKind.i64.wrap (9 * ((s23.1 : Nat) : Int))))) := by omega
          refine xB 4 [] [(1, vs Ap p cp), (6, vp bd11 0), (8, vi ((s23.1 : Nat) : Int)), (82, vi (((d11.conds).length : Nat) : Int)), (83, vi ((s23.1 : Nat) : Int)), (86, vs Ap p cp), (89, vi (IntKind.i64.wrap (9 + (IntKind.i64.wrap (9 * ((s23.1 : Nat) : Int))))))] ?_
          refine xV (qSl (m := 1) (A := Ap) (len := (p).length) (c := cp) ((IntKind.i64.wrap (9 + (IntKind.i64.wrap (9 * ((s23.1 : Nat) : Int)))))).toNat (p).length (some (IntKind.i64.wrap (9 + (IntKind.i64.wrap (9 * ((s23.1 : Nat) : Int)))))) none ((List.drop ((IntKind.i64.wrap (9 + (IntKind.i64.wrap (9 * ((s23.1 : Nat) : Int)))))).toNat p)).length (show _ = _ by omega) rfl (by omega) (by omega) hlf28) ?_
          refine xB 1 [] [(1, vs Ap p cp), (6, vp bd11 0), (8, vi ((s23.1 : Nat) : Int)), (9, vs (offA Ap cp ((IntKind.i64.wrap (9 + (IntKind.i64.wrap (9 * ((s23.1 : Nat) : Int)))))).toNat 1) (List.drop ((IntKind.i64.wrap (9 + (IntKind.i64.wrap (9 * ((s23.1 : Nat) : Int)))))).toNat p) (cp - ((IntKind.i64.wrap (9 + (IntKind.i64.wrap (9 * ((s23.1 : Nat) : Int)))))).toNat)), (82, vi (((d11.conds).length : Nat) : Int)), (83, vi ((s23.1 : Nat) : Int))] ?_
          refine xRe ?_
          refine wpq_then ?_
          refine xSq ?_
          refine xDr 0 [2] [6, 7] [some ⟨bd11, 71, (cBoard (⟨d11.defs, y8, ((List.getD p 8 0).toNat : Int), s23.2⟩ : Board) Ad11_defs cd11_defs Ad11_conds cd11_conds)⟩] 8 (fun RG => ?_) (fun _ _ _ _ _ h => h)
          obtain ⟨q30, hS⟩ := grd_T hS
          have q30p := of_decide_eq_true q30
          obtain ⟨ad29, cs29, hA29, hr29, hc29⟩ := f28.at_ (get_getD (d := 0) q30p)
          have hr29 : cs29 = [vy ((List.getD (List.drop ((IntKind.i64.wrap (9 + (IntKind.i64.wrap (9 * ((s23.1 : Nat) : Int)))))).toNat p) 0 0).toNat : Int)] := hr29
          subst hr29
          have nb29 := UInt8.toNat_lt (List.getD (List.drop ((IntKind.i64.wrap (9 + (IntKind.i64.wrap (9 * ((s23.1 : Nat) : Int)))))).toNat p) 0 0)
          refine xT 7 [0] [] [some 0] [(1, vs Ap p cp), (6, vp bd11 0), (8, vi ((s23.1 : Nat) : Int)), (9, vs (offA Ap cp ((IntKind.i64.wrap (9 + (IntKind.i64.wrap (9 * ((s23.1 : Nat) : Int)))))).toNat 1) (List.drop ((IntKind.i64.wrap (9 + (IntKind.i64.wrap (9 * ((s23.1 : Nat) : Int)))))).toNat p) (cp - ((IntKind.i64.wrap (9 + (IntKind.i64.wrap (9 * ((s23.1 : Nat) : Int)))))).toNat)), (82, vi (((d11.conds).length : Nat) : Int)), (83, vi ((s23.1 : Nat) : Int)), (91, vs (offA Ap cp ((IntKind.i64.wrap (9 + (IntKind.i64.wrap (9 * ((s23.1 : Nat) : Int)))))).toNat 1) (List.drop ((IntKind.i64.wrap (9 + (IntKind.i64.wrap (9 * ((s23.1 : Nat) : Int)))))).toNat p) (cp - ((IntKind.i64.wrap (9 + (IntKind.i64.wrap (9 * ((s23.1 : Nat) : Int)))))).toNat))] RG (Psi.le.refl _) ?_
          refine xTp 1 RG (fun _ => (qIx 0 1 hA29 rfl q30p)) ?_
          refine xTv 2 [some 0] RG (Psi.le.refl _) (qLdP (Addr.add ad29 (0 * 1)) 0 hc29) ?_
          obtain ⟨q31, hS⟩ := grd_T hS
          have q31p := of_decide_eq_true q31
          have ncapf32 := f28.cap
          have f32 : Arr g24.r tyU8 (offA (offA Ap cp ((IntKind.i64.wrap (9 + (IntKind.i64.wrap (9 * ((s23.1 : Nat) : Int)))))).toNat 1) (cp - ((IntKind.i64.wrap (9 + (IntKind.i64.wrap (9 * ((s23.1 : Nat) : Int)))))).toNat) 1 1) ((cp - ((IntKind.i64.wrap (9 + (IntKind.i64.wrap (9 * ((s23.1 : Nat) : Int)))))).toNat) - 1) (List.drop 1 (List.drop ((IntKind.i64.wrap (9 + (IntKind.i64.wrap (9 * ((s23.1 : Nat) : Int)))))).toNat p)) := f28.cut_from 1 (by omega)
          have nf32 := f32.len
          have hlf32 : ((List.drop ((IntKind.i64.wrap (9 + (IntKind.i64.wrap (9 * ((s23.1 : Nat) : Int)))))).toNat p)).length - 1 = ((List.drop 1 (List.drop ((IntKind.i64.wrap (9 + (IntKind.i64.wrap (9 * ((s23.1 : Nat) : Int)))))).toNat p))).length := by simp only [List.length_take, List.length_drop] <;> omega
          have hvf32 : ((((List.drop 1 (List.drop ((IntKind.i64.wrap (9 + (IntKind.i64.wrap (9 * ((s23.1 : Nat) : Int)))))).toNat p))).length : Nat) : Int) = ((((List.drop ((IntKind.i64.wrap (9 + (IntKind.i64.wrap (9 * ((s23.1 : Nat) : Int)))))).toNat p)).length : Nat) : Int) - 1 := by omega
          refine xT 4 [3] [] [some 0] [(1, vs Ap p cp), (6, vp bd11 0), (8, vi ((s23.1 : Nat) : Int)), (82, vi (((d11.conds).length : Nat) : Int)), (83, vi ((s23.1 : Nat) : Int)), (93, vy ((List.getD (List.drop ((IntKind.i64.wrap (9 + (IntKind.i64.wrap (9 * ((s23.1 : Nat) : Int)))))).toNat p) 0 0).toNat : Int)), (94, vs (offA Ap cp ((IntKind.i64.wrap (9 + (IntKind.i64.wrap (9 * ((s23.1 : Nat) : Int)))))).toNat 1) (List.drop ((IntKind.i64.wrap (9 + (IntKind.i64.wrap (9 * ((s23.1 : Nat) : Int)))))).toNat p) (cp - ((IntKind.i64.wrap (9 + (IntKind.i64.wrap (9 * ((s23.1 : Nat) : Int)))))).toNat))] RG (Psi.le.refl _) ?_
          refine xTp 4 RG (fun _ => (qSl (m := 1) (A := (offA Ap cp ((IntKind.i64.wrap (9 + (IntKind.i64.wrap (9 * ((s23.1 : Nat) : Int)))))).toNat 1)) (len := ((List.drop ((IntKind.i64.wrap (9 + (IntKind.i64.wrap (9 * ((s23.1 : Nat) : Int)))))).toNat p)).length) (c := (cp - ((IntKind.i64.wrap (9 + (IntKind.i64.wrap (9 * ((s23.1 : Nat) : Int)))))).toNat)) 1 ((List.drop ((IntKind.i64.wrap (9 + (IntKind.i64.wrap (9 * ((s23.1 : Nat) : Int)))))).toNat p)).length (some 1) none ((List.drop 1 (List.drop ((IntKind.i64.wrap (9 + (IntKind.i64.wrap (9 * ((s23.1 : Nat) : Int)))))).toNat p))).length rfl rfl (by omega) (by omega) hlf32)) ?_
          obtain ⟨y33, hy33, hS⟩ := bindO_T hS
          refine xO1 (lds := [2]) 5 ?_
          refine xIe (lds := [2]) (Psi.le.refl _) (eC 0 (fun g' lr eb ln => c48 g' ((List.drop 1 (List.drop ((IntKind.i64.wrap (9 + (IntKind.i64.wrap (9 * ((s23.1 : Nat) : Int)))))).toNat p)) : List UInt8) (offA (offA Ap cp ((IntKind.i64.wrap (9 + (IntKind.i64.wrap (9 * ((s23.1 : Nat) : Int)))))).toNat 1) (cp - ((IntKind.i64.wrap (9 + (IntKind.i64.wrap (9 * ((s23.1 : Nat) : Int)))))).toNat) 1 1) ((cp - ((IntKind.i64.wrap (9 + (IntKind.i64.wrap (9 * ((s23.1 : Nat) : Int)))))).toNat) - 1) (f32.mono lr) hy33)) ?_
          rintro _ g34 _ e35 ⟨_, rfl, rfl, rfl⟩
          refine kk [some 0] ?_
          refine xT 0 [6, 7] [] [some 0] [(1, vs Ap p cp), (6, vp bd11 0), (8, vi ((s23.1 : Nat) : Int)), (10, vy ((List.getD (List.drop ((IntKind.i64.wrap (9 + (IntKind.i64.wrap (9 * ((s23.1 : Nat) : Int)))))).toNat p) 0 0).toNat : Int)), (11, vi y33), (82, vi (((d11.conds).length : Nat) : Int)), (83, vi ((s23.1 : Nat) : Int))] RG e35.r ?_
          refine xAe (lds := [2]) ?_
          refine wpq_then ?_
          refine xSq ?_
          refine xSq ?_
          refine xRg ?_
          refine xB 3 [] [(1, vs Ap p cp), (6, vp bd11 0), (8, vi ((s23.1 : Nat) : Int)), (10, vy ((List.getD (List.drop ((IntKind.i64.wrap (9 + (IntKind.i64.wrap (9 * ((s23.1 : Nat) : Int)))))).toNat p) 0 0).toNat : Int)), (11, vi y33), (82, vi (((d11.conds).length : Nat) : Int)), (83, vi ((s23.1 : Nat) : Int)), (99, vb (decide (((List.getD (List.drop ((IntKind.i64.wrap (9 + (IntKind.i64.wrap (9 * ((s23.1 : Nat) : Int)))))).toNat p) 0 0).toNat : Int) > 3)))] ?_
          refine wpr_grp 6 [(1, vs Ap p cp), (6, vp bd11 0), (8, vi ((s23.1 : Nat) : Int)), (10, vy ((List.getD (List.drop ((IntKind.i64.wrap (9 + (IntKind.i64.wrap (9 * ((s23.1 : Nat) : Int)))))).toNat p) 0 0).toNat : Int)), (11, vi y33), (82, vi (((d11.conds).length : Nat) : Int)), (83, vi ((s23.1 : Nat) : Int)), (102, vb (decide (((List.getD (List.drop ((IntKind.i64.wrap (9 + (IntKind.i64.wrap (9 * ((s23.1 : Nat) : Int)))))).toNat p) 0 0).toNat : Int) > 3) || (((List.getD (List.drop ((IntKind.i64.wrap (9 + (IntKind.i64.wrap (9 * ((s23.1 : Nat) : Int)))))).toNat p) 0 0).toNat : Int) == 2)))] (fun hk2 => ?_) ?_
          ·refine wpq_split 99 (b := decide (((List.getD (List.drop ((IntKind.i64.wrap (9 + (IntKind.i64.wrap (9 * ((s23.1 : Nat) : Int)))))).toNat p) 0 0).toNat : Int) > 3)) (by kernel_rfl) (fun q36 => ?_) (fun q36 => ?_)
           ·have q36p := of_decide_eq_true q36
            refine xB 3 [] [(1, vs Ap p cp), (6, vp bd11 0), (8, vi ((s23.1 : Nat) : Int)), (10, vy ((List.getD (List.drop ((IntKind.i64.wrap (9 + (IntKind.i64.wrap (9 * ((s23.1 : Nat) : Int)))))).toNat p) 0 0).toNat : Int)), (11, vi y33), (82, vi (((d11.conds).length : Nat) : Int)), (83, vi ((s23.1 : Nat) : Int)), (102, vb true)] ?_
            refine wpq_re 102 (v := vb true) (Value.bool ((decide (((List.getD (List.drop ((IntKind.i64.wrap (9 + (IntKind.i64.wrap (9 * ((s23.1 : Nat) : Int)))))).toNat p) 0 0).toNat : Int) > 3) || (((List.getD (List.drop ((IntKind.i64.wrap (9 + (IntKind.i64.wrap (9 * ((s23.1 : Nat) : Int)))))).toNat p) 0 0).toNat : Int) == 2)))) (by kernel_rfl) (re_or1 q36) ?_
            exact wpq_sub _ (by kernel_rfl) hk2
           ·have q36p := of_decide_eq_false q36
            refine xB 3 [] [(1, vs Ap p cp), (6, vp bd11 0), (8, vi ((s23.1 : Nat) : Int)), (10, vy ((List.getD (List.drop ((IntKind.i64.wrap (9 + (IntKind.i64.wrap (9 * ((s23.1 : Nat) : Int)))))).toNat p) 0 0).toNat : Int)), (11, vi y33), (82, vi (((d11.conds).length : Nat) : Int)), (83, vi ((s23.1 : Nat) : Int)), (102, vb (((List.getD (List.drop ((IntKind.i64.wrap (9 + (IntKind.i64.wrap (9 * ((s23.1 : Nat) : Int)))))).toNat p) 0 0).toNat : Int) == 2))] ?_
            refine wpq_re 102 (v := vb (((List.getD (List.drop ((IntKind.i64.wrap (9 + (IntKind.i64.wrap (9 * ((s23.1 : Nat) : Int)))))).toNat p) 0 0).toNat : Int) == 2)) (Value.bool ((decide (((List.getD (List.drop ((IntKind.i64.wrap (9 + (IntKind.i64.wrap (9 * ((s23.1 : Nat) : Int)))))).toNat p) 0 0).toNat : Int) > 3) || (((List.getD (List.drop ((IntKind.i64.wrap (9 + (IntKind.i64.wrap (9 * ((s23.1 : Nat) : Int)))))).toNat p) 0 0).toNat : Int) == 2)))) (by kernel_rfl) (re_or0 q36) ?_
            exact wpq_sub _ (by kernel_rfl) hk2
          ·refine xB 1 [] [(1, vs Ap p cp), (6, vp bd11 0), (8, vi ((s23.1 : Nat) : Int)), (10, vy ((List.getD (List.drop ((IntKind.i64.wrap (9 + (IntKind.i64.wrap (9 * ((s23.1 : Nat) : Int)))))).toNat p) 0 0).toNat : Int)), (11, vi y33), (82, vi (((d11.conds).length : Nat) : Int)), (83, vi ((s23.1 : Nat) : Int)), (103, vb (decide (((List.getD (List.drop ((IntKind.i64.wrap (9 + (IntKind.i64.wrap (9 * ((s23.1 : Nat) : Int)))))).toNat p) 0 0).toNat : Int) > 3) || (((List.getD (List.drop ((IntKind.i64.wrap (9 + (IntKind.i64.wrap (9 * ((s23.1 : Nat) : Int)))))).toNat p) 0 0).toNat : Int) == 2)))] ?_
           refine wpr_grp 14 [(1, vs Ap p cp), (6, vp bd11 0), (8, vi ((s23.1 : Nat) : Int)), (10, vy ((List.getD (List.drop ((IntKind.i64.wrap (9 + (IntKind.i64.wrap (9 * ((s23.1 : Nat) : Int)))))).toNat p) 0 0).toNat : Int)), (11, vi y33), (82, vi (((d11.conds).length : Nat) : Int)), (83, vi ((s23.1 : Nat) : Int)), (110, vb ((decide (((List.getD (List.drop ((IntKind.i64.wrap (9 + (IntKind.i64.wrap (9 * ((s23.1 : Nat) : Int)))))).toNat p) 0 0).toNat : Int) > 3) || (((List.getD (List.drop ((IntKind.i64.wrap (9 + (IntKind.i64.wrap (9 * ((s23.1 : Nat) : Int)))))).toNat p) 0 0).toNat : Int) == 2)) || ((((List.getD (List.drop ((IntKind.i64.wrap (9 + (IntKind.i64.wrap (9 * ((s23.1 : Nat) : Int)))))).toNat p) 0 0).toNat : Int) == 0) && (y33 != 0))))] (fun hk6 => ?_) ?_
           ·refine wpq_split 103 (b := (decide (((List.getD (List.drop ((IntKind.i64.wrap (9 + (IntKind.i64.wrap (9 * ((s23.1 : Nat) : Int)))))).toNat p) 0 0).toNat : Int) > 3) || (((List.getD (List.drop ((IntKind.i64.wrap (9 + (IntKind.i64.wrap (9 * ((s23.1 : Nat) : Int)))))).toNat p) 0 0).toNat : Int) == 2))) (by kernel_rfl) (fun q37 => ?_) (fun q37 => ?_)
            ·refine xB 7 [] [(1, vs Ap p cp), (6, vp bd11 0), (8, vi ((s23.1 : Nat) : Int)), (10, vy ((List.getD (List.drop ((IntKind.i64.wrap (9 + (IntKind.i64.wrap (9 * ((s23.1 : Nat) : Int)))))).toNat p) 0 0).toNat : Int)), (11, vi y33), (82, vi (((d11.conds).length : Nat) : Int)), (83, vi ((s23.1 : Nat) : Int)), (110, vb true)] ?_
             refine wpq_re 110 (v := vb true) (Value.bool (((decide (((List.getD (List.drop ((IntKind.i64.wrap (9 + (IntKind.i64.wrap (9 * ((s23.1 : Nat) : Int)))))).toNat p) 0 0).toNat : Int) > 3) || (((List.getD (List.drop ((IntKind.i64.wrap (9 + (IntKind.i64.wrap (9 * ((s23.1 : Nat) : Int)))))).toNat p) 0 0).toNat : Int) == 2)) || ((((List.getD (List.drop ((IntKind.i64.wrap (9 + (IntKind.i64.wrap (9 * ((s23.1 : Nat) : Int)))))).toNat p) 0 0).toNat : Int) == 0) && (y33 != 0))))) (by kernel_rfl) (re_or1 q37) ?_
             exact wpq_sub _ (by kernel_rfl) hk6
            ·have q37l := (or_false_ q37).1
             have q37r := (or_false_ q37).2
             have q37lp := of_decide_eq_false q37l
             have q37rp : ¬ (((List.getD (List.drop ((IntKind.i64.wrap (9 + (IntKind.i64.wrap (9 * ((s23.1 : Nat) : Int)))))).toNat p) 0 0).toNat : Int) = 2) := ne_of_beq_false_ q37r
             refine xB 3 [] [(1, vs Ap p cp), (6, vp bd11 0), (8, vi ((s23.1 : Nat) : Int)), (10, vy ((List.getD (List.drop ((IntKind.i64.wrap (9 + (IntKind.i64.wrap (9 * ((s23.1 : Nat) : Int)))))).toNat p) 0 0).toNat : Int)), (11, vi y33), (82, vi (((d11.conds).length : Nat) : Int)), (83, vi ((s23.1 : Nat) : Int)), (103, vb false), (106, vb (((List.getD (List.drop ((IntKind.i64.wrap (9 + (IntKind.i64.wrap (9 * ((s23.1 : Nat) : Int)))))).toNat p) 0 0).toNat : Int) == 0))] ?_
             refine wpr_grp 13 [(1, vs Ap p cp), (6, vp bd11 0), (8, vi ((s23.1 : Nat) : Int)), (10, vy ((List.getD (List.drop ((IntKind.i64.wrap (9 + (IntKind.i64.wrap (9 * ((s23.1 : Nat) : Int)))))).toNat p) 0 0).toNat : Int)), (11, vi y33), (82, vi (((d11.conds).length : Nat) : Int)), (83, vi ((s23.1 : Nat) : Int)), (103, vb false), (109, vb ((((List.getD (List.drop ((IntKind.i64.wrap (9 + (IntKind.i64.wrap (9 * ((s23.1 : Nat) : Int)))))).toNat p) 0 0).toNat : Int) == 0) && (y33 != 0)))] (fun hk9 => ?_) ?_
             ·refine wpq_split 106 (b := (((List.getD (List.drop ((IntKind.i64.wrap (9 + (IntKind.i64.wrap (9 * ((s23.1 : Nat) : Int)))))).toNat p) 0 0).toNat : Int) == 0)) (by kernel_rfl) (fun q38 => ?_) (fun q38 => ?_)
              ·have q38p : ((List.getD (List.drop ((IntKind.i64.wrap (9 + (IntKind.i64.wrap (9 * ((s23.1 : Nat) : Int)))))).toNat p) 0 0).toNat : Int) = 0 := eq_of_beq q38
               refine xB 3 [] [(1, vs Ap p cp), (6, vp bd11 0), (8, vi ((s23.1 : Nat) : Int)), (10, vy ((List.getD (List.drop ((IntKind.i64.wrap (9 + (IntKind.i64.wrap (9 * ((s23.1 : Nat) : Int)))))).toNat p) 0 0).toNat : Int)), (11, vi y33), (82, vi (((d11.conds).length : Nat) : Int)), (83, vi ((s23.1 : Nat) : Int)), (103, vb false), (109, vb (y33 != 0))] ?_
               refine wpq_re 109 (v := vb (y33 != 0)) (Value.bool (((((List.getD (List.drop ((IntKind.i64.wrap (9 + (IntKind.i64.wrap (9 * ((s23.1 : Nat) : Int)))))).toNat p) 0 0).toNat : Int) == 0) && (y33 != 0)))) (by kernel_rfl) (re_and1 q38) ?_
               exact wpq_sub _ (by kernel_rfl) hk9
              ·have q38p : ¬ (((List.getD (List.drop ((IntKind.i64.wrap (9 + (IntKind.i64.wrap (9 * ((s23.1 : Nat) : Int)))))).toNat p) 0 0).toNat : Int) = 0) := ne_of_beq_false_ q38
               refine xB 3 [] [(1, vs Ap p cp), (6, vp bd11 0), (8, vi ((s23.1 : Nat) : Int)), (10, vy ((List.getD (List.drop ((IntKind.i64.wrap (9 + (IntKind.i64.wrap (9 * ((s23.1 : Nat) : Int)))))).toNat p) 0 0).toNat : Int)), (11, vi y33), (82, vi (((d11.conds).length : Nat) : Int)), (83, vi ((s23.1 : Nat) : Int)), (103, vb false), (109, vb false)] ?_
               refine wpq_re 109 (v := vb false) (Value.bool (((((List.getD (List.drop ((IntKind.i64.wrap (9 + (IntKind.i64.wrap (9 * ((s23.1 : Nat) : Int)))))).toNat p) 0 0).toNat : Int) == 0) && (y33 != 0)))) (by kernel_rfl) (re_and0 q38) ?_
               exact wpq_sub _ (by kernel_rfl) hk9
             ·refine xB 1 [] [(1, vs Ap p cp), (6, vp bd11 0), (8, vi ((s23.1 : Nat) : Int)), (10, vy ((List.getD (List.drop ((IntKind.i64.wrap (9 + (IntKind.i64.wrap (9 * ((s23.1 : Nat) : Int)))))).toNat p) 0 0).toNat : Int)), (11, vi y33), (82, vi (((d11.conds).length : Nat) : Int)), (83, vi ((s23.1 : Nat) : Int)), (110, vb ((((List.getD (List.drop ((IntKind.i64.wrap (9 + (IntKind.i64.wrap (9 * ((s23.1 : Nat) : Int)))))).toNat p) 0 0).toNat : Int) == 0) && (y33 != 0)))] ?_
              refine wpq_re 110 (v := vb ((((List.getD (List.drop ((IntKind.i64.wrap (9 + (IntKind.i64.wrap (9 * ((s23.1 : Nat) : Int)))))).toNat p) 0 0).toNat : Int) == 0) && (y33 != 0))) (Value.bool (((decide (((List.getD (List.drop ((IntKind.i64.wrap (9 + (IntKind.i64.wrap (9 * ((s23.1 : Nat) : Int)))))).toNat p) 0 0).toNat : Int) > 3) || (((List.getD (List.drop ((IntKind.i64.wrap (9 + (IntKind.i64.wrap (9 * ((s23.1 : Nat) : Int)))))).toNat p) 0 0).toNat : Int) == 2)) || ((((List.getD (List.drop ((IntKind.i64.wrap (9 + (IntKind.i64.wrap (9 * ((s23.1 : Nat) : Int)))))).toNat p) 0 0).toNat : Int) == 0) && (y33 != 0))))) (by kernel_rfl) (re_or0 q37) ?_
              exact wpq_sub _ (by kernel_rfl) hk6
           ·refine xB 1 [] [(1, vs Ap p cp), (6, vp bd11 0), (8, vi ((s23.1 : Nat) : Int)), (10, vy ((List.getD (List.drop ((IntKind.i64.wrap (9 + (IntKind.i64.wrap (9 * ((s23.1 : Nat) : Int)))))).toNat p) 0 0).toNat : Int)), (11, vi y33), (82, vi (((d11.conds).length : Nat) : Int)), (83, vi ((s23.1 : Nat) : Int)), (111, vb ((decide (((List.getD (List.drop ((IntKind.i64.wrap (9 + (IntKind.i64.wrap (9 * ((s23.1 : Nat) : Int)))))).toNat p) 0 0).toNat : Int) > 3) || (((List.getD (List.drop ((IntKind.i64.wrap (9 + (IntKind.i64.wrap (9 * ((s23.1 : Nat) : Int)))))).toNat p) 0 0).toNat : Int) == 2)) || ((((List.getD (List.drop ((IntKind.i64.wrap (9 + (IntKind.i64.wrap (9 * ((s23.1 : Nat) : Int)))))).toNat p) 0 0).toNat : Int) == 0) && (y33 != 0))))] ?_
            refine wpr_grp 30 [(1, vs Ap p cp), (6, vp bd11 0), (8, vi ((s23.1 : Nat) : Int)), (10, vy ((List.getD (List.drop ((IntKind.i64.wrap (9 + (IntKind.i64.wrap (9 * ((s23.1 : Nat) : Int)))))).toNat p) 0 0).toNat : Int)), (11, vi y33), (82, vi (((d11.conds).length : Nat) : Int)), (83, vi ((s23.1 : Nat) : Int)), (126, vb (((decide (((List.getD (List.drop ((IntKind.i64.wrap (9 + (IntKind.i64.wrap (9 * ((s23.1 : Nat) : Int)))))).toNat p) 0 0).toNat : Int) > 3) || (((List.getD (List.drop ((IntKind.i64.wrap (9 + (IntKind.i64.wrap (9 * ((s23.1 : Nat) : Int)))))).toNat p) 0 0).toNat : Int) == 2)) || ((((List.getD (List.drop ((IntKind.i64.wrap (9 + (IntKind.i64.wrap (9 * ((s23.1 : Nat) : Int)))))).toNat p) 0 0).toNat : Int) == 0) && (y33 != 0))) || ((((List.getD (List.drop ((IntKind.i64.wrap (9 + (IntKind.i64.wrap (9 * ((s23.1 : Nat) : Int)))))).toNat p) 0 0).toNat : Int) != 0) && (decide (y33 < 1) || decide (y33 > y8)))))] (fun hk14 => ?_) ?_
            ·refine wpq_split 111 (b := ((decide (((List.getD (List.drop ((IntKind.i64.wrap (9 + (IntKind.i64.wrap (9 * ((s23.1 : Nat) : Int)))))).toNat p) 0 0).toNat : Int) > 3) || (((List.getD (List.drop ((IntKind.i64.wrap (9 + (IntKind.i64.wrap (9 * ((s23.1 : Nat) : Int)))))).toNat p) 0 0).toNat : Int) == 2)) || ((((List.getD (List.drop ((IntKind.i64.wrap (9 + (IntKind.i64.wrap (9 * ((s23.1 : Nat) : Int)))))).toNat p) 0 0).toNat : Int) == 0) && (y33 != 0)))) (by kernel_rfl) (fun q39 => ?_) (fun q39 => ?_)
             ·refine xB 15 [] [(1, vs Ap p cp), (6, vp bd11 0), (8, vi ((s23.1 : Nat) : Int)), (10, vy ((List.getD (List.drop ((IntKind.i64.wrap (9 + (IntKind.i64.wrap (9 * ((s23.1 : Nat) : Int)))))).toNat p) 0 0).toNat : Int)), (11, vi y33), (82, vi (((d11.conds).length : Nat) : Int)), (83, vi ((s23.1 : Nat) : Int)), (126, vb true)] ?_
              refine wpq_re 126 (v := vb true) (Value.bool ((((decide (((List.getD (List.drop ((IntKind.i64.wrap (9 + (IntKind.i64.wrap (9 * ((s23.1 : Nat) : Int)))))).toNat p) 0 0).toNat : Int) > 3) || (((List.getD (List.drop ((IntKind.i64.wrap (9 + (IntKind.i64.wrap (9 * ((s23.1 : Nat) : Int)))))).toNat p) 0 0).toNat : Int) == 2)) || ((((List.getD (List.drop ((IntKind.i64.wrap (9 + (IntKind.i64.wrap (9 * ((s23.1 : Nat) : Int)))))).toNat p) 0 0).toNat : Int) == 0) && (y33 != 0))) || ((((List.getD (List.drop ((IntKind.i64.wrap (9 + (IntKind.i64.wrap (9 * ((s23.1 : Nat) : Int)))))).toNat p) 0 0).toNat : Int) != 0) && (decide (y33 < 1) || decide (y33 > y8)))))) (by kernel_rfl) (re_or1 q39) ?_
              exact wpq_sub _ (by kernel_rfl) hk14
             ·have q39l := (or_false_ q39).1
              have q39r := (or_false_ q39).2
              have q39ll := (or_false_ q39l).1
              have q39lr := (or_false_ q39l).2
              have q39llp := of_decide_eq_false q39ll
              have q39lrp : ¬ (((List.getD (List.drop ((IntKind.i64.wrap (9 + (IntKind.i64.wrap (9 * ((s23.1 : Nat) : Int)))))).toNat p) 0 0).toNat : Int) = 2) := ne_of_beq_false_ q39lr
              refine xB 3 [] [(1, vs Ap p cp), (6, vp bd11 0), (8, vi ((s23.1 : Nat) : Int)), (10, vy ((List.getD (List.drop ((IntKind.i64.wrap (9 + (IntKind.i64.wrap (9 * ((s23.1 : Nat) : Int)))))).toNat p) 0 0).toNat : Int)), (11, vi y33), (82, vi (((d11.conds).length : Nat) : Int)), (83, vi ((s23.1 : Nat) : Int)), (111, vb false), (114, vb (((List.getD (List.drop ((IntKind.i64.wrap (9 + (IntKind.i64.wrap (9 * ((s23.1 : Nat) : Int)))))).toNat p) 0 0).toNat : Int) != 0))] ?_
              refine wpr_grp 29 [(1, vs Ap p cp), (6, vp bd11 0), (8, vi ((s23.1 : Nat) : Int)), (10, vy ((List.getD (List.drop ((IntKind.i64.wrap (9 + (IntKind.i64.wrap (9 * ((s23.1 : Nat) : Int)))))).toNat p) 0 0).toNat : Int)), (11, vi y33), (82, vi (((d11.conds).length : Nat) : Int)), (83, vi ((s23.1 : Nat) : Int)), (111, vb false), (125, vb ((((List.getD (List.drop ((IntKind.i64.wrap (9 + (IntKind.i64.wrap (9 * ((s23.1 : Nat) : Int)))))).toNat p) 0 0).toNat : Int) != 0) && (decide (y33 < 1) || decide (y33 > y8))))] (fun hk17 => ?_) ?_
              ·refine wpq_split 114 (b := (((List.getD (List.drop ((IntKind.i64.wrap (9 + (IntKind.i64.wrap (9 * ((s23.1 : Nat) : Int)))))).toNat p) 0 0).toNat : Int) != 0)) (by kernel_rfl) (fun q40 => ?_) (fun q40 => ?_)
               ·have q40p : ¬ (((List.getD (List.drop ((IntKind.i64.wrap (9 + (IntKind.i64.wrap (9 * ((s23.1 : Nat) : Int)))))).toNat p) 0 0).toNat : Int) = 0) := ne_of_bne_ q40
                refine xB 3 [] [(1, vs Ap p cp), (6, vp bd11 0), (8, vi ((s23.1 : Nat) : Int)), (10, vy ((List.getD (List.drop ((IntKind.i64.wrap (9 + (IntKind.i64.wrap (9 * ((s23.1 : Nat) : Int)))))).toNat p) 0 0).toNat : Int)), (11, vi y33), (82, vi (((d11.conds).length : Nat) : Int)), (83, vi ((s23.1 : Nat) : Int)), (111, vb false), (114, vb true), (117, vb (decide (y33 < 1)))] ?_
                refine wpr_grp 28 [(1, vs Ap p cp), (6, vp bd11 0), (8, vi ((s23.1 : Nat) : Int)), (10, vy ((List.getD (List.drop ((IntKind.i64.wrap (9 + (IntKind.i64.wrap (9 * ((s23.1 : Nat) : Int)))))).toNat p) 0 0).toNat : Int)), (11, vi y33), (82, vi (((d11.conds).length : Nat) : Int)), (83, vi ((s23.1 : Nat) : Int)), (111, vb false), (114, vb true), (124, vb (decide (y33 < 1) || decide (y33 > y8)))] (fun hk20 => ?_) ?_
                ·refine wpq_split 117 (b := decide (y33 < 1)) (by kernel_rfl) (fun q41 => ?_) (fun q41 => ?_)
                 ·have q41p := of_decide_eq_true q41
                  refine xB 7 [] [(1, vs Ap p cp), (6, vp bd11 0), (8, vi ((s23.1 : Nat) : Int)), (10, vy ((List.getD (List.drop ((IntKind.i64.wrap (9 + (IntKind.i64.wrap (9 * ((s23.1 : Nat) : Int)))))).toNat p) 0 0).toNat : Int)), (11, vi y33), (82, vi (((d11.conds).length : Nat) : Int)), (83, vi ((s23.1 : Nat) : Int)), (111, vb false), (114, vb true), (124, vb true)] ?_
                  refine wpq_re 124 (v := vb true) (Value.bool ((decide (y33 < 1) || decide (y33 > y8)))) (by kernel_rfl) (re_or1 q41) ?_
                  exact wpq_sub _ (by kernel_rfl) hk20
                 ·have q41p := of_decide_eq_false q41
                  refine xB 7 [(25, 0)] [(1, vs Ap p cp), (6, vp bd11 0), (8, vi ((s23.1 : Nat) : Int)), (10, vy ((List.getD (List.drop ((IntKind.i64.wrap (9 + (IntKind.i64.wrap (9 * ((s23.1 : Nat) : Int)))))).toNat p) 0 0).toNat : Int)), (11, vi y33), (82, vi (((d11.conds).length : Nat) : Int)), (83, vi ((s23.1 : Nat) : Int)), (111, vb false), (114, vb true), (124, vb (decide (y33 > y8)))] ?_
                  refine wpq_re 124 (v := vb (decide (y33 > y8))) (Value.bool ((decide (y33 < 1) || decide (y33 > y8)))) (by kernel_rfl) (re_or0 q41) ?_
                  exact wpq_sub _ (by kernel_rfl) hk20
                ·refine xB 1 [] [(1, vs Ap p cp), (6, vp bd11 0), (8, vi ((s23.1 : Nat) : Int)), (10, vy ((List.getD (List.drop ((IntKind.i64.wrap (9 + (IntKind.i64.wrap (9 * ((s23.1 : Nat) : Int)))))).toNat p) 0 0).toNat : Int)), (11, vi y33), (82, vi (((d11.conds).length : Nat) : Int)), (83, vi ((s23.1 : Nat) : Int)), (111, vb false), (125, vb (decide (y33 < 1) || decide (y33 > y8)))] ?_
                 refine wpq_re 125 (v := vb (decide (y33 < 1) || decide (y33 > y8))) (Value.bool (((((List.getD (List.drop ((IntKind.i64.wrap (9 + (IntKind.i64.wrap (9 * ((s23.1 : Nat) : Int)))))).toNat p) 0 0).toNat : Int) != 0) && (decide (y33 < 1) || decide (y33 > y8))))) (by kernel_rfl) (re_and1 q40) ?_
                 exact wpq_sub _ (by kernel_rfl) hk17
               ·have q40p : ((List.getD (List.drop ((IntKind.i64.wrap (9 + (IntKind.i64.wrap (9 * ((s23.1 : Nat) : Int)))))).toNat p) 0 0).toNat : Int) = 0 := eq_of_bne_false_ q40
                refine xB 11 [] [(1, vs Ap p cp), (6, vp bd11 0), (8, vi ((s23.1 : Nat) : Int)), (10, vy ((List.getD (List.drop ((IntKind.i64.wrap (9 + (IntKind.i64.wrap (9 * ((s23.1 : Nat) : Int)))))).toNat p) 0 0).toNat : Int)), (11, vi y33), (82, vi (((d11.conds).length : Nat) : Int)), (83, vi ((s23.1 : Nat) : Int)), (111, vb false), (125, vb false)] ?_
                refine wpq_re 125 (v := vb false) (Value.bool (((((List.getD (List.drop ((IntKind.i64.wrap (9 + (IntKind.i64.wrap (9 * ((s23.1 : Nat) : Int)))))).toNat p) 0 0).toNat : Int) != 0) && (decide (y33 < 1) || decide (y33 > y8))))) (by kernel_rfl) (re_and0 q40) ?_
                exact wpq_sub _ (by kernel_rfl) hk17
              ·refine xB 1 [] [(1, vs Ap p cp), (6, vp bd11 0), (8, vi ((s23.1 : Nat) : Int)), (10, vy ((List.getD (List.drop ((IntKind.i64.wrap (9 + (IntKind.i64.wrap (9 * ((s23.1 : Nat) : Int)))))).toNat p) 0 0).toNat : Int)), (11, vi y33), (82, vi (((d11.conds).length : Nat) : Int)), (83, vi ((s23.1 : Nat) : Int)), (126, vb ((((List.getD (List.drop ((IntKind.i64.wrap (9 + (IntKind.i64.wrap (9 * ((s23.1 : Nat) : Int)))))).toNat p) 0 0).toNat : Int) != 0) && (decide (y33 < 1) || decide (y33 > y8))))] ?_
               refine wpq_re 126 (v := vb ((((List.getD (List.drop ((IntKind.i64.wrap (9 + (IntKind.i64.wrap (9 * ((s23.1 : Nat) : Int)))))).toNat p) 0 0).toNat : Int) != 0) && (decide (y33 < 1) || decide (y33 > y8)))) (Value.bool ((((decide (((List.getD (List.drop ((IntKind.i64.wrap (9 + (IntKind.i64.wrap (9 * ((s23.1 : Nat) : Int)))))).toNat p) 0 0).toNat : Int) > 3) || (((List.getD (List.drop ((IntKind.i64.wrap (9 + (IntKind.i64.wrap (9 * ((s23.1 : Nat) : Int)))))).toNat p) 0 0).toNat : Int) == 2)) || ((((List.getD (List.drop ((IntKind.i64.wrap (9 + (IntKind.i64.wrap (9 * ((s23.1 : Nat) : Int)))))).toNat p) 0 0).toNat : Int) == 0) && (y33 != 0))) || ((((List.getD (List.drop ((IntKind.i64.wrap (9 + (IntKind.i64.wrap (9 * ((s23.1 : Nat) : Int)))))).toNat p) 0 0).toNat : Int) != 0) && (decide (y33 < 1) || decide (y33 > y8)))))) (by kernel_rfl) (re_or0 q39) ?_
               exact wpq_sub _ (by kernel_rfl) hk14
            ·refine xRe ?_
             refine wpq_then ?_
             refine xCd ((((decide (((List.getD (List.drop ((IntKind.i64.wrap (9 + (IntKind.i64.wrap (9 * ((s23.1 : Nat) : Int)))))).toNat p) 0 0).toNat : Int) > 3) || (((List.getD (List.drop ((IntKind.i64.wrap (9 + (IntKind.i64.wrap (9 * ((s23.1 : Nat) : Int)))))).toNat p) 0 0).toNat : Int) == 2)) || ((((List.getD (List.drop ((IntKind.i64.wrap (9 + (IntKind.i64.wrap (9 * ((s23.1 : Nat) : Int)))))).toNat p) 0 0).toNat : Int) == 0) && (y33 != 0))) || ((((List.getD (List.drop ((IntKind.i64.wrap (9 + (IntKind.i64.wrap (9 * ((s23.1 : Nat) : Int)))))).toNat p) 0 0).toNat : Int) != 0) && (decide (y33 < 1) || decide (y33 > y8))))) (fun h42 => ?_) (fun h42 => ?_)
             ·have hS := cond_T h42 hS
              refine xSq ?_
              refine xRg ?_
              refine xB 2 [] [(4, vn), (5, vi 4)] ?_
              refine xRe ?_
              refine wpq_then ?_
              have eS := (Option.some.inj hS).symm
              have eS := (hD23 _ eS).symm
              have eS := (hD18 _ eS).symm
              subst eS
              exact xRet [none, none] [4, 5] (e3.trans (e10.trans (e25.trans e35))) ⟨Value.pointer none, none, none, by kernel_rfl, by kernel_rfl, (fun _ => rfl), (fun _ h => by cases h)⟩ (fun _ _ h => h)
             ·have hS := cond_F h42 hS
              have h42l := (or_false_ h42).1
              have h42r := (or_false_ h42).2
              have h42ll := (or_false_ h42l).1
              have h42lr := (or_false_ h42l).2
              have h42lll := (or_false_ h42ll).1
              have h42llr := (or_false_ h42ll).2
              have h42lllp := of_decide_eq_false h42lll
              have h42llrp : ¬ (((List.getD (List.drop ((IntKind.i64.wrap (9 + (IntKind.i64.wrap (9 * ((s23.1 : Nat) : Int)))))).toNat p) 0 0).toNat : Int) = 2) := ne_of_beq_false_ h42llr
              refine xSk ?_
              refine wpq_then ?_
              refine xSub [(1, vs Ap p cp), (6, vp bd11 0), (8, vi ((s23.1 : Nat) : Int)), (10, vy ((List.getD (List.drop ((IntKind.i64.wrap (9 + (IntKind.i64.wrap (9 * ((s23.1 : Nat) : Int)))))).toNat p) 0 0).toNat : Int)), (11, vi y33), (82, vi (((d11.conds).length : Nat) : Int)), (83, vi ((s23.1 : Nat) : Int))] ?_
              refine xRg ?_
              have h23_1 := h23_1.mono e35.b
              obtain ⟨q44, hS⟩ := grd_T hS
              have q44p := of_decide_eq_true q44
              obtain ⟨kc43, cs43, hA43, hk43, hr43, hw43⟩ := h23_1.open_ q44p default
              obtain ⟨kb43, rfl⟩ : ∃ z, z = kc43 := ⟨_, rfl⟩
              subst hk43
              obtain ⟨rfl⟩ := hr43
              refine xB 9 [(3, 0)] [(1, vs Ap p cp), (6, vp bd11 0), (82, vi (((d11.conds).length : Nat) : Int)), (83, vi ((s23.1 : Nat) : Int)), (130, vs Ad11_conds s23.2 cd11_conds), (131, vi ((s23.1 : Nat) : Int)), (135, Value.agg #[vi y33, vb (((List.getD (List.drop ((IntKind.i64.wrap (9 + (IntKind.i64.wrap (9 * ((s23.1 : Nat) : Int)))))).toNat p) 0 0).toNat : Int) == 3)])] ?_
              refine xV (qIxB s23.1 2 kb43.g hA43 rfl q44p) ?_
              refine xD (eStB s23.1 2 0 1 [vi y33, vb (((List.getD (List.drop ((IntKind.i64.wrap (9 + (IntKind.i64.wrap (9 * ((s23.1 : Nat) : Int)))))).toNat p) 0 0).toNat : Int) == 3)] h23_1 rfl hw43 (show tyCnd.rep _ _ (⟨y33, (((List.getD (List.drop ((IntKind.i64.wrap (9 + (IntKind.i64.wrap (9 * ((s23.1 : Nat) : Int)))))).toNat p) 0 0).toNat : Int) == 3)⟩ : Cnd) from rfl) q44p) ?_
              rintro _ _ _ - ⟨k45, rfl, rfl, h45⟩
              have hz45 : (s23.2).length = ((List.set s23.2 s23.1 (⟨y33, (((List.getD (List.drop ((IntKind.i64.wrap (9 + (IntKind.i64.wrap (9 * ((s23.1 : Nat) : Int)))))).toNat p) 0 0).toNat : Int) == 3)⟩ : Cnd))).length := by simp
              refine xRe ?_
              refine wpq_blockN ?_
              refine wpq_then ?_
              refine xSub [(1, vs Ap p cp), (6, vp bd11 0), (82, vi (((d11.conds).length : Nat) : Int)), (83, vi ((s23.1 : Nat) : Int))] ?_
              refine xRg ?_
              obtain ⟨q46, hS⟩ := grd_T hS
              have q46p := of_decide_eq_true q46
              refine xV (qAdd .i64 (((s23.1 : Nat) : Int)) (1) (wr64 (by omega))) ?_
              refine xB 1 [] [(1, vs Ap p cp), (6, vp bd11 0), (82, vi (((d11.conds).length : Nat) : Int)), (83, vi (((s23.1 : Nat) : Int) + 1))] ?_
              refine xRe ?_
              refine wpq_thenN ?_
              refine xOwn [some ⟨bd11, 71, [vs Ad11_defs d11.defs cd11_defs, vi y8, vy ((List.getD p 8 0).toNat : Int), Value.slice Ad11_conds ((s23.2).length) cd11_conds]⟩, k45] ?_
              have h45 := Buf.re h45 hz45 (rfl : (List.set s23.2 s23.1 (⟨y33, (((List.getD (List.drop ((IntKind.i64.wrap (9 + (IntKind.i64.wrap (9 * ((s23.1 : Nat) : Int)))))).toNat p) 0 0).toNat : Int) == 3)⟩ : Cnd)) = _)
              refine wpq_own [some ⟨bd11, 71, (cBoard (⟨d11.defs, y8, ((List.getD p 8 0).toNat : Int), (List.set s23.2 s23.1 (⟨y33, (((List.getD (List.drop ((IntKind.i64.wrap (9 + (IntKind.i64.wrap (9 * ((s23.1 : Nat) : Int)))))).toNat p) 0 0).toNat : Int) == 3)⟩ : Cnd))⟩ : Board) Ad11_defs cd11_defs Ad11_conds cd11_conds)⟩, k45] (by rw [hz45]) ?_
              refine xSub [(1, vs Ap p cp), (6, vp bd11 0), (82, vi (((d11.conds).length : Nat) : Int)), (83, vi (((s23.1 : Nat) : Int) + 1))] ?_
              have eS := (Option.some.inj hS).symm
              exact hN23 _ eS _ _ _ e35 ⟨k45, by kernel_rfl, by kernel_rfl, h45⟩
         ·have hS := cond_F h26 hS
          have h26p := of_decide_eq_false h26
          refine xEx 0 ?_
          refine wpq_thenX ?_
          refine wpq_thenX ?_
          refine wpq_blockE ?_
          refine xSub [(6, vp bd11 0)] ?_
          have eS := (Option.some.inj hS).symm
          have eS := (hD23 _ eS).symm
          exact hN18 _ eS _ _ _ e25 ⟨k23_1, by kernel_rfl, by kernel_rfl, h23_1⟩

def o37_L0 (s : List UInt8) (s14 : Nat) : Option (Ctl (Nat) (Ctl (Unit) (Bool))) :=
 (cond (decide (((s14 : Nat) : Int) < (((s).length : Nat) : Int))) (bindO (τ := Bool) (cond ((!((decide ((((List.getD (s : List UInt8) s14 0)).toNat : Int) ≥ 65) && decide ((((List.getD (s : List UInt8) s14 0)).toNat : Int) ≤ 90)) || (decide ((((List.getD (s : List UInt8) s14 0)).toNat : Int) ≥ 48) && decide ((((List.getD (s : List UInt8) s14 0)).toNat : Int) ≤ 57))))) (bindO (τ := Bool) (cond (((((List.getD (s : List UInt8) s14 0)).toNat : Int) != 32)) (some (true)) (grd (decide (0 ≤ (IntKind.i64.wrap (((s14 : Nat) : Int) - 1)) ∧ (IntKind.i64.wrap (((s14 : Nat) : Int) - 1)) < (((s).length : Nat) : Int))) (some ((((List.getD (s : List UInt8) ((IntKind.i64.wrap (((s14 : Nat) : Int) - 1))).toNat 0)).toNat : Int) == 32)))) fun t37 => (some (t37))) (some (false))) fun t29 => (cond (t29) (some (Ctl.done (Ctl.done ((false))))) (grd (decide (((s14 : Nat) : Int) + 1 ≤ 9223372036854775807)) (some (Ctl.go (s14 + 1)))))) (some (Ctl.done (Ctl.go ()))))
def o37 (s : List UInt8) : Option (Bool) :=
 (bindO (τ := Bool) (cond (((decide ((((s).length : Nat) : Int) < 1) || decide ((((s).length : Nat) : Int) > 20)) || ((((List.getD (s : List UInt8) 0 0)).toNat : Int) == 32))) (some (true)) (grd (decide (0 ≤ ((((s).length : Nat) : Int) - 1) ∧ ((((s).length : Nat) : Int) - 1) < (((s).length : Nat) : Int))) (some ((((List.getD (s : List UInt8) (((((s).length : Nat) : Int) - 1)).toNat 0)).toNat : Int) == 32)))) fun t5 => (cond (t5) (some ((false))) (joinO (τ := Unit) (ρ := Bool) (loopO (σ := Nat) (ρ := Ctl (Unit) (Bool)) fuelN (o37_L0 s) (0)) fun t9 => (some ((true))))))
set_option maxRecDepth 100000 in
theorem c37 (g : Gh) (s : List UInt8) {r : Bool} (hS : o37 s = some r) :
  Ctr Try.prog 37 [vt s] g [] (fun v ψ o => v = vb r ∧ o = []) := by
 unfold o37 at hS
 refine xFn Try.f37 (Try.f37.body.getD .skip) 69 ?_
 refine xSq ?_
 refine xRg ?_
 refine xB 1 [] [(0, vt s)] ?_
 refine xRe ?_
 refine wpq_then ?_
 refine xSq ?_
 refine xSq ?_
 refine xRg ?_
 refine xB 4 [] [(0, vt s), (8, vb (decide ((((s).length : Nat) : Int) < 1)))] ?_
 refine wpr_grp 8 [(0, vt s), (12, vb (decide ((((s).length : Nat) : Int) < 1) || decide ((((s).length : Nat) : Int) > 20)))] (fun hk3 => ?_) ?_
 ·refine wpq_split 8 (b := decide ((((s).length : Nat) : Int) < 1)) (by kernel_rfl) (fun q1 => ?_) (fun q1 => ?_)
  ·have q1p := of_decide_eq_true q1
   refine xB 4 [] [(0, vt s), (12, vb true)] ?_
   refine wpq_re 12 (v := vb true) (Value.bool ((decide ((((s).length : Nat) : Int) < 1) || decide ((((s).length : Nat) : Int) > 20)))) (by kernel_rfl) (re_or1 q1) ?_
   exact wpq_sub _ (by kernel_rfl) hk3
  ·have q1p := of_decide_eq_false q1
   refine xB 4 [] [(0, vt s), (12, vb (decide ((((s).length : Nat) : Int) > 20)))] ?_
   refine wpq_re 12 (v := vb (decide ((((s).length : Nat) : Int) > 20))) (Value.bool ((decide ((((s).length : Nat) : Int) < 1) || decide ((((s).length : Nat) : Int) > 20)))) (by kernel_rfl) (re_or0 q1) ?_
   exact wpq_sub _ (by kernel_rfl) hk3
 ·refine xB 1 [] [(0, vt s), (13, vb (decide ((((s).length : Nat) : Int) < 1) || decide ((((s).length : Nat) : Int) > 20)))] ?_
  refine wpr_grp 13 [(0, vt s), (17, vb ((decide ((((s).length : Nat) : Int) < 1) || decide ((((s).length : Nat) : Int) > 20)) || ((((List.getD (s : List UInt8) 0 0)).toNat : Int) == 32)))] (fun hk8 => ?_) ?_
  ·refine wpq_split 13 (b := (decide ((((s).length : Nat) : Int) < 1) || decide ((((s).length : Nat) : Int) > 20))) (by kernel_rfl) (fun q2 => ?_) (fun q2 => ?_)
   ·refine xB 4 [] [(0, vt s), (17, vb true)] ?_
    refine wpq_re 17 (v := vb true) (Value.bool (((decide ((((s).length : Nat) : Int) < 1) || decide ((((s).length : Nat) : Int) > 20)) || ((((List.getD (s : List UInt8) 0 0)).toNat : Int) == 32)))) (by kernel_rfl) (re_or1 q2) ?_
    exact wpq_sub _ (by kernel_rfl) hk8
   ·have q2l := (or_false_ q2).1
    have q2r := (or_false_ q2).2
    have q2lp := of_decide_eq_false q2l
    have q2rp := of_decide_eq_false q2r
    have i3 : 0 < (s).length := by omega
    have nb4 := UInt8.toNat_lt (List.getD (s : List UInt8) 0 0)
    refine xB 1 [] [(0, vt s), (13, vb false), (14, vt s)] ?_
    refine xV (qIxS 0 rfl i3) ?_
    refine xB 2 [] [(0, vt s), (17, vb ((((List.getD (s : List UInt8) 0 0)).toNat : Int) == 32))] ?_
    refine wpq_re 17 (v := vb ((((List.getD (s : List UInt8) 0 0)).toNat : Int) == 32)) (Value.bool (((decide ((((s).length : Nat) : Int) < 1) || decide ((((s).length : Nat) : Int) > 20)) || ((((List.getD (s : List UInt8) 0 0)).toNat : Int) == 32)))) (by kernel_rfl) (re_or0 q2) ?_
    exact wpq_sub _ (by kernel_rfl) hk8
  ·refine xB 1 [] [(0, vt s), (18, vb ((decide ((((s).length : Nat) : Int) < 1) || decide ((((s).length : Nat) : Int) > 20)) || ((((List.getD (s : List UInt8) 0 0)).toNat : Int) == 32)))] ?_
   refine xGJo hS 21 (fun g own sl t5 => own = [] ∧ sl = [(0, vt s), (25, vb t5)]) ?_ ?_
   ·rintro g6 _ _ t5 e7 ⟨rfl, rfl⟩ hS
    refine xRe ?_
    refine wpq_then ?_
    refine xCd (t5) (fun h8 => ?_) (fun h8 => ?_)
    ·have hS := cond_T h8 hS
     refine xSq ?_
     refine xRg ?_
     refine xB 1 [] [(2, vb false)] ?_
     refine xRe ?_
     refine wpq_then ?_
     have eS := (Option.some.inj hS).symm
     subst eS
     exact xRet [] [2] e7 ⟨by kernel_rfl, by kernel_rfl⟩ (fun _ _ h => h)
    ·have hS := cond_F h8 hS
     refine xSk ?_
     refine wpq_then ?_
     refine xSub [(0, vt s)] ?_
     refine xSq ?_
     refine xSq ?_
     refine xRg ?_
     refine xB 1 [] [(0, vt s), (3, vi 0)] ?_
     refine xRe ?_
     refine wpq_then ?_
     refine xJoinO hS (fun g own sl t9 => own = [] ∧ sl = []) ?_ ?_
     ·rintro g10 _ _ t9 e11 ⟨rfl, rfl⟩ hS
      refine wpq_then ?_
      refine xSq ?_
      refine xRg ?_
      refine xB 1 [] [(2, vb true)] ?_
      refine xRe ?_
      refine wpq_then ?_
      have eS := (Option.some.inj hS).symm
      subst eS
      exact xRet [] [2] (e7.trans e11) ⟨by kernel_rfl, by kernel_rfl⟩ (fun _ _ h => h)
     ·intro uu9 hS hN9 hD9
      refine xBl 0 ?_
      refine xSub [(0, vt s), (3, vi 0)] ?_
      refine xLo hS (fun g own sl s14 => own = [] ∧ sl = [(0, vt s), (3, vi ((s14 : Nat) : Int))]) ⟨by kernel_rfl, by kernel_rfl⟩ ?_
      rintro g15 _ _ s14 uu14 e16 ⟨rfl, rfl⟩ hS Qr14 hN14 hD14
      unfold o37_L0 at hS
      refine xSq ?_
      refine xSq ?_
      refine xRg ?_
      refine xB 4 [] [(0, vt s), (3, vi ((s14 : Nat) : Int)), (29, vb (decide (((s14 : Nat) : Int) < (((s).length : Nat) : Int))))] ?_
      refine xRe ?_
      refine wpq_then ?_
      refine xCd (decide (((s14 : Nat) : Int) < (((s).length : Nat) : Int))) (fun h17 => ?_) (fun h17 => ?_)
      ·have hS := cond_T h17 hS
       have h17p := of_decide_eq_true h17
       refine xSk ?_
       refine wpq_then ?_
       refine xSub [(0, vt s), (3, vi ((s14 : Nat) : Int))] ?_
       refine xSq ?_
       refine xBl 1 ?_
       refine xSq ?_
       refine xRg ?_
       have i18 : s14 < (s).length := by omega
       have nb19 := UInt8.toNat_lt (List.getD (s : List UInt8) s14 0)
       refine xB 2 [] [(0, vt s), (3, vi ((s14 : Nat) : Int)), (32, vt s), (33, vi ((s14 : Nat) : Int))] ?_
       refine xV (qIxS s14 rfl i18) ?_
       refine xB 2 [] [(0, vt s), (3, vi ((s14 : Nat) : Int)), (36, vb (decide ((((List.getD (s : List UInt8) s14 0)).toNat : Int) ≥ 65)))] ?_
       refine wpr_grp 10 [(0, vt s), (3, vi ((s14 : Nat) : Int)), (41, vb (decide ((((List.getD (s : List UInt8) s14 0)).toNat : Int) ≥ 65) && decide ((((List.getD (s : List UInt8) s14 0)).toNat : Int) ≤ 90)))] (fun hk4 => ?_) ?_
       ·refine wpq_split 36 (b := decide ((((List.getD (s : List UInt8) s14 0)).toNat : Int) ≥ 65)) (by kernel_rfl) (fun q20 => ?_) (fun q20 => ?_)
        ·have q20p := of_decide_eq_true q20
         have i21 : s14 < (s).length := by omega
         have nb22 := UInt8.toNat_lt (List.getD (s : List UInt8) s14 0)
         refine xB 2 [] [(0, vt s), (3, vi ((s14 : Nat) : Int)), (36, vb true), (37, vt s), (38, vi ((s14 : Nat) : Int))] ?_
         refine xV (qIxS s14 rfl i21) ?_
         refine xB 2 [] [(0, vt s), (3, vi ((s14 : Nat) : Int)), (41, vb (decide ((((List.getD (s : List UInt8) s14 0)).toNat : Int) ≤ 90)))] ?_
         refine wpq_re 41 (v := vb (decide ((((List.getD (s : List UInt8) s14 0)).toNat : Int) ≤ 90))) (Value.bool ((decide ((((List.getD (s : List UInt8) s14 0)).toNat : Int) ≥ 65) && decide ((((List.getD (s : List UInt8) s14 0)).toNat : Int) ≤ 90)))) (by kernel_rfl) (re_and1 q20) ?_
         exact wpq_sub _ (by kernel_rfl) hk4
        ·have q20p := of_decide_eq_false q20
         refine xB 5 [] [(0, vt s), (3, vi ((s14 : Nat) : Int)), (41, vb false)] ?_
         refine wpq_re 41 (v := vb false) (Value.bool ((decide ((((List.getD (s : List UInt8) s14 0)).toNat : Int) ≥ 65) && decide ((((List.getD (s : List UInt8) s14 0)).toNat : Int) ≤ 90)))) (by kernel_rfl) (re_and0 q20) ?_
         exact wpq_sub _ (by kernel_rfl) hk4
       ·refine xB 1 [] [(0, vt s), (3, vi ((s14 : Nat) : Int)), (42, vb (decide ((((List.getD (s : List UInt8) s14 0)).toNat : Int) ≥ 65) && decide ((((List.getD (s : List UInt8) s14 0)).toNat : Int) ≤ 90)))] ?_
        refine wpr_grp 22 [(0, vt s), (3, vi ((s14 : Nat) : Int)), (53, vb ((decide ((((List.getD (s : List UInt8) s14 0)).toNat : Int) ≥ 65) && decide ((((List.getD (s : List UInt8) s14 0)).toNat : Int) ≤ 90)) || (decide ((((List.getD (s : List UInt8) s14 0)).toNat : Int) ≥ 48) && decide ((((List.getD (s : List UInt8) s14 0)).toNat : Int) ≤ 57))))] (fun hk10 => ?_) ?_
        ·refine wpq_split 42 (b := (decide ((((List.getD (s : List UInt8) s14 0)).toNat : Int) ≥ 65) && decide ((((List.getD (s : List UInt8) s14 0)).toNat : Int) ≤ 90))) (by kernel_rfl) (fun q23 => ?_) (fun q23 => ?_)
         ·have q23l := (and_true_ q23).1
          have q23r := (and_true_ q23).2
          have q23lp := of_decide_eq_true q23l
          have q23rp := of_decide_eq_true q23r
          refine xB 11 [] [(0, vt s), (3, vi ((s14 : Nat) : Int)), (53, vb true)] ?_
          refine wpq_re 53 (v := vb true) (Value.bool (((decide ((((List.getD (s : List UInt8) s14 0)).toNat : Int) ≥ 65) && decide ((((List.getD (s : List UInt8) s14 0)).toNat : Int) ≤ 90)) || (decide ((((List.getD (s : List UInt8) s14 0)).toNat : Int) ≥ 48) && decide ((((List.getD (s : List UInt8) s14 0)).toNat : Int) ≤ 57))))) (by kernel_rfl) (re_or1 q23) ?_
          exact wpq_sub _ (by kernel_rfl) hk10
         ·have i24 : s14 < (s).length := by omega
          have nb25 := UInt8.toNat_lt (List.getD (s : List UInt8) s14 0)
          refine xB 2 [] [(0, vt s), (3, vi ((s14 : Nat) : Int)), (42, vb false), (43, vt s), (44, vi ((s14 : Nat) : Int))] ?_
          refine xV (qIxS s14 rfl i24) ?_
          refine xB 2 [] [(0, vt s), (3, vi ((s14 : Nat) : Int)), (42, vb false), (47, vb (decide ((((List.getD (s : List UInt8) s14 0)).toNat : Int) ≥ 48)))] ?_
          refine wpr_grp 21 [(0, vt s), (3, vi ((s14 : Nat) : Int)), (42, vb false), (52, vb (decide ((((List.getD (s : List UInt8) s14 0)).toNat : Int) ≥ 48) && decide ((((List.getD (s : List UInt8) s14 0)).toNat : Int) ≤ 57)))] (fun hk15 => ?_) ?_
          ·refine wpq_split 47 (b := decide ((((List.getD (s : List UInt8) s14 0)).toNat : Int) ≥ 48)) (by kernel_rfl) (fun q26 => ?_) (fun q26 => ?_)
           ·have q26p := of_decide_eq_true q26
            have i27 : s14 < (s).length := by omega
            have nb28 := UInt8.toNat_lt (List.getD (s : List UInt8) s14 0)
            refine xB 2 [] [(0, vt s), (3, vi ((s14 : Nat) : Int)), (42, vb false), (47, vb true), (48, vt s), (49, vi ((s14 : Nat) : Int))] ?_
            refine xV (qIxS s14 rfl i27) ?_
            refine xB 2 [] [(0, vt s), (3, vi ((s14 : Nat) : Int)), (42, vb false), (52, vb (decide ((((List.getD (s : List UInt8) s14 0)).toNat : Int) ≤ 57)))] ?_
            refine wpq_re 52 (v := vb (decide ((((List.getD (s : List UInt8) s14 0)).toNat : Int) ≤ 57))) (Value.bool ((decide ((((List.getD (s : List UInt8) s14 0)).toNat : Int) ≥ 48) && decide ((((List.getD (s : List UInt8) s14 0)).toNat : Int) ≤ 57)))) (by kernel_rfl) (re_and1 q26) ?_
            exact wpq_sub _ (by kernel_rfl) hk15
           ·have q26p := of_decide_eq_false q26
            refine xB 5 [] [(0, vt s), (3, vi ((s14 : Nat) : Int)), (42, vb false), (52, vb false)] ?_
            refine wpq_re 52 (v := vb false) (Value.bool ((decide ((((List.getD (s : List UInt8) s14 0)).toNat : Int) ≥ 48) && decide ((((List.getD (s : List UInt8) s14 0)).toNat : Int) ≤ 57)))) (by kernel_rfl) (re_and0 q26) ?_
            exact wpq_sub _ (by kernel_rfl) hk15
          ·refine xB 1 [] [(0, vt s), (3, vi ((s14 : Nat) : Int)), (53, vb (decide ((((List.getD (s : List UInt8) s14 0)).toNat : Int) ≥ 48) && decide ((((List.getD (s : List UInt8) s14 0)).toNat : Int) ≤ 57)))] ?_
           refine wpq_re 53 (v := vb (decide ((((List.getD (s : List UInt8) s14 0)).toNat : Int) ≥ 48) && decide ((((List.getD (s : List UInt8) s14 0)).toNat : Int) ≤ 57))) (Value.bool (((decide ((((List.getD (s : List UInt8) s14 0)).toNat : Int) ≥ 65) && decide ((((List.getD (s : List UInt8) s14 0)).toNat : Int) ≤ 90)) || (decide ((((List.getD (s : List UInt8) s14 0)).toNat : Int) ≥ 48) && decide ((((List.getD (s : List UInt8) s14 0)).toNat : Int) ≤ 57))))) (by kernel_rfl) (re_or0 q23) ?_
           exact wpq_sub _ (by kernel_rfl) hk10
        ·refine xB 1 [] [(0, vt s), (3, vi ((s14 : Nat) : Int)), (4, vb ((decide ((((List.getD (s : List UInt8) s14 0)).toNat : Int) ≥ 65) && decide ((((List.getD (s : List UInt8) s14 0)).toNat : Int) ≤ 90)) || (decide ((((List.getD (s : List UInt8) s14 0)).toNat : Int) ≥ 48) && decide ((((List.getD (s : List UInt8) s14 0)).toNat : Int) ≤ 57))))] ?_
         refine xRe ?_
         refine wpq_then ?_
         refine xSq ?_
         refine xRg ?_
         refine xB 3 [] [(0, vt s), (3, vi ((s14 : Nat) : Int)), (56, vb (!((decide ((((List.getD (s : List UInt8) s14 0)).toNat : Int) ≥ 65) && decide ((((List.getD (s : List UInt8) s14 0)).toNat : Int) ≤ 90)) || (decide ((((List.getD (s : List UInt8) s14 0)).toNat : Int) ≥ 48) && decide ((((List.getD (s : List UInt8) s14 0)).toNat : Int) ≤ 57)))))] ?_
         refine xGJo hS 15 (fun g own sl t29 => own = [] ∧ sl = [(0, vt s), (3, vi ((s14 : Nat) : Int)), (68, vb t29)]) ?_ ?_
         ·rintro g30 _ _ t29 e31 ⟨rfl, rfl⟩ hS
          refine xRe ?_
          refine wpq_then ?_
          refine xCd (t29) (fun h32 => ?_) (fun h32 => ?_)
          ·have hS := cond_T h32 hS
           refine xSq ?_
           refine xRg ?_
           refine xB 1 [] [(2, vb false)] ?_
           refine xRe ?_
           refine wpq_then ?_
           have eS := (Option.some.inj hS).symm
           have eS := (hD14 _ eS).symm
           have eS := (hD9 _ eS).symm
           subst eS
           exact xRet [] [2] (e7.trans (e16.trans e31)) ⟨by kernel_rfl, by kernel_rfl⟩ (fun _ _ h => h)
          ·have hS := cond_F h32 hS
           refine xSk ?_
           refine wpq_blockN ?_
           refine wpq_then ?_
           refine xSub [(0, vt s), (3, vi ((s14 : Nat) : Int))] ?_
           refine xRg ?_
           obtain ⟨q33, hS⟩ := grd_T hS
           have q33p := of_decide_eq_true q33
           refine xB 1 [] [(0, vt s), (3, vi ((s14 : Nat) : Int)), (30, vi ((s14 : Nat) : Int))] ?_
           refine xV (qAdd .i64 (((s14 : Nat) : Int)) (1) (wr64 (by omega))) ?_
           refine xB 1 [] [(0, vt s), (3, vi (((s14 : Nat) : Int) + 1))] ?_
           refine xRe ?_
           refine wpq_thenN ?_
           refine xSub [(0, vt s), (3, vi (((s14 : Nat) : Int) + 1))] ?_
           have eS := (Option.some.inj hS).symm
           exact hN14 _ eS _ _ _ e31 ⟨by kernel_rfl, by kernel_rfl⟩
         ·intro uu29 hS hN29
          refine wpq_split 56 (b := (!((decide ((((List.getD (s : List UInt8) s14 0)).toNat : Int) ≥ 65) && decide ((((List.getD (s : List UInt8) s14 0)).toNat : Int) ≤ 90)) || (decide ((((List.getD (s : List UInt8) s14 0)).toNat : Int) ≥ 48) && decide ((((List.getD (s : List UInt8) s14 0)).toNat : Int) ≤ 57))))) (by kernel_rfl) (fun q34 => ?_) (fun q34 => ?_)
          ·have hS := cond_T q34 hS
           have q34n := not_eq_true_ q34
           have q34nl := (or_false_ q34n).1
           have q34nr := (or_false_ q34n).2
           have i35 : s14 < (s).length := by omega
           have nb36 := UInt8.toNat_lt (List.getD (s : List UInt8) s14 0)
           refine xB 2 [] [(0, vt s), (3, vi ((s14 : Nat) : Int)), (56, vb true), (57, vt s), (58, vi ((s14 : Nat) : Int))] ?_
           refine xV (qIxS s14 rfl i35) ?_
           refine xB 2 [] [(0, vt s), (3, vi ((s14 : Nat) : Int)), (56, vb true), (61, vb ((((List.getD (s : List UInt8) s14 0)).toNat : Int) != 32))] ?_
           refine xGJo hS 14 (fun g own sl t37 => own = [] ∧ sl = [(0, vt s), (3, vi ((s14 : Nat) : Int)), (56, vb true), (67, vb t37)]) ?_ ?_
           ·rintro g38 _ _ t37 e39 ⟨rfl, rfl⟩ hS
            refine xB 1 [] [(0, vt s), (3, vi ((s14 : Nat) : Int)), (68, vb t37)] ?_
            refine xSub [(0, vt s), (3, vi ((s14 : Nat) : Int)), (68, vb t37)] ?_
            exact hN29 _ (Option.some.inj hS).symm _ _ _ e39 ⟨by kernel_rfl, by kernel_rfl⟩
           ·intro uu37 hS hN37
            refine wpq_split 61 (b := ((((List.getD (s : List UInt8) s14 0)).toNat : Int) != 32)) (by kernel_rfl) (fun q40 => ?_) (fun q40 => ?_)
            ·have hS := cond_T q40 hS
             have q40p : ¬ ((((List.getD (s : List UInt8) s14 0)).toNat : Int) = 32) := ne_of_bne_ q40
             refine xB 6 [] [(0, vt s), (3, vi ((s14 : Nat) : Int)), (56, vb true), (67, vb true)] ?_
             refine xSub [(0, vt s), (3, vi ((s14 : Nat) : Int)), (56, vb true), (67, vb true)] ?_
             exact hN37 _ (Option.some.inj hS).symm _ _ _ (Gh.le.refl _) ⟨by kernel_rfl, by kernel_rfl⟩
            ·have hS := cond_F q40 hS
             have q40p : (((List.getD (s : List UInt8) s14 0)).toNat : Int) = 32 := eq_of_bne_false_ q40
             have z48 := i64_in_ (((s14 : Nat) : Int) - 1)
             obtain ⟨q41, hS⟩ := grd_T hS
             have q41p := of_decide_eq_true q41
             have i42 : ((IntKind.i64.wrap (((s14 : Nat) : Int) - 1))).toNat < (s).length := by omega
             have nb43 := UInt8.toNat_lt (List.getD (s : List UInt8) ((IntKind.i64.wrap (((s14 : Nat) : Int) - 1))).toNat 0)
             refine xB 3 [] [(0, vt s), (3, vi ((s14 : Nat) : Int)), (56, vb true), (61, vb false), (62, vt s), (64, vi (IntKind.i64.wrap (((s14 : Nat) : Int) - 1)))] ?_
             refine xV (qIxS ((IntKind.i64.wrap (((s14 : Nat) : Int) - 1))).toNat (show ((IntKind.i64.wrap (((s14 : Nat) : Int) - 1)) : Int) = _ from by omega) i42) ?_
             refine xB 2 [] [(0, vt s), (3, vi ((s14 : Nat) : Int)), (56, vb true), (67, vb ((((List.getD (s : List UInt8) ((IntKind.i64.wrap (((s14 : Nat) : Int) - 1))).toNat 0)).toNat : Int) == 32))] ?_
             refine xSub [(0, vt s), (3, vi ((s14 : Nat) : Int)), (56, vb true), (67, vb ((((List.getD (s : List UInt8) ((IntKind.i64.wrap (((s14 : Nat) : Int) - 1))).toNat 0)).toNat : Int) == 32))] ?_
             exact hN37 _ (Option.some.inj hS).symm _ _ _ (Gh.le.refl _) ⟨by kernel_rfl, by kernel_rfl⟩
          ·have hS := cond_F q34 hS
           have q34n := not_eq_false_ q34
           refine xB 12 [] [(0, vt s), (3, vi ((s14 : Nat) : Int)), (68, vb false)] ?_
           refine xSub [(0, vt s), (3, vi ((s14 : Nat) : Int)), (68, vb false)] ?_
           exact hN29 _ (Option.some.inj hS).symm _ _ _ (Gh.le.refl _) ⟨by kernel_rfl, by kernel_rfl⟩
      ·have hS := cond_F h17 hS
       have h17p := of_decide_eq_false h17
       refine xEx 0 ?_
       refine wpq_thenX ?_
       refine wpq_thenX ?_
       refine wpq_blockE ?_
       refine xSub [] ?_
       have eS := (Option.some.inj hS).symm
       have eS := (hD14 _ eS).symm
       exact hN9 _ eS _ _ _ e16 ⟨by kernel_rfl, by kernel_rfl⟩
   ·intro uu5 hS hN5
    refine wpq_split 18 (b := ((decide ((((s).length : Nat) : Int) < 1) || decide ((((s).length : Nat) : Int) > 20)) || ((((List.getD (s : List UInt8) 0 0)).toNat : Int) == 32))) (by kernel_rfl) (fun q44 => ?_) (fun q44 => ?_)
    ·have hS := cond_T q44 hS
     refine xB 7 [] [(0, vt s), (25, vb true)] ?_
     refine xSub [(0, vt s), (25, vb true)] ?_
     exact hN5 _ (Option.some.inj hS).symm _ _ _ (Gh.le.refl _) ⟨by kernel_rfl, by kernel_rfl⟩
    ·have hS := cond_F q44 hS
     have q44l := (or_false_ q44).1
     have q44r := (or_false_ q44).2
     have q44ll := (or_false_ q44l).1
     have q44lr := (or_false_ q44l).2
     have q44llp := of_decide_eq_false q44ll
     have q44lrp := of_decide_eq_false q44lr
     have q44rp : ¬ ((((List.getD (s : List UInt8) 0 0)).toNat : Int) = 32) := ne_of_beq_false_ q44r
     refine xB 3 [] [(0, vt s), (18, vb false), (19, vt s), (21, vi (((s).length : Nat) : Int))] ?_
     refine xV (qSub .i64 ((((s).length : Nat) : Int)) (1) (wr64 (by omega))) ?_
     obtain ⟨q45, hS⟩ := grd_T hS
     have q45p := of_decide_eq_true q45
     have i46 : (((((s).length : Nat) : Int) - 1)).toNat < (s).length := by omega
     have nb47 := UInt8.toNat_lt (List.getD (s : List UInt8) (((((s).length : Nat) : Int) - 1)).toNat 0)
     refine xV (qIxS (((((s).length : Nat) : Int) - 1)).toNat (show (((((s).length : Nat) : Int) - 1) : Int) = _ from by omega) i46) ?_
     refine xB 2 [] [(0, vt s), (25, vb ((((List.getD (s : List UInt8) (((((s).length : Nat) : Int) - 1)).toNat 0)).toNat : Int) == 32))] ?_
     refine xSub [(0, vt s), (25, vb ((((List.getD (s : List UInt8) (((((s).length : Nat) : Int) - 1)).toNat 0)).toNat : Int) == 32))] ?_
     exact hN5 _ (Option.some.inj hS).symm _ _ _ (Gh.le.refl _) ⟨by kernel_rfl, by kernel_rfl⟩

def o14_L1 (l : List AlertDef) (s7 : Nat) (s31 : Nat) : Option (Ctl (Nat) (Ctl (Unit) (Ctl (Unit) (Ctl (Nat) (Ctl (Unit) (Int)))))) :=
 (cond (decide (((s31 : Nat) : Int) < ((((List.take s7 l)).length : Nat) : Int))) (cond (((List.getD (List.take s7 l) s31 default).name == (List.getD l s7 default).name)) (some (Ctl.done (Ctl.done (Ctl.done (Ctl.done (Ctl.done ((7 : Int)))))))) (grd (decide (((s31 : Nat) : Int) + 1 ≤ 9223372036854775807)) (some (Ctl.go (s31 + 1))))) (some (Ctl.done (Ctl.go ()))))
def o14_L0 (l : List AlertDef) (s7 : Nat) : Option (Ctl (Nat) (Ctl (Unit) (Int))) :=
 (cond (decide (((s7 : Nat) : Int) < (((l).length : Nat) : Int))) (joinO (τ := Unit) (ρ := Ctl (Nat) (Ctl (Unit) (Int))) (bindO (τ := Bool) (o37 (List.getD l s7 default).name) fun y18 => (cond ((!y18)) (some (Ctl.done (Ctl.done (Ctl.done ((5 : Int)))))) (joinO (τ := Unit) (ρ := Ctl (Unit) (Ctl (Nat) (Ctl (Unit) (Int)))) (loopO (σ := Nat) (ρ := Ctl (Unit) (Ctl (Unit) (Ctl (Nat) (Ctl (Unit) (Int))))) fuelN (o14_L1 l s7) (0)) fun t23 => (cond ((decide ((List.getD l s7 default).level < 1) || decide ((List.getD l s7 default).level > 3))) (some (Ctl.done (Ctl.done (Ctl.done ((2 : Int)))))) (cond (((landK .u16 (List.getD l s7 default).inhibit 65025) != 0)) (some (Ctl.done (Ctl.done (Ctl.done ((1 : Int)))))) (some (Ctl.go ()))))))) fun t11 => (grd (decide (((s7 : Nat) : Int) + 1 ≤ 9223372036854775807)) (some (Ctl.go (s7 + 1))))) (some (Ctl.done (Ctl.go ()))))
def o14 (l : List AlertDef) : Option (Int) :=
 (cond (decide ((((l).length : Nat) : Int) > 16)) (some ((3 : Int))) (joinO (τ := Unit) (ρ := Int) (loopO (σ := Nat) (ρ := Ctl (Unit) (Int)) fuelN (o14_L0 l) (0)) fun t2 => (some ((0 : Int)))))
set_option maxRecDepth 100000 in
theorem c14 (g : Gh) (l : List AlertDef) (Al : Option Addr) (cl : Nat) (fl : Arr g.r tyAlertDef Al cl l) {r : Int} (hS : o14 l = some r) :
  Ctr Try.prog 14 [vs Al l cl] g [] (fun v ψ o => v = vi r ∧ o = []) := by
 unfold o14 at hS
 refine xFn Try.f14 (Try.f14.body.getD .skip) 48 ?_
 have nfl := fl.len
 refine xSq ?_
 refine xRg ?_
 refine xB 1 [] [(0, vs Al l cl)] ?_
 refine xRe ?_
 refine wpq_then ?_
 refine xSq ?_
 refine xSq ?_
 refine xRg ?_
 refine xB 3 [] [(0, vs Al l cl), (9, vb (decide ((((l).length : Nat) : Int) > 16)))] ?_
 refine xRe ?_
 refine wpq_then ?_
 refine xCd (decide ((((l).length : Nat) : Int) > 16)) (fun h1 => ?_) (fun h1 => ?_)
 ·have hS := cond_T h1 hS
  have h1p := of_decide_eq_true h1
  refine xSq ?_
  refine xRg ?_
  refine xB 1 [] [(2, vi 3)] ?_
  refine xRe ?_
  refine wpq_then ?_
  have eS := (Option.some.inj hS).symm
  subst eS
  exact xRet [] [2] (Gh.le.refl _) ⟨by kernel_rfl, by kernel_rfl⟩ (fun _ _ h => h)
 ·have hS := cond_F h1 hS
  have h1p := of_decide_eq_false h1
  refine xSk ?_
  refine wpq_then ?_
  refine xSub [(0, vs Al l cl)] ?_
  refine xSq ?_
  refine xSq ?_
  refine xRg ?_
  refine xB 3 [] [(0, vs Al l cl), (10, vs Al l cl), (11, vi (((l).length : Nat) : Int)), (12, vi 0)] ?_
  refine xRe ?_
  refine wpq_then ?_
  refine xJoinO hS (fun g own sl t2 => own = [] ∧ sl = []) ?_ ?_
  ·rintro g3 _ _ t2 e4 ⟨rfl, rfl⟩ hS
   refine wpq_then ?_
   refine xSq ?_
   refine xRg ?_
   refine xB 1 [] [(2, vi 0)] ?_
   refine xRe ?_
   refine wpq_then ?_
   have eS := (Option.some.inj hS).symm
   subst eS
   exact xRet [] [2] e4 ⟨by kernel_rfl, by kernel_rfl⟩ (fun _ _ h => h)
  ·intro uu2 hS hN2 hD2
   refine xBl 0 ?_
   refine xSub [(0, vs Al l cl), (10, vs Al l cl), (11, vi (((l).length : Nat) : Int)), (12, vi 0)] ?_
   refine xLo hS (fun g own sl s7 => own = [] ∧ sl = [(0, vs Al l cl), (10, vs Al l cl), (11, vi (((l).length : Nat) : Int)), (12, vi ((s7 : Nat) : Int))]) ⟨by kernel_rfl, by kernel_rfl⟩ ?_
   rintro g8 _ _ s7 uu7 e9 ⟨rfl, rfl⟩ hS Qr7 hN7 hD7
   unfold o14_L0 at hS
   refine xSq ?_
   refine xRg ?_
   refine xB 1 [] [(0, vs Al l cl), (10, vs Al l cl), (11, vi (((l).length : Nat) : Int)), (12, vi ((s7 : Nat) : Int)), (13, vb (decide (((s7 : Nat) : Int) < (((l).length : Nat) : Int))))] ?_
   refine xRe ?_
   refine wpq_then ?_
   refine xSq ?_
   refine xCd (decide (((s7 : Nat) : Int) < (((l).length : Nat) : Int))) (fun h10 => ?_) (fun h10 => ?_)
   ·have hS := cond_T h10 hS
    have h10p := of_decide_eq_true h10
    refine xSk ?_
    refine wpq_then ?_
    refine xSub [(0, vs Al l cl), (10, vs Al l cl), (11, vi (((l).length : Nat) : Int)), (12, vi ((s7 : Nat) : Int))] ?_
    refine xSq ?_
    refine xJoinO hS (fun g own sl t11 => own = [] ∧ sl = [(0, vs Al l cl), (10, vs Al l cl), (11, vi (((l).length : Nat) : Int)), (12, vi ((s7 : Nat) : Int))]) ?_ ?_
    ·rintro g12 _ _ t11 e13 ⟨rfl, rfl⟩ hS
     refine wpq_then ?_
     refine xRg ?_
     obtain ⟨q14, hS⟩ := grd_T hS
     have q14p := of_decide_eq_true q14
     refine xV (qAdd .i64 (((s7 : Nat) : Int)) (1) (wr64 (by omega))) ?_
     refine xB 1 [] [(0, vs Al l cl), (10, vs Al l cl), (11, vi (((l).length : Nat) : Int)), (12, vi (((s7 : Nat) : Int) + 1))] ?_
     refine xRe ?_
     refine wpq_thenN ?_
     refine xSub [(0, vs Al l cl), (10, vs Al l cl), (11, vi (((l).length : Nat) : Int)), (12, vi (((s7 : Nat) : Int) + 1))] ?_
     have eS := (Option.some.inj hS).symm
     exact hN7 _ eS _ _ _ e13 ⟨by kernel_rfl, by kernel_rfl⟩
    ·intro uu11 hS hN11 hD11
     refine xBl 1 ?_
     refine xSq ?_
     refine xRg ?_
     have fl := fl.mono e9.r
     have i16 : s7 < (l).length := by omega
     obtain ⟨ad15, cs15, hA15, hr15, hc15⟩ := fl.at_ (get_getD (d := default) i16)
     obtain ⟨rfl⟩ := hr15
     refine xB 1 [] [(0, vs Al l cl), (10, vs Al l cl), (11, vi (((l).length : Nat) : Int)), (12, vi ((s7 : Nat) : Int)), (14, vi ((s7 : Nat) : Int))] ?_
     refine xV (qIx s7 3 hA15 rfl i16) ?_
     refine xV (qLdP (Addr.add ad15 (s7 * 3)) 0 hc15) ?_
     refine xE eB ?_
     rintro _ _ _ - ⟨b17, rfl, rfl, rfl⟩
     refine xBo 2 [(5, 0)] [some ⟨b17, 34, [vt ((List.getD l s7 default).name), vy ((List.getD l s7 default).level), Value.int .u16 ((List.getD l s7 default).inhibit)]⟩] [(0, vs Al l cl), (3, vi ((s7 : Nat) : Int)), (4, vp b17 0), (10, vs Al l cl), (11, vi (((l).length : Nat) : Int)), (12, vi ((s7 : Nat) : Int))] ?_
     refine xRe ?_
     refine wpq_then ?_
     refine xSq ?_
     refine xSq ?_
     refine xRg ?_
     refine xB 2 [(1, 0)] [(0, vs Al l cl), (3, vi ((s7 : Nat) : Int)), (4, vp b17 0), (10, vs Al l cl), (11, vi (((l).length : Nat) : Int)), (12, vi ((s7 : Nat) : Int)), (18, vt ((List.getD l s7 default).name))] ?_
     obtain ⟨y18, hy18, hS⟩ := bindO_T hS
     refine xE (eC 0 (fun g' lr eb ln => c37 g' (List.getD l s7 default).name hy18)) ?_
     rintro _ g19 _ e20 ⟨_, rfl, rfl, rfl⟩
     refine xB 1 [] [(0, vs Al l cl), (3, vi ((s7 : Nat) : Int)), (4, vp b17 0), (10, vs Al l cl), (11, vi (((l).length : Nat) : Int)), (12, vi ((s7 : Nat) : Int)), (20, vb (!y18))] ?_
     refine xRe ?_
     refine wpq_then ?_
     refine xCd ((!y18)) (fun h21 => ?_) (fun h21 => ?_)
     ·have hS := cond_T h21 hS
      have h21n := not_eq_true_ h21
      refine xSq ?_
      refine xRg ?_
      refine xB 1 [] [(2, vi 5)] ?_
      refine xRe ?_
      refine wpq_then ?_
      have eS := (Option.some.inj hS).symm
      have eS := (hD11 _ eS).symm
      have eS := (hD7 _ eS).symm
      have eS := (hD2 _ eS).symm
      subst eS
      exact xRet [] [2] (e9.trans e20) ⟨by kernel_rfl, by kernel_rfl⟩ (fun _ _ h => h)
     ·have hS := cond_F h21 hS
      have h21n := not_eq_false_ h21
      refine xSk ?_
      refine wpq_then ?_
      refine xSub [(0, vs Al l cl), (3, vi ((s7 : Nat) : Int)), (4, vp b17 0), (10, vs Al l cl), (11, vi (((l).length : Nat) : Int)), (12, vi ((s7 : Nat) : Int))] ?_
      refine xSq ?_
      refine xSq ?_
      refine xRg ?_
      have fl := fl.mono e20.r
      have ncapf22 := fl.cap
      have f22 : Arr g19.r tyAlertDef (offA Al cl 0 3) (cl - 0) (List.take s7 l) := fl.cut_to s7 (by omega)
      have nf22 := f22.len
      have hlf22 : s7 - 0 = ((List.take s7 l)).length := by simp only [List.length_take, List.length_drop] <;> omega
      have hvf22 : ((((List.take s7 l)).length : Nat) : Int) = ((s7 : Nat) : Int) - 0 := by omega
      refine xB 2 [] [(0, vs Al l cl), (4, vp b17 0), (10, vs Al l cl), (11, vi (((l).length : Nat) : Int)), (12, vi ((s7 : Nat) : Int)), (21, vs Al l cl), (22, vi ((s7 : Nat) : Int))] ?_
      refine xV (qSl (m := 3) (A := Al) (len := (l).length) (c := cl) 0 s7 none (some ((s7 : Nat) : Int)) ((List.take s7 l)).length rfl rfl (by omega) (by omega) hlf22) ?_
      refine xB 2 [] [(0, vs Al l cl), (4, vp b17 0), (10, vs Al l cl), (11, vi (((l).length : Nat) : Int)), (12, vi ((s7 : Nat) : Int)), (23, vs (offA Al cl 0 3) (List.take s7 l) (cl - 0)), (24, vi ((((List.take s7 l)).length : Nat) : Int)), (25, vi 0)] ?_
      refine xRe ?_
      refine wpq_then ?_
      refine xJoinO hS (fun g own sl t23 => own = [some ⟨b17, 34, [vt ((List.getD l s7 default).name), vy ((List.getD l s7 default).level), Value.int .u16 ((List.getD l s7 default).inhibit)]⟩] ∧ sl = [(0, vs Al l cl), (4, vp b17 0), (10, vs Al l cl), (11, vi (((l).length : Nat) : Int)), (12, vi ((s7 : Nat) : Int))]) ?_ ?_
      ·rintro g24 _ _ t23 e25 ⟨rfl, rfl⟩ hS
       refine wpq_then ?_
       refine xSq ?_
       refine xSq ?_
       refine xRg ?_
       refine xB 4 [(1, 0)] [(0, vs Al l cl), (4, vp b17 0), (10, vs Al l cl), (11, vi (((l).length : Nat) : Int)), (12, vi ((s7 : Nat) : Int)), (38, vb (decide ((List.getD l s7 default).level < 1)))] ?_
       refine wpr_grp 8 [(0, vs Al l cl), (4, vp b17 0), (10, vs Al l cl), (11, vi (((l).length : Nat) : Int)), (12, vi ((s7 : Nat) : Int)), (42, vb (decide ((List.getD l s7 default).level < 1) || decide ((List.getD l s7 default).level > 3)))] (fun hk3 => ?_) ?_
       ·refine wpq_split 38 (b := decide ((List.getD l s7 default).level < 1)) (by kernel_rfl) (fun q26 => ?_) (fun q26 => ?_)
        ·have q26p := of_decide_eq_true q26
         refine xB 4 [] [(0, vs Al l cl), (4, vp b17 0), (10, vs Al l cl), (11, vi (((l).length : Nat) : Int)), (12, vi ((s7 : Nat) : Int)), (42, vb true)] ?_
         refine wpq_re 42 (v := vb true) (Value.bool ((decide ((List.getD l s7 default).level < 1) || decide ((List.getD l s7 default).level > 3)))) (by kernel_rfl) (re_or1 q26) ?_
         exact wpq_sub _ (by kernel_rfl) hk3
        ·have q26p := of_decide_eq_false q26
         refine xB 4 [(5, 0)] [(0, vs Al l cl), (4, vp b17 0), (10, vs Al l cl), (11, vi (((l).length : Nat) : Int)), (12, vi ((s7 : Nat) : Int)), (42, vb (decide ((List.getD l s7 default).level > 3)))] ?_
         refine wpq_re 42 (v := vb (decide ((List.getD l s7 default).level > 3))) (Value.bool ((decide ((List.getD l s7 default).level < 1) || decide ((List.getD l s7 default).level > 3)))) (by kernel_rfl) (re_or0 q26) ?_
         exact wpq_sub _ (by kernel_rfl) hk3
       ·refine xRe ?_
        refine wpq_then ?_
        refine xCd ((decide ((List.getD l s7 default).level < 1) || decide ((List.getD l s7 default).level > 3))) (fun h27 => ?_) (fun h27 => ?_)
        ·have hS := cond_T h27 hS
         refine xSq ?_
         refine xRg ?_
         refine xB 1 [] [(2, vi 2)] ?_
         refine xRe ?_
         refine wpq_then ?_
         have eS := (Option.some.inj hS).symm
         have eS := (hD11 _ eS).symm
         have eS := (hD7 _ eS).symm
         have eS := (hD2 _ eS).symm
         subst eS
         exact xRet [] [2] (e9.trans (e20.trans e25)) ⟨by kernel_rfl, by kernel_rfl⟩ (fun _ _ h => h)
        ·have hS := cond_F h27 hS
         have h27l := (or_false_ h27).1
         have h27r := (or_false_ h27).2
         have h27lp := of_decide_eq_false h27l
         have h27rp := of_decide_eq_false h27r
         refine xSk ?_
         refine wpq_then ?_
         refine xSub [(0, vs Al l cl), (4, vp b17 0), (10, vs Al l cl), (11, vi (((l).length : Nat) : Int)), (12, vi ((s7 : Nat) : Int))] ?_
         refine xSq ?_
         refine xRg ?_
         refine xB 4 [(1, 0)] [(0, vs Al l cl), (10, vs Al l cl), (11, vi (((l).length : Nat) : Int)), (12, vi ((s7 : Nat) : Int)), (46, vb ((landK .u16 (List.getD l s7 default).inhibit 65025) != 0))] ?_
         refine xRe ?_
         refine wpq_then ?_
         refine xCd (((landK .u16 (List.getD l s7 default).inhibit 65025) != 0)) (fun h28 => ?_) (fun h28 => ?_)
         ·have hS := cond_T h28 hS
          have h28p : ¬ ((landK .u16 (List.getD l s7 default).inhibit 65025) = 0) := ne_of_bne_ h28
          refine xSq ?_
          refine xRg ?_
          refine xB 1 [] [(2, vi 1)] ?_
          refine xRe ?_
          refine wpq_then ?_
          have eS := (Option.some.inj hS).symm
          have eS := (hD11 _ eS).symm
          have eS := (hD7 _ eS).symm
          have eS := (hD2 _ eS).symm
          subst eS
          exact xRet [] [2] (e9.trans (e20.trans e25)) ⟨by kernel_rfl, by kernel_rfl⟩ (fun _ _ h => h)
         ·have hS := cond_F h28 hS
          have h28p : (landK .u16 (List.getD l s7 default).inhibit 65025) = 0 := eq_of_bne_false_ h28
          refine xSk ?_
          refine wpq_blockN ?_
          refine xSel [] ?_
          refine xSub [(0, vs Al l cl), (10, vs Al l cl), (11, vi (((l).length : Nat) : Int)), (12, vi ((s7 : Nat) : Int))] ?_
          have eS := (Option.some.inj hS).symm
          exact hN11 _ eS _ _ _ (e20.trans e25) ⟨by kernel_rfl, by kernel_rfl⟩
      ·intro uu23 hS hN23 hD23
       refine xBl 2 ?_
       refine xSub [(0, vs Al l cl), (4, vp b17 0), (10, vs Al l cl), (11, vi (((l).length : Nat) : Int)), (12, vi ((s7 : Nat) : Int)), (23, vs (offA Al cl 0 3) (List.take s7 l) (cl - 0)), (24, vi ((((List.take s7 l)).length : Nat) : Int)), (25, vi 0)] ?_
       refine xLo hS (fun g own sl s31 => own = [some ⟨b17, 34, [vt ((List.getD l s7 default).name), vy ((List.getD l s7 default).level), Value.int .u16 ((List.getD l s7 default).inhibit)]⟩] ∧ sl = [(0, vs Al l cl), (4, vp b17 0), (10, vs Al l cl), (11, vi (((l).length : Nat) : Int)), (12, vi ((s7 : Nat) : Int)), (23, vs (offA Al cl 0 3) (List.take s7 l) (cl - 0)), (24, vi ((((List.take s7 l)).length : Nat) : Int)), (25, vi ((s31 : Nat) : Int))]) ⟨by kernel_rfl, by kernel_rfl⟩ ?_
       rintro g32 _ _ s31 uu31 e33 ⟨rfl, rfl⟩ hS Qr31 hN31 hD31
       unfold o14_L1 at hS
       refine xSq ?_
       refine xRg ?_
       refine xB 1 [] [(0, vs Al l cl), (4, vp b17 0), (10, vs Al l cl), (11, vi (((l).length : Nat) : Int)), (12, vi ((s7 : Nat) : Int)), (23, vs (offA Al cl 0 3) (List.take s7 l) (cl - 0)), (24, vi ((((List.take s7 l)).length : Nat) : Int)), (25, vi ((s31 : Nat) : Int)), (26, vb (decide (((s31 : Nat) : Int) < ((((List.take s7 l)).length : Nat) : Int))))] ?_
       refine xRe ?_
       refine wpq_then ?_
       refine xSq ?_
       refine xCd (decide (((s31 : Nat) : Int) < ((((List.take s7 l)).length : Nat) : Int))) (fun h34 => ?_) (fun h34 => ?_)
       ·have hS := cond_T h34 hS
        have h34p := of_decide_eq_true h34
        refine xSk ?_
        refine wpq_then ?_
        refine xSub [(0, vs Al l cl), (4, vp b17 0), (10, vs Al l cl), (11, vi (((l).length : Nat) : Int)), (12, vi ((s7 : Nat) : Int)), (23, vs (offA Al cl 0 3) (List.take s7 l) (cl - 0)), (24, vi ((((List.take s7 l)).length : Nat) : Int)), (25, vi ((s31 : Nat) : Int))] ?_
        refine xSq ?_
        refine xBl 3 ?_
        refine xSq ?_
        refine xRg ?_
        have f22 := f22.mono e33.r
        have i36 : s31 < ((List.take s7 l)).length := by omega
        obtain ⟨ad35, cs35, hA35, hr35, hc35⟩ := f22.at_ (get_getD (d := default) i36)
        obtain ⟨rfl⟩ := hr35
        refine xV (qIx s31 3 hA35 rfl i36) ?_
        refine xV (qLdP (Addr.add ad35 (s31 * 3)) 0 hc35) ?_
        refine xE eB ?_
        rintro _ _ _ - ⟨b37, rfl, rfl, rfl⟩
        refine xBo 1 [(3, 0)] [some ⟨b37, 34, [vt ((List.getD (List.take s7 l) s31 default).name), vy ((List.getD (List.take s7 l) s31 default).level), Value.int .u16 ((List.getD (List.take s7 l) s31 default).inhibit)]⟩, some ⟨b17, 34, [vt ((List.getD l s7 default).name), vy ((List.getD l s7 default).level), Value.int .u16 ((List.getD l s7 default).inhibit)]⟩] [(0, vs Al l cl), (4, vp b17 0), (6, vp b37 0), (10, vs Al l cl), (11, vi (((l).length : Nat) : Int)), (12, vi ((s7 : Nat) : Int)), (23, vs (offA Al cl 0 3) (List.take s7 l) (cl - 0)), (24, vi ((((List.take s7 l)).length : Nat) : Int)), (25, vi ((s31 : Nat) : Int))] ?_
        refine xRe ?_
        refine wpq_then ?_
        refine xSq ?_
        refine xRg ?_
        refine xB 4 [(1, 0), (3, 1)] [(0, vs Al l cl), (4, vp b17 0), (10, vs Al l cl), (11, vi (((l).length : Nat) : Int)), (12, vi ((s7 : Nat) : Int)), (23, vs (offA Al cl 0 3) (List.take s7 l) (cl - 0)), (24, vi ((((List.take s7 l)).length : Nat) : Int)), (25, vi ((s31 : Nat) : Int)), (30, vt ((List.getD (List.take s7 l) s31 default).name)), (32, vt ((List.getD l s7 default).name))] ?_
        refine xV (qEqS ((List.getD (List.take s7 l) s31 default).name) ((List.getD l s7 default).name)) ?_
        refine xRe ?_
        refine wpq_then ?_
        refine xSub [(0, vs Al l cl), (4, vp b17 0), (10, vs Al l cl), (11, vi (((l).length : Nat) : Int)), (12, vi ((s7 : Nat) : Int)), (23, vs (offA Al cl 0 3) (List.take s7 l) (cl - 0)), (24, vi ((((List.take s7 l)).length : Nat) : Int)), (25, vi ((s31 : Nat) : Int)), (33, vb ((List.getD (List.take s7 l) s31 default).name == (List.getD l s7 default).name))] ?_
        refine xCd (((List.getD (List.take s7 l) s31 default).name == (List.getD l s7 default).name)) (fun h38 => ?_) (fun h38 => ?_)
        ·have hS := cond_T h38 hS
         have h38p : (List.getD (List.take s7 l) s31 default).name = (List.getD l s7 default).name := eq_of_beq h38
         refine xSq ?_
         refine xRg ?_
         refine xB 1 [] [(2, vi 7)] ?_
         refine xRe ?_
         refine wpq_then ?_
         have eS := (Option.some.inj hS).symm
         have eS := (hD31 _ eS).symm
         have eS := (hD23 _ eS).symm
         have eS := (hD11 _ eS).symm
         have eS := (hD7 _ eS).symm
         have eS := (hD2 _ eS).symm
         subst eS
         exact xRet [] [2] (e9.trans (e20.trans e33)) ⟨by kernel_rfl, by kernel_rfl⟩ (fun _ _ h => h)
        ·have hS := cond_F h38 hS
         have h38p : ¬ ((List.getD (List.take s7 l) s31 default).name = (List.getD l s7 default).name) := ne_of_beq_false_ h38
         refine xSk ?_
         refine wpq_blockN ?_
         refine wpq_then ?_
         refine xSub [(0, vs Al l cl), (4, vp b17 0), (10, vs Al l cl), (11, vi (((l).length : Nat) : Int)), (12, vi ((s7 : Nat) : Int)), (23, vs (offA Al cl 0 3) (List.take s7 l) (cl - 0)), (24, vi ((((List.take s7 l)).length : Nat) : Int)), (25, vi ((s31 : Nat) : Int))] ?_
         refine xRg ?_
         obtain ⟨q39, hS⟩ := grd_T hS
         have q39p := of_decide_eq_true q39
         refine xV (qAdd .i64 (((s31 : Nat) : Int)) (1) (wr64 (by omega))) ?_
         refine xB 1 [] [(0, vs Al l cl), (4, vp b17 0), (10, vs Al l cl), (11, vi (((l).length : Nat) : Int)), (12, vi ((s7 : Nat) : Int)), (23, vs (offA Al cl 0 3) (List.take s7 l) (cl - 0)), (24, vi ((((List.take s7 l)).length : Nat) : Int)), (25, vi (((s31 : Nat) : Int) + 1))] ?_
         refine xRe ?_
         refine wpq_thenN ?_
         refine xSel [some 1] ?_
         refine xSub [(0, vs Al l cl), (4, vp b17 0), (10, vs Al l cl), (11, vi (((l).length : Nat) : Int)), (12, vi ((s7 : Nat) : Int)), (23, vs (offA Al cl 0 3) (List.take s7 l) (cl - 0)), (24, vi ((((List.take s7 l)).length : Nat) : Int)), (25, vi (((s31 : Nat) : Int) + 1))] ?_
         have eS := (Option.some.inj hS).symm
         exact hN31 _ eS _ _ _ (Gh.le.refl _) ⟨by kernel_rfl, by kernel_rfl⟩
       ·have hS := cond_F h34 hS
        have h34p := of_decide_eq_false h34
        refine xEx 2 ?_
        refine wpq_thenX ?_
        refine wpq_thenX ?_
        refine wpq_blockE ?_
        refine xSub [(0, vs Al l cl), (4, vp b17 0), (10, vs Al l cl), (11, vi (((l).length : Nat) : Int)), (12, vi ((s7 : Nat) : Int))] ?_
        have eS := (Option.some.inj hS).symm
        have eS := (hD31 _ eS).symm
        exact hN23 _ eS _ _ _ e33 ⟨by kernel_rfl, by kernel_rfl⟩
   ·have hS := cond_F h10 hS
    have h10p := of_decide_eq_false h10
    refine xEx 0 ?_
    refine wpq_thenX ?_
    refine wpq_thenX ?_
    refine wpq_blockE ?_
    refine xSub [] ?_
    have eS := (Option.some.inj hS).symm
    have eS := (hD7 _ eS).symm
    exact hN2 _ eS _ _ _ e9 ⟨by kernel_rfl, by kernel_rfl⟩

def o28 (l : List AlertDef) : Option (RBoard × Int) :=
 (bindO (τ := Int) (o14 (l : List AlertDef)) fun y2 => (cond ((y2 != 0)) (some (((⟨([] : List AlertDef), 0, 0, ([] : List Int), ([] : List Bool)⟩ : RBoard), (y2 : Int)))) (grd (decide (0 ≤ (((l).length : Nat) : Int) ∧ (((l).length : Nat) : Int) * 8 ≤ 140737488355328)) (some (((⟨l, 0, 1, (List.replicate (l).length (0 : Int)), (List.replicate (l).length (false : Bool))⟩ : RBoard), (0 : Int)))))))
set_option maxRecDepth 100000 in
theorem c28 (g : Gh) (l : List AlertDef) (Al : Option Addr) (cl : Nat) (fl : Arr g.b tyAlertDef Al cl l) {r : RBoard × Int} (hS : o28 l = some r) :
  Ctr Try.prog 28 [vs Al l cl] g [] (fun v ψ o => ∃ (Ar_0_defs : Option Addr) (cr_0_defs : Nat) (Ar_0_onset : Option Addr) (cr_0_onset : Nat) (kr_0_onset : Option Bk) (Ar_0_acked : Option Addr) (cr_0_acked : Nat) (kr_0_acked : Option Bk), v = Value.tuple #[Value.agg #[vs Ar_0_defs r.1.defs cr_0_defs, vi r.1.steps, vy r.1.phase, vs Ar_0_onset r.1.onset cr_0_onset, vs Ar_0_acked r.1.acked cr_0_acked], vi r.2] ∧ o = [kr_0_onset, kr_0_acked] ∧ Arr ψ tyAlertDef Ar_0_defs cr_0_defs r.1.defs ∧ Buf ψ (tyI .i64) 2 (.slice Ar_0_onset (r.1.onset).length cr_0_onset) kr_0_onset r.1.onset ∧ Buf ψ tyB 4 (.slice Ar_0_acked (r.1.acked).length cr_0_acked) kr_0_acked r.1.acked) := by
 unfold o28 at hS
 refine xFn Try.f28 (Try.f28.body.getD .skip) 19 ?_
 have nfl := fl.len
 refine xSq ?_
 refine xRg ?_
 refine xE eB ?_
 rintro _ _ _ - ⟨b1, rfl, rfl, rfl⟩
 refine xB 1 [] [(0, vs Al l cl), (2, vp b1 0)] ?_
 refine xRe ?_
 refine wpq_then ?_
 refine xSq ?_
 refine xRg ?_
 refine xB 1 [] [(0, vs Al l cl), (2, vp b1 0), (5, vs Al l cl)] ?_
 obtain ⟨y2, hy2, hS⟩ := bindO_T hS
 refine xE (eC 0 (fun g' lr eb ln => c14 g' (l : List AlertDef) Al cl ((fl.mono g.br).mono lr) hy2)) ?_
 rintro _ g3 _ e4 ⟨_, rfl, rfl, rfl⟩
 refine xB 1 [] [(0, vs Al l cl), (2, vp b1 0), (4, vi y2)] ?_
 refine xRe ?_
 refine wpq_then ?_
 refine xSq ?_
 refine xSq ?_
 refine xRg ?_
 refine xB 2 [] [(0, vs Al l cl), (2, vp b1 0), (4, vi y2), (8, vb (y2 != 0))] ?_
 refine xRe ?_
 refine wpq_then ?_
 refine xCd ((y2 != 0)) (fun h5 => ?_) (fun h5 => ?_)
 ·have hS := cond_T h5 hS
  have h5p : ¬ (y2 = 0) := ne_of_bne_ h5
  refine xSq ?_
  refine xRg ?_
  refine xBo 4 [(2, 0)] [some ⟨b1, 57, (cRBoard (⟨([] : List AlertDef), 0, 0, ([] : List Int), ([] : List Bool)⟩ : RBoard) none 0 none 0 none 0)⟩] [(2, vp b1 0), (3, vi y2)] ?_
  refine xRe ?_
  refine wpq_then ?_
  have eS := (Option.some.inj hS).symm
  subst eS
  exact xRetC [none, none] [(2, 0)] e4 ⟨none, 0, none, 0, none, none, 0, none, by kernel_rfl, by kernel_rfl, Arr.nil, Buf.nil, Buf.nil⟩ (fun _ _ h => h)
 ·have hS := cond_F h5 hS
  have h5p : y2 = 0 := eq_of_bne_false_ h5
  refine xSk ?_
  refine wpq_then ?_
  refine xSub [(0, vs Al l cl), (2, vp b1 0)] ?_
  refine xSq ?_
  refine xDr 0 [] [8, 0, 1, 2, 4, 5, 7, 9] [] 10 (fun RG => ?_) (fun _ _ _ _ _ h => h)
  refine xT 5 [0, 1, 2, 4, 5] [] [] [(2, vp b1 0), (11, vs Al l cl), (13, vi (((l).length : Nat) : Int)), (16, vi (((l).length : Nat) : Int))] RG (Psi.le.refl _) ?_
  obtain ⟨q7, hS⟩ := grd_T hS
  have q7p := of_decide_eq_true q7
  refine wpa_meet (fun g own sl => ∃ (A8 : Option Addr) (c8 : Nat) (k8 : Option Bk) (A9 : Option Addr) (c9 : Nat) (k9 : Option Bk), own = [k9, k8, some ⟨b1, 57, (cRBoard (⟨([] : List AlertDef), 0, 0, ([] : List Int), ([] : List Bool)⟩ : RBoard) none 0 none 0 none 0)⟩] ∧ sl = [(2, vp b1 0), (11, vs Al l cl), (14, vs A8 (List.replicate (l).length (0 : Int)) c8), (17, vs A9 (List.replicate (l).length (false : Bool)) c9)] ∧ Buf g.b (tyI .i64) 2 (.slice A8 ((List.replicate (l).length (0 : Int))).length c8) k8 (List.replicate (l).length (0 : Int)) ∧ Buf g.b tyB 4 (.slice A9 ((List.replicate (l).length (false : Bool))).length c9) k9 (List.replicate (l).length (false : Bool))) 3 [true, true, true, true, true, true, true, false, false, false] ?_ (fun hD6 => ?_)
  ·rintro g207 _ _ e208 ⟨A8, c8, k8, A9, c9, k9, rfl, rfl, h8, h9⟩
   have nh8 := h8.len
   have nh9 := h9.len
   have hlh8 : ((List.replicate (l).length (0 : Int))).length = (l).length := List.length_replicate
   have hlh9 : ((List.replicate (l).length (false : Bool))).length = (l).length := List.length_replicate
   refine xT 2 [7] [] [] [(2, vp b1 0), (18, Value.agg #[vs Al l cl, vi 0, vy 1, vs A8 (List.replicate (l).length (0 : Int)) c8, vs A9 (List.replicate (l).length (false : Bool)) c9])] RG e208.r ?_
   refine xO1 (lds := []) 8 ?_
   refine xId (lds := []) e208.r (eStL b1 0 2) ?_
   rintro _ _ _ - ⟨rfl, rfl⟩
   refine kf ?_
   refine xT 0 [9] [] [] [(2, vp b1 0), (3, vi 0)] RG e208.r ?_
   refine xAe (lds := []) ?_
   refine wpq_then ?_
   have fl := fl.mono (e4.trans e208).b
   have eS := (Option.some.inj hS).symm
   subst eS
   exact xRetC [some 1, some 0] [(2, 2)] (e4.trans e208) ⟨Al, cl, A8, c8, k8, A9, c9, k9, by kernel_rfl, by kernel_rfl, fl, h8, h9⟩ (fun _ _ h => h)
  ·refine xO2 (lds := []) 3 6 ?_ ?_
   ·refine xIe (lds := []) (Psi.le.refl _) (eMk (T := (tyI .i64)) (p := g3.b) (et := 2) (bytes := 8) (z := (0 : Int)) (l).length rfl (show (tyI .i64).rep _ _ _ from rfl) (by omega) (by omega)) ?_
    rintro _ _ _ - ⟨A210, c210, k210, rfl, rfl, rfl, h210⟩
    refine kk [] ?_
    have nh210 := h210.len
    have hlh210 : ((List.replicate (l).length (0 : Int))).length = (l).length := List.length_replicate
    refine xO1 (lds := []) 6 ?_
    refine xIe (lds := []) (Psi.le.refl _) (eMk (T := tyB) (p := g3.b) (et := 4) (bytes := 1) (z := (false : Bool)) (l).length rfl (show tyB.rep _ _ _ from rfl) (by omega) (by omega)) ?_
    rintro _ _ _ - ⟨A211, c211, k211, rfl, rfl, rfl, h211⟩
    refine kk [] ?_
    have nh211 := h211.len
    have hlh211 : ((List.replicate (l).length (false : Bool))).length = (l).length := List.length_replicate
    refine xSub [(2, vp b1 0), (11, vs Al l cl), (14, vs A210 (List.replicate (l).length (0 : Int)) c210), (17, vs A211 (List.replicate (l).length (false : Bool)) c211)] ?_
    exact hD6 _ _ _ (Gh.le.refl _) ⟨A210, c210, k210, A211, c211, k211, by kernel_rfl, by kernel_rfl, h210, h211⟩
   ·refine xIe (lds := []) (Psi.le.refl _) (eMk (T := tyB) (p := g3.b) (et := 4) (bytes := 1) (z := (false : Bool)) (l).length rfl (show tyB.rep _ _ _ from rfl) (by omega) (by omega)) ?_
    rintro _ _ _ - ⟨A212, c212, k212, rfl, rfl, rfl, h212⟩
    refine kk [] ?_
    have nh212 := h212.len
    have hlh212 : ((List.replicate (l).length (false : Bool))).length = (l).length := List.length_replicate
    refine xO1 (lds := []) 3 ?_
    refine xIe (lds := []) (Psi.le.refl _) (eMk (T := (tyI .i64)) (p := g3.b) (et := 2) (bytes := 8) (z := (0 : Int)) (l).length rfl (show (tyI .i64).rep _ _ _ from rfl) (by omega) (by omega)) ?_
    rintro _ _ _ - ⟨A214, c214, k214, rfl, rfl, rfl, h214⟩
    refine kk [] ?_
    have nh214 := h214.len
    have hlh214 : ((List.replicate (l).length (0 : Int))).length = (l).length := List.length_replicate
    refine xSel [some 1, some 0, some 2] ?_
    refine xSub [(2, vp b1 0), (11, vs Al l cl), (14, vs A214 (List.replicate (l).length (0 : Int)) c214), (17, vs A212 (List.replicate (l).length (false : Bool)) c212)] ?_
    exact hD6 _ _ _ (Gh.le.refl _) ⟨A214, c214, k214, A212, c212, k212, by kernel_rfl, by kernel_rfl, h214, h212⟩

def o49_L0 (p : List UInt8) (s6 : Int × Nat) : Option (Ctl (Int × Nat) (Int)) :=
 (cond (decide (((s6.2 : Nat) : Int) < 8)) (grd (decide (s6.2 < (p).length)) (grd (decide (0 ≤ (IntKind.i64.wrap (8 * ((s6.2 : Nat) : Int))))) (grd (decide (((s6.2 : Nat) : Int) + 1 ≤ 9223372036854775807)) (some (Ctl.go ((lorK .u64 s6.1 (shlK .u64 ((List.getD p s6.2 0).toNat : Int) (IntKind.i64.wrap (8 * ((s6.2 : Nat) : Int))))), (s6.2 + 1))))))) (some (Ctl.done (s6.1))))
def o49 (p : List UInt8) : Option (Int) :=
 (bindO (τ := Int) (loopO (σ := Int × Nat) (ρ := Int) fuelN (o49_L0 p) (0, 0)) fun t1 => (some (((IntKind.i64.wrap t1) : Int))))
set_option maxRecDepth 100000 in
theorem c49 (g : Gh) (p : List UInt8) (Ap : Option Addr) (cp : Nat) (fp : Arr g.r tyU8 Ap cp p) {r : Int} (hS : o49 p = some r) :
  Ctr Try.prog 49 [vs Ap p cp] g [] (fun v ψ o => v = vi r ∧ o = []) := by
 unfold o49 at hS
 refine xFn Try.f49 (Try.f49.body.getD .skip) 21 ?_
 have nfp := fp.len
 refine xSq ?_
 refine xRg ?_
 refine xB 1 [] [(0, vs Ap p cp)] ?_
 refine xRe ?_
 refine wpq_then ?_
 refine xSq ?_
 refine xRg ?_
 refine xB 1 [] [(0, vs Ap p cp), (3, Value.int .u64 0)] ?_
 refine xRe ?_
 refine wpq_then ?_
 refine xSq ?_
 refine xSq ?_
 refine xRg ?_
 refine xB 1 [] [(0, vs Ap p cp), (3, Value.int .u64 0), (4, vi 0)] ?_
 refine xRe ?_
 refine wpq_then ?_
 refine xBindO hS (fun g own sl t1 => own = [] ∧ sl = [(3, Value.int .u64 t1)]) ?_ ?_
 ·rintro g2 _ _ t1 e3 ⟨rfl, rfl⟩ hS
  refine wpq_then ?_
  refine xSq ?_
  refine xRg ?_
  have z7 := i64_in_ t1
  refine xB 3 [] [(2, vi (IntKind.i64.wrap t1))] ?_
  refine xRe ?_
  refine wpq_then ?_
  have eS := (Option.some.inj hS).symm
  subst eS
  exact xRet [] [2] e3 ⟨by kernel_rfl, by kernel_rfl⟩ (fun _ _ h => h)
 ·intro uu1 hS hN1
  refine xBl 0 ?_
  refine xSub [(0, vs Ap p cp), (3, Value.int .u64 0), (4, vi 0)] ?_
  refine xLo hS (fun g own sl s6 => own = [] ∧ sl = [(0, vs Ap p cp), (3, Value.int .u64 s6.1), (4, vi ((s6.2 : Nat) : Int))]) ⟨by kernel_rfl, by kernel_rfl⟩ ?_
  rintro g7 _ _ s6 uu6 e8 ⟨rfl, rfl⟩ hS Qr6 hN6 hD6
  unfold o49_L0 at hS
  refine xSq ?_
  refine xSq ?_
  refine xRg ?_
  refine xB 2 [] [(0, vs Ap p cp), (3, Value.int .u64 s6.1), (4, vi ((s6.2 : Nat) : Int)), (6, vb (decide (((s6.2 : Nat) : Int) < 8)))] ?_
  refine xRe ?_
  refine wpq_then ?_
  refine xCd (decide (((s6.2 : Nat) : Int) < 8)) (fun h9 => ?_) (fun h9 => ?_)
  ·have hS := cond_T h9 hS
   have h9p := of_decide_eq_true h9
   refine xSk ?_
   refine wpq_then ?_
   refine xSub [(0, vs Ap p cp), (3, Value.int .u64 s6.1), (4, vi ((s6.2 : Nat) : Int))] ?_
   refine xSq ?_
   refine xBl 1 ?_
   refine xRg ?_
   have fp := fp.mono e8.r
   obtain ⟨q11, hS⟩ := grd_T hS
   have q11p := of_decide_eq_true q11
   obtain ⟨ad10, cs10, hA10, hr10, hc10⟩ := fp.at_ (get_getD (d := 0) q11p)
   have hr10 : cs10 = [vy ((List.getD p s6.2 0).toNat : Int)] := hr10
   subst hr10
   have nb10 := UInt8.toNat_lt (List.getD p s6.2 0)
   refine xB 3 [] [(0, vs Ap p cp), (3, Value.int .u64 s6.1), (4, vi ((s6.2 : Nat) : Int)), (9, Value.int .u64 s6.1), (10, vs Ap p cp), (11, vi ((s6.2 : Nat) : Int))] ?_
   refine xV (qIx s6.2 1 hA10 rfl q11p) ?_
   refine xV (qLdP (Addr.add ad10 (s6.2 * 1)) 0 hc10) ?_
   refine xV (qConv .u8 .u64 (((List.getD p s6.2 0).toNat : Int)) (((List.getD p s6.2 0).toNat : Int)) (wr_u64 (by omega))) ?_
   have z13 := i64_in_ (8 * ((s6.2 : Nat) : Int))
   obtain ⟨q12, hS⟩ := grd_T hS
   have q12p := of_decide_eq_true q12
   refine xB 2 [] [(0, vs Ap p cp), (3, Value.int .u64 s6.1), (4, vi ((s6.2 : Nat) : Int)), (9, Value.int .u64 s6.1), (14, Value.int .u64 ((List.getD p s6.2 0).toNat : Int)), (16, vi (IntKind.i64.wrap (8 * ((s6.2 : Nat) : Int))))] ?_
   refine xV (qShl .u64 .i64 (((List.getD p s6.2 0).toNat : Int)) ((IntKind.i64.wrap (8 * ((s6.2 : Nat) : Int)))) (by omega)) ?_
   refine xB 2 [] [(0, vs Ap p cp), (3, Value.int .u64 (lorK .u64 s6.1 (shlK .u64 ((List.getD p s6.2 0).toNat : Int) (IntKind.i64.wrap (8 * ((s6.2 : Nat) : Int)))))), (4, vi ((s6.2 : Nat) : Int))] ?_
   refine xRe ?_
   refine wpq_blockN ?_
   refine wpq_then ?_
   refine xRg ?_
   obtain ⟨q13, hS⟩ := grd_T hS
   have q13p := of_decide_eq_true q13
   refine xB 1 [] [(0, vs Ap p cp), (3, Value.int .u64 (lorK .u64 s6.1 (shlK .u64 ((List.getD p s6.2 0).toNat : Int) (IntKind.i64.wrap (8 * ((s6.2 : Nat) : Int)))))), (4, vi ((s6.2 : Nat) : Int)), (7, vi ((s6.2 : Nat) : Int))] ?_
   refine xV (qAdd .i64 (((s6.2 : Nat) : Int)) (1) (wr64 (by omega))) ?_
   refine xB 1 [] [(0, vs Ap p cp), (3, Value.int .u64 (lorK .u64 s6.1 (shlK .u64 ((List.getD p s6.2 0).toNat : Int) (IntKind.i64.wrap (8 * ((s6.2 : Nat) : Int)))))), (4, vi (((s6.2 : Nat) : Int) + 1))] ?_
   refine xRe ?_
   refine wpq_thenN ?_
   refine xSub [(0, vs Ap p cp), (3, Value.int .u64 (lorK .u64 s6.1 (shlK .u64 ((List.getD p s6.2 0).toNat : Int) (IntKind.i64.wrap (8 * ((s6.2 : Nat) : Int)))))), (4, vi (((s6.2 : Nat) : Int) + 1))] ?_
   have eS := (Option.some.inj hS).symm
   exact hN6 _ eS _ _ _ (Gh.le.refl _) ⟨by kernel_rfl, by kernel_rfl⟩
  ·have hS := cond_F h9 hS
   have h9p := of_decide_eq_false h9
   refine xEx 0 ?_
   refine wpq_thenX ?_
   refine wpq_thenX ?_
   refine wpq_blockE ?_
   refine xSub [(3, Value.int .u64 s6.1)] ?_
   have eS := (Option.some.inj hS).symm
   have eS := (hD6 _ eS).symm
   exact hN1 _ eS _ _ _ e8 ⟨by kernel_rfl, by kernel_rfl⟩

end Go.Proofs.Ytfhchendnfpbkaa
