/-
Walks, printed by wip/gen, with half of their indentation. Conditions: each theorem's own.
-/
import Derived.Test.YtfhchendnfpbkaaA0
namespace Go.Proofs.Ytfhchendnfpbkaa
set_option linter.unusedVariables false
set_option linter.unusedSimpArgs false
open Go.RowKit
def o42 (i : Int) (j : Int) (fvp : Board) : Option (Int) :=
 (grd (decide (0 ≤ i ∧ i < (((fvp.defs).length : Nat) : Int))) (grd (decide (0 ≤ j ∧ j < (((fvp.defs).length : Nat) : Int))) (grd (decide (0 ≤ j ∧ j < (((fvp.conds).length : Nat) : Int))) (grd (decide (0 ≤ i ∧ i < (((fvp.conds).length : Nat) : Int))) (letJ (τ := Int) (o44 ((List.getD fvp.defs (i).toNat default).level : Int) ((List.getD fvp.defs (j).toNat default).level : Int)) fun y13 => (letJ (τ := Int) (o45 ((List.getD fvp.conds (j).toNat default).onset : Int) ((List.getD fvp.conds (i).toNat default).onset : Int)) fun y16 => (letJ (τ := Int) (o46 (i : Int) (j : Int)) fun y19 => (bindO (τ := Int) (o43 (([(y13 : Int), (y16 : Int), (y19 : Int)] : List Int) : List Int)) fun y23 => (some ((y23 : Int)))))))))))
set_option maxRecDepth 100000 in
theorem c42 (g : Gh) (i : Int) (j : Int) (a_fv : Addr) (a_fvp : Addr) (fvp : Board) (Afvp_defs : Option Addr) (cfvp_defs : Nat) (Afvp_conds : Option Addr) (cfvp_conds : Nat) (hc_fvp : Cells g.r a_fvp (cBoard fvp Afvp_defs cfvp_defs Afvp_conds cfvp_conds)) (ffvp_defs : Arr g.r tyAlertDef Afvp_defs cfvp_defs fvp.defs) (ffvp_conds : ArrM g.r g.b tyCnd Afvp_conds cfvp_conds fvp.conds) (hc_fv : Cells g.r a_fv [Value.pointer (some a_fvp)]) {r : Int} (hS : o42 i j fvp = some r) :
  Ctr Try.prog 42 [vi i, vi j, Value.pointer (some a_fv)] g [] (fun v ψ o => v = vi r ∧ o = []) := by
 unfold o42 at hS
 refine xFn Try.f42 (Try.f42.body.getD .skip) 45 ?_
 have nffvp_defs := ffvp_defs.len
 have nffvp_conds := ffvp_conds.len
 refine xSq ?_
 refine xRg ?_
 refine xB 1 [] [(0, vi i), (1, vi j), (2, Value.pointer (some a_fv))] ?_
 refine xRe ?_
 refine wpq_then ?_
 refine xSq ?_
 refine xDr 0 [0, 3, 7, 8, 11, 15, 17, 20, 24, 25, 28, 32] [39] [] 40 (fun RG => ?_) (fun _ _ _ _ _ h => h)
 refine xTv 0 [] RG (Psi.le.refl _) (qLdP a_fv 0 hc_fv) ?_
 refine xT 37 [1, 2] [] [] [(0, vi i), (1, vi j), (2, Value.pointer (some a_fv)), (8, Value.pointer (some a_fvp))] RG (Psi.le.refl _) ?_
 refine xTv 3 [] RG (Psi.le.refl _) (qLdP a_fvp 0 hc_fvp) ?_
 obtain ⟨q2, hS⟩ := grd_T hS
 have q2p := of_decide_eq_true q2
 have i3 : (i).toNat < (fvp.defs).length := by omega
 obtain ⟨ad1, cs1, hA1, hr1, hc1⟩ := ffvp_defs.at_ (get_getD (d := default) i3)
 obtain ⟨rfl⟩ := hr1
 refine xT 35 [4] [] [] [(0, vi i), (1, vi j), (2, Value.pointer (some a_fv)), (9, vs Afvp_defs fvp.defs cfvp_defs), (10, vi i)] RG (Psi.le.refl _) ?_
 refine xTp 5 RG (fun _ => (qIx (i).toNat 3 hA1 (show (i : Int) = _ from by omega) i3)) ?_
 refine xT 33 [6] [] [] [(0, vi i), (1, vi j), (2, Value.pointer (some a_fv)), (12, Value.pointer (some (Addr.add (Addr.add ad1 ((i).toNat * 3)) 1)))] RG (Psi.le.refl _) ?_
 refine xTv 7 [] RG (Psi.le.refl _) (qLdP (Addr.add ad1 ((i).toNat * 3)) 1 hc1) ?_
 refine xTv 8 [] RG (Psi.le.refl _) (qLdP a_fv 0 hc_fv) ?_
 refine xT 29 [9, 10] [] [] [(0, vi i), (1, vi j), (2, Value.pointer (some a_fv)), (13, vy ((List.getD fvp.defs (i).toNat default).level)), (16, Value.pointer (some a_fvp))] RG (Psi.le.refl _) ?_
 refine xTv 11 [] RG (Psi.le.refl _) (qLdP a_fvp 0 hc_fvp) ?_
 obtain ⟨q5, hS⟩ := grd_T hS
 have q5p := of_decide_eq_true q5
 have i6 : (j).toNat < (fvp.defs).length := by omega
 obtain ⟨ad4, cs4, hA4, hr4, hc4⟩ := ffvp_defs.at_ (get_getD (d := default) i6)
 obtain ⟨rfl⟩ := hr4
 refine xT 27 [12] [] [] [(0, vi i), (1, vi j), (2, Value.pointer (some a_fv)), (13, vy ((List.getD fvp.defs (i).toNat default).level)), (17, vs Afvp_defs fvp.defs cfvp_defs), (18, vi j)] RG (Psi.le.refl _) ?_
 refine xTp 13 RG (fun _ => (qIx (j).toNat 3 hA4 (show (j : Int) = _ from by omega) i6)) ?_
 refine xT 25 [14] [] [] [(0, vi i), (1, vi j), (2, Value.pointer (some a_fv)), (13, vy ((List.getD fvp.defs (i).toNat default).level)), (20, Value.pointer (some (Addr.add (Addr.add ad4 ((j).toNat * 3)) 1)))] RG (Psi.le.refl _) ?_
 refine xTv 15 [] RG (Psi.le.refl _) (qLdP (Addr.add ad4 ((j).toNat * 3)) 1 hc4) ?_
 refine xTv 17 [] RG (Psi.le.refl _) (qLdP a_fv 0 hc_fv) ?_
 refine xT 21 [18, 19] [] [] [(0, vi i), (1, vi j), (2, Value.pointer (some a_fv)), (13, vy ((List.getD fvp.defs (i).toNat default).level)), (21, vy ((List.getD fvp.defs (j).toNat default).level)), (25, Value.pointer (some (Addr.add a_fvp 3)))] RG (Psi.le.refl _) ?_
 refine xTv 20 [] RG (Psi.le.refl _) (qLdP a_fvp 3 hc_fvp) ?_
 obtain ⟨q8, hS⟩ := grd_T hS
 have q8p := of_decide_eq_true q8
 have i9 : (j).toNat < (fvp.conds).length := by omega
 obtain ⟨ad7, cs7, hA7, hr7, hc7⟩ := ffvp_conds.at_ (get_getD (d := default) i9)
 obtain ⟨rfl⟩ := hr7
 refine xT 19 [21] [] [] [(0, vi i), (1, vi j), (2, Value.pointer (some a_fv)), (13, vy ((List.getD fvp.defs (i).toNat default).level)), (21, vy ((List.getD fvp.defs (j).toNat default).level)), (26, vs Afvp_conds fvp.conds cfvp_conds), (27, vi j)] RG (Psi.le.refl _) ?_
 refine xTp 22 RG (fun _ => (qIx (j).toNat 2 hA7 (show (j : Int) = _ from by omega) i9)) ?_
 refine xT 17 [23] [] [] [(0, vi i), (1, vi j), (2, Value.pointer (some a_fv)), (13, vy ((List.getD fvp.defs (i).toNat default).level)), (21, vy ((List.getD fvp.defs (j).toNat default).level)), (29, Value.pointer (some (Addr.add ad7 ((j).toNat * 2))))] RG (Psi.le.refl _) ?_
 refine xTv 24 [] RG (Psi.le.refl _) (qLdP (Addr.add ad7 ((j).toNat * 2)) 0 hc7) ?_
 refine xTv 25 [] RG (Psi.le.refl _) (qLdP a_fv 0 hc_fv) ?_
 refine xT 13 [26, 27] [] [] [(0, vi i), (1, vi j), (13, vy ((List.getD fvp.defs (i).toNat default).level)), (21, vy ((List.getD fvp.defs (j).toNat default).level)), (30, vi ((List.getD fvp.conds (j).toNat default).onset)), (33, Value.pointer (some (Addr.add a_fvp 3)))] RG (Psi.le.refl _) ?_
 refine xTv 28 [] RG (Psi.le.refl _) (qLdP a_fvp 3 hc_fvp) ?_
 obtain ⟨q11, hS⟩ := grd_T hS
 have q11p := of_decide_eq_true q11
 have i12 : (i).toNat < (fvp.conds).length := by omega
 obtain ⟨ad10, cs10, hA10, hr10, hc10⟩ := ffvp_conds.at_ (get_getD (d := default) i12)
 obtain ⟨rfl⟩ := hr10
 refine xT 11 [29] [] [] [(0, vi i), (1, vi j), (13, vy ((List.getD fvp.defs (i).toNat default).level)), (21, vy ((List.getD fvp.defs (j).toNat default).level)), (30, vi ((List.getD fvp.conds (j).toNat default).onset)), (34, vs Afvp_conds fvp.conds cfvp_conds), (35, vi i)] RG (Psi.le.refl _) ?_
 refine xTp 30 RG (fun _ => (qIx (i).toNat 2 hA10 (show (i : Int) = _ from by omega) i12)) ?_
 refine xT 9 [31] [] [] [(0, vi i), (1, vi j), (13, vy ((List.getD fvp.defs (i).toNat default).level)), (21, vy ((List.getD fvp.defs (j).toNat default).level)), (30, vi ((List.getD fvp.conds (j).toNat default).onset)), (37, Value.pointer (some (Addr.add ad10 ((i).toNat * 2))))] RG (Psi.le.refl _) ?_
 refine xTv 32 [] RG (Psi.le.refl _) (qLdP (Addr.add ad10 ((i).toNat * 2)) 0 hc10) ?_
 refine xT 6 [34, 35] [] [] [(13, vy ((List.getD fvp.defs (i).toNat default).level)), (21, vy ((List.getD fvp.defs (j).toNat default).level)), (30, vi ((List.getD fvp.conds (j).toNat default).onset)), (38, vi ((List.getD fvp.conds (i).toNat default).onset)), (40, vi i), (41, vi j)] RG (Psi.le.refl _) ?_
 obtain ⟨y13, hy13, hS⟩ := letJ_T hS
 refine xO1 (lds := [0, 3, 7, 8, 11, 15, 17, 20, 24, 25, 28, 32]) 16 ?_
 refine xIe (lds := [0, 3, 7, 8, 11, 15, 17, 20, 24, 25, 28, 32]) (Psi.le.refl _) (eC 0 (fun g' lr eb ln => c44 g' ((List.getD fvp.defs (i).toNat default).level : Int) ((List.getD fvp.defs (j).toNat default).level : Int) hy13)) ?_
 rintro _ g14 _ e15 ⟨_, rfl, rfl, rfl⟩
 refine kk [] ?_
 obtain ⟨y16, hy16, hS⟩ := letJ_T hS
 refine xO1 (lds := [0, 3, 7, 8, 11, 15, 17, 20, 24, 25, 28, 32]) 33 ?_
 refine xIe (lds := [0, 3, 7, 8, 11, 15, 17, 20, 24, 25, 28, 32]) e15.r (eC 0 (fun g' lr eb ln => c45 g' ((List.getD fvp.conds (j).toNat default).onset : Int) ((List.getD fvp.conds (i).toNat default).onset : Int) hy16)) ?_
 rintro _ g17 _ e18 ⟨_, rfl, rfl, rfl⟩
 refine kk [] ?_
 obtain ⟨y19, hy19, hS⟩ := letJ_T hS
 refine xO1 (lds := [0, 3, 7, 8, 11, 15, 17, 20, 24, 25, 28, 32]) 36 ?_
 refine xIe (lds := [0, 3, 7, 8, 11, 15, 17, 20, 24, 25, 28, 32]) (e15.trans e18).r (eC 0 (fun g' lr eb ln => c46 g' (i : Int) (j : Int) hy19)) ?_
 rintro _ g20 _ e21 ⟨_, rfl, rfl, rfl⟩
 refine kk [] ?_
 refine xO1 (lds := [0, 3, 7, 8, 11, 15, 17, 20, 24, 25, 28, 32]) 37 ?_
 refine xIe (lds := [0, 3, 7, 8, 11, 15, 17, 20, 24, 25, 28, 32]) (e15.trans (e18.trans e21)).r (eBs (T := (tyI .i64)) (p := g20.b) (et := 3) (xs := ([(y13 : Int), (y16 : Int), (y19 : Int)] : List Int)) (reps_cons (c := [vi y13]) (show (tyI .i64).rep _ _ _ from rfl) (reps_cons (c := [vi y16]) (show (tyI .i64).rep _ _ _ from rfl) (reps_cons (c := [vi y19]) (show (tyI .i64).rep _ _ _ from rfl) reps_nil))) (by simp)) ?_
 rintro _ _ _ - ⟨A22, c22, k22, rfl, rfl, rfl, h22⟩
 refine kk [] ?_
 obtain ⟨y23, hy23, hS⟩ := bindO_T hS
 refine xO1 (lds := [0, 3, 7, 8, 11, 15, 17, 20, 24, 25, 28, 32]) 38 ?_
 refine xIe (lds := [0, 3, 7, 8, 11, 15, 17, 20, 24, 25, 28, 32]) (e15.trans (e18.trans e21)).r (eC 0 (fun g' lr eb ln => c43 g' (([(y13 : Int), (y16 : Int), (y19 : Int)] : List Int) : List Int) A22 c22 (arr_of_buf h22 (Psi.le_b eb) (lentk 0 (by kernel_rfl) ln)) hy23)) ?_
 rintro _ g24 _ e25 ⟨_, rfl, rfl, rfl⟩
 refine kk [] ?_
 refine xT 0 [39] [] [] [(5, vi y23)] RG (e15.trans (e18.trans (e21.trans e25))).r ?_
 refine xAe (lds := [0, 3, 7, 8, 11, 15, 17, 20, 24, 25, 28, 32]) ?_
 refine wpq_then ?_
 have eS := (Option.some.inj hS).symm
 subst eS
 exact xRet [] [5] (e15.trans (e18.trans (e21.trans e25))) ⟨by kernel_rfl, by kernel_rfl⟩ (fun _ _ h => h)

def o66f42_L1 (a : Int) (cmpcp : Board) (s18 : (List Int) × Int) : Option (Ctl ((List Int) × Int) ((List Int))) :=
 (bindO (τ := Bool) (cond (decide (s18.2 > a)) (grd (decide (0 ≤ s18.2 ∧ s18.2 < (((s18.1).length : Nat) : Int))) (grd (decide (0 ≤ (IntKind.i64.wrap (s18.2 - 1)) ∧ (IntKind.i64.wrap (s18.2 - 1)) < (((s18.1).length : Nat) : Int))) (bindO (τ := Int) (o42 ((List.getD s18.1 (s18.2).toNat 0) : Int) ((List.getD s18.1 ((IntKind.i64.wrap (s18.2 - 1))).toNat 0) : Int) cmpcp) fun y47 => (some (decide (y47 < 0)))))) (some (false))) fun t21 => (cond (t21) (grd (decide (0 ≤ (IntKind.i64.wrap (s18.2 - 1)) ∧ (IntKind.i64.wrap (s18.2 - 1)) < (((s18.1).length : Nat) : Int))) (grd (decide (0 ≤ s18.2 ∧ s18.2 < (((s18.1).length : Nat) : Int))) (grd (decide (0 ≤ s18.2 ∧ s18.2 < (((s18.1).length : Nat) : Int))) (grd (decide (0 ≤ (IntKind.i64.wrap (s18.2 - 1)) ∧ (IntKind.i64.wrap (s18.2 - 1)) < ((((List.set s18.1 (s18.2).toNat ((List.getD s18.1 ((IntKind.i64.wrap (s18.2 - 1))).toNat 0) : Int))).length : Nat) : Int))) (some (Ctl.go (((List.set (List.set s18.1 (s18.2).toNat ((List.getD s18.1 ((IntKind.i64.wrap (s18.2 - 1))).toNat 0) : Int)) ((IntKind.i64.wrap (s18.2 - 1))).toNat ((List.getD s18.1 (s18.2).toNat 0) : Int)) : List Int), (IntKind.i64.wrap (s18.2 - 1))))))))) (some (Ctl.done ((s18.1 : List Int))))))
def o66f42_L0 (a : Int) (b : Int) (cmpcp : Board) (s6 : (List Int) × Int) : Option (Ctl ((List Int) × Int) ((List Int))) :=
 (cond (decide (s6.2 < b)) (bindO (τ := (List Int)) (bindO (τ := (List Int)) (loopO (σ := (List Int) × Int) (ρ := (List Int)) fuelN (o66f42_L1 a cmpcp) ((s6.1 : List Int), s6.2)) fun t13 => (some ((t13 : List Int)))) fun t10 => (some (Ctl.go ((t10 : List Int), (IntKind.i64.wrap (s6.2 + 1)))))) (some (Ctl.done ((s6.1 : List Int)))))
def o66f42 (data : List Int) (a : Int) (b : Int) (cmpcp : Board) : Option ((List Int)) :=
 (bindO (τ := (List Int)) (loopO (σ := (List Int) × Int) (ρ := (List Int)) fuelN (o66f42_L0 a b cmpcp) ((data : List Int), (IntKind.i64.wrap (a + 1)))) fun t1 => (some ((t1 : List Int))))
set_option maxRecDepth 100000 in
theorem c66f42 (g : Gh) (data : List Int) (Adata : Option Addr) (cdata : Nat) (kdata : Option Bk) (a : Int) (b : Int) (a_cmpc : Addr) (a_cmpcp : Addr) (cmpcp : Board) (Acmpcp_defs : Option Addr) (ccmpcp_defs : Nat) (Acmpcp_conds : Option Addr) (ccmpcp_conds : Nat) (hdata : Buf g.b (tyI .i64) 3 (.slice Adata (data).length cdata) kdata data) (hc_cmpcp : Cells g.r a_cmpcp (cBoard cmpcp Acmpcp_defs ccmpcp_defs Acmpcp_conds ccmpcp_conds)) (fcmpcp_defs : Arr g.r tyAlertDef Acmpcp_defs ccmpcp_defs cmpcp.defs) (fcmpcp_conds : ArrM g.r g.b tyCnd Acmpcp_conds ccmpcp_conds cmpcp.conds) (hc_cmpc : Cells g.r a_cmpc [Value.pointer (some a_cmpcp)]) {r : (List Int)} (hS : o66f42 data a b cmpcp = some r) :
  Ctr Try.prog 66 [vs Adata data cdata, vi a, vi b, Value.func (.func 42) #[] #[Value.pointer (some a_cmpc)]] g [kdata, none] (fun v ψ o => ∃ (ko_data : Option Bk), v = Value.tuple #[] ∧ o = [ko_data] ∧ Buf ψ (tyI .i64) 3 (.slice Adata (data).length cdata) ko_data r) := by
 unfold o66f42 at hS
 refine xFn Try.f66 (Try.f66.body.getD .skip) 53 ?_
 have nhdata := hdata.len
 have nfcmpcp_defs := fcmpcp_defs.len
 have nfcmpcp_conds := fcmpcp_conds.len
 refine xSq ?_
 refine xRg ?_
 have z1 := i64_in_ (a + 1)
 refine xB 3 [] [(0, vs Adata data cdata), (1, vi a), (2, vi b), (3, Value.func (.func 42) #[] #[Value.pointer (some a_cmpc)]), (8, vi (IntKind.i64.wrap (a + 1)))] ?_
 refine xRe ?_
 refine wpq_then ?_
 refine xBindO hS (fun g own sl t1 => ∃ (k1_0 : Option Bk), own = [none, k1_0] ∧ sl = [] ∧ Buf g.b (tyI .i64) 3 (.slice Adata (t1).length cdata) k1_0 t1 ∧ (data).length = (t1).length) ?_ ?_
 ·rintro g2 _ _ t1 e3 ⟨k1_0, rfl, rfl, h1_0, hz1_v0⟩ hS
  have nh1_0 := h1_0.len
  have eS := (Option.some.inj hS).symm
  subst eS
  exact xFin [some 1] [] e3 ⟨k1_0, by kernel_rfl, by kernel_rfl, (Buf.re h1_0 hz1_v0.symm rfl)⟩
 ·intro uu1 hS hN1
  refine xBl 0 ?_
  refine xSel [none, some 0] ?_
  refine xSub [(0, vs Adata data cdata), (1, vi a), (2, vi b), (3, Value.func (.func 42) #[] #[Value.pointer (some a_cmpc)]), (8, vi (IntKind.i64.wrap (a + 1)))] ?_
  refine xLo hS (fun g own sl s6 => ∃ (k6_0 : Option Bk), own = [none, k6_0] ∧ sl = [(0, vs Adata s6.1 cdata), (1, vi a), (2, vi b), (3, Value.func (.func 42) #[] #[Value.pointer (some a_cmpc)]), (8, vi s6.2)] ∧ Buf g.b (tyI .i64) 3 (.slice Adata (s6.1).length cdata) k6_0 s6.1 ∧ (data).length = (s6.1).length) ⟨kdata, by kernel_rfl, by kernel_rfl, hdata, rfl⟩ ?_
  rintro g7 _ _ s6 uu6 e8 ⟨k6_0, rfl, rfl, h6_0, hz6_v0⟩ hS Qr6 hN6 hD6
  have nh6_0 := h6_0.len
  unfold o66f42_L0 at hS
  refine xSq ?_
  refine xSq ?_
  refine xRg ?_
  refine xB 3 [] [(0, vs Adata s6.1 cdata), (1, vi a), (2, vi b), (3, Value.func (.func 42) #[] #[Value.pointer (some a_cmpc)]), (8, vi s6.2), (14, vb (decide (s6.2 < b)))] ?_
  refine xRe ?_
  refine wpq_then ?_
  refine xCd (decide (s6.2 < b)) (fun h9 => ?_) (fun h9 => ?_)
  ·have hS := cond_T h9 hS
   have h9p := of_decide_eq_true h9
   refine xSk ?_
   refine wpq_then ?_
   refine xSub [(0, vs Adata s6.1 cdata), (1, vi a), (2, vi b), (3, Value.func (.func 42) #[] #[Value.pointer (some a_cmpc)]), (8, vi s6.2)] ?_
   refine xSq ?_
   refine xBindO hS (fun g own sl t10 => ∃ (k10_0 : Option Bk), own = [none, k10_0] ∧ sl = [(0, vs Adata t10 cdata), (1, vi a), (2, vi b), (3, Value.func (.func 42) #[] #[Value.pointer (some a_cmpc)]), (8, vi s6.2)] ∧ Buf g.b (tyI .i64) 3 (.slice Adata (t10).length cdata) k10_0 t10 ∧ (data).length = (t10).length) ?_ ?_
   ·rintro g11 _ _ t10 e12 ⟨k10_0, rfl, rfl, h10_0, hz10_v0⟩ hS
    have nh10_0 := h10_0.len
    refine wpq_then ?_
    refine xRg ?_
    have z469 := i64_in_ (s6.2 + 1)
    refine xB 3 [] [(0, vs Adata t10 cdata), (1, vi a), (2, vi b), (3, Value.func (.func 42) #[] #[Value.pointer (some a_cmpc)]), (8, vi (IntKind.i64.wrap (s6.2 + 1)))] ?_
    refine xRe ?_
    refine wpq_thenN ?_
    refine xSel [none, some 1] ?_
    refine xSub [(0, vs Adata t10 cdata), (1, vi a), (2, vi b), (3, Value.func (.func 42) #[] #[Value.pointer (some a_cmpc)]), (8, vi (IntKind.i64.wrap (s6.2 + 1)))] ?_
    have eS := (Option.some.inj hS).symm
    exact hN6 _ eS _ _ _ e12 ⟨k10_0, by kernel_rfl, by kernel_rfl, h10_0, hz10_v0⟩
   ·intro uu10 hS hN10
    refine xBl 1 ?_
    refine xSq ?_
    refine xRg ?_
    refine xB 2 [] [(0, vs Adata s6.1 cdata), (1, vi a), (2, vi b), (3, Value.func (.func 42) #[] #[Value.pointer (some a_cmpc)]), (8, vi s6.2), (9, vi s6.2)] ?_
    refine xRe ?_
    refine wpq_then ?_
    refine xBindO hS (fun g own sl t13 => ∃ (k13_0 : Option Bk), own = [none, k13_0] ∧ sl = [(0, vs Adata t13 cdata), (1, vi a), (2, vi b), (3, Value.func (.func 42) #[] #[Value.pointer (some a_cmpc)]), (8, vi s6.2)] ∧ Buf g.b (tyI .i64) 3 (.slice Adata (t13).length cdata) k13_0 t13 ∧ (data).length = (t13).length) ?_ ?_
    ·rintro g14 _ _ t13 e15 ⟨k13_0, rfl, rfl, h13_0, hz13_v0⟩ hS
     have nh13_0 := h13_0.len
     refine wpq_blockN ?_
     refine xSel [none, some 1] ?_
     refine xSub [(0, vs Adata t13 cdata), (1, vi a), (2, vi b), (3, Value.func (.func 42) #[] #[Value.pointer (some a_cmpc)]), (8, vi s6.2)] ?_
     have eS := (Option.some.inj hS).symm
     exact hN10 _ eS _ _ _ e15 ⟨k13_0, by kernel_rfl, by kernel_rfl, h13_0, hz13_v0⟩
    ·intro uu13 hS hN13
     refine xBl 2 ?_
     refine xSel [none, some 1] ?_
     refine xSub [(0, vs Adata s6.1 cdata), (1, vi a), (2, vi b), (3, Value.func (.func 42) #[] #[Value.pointer (some a_cmpc)]), (8, vi s6.2), (9, vi s6.2)] ?_
     refine xLo hS (fun g own sl s18 => ∃ (k18_0 : Option Bk), own = [none, k18_0] ∧ sl = [(0, vs Adata s18.1 cdata), (1, vi a), (2, vi b), (3, Value.func (.func 42) #[] #[Value.pointer (some a_cmpc)]), (8, vi s6.2), (9, vi s18.2)] ∧ Buf g.b (tyI .i64) 3 (.slice Adata (s18.1).length cdata) k18_0 s18.1 ∧ (data).length = (s18.1).length) ⟨k6_0, by kernel_rfl, by kernel_rfl, h6_0, hz6_v0⟩ ?_
     rintro g19 _ _ s18 uu18 e20 ⟨k18_0, rfl, rfl, h18_0, hz18_v0⟩ hS Qr18 hN18 hD18
     have nh18_0 := h18_0.len
     unfold o66f42_L1 at hS
     refine xSq ?_
     refine xSq ?_
     refine xDr 0 [8, 13] [] [k18_0] 17 (fun RG => ?_) (fun _ _ _ _ _ h => h)
     refine xT 13 [0, 1, 2, 3] [] [some 1] [(0, vs Adata s18.1 cdata), (1, vi a), (2, vi b), (3, Value.func (.func 42) #[] #[Value.pointer (some a_cmpc)]), (8, vi s6.2), (9, vi s18.2), (21, vb (decide (s18.2 > a)))] RG (Psi.le.refl _) ?_
     refine xGJoA hS 0 [true, true, true, true, true, true, true, true, true, true, true, true, true, true, true, true, true] (fun g own sl t21 => own = [none, k18_0] ∧ sl = [(0, vs Adata s18.1 cdata), (1, vi a), (2, vi b), (3, Value.func (.func 42) #[] #[Value.pointer (some a_cmpc)]), (8, vi s6.2), (9, vi s18.2), (34, vb t21)]) ?_ ?_
     ·rintro g22 _ _ t21 e23 ⟨rfl, rfl⟩ hS
      refine xAe (lds := [8, 13]) ?_
      refine wpq_then ?_
      refine xCd (t21) (fun h24 => ?_) (fun h24 => ?_)
      ·have hS := cond_T h24 hS
       refine xSk ?_
       refine wpq_then ?_
       refine xSub [(0, vs Adata s18.1 cdata), (1, vi a), (2, vi b), (3, Value.func (.func 42) #[] #[Value.pointer (some a_cmpc)]), (8, vi s6.2), (9, vi s18.2)] ?_
       refine xSq ?_
       refine xBl 3 ?_
       refine xDr 0 [9, 13] [15, 17, 14, 16] [k18_0] 18 (fun RG => ?_) (fun _ _ _ _ _ h => h)
       have z508 := i64_in_ (s18.2 - 1)
       have z509 := i64_in_ (s18.2 - 1)
       have h18_0 := h18_0.mono e23.b
       obtain ⟨q26, hS⟩ := grd_T hS
       have q26p := of_decide_eq_true q26
       have i27 : ((IntKind.i64.wrap (s18.2 - 1))).toNat < (s18.1).length := by omega
       obtain ⟨kc25, cs25, hA25, hk25, hr25, hw25⟩ := h18_0.open_ i27 0
       obtain ⟨kb25, rfl⟩ : ∃ z, z = kc25 := ⟨_, rfl⟩
       subst hk25
       have hr25 : cs25 = [vi (List.getD s18.1 ((IntKind.i64.wrap (s18.2 - 1))).toNat 0)] := hr25
       subst hr25
       refine xT 10 [0, 1, 2, 3, 4, 5, 6, 7] [] [some 1] [(0, vs Adata s18.1 cdata), (1, vi a), (2, vi b), (3, Value.func (.func 42) #[] #[Value.pointer (some a_cmpc)]), (8, vi s6.2), (9, vi s18.2), (37, vs Adata s18.1 cdata), (38, vi s18.2), (39, vs Adata s18.1 cdata), (41, vi (IntKind.i64.wrap (s18.2 - 1))), (42, vs Adata s18.1 cdata), (44, vi (IntKind.i64.wrap (s18.2 - 1)))] RG (Psi.le.refl _) ?_
       refine xTp 8 RG (fun _ => (qIxB ((IntKind.i64.wrap (s18.2 - 1))).toNat 1 kb25.g hA25 (show ((IntKind.i64.wrap (s18.2 - 1)) : Int) = _ from by omega) i27)) ?_
       refine xTv 9 [some 1] RG (Psi.le.refl _) (qLdB ((IntKind.i64.wrap (s18.2 - 1))).toNat 1 0 0 hw25) ?_
       obtain ⟨q29, hS⟩ := grd_T hS
       have q29p := of_decide_eq_true q29
       have i30 : (s18.2).toNat < (s18.1).length := by omega
       obtain ⟨kc28, cs28, hA28, hk28, hr28, hw28⟩ := h18_0.open_ i30 0
       cases hk28
       have hr28 : cs28 = [vi (List.getD s18.1 (s18.2).toNat 0)] := hr28
       subst hr28
       refine xT 6 [10, 11] [] [some 1] [(0, vs Adata s18.1 cdata), (1, vi a), (2, vi b), (3, Value.func (.func 42) #[] #[Value.pointer (some a_cmpc)]), (8, vi s6.2), (9, vi s18.2), (37, vs Adata s18.1 cdata), (38, vi s18.2), (39, vs Adata s18.1 cdata), (41, vi (IntKind.i64.wrap (s18.2 - 1))), (46, vi (List.getD s18.1 ((IntKind.i64.wrap (s18.2 - 1))).toNat 0)), (47, vs Adata s18.1 cdata), (48, vi s18.2)] RG (Psi.le.refl _) ?_
       refine xTp 12 RG (fun _ => (qIxB (s18.2).toNat 1 kb25.g hA28 (show (s18.2 : Int) = _ from by omega) i30)) ?_
       refine xTv 13 [some 1] RG (Psi.le.refl _) (qLdB (s18.2).toNat 1 0 0 hw28) ?_
       obtain ⟨q32, hS⟩ := grd_T hS
       have q32p := of_decide_eq_true q32
       have i33 : (s18.2).toNat < (s18.1).length := by omega
       obtain ⟨kc31, cs31, hA31, hk31, hr31, hw31⟩ := h18_0.open_ i33 0
       cases hk31
       have hr31 : cs31 = [vi (List.getD s18.1 (s18.2).toNat 0)] := hr31
       subst hr31
       refine xTp 14 RG (fun _ => (qIxB (s18.2).toNat 1 kb25.g hA31 (show (s18.2 : Int) = _ from by omega) i33)) ?_
       refine xO1 (lds := [9, 13]) 15 ?_
       refine xId (lds := [9, 13]) (Psi.le.refl _) (eStB (s18.2).toNat 1 0 1 [vi (List.getD s18.1 ((IntKind.i64.wrap (s18.2 - 1))).toNat 0)] h18_0 rfl hw31 (show (tyI .i64).rep _ _ _ from rfl) i33) ?_
       rintro _ _ _ - ⟨k34, rfl, rfl, h34⟩
       refine kf ?_
       have hz34 : (s18.1).length = ((List.set s18.1 (s18.2).toNat ((List.getD s18.1 ((IntKind.i64.wrap (s18.2 - 1))).toNat 0) : Int))).length := by simp
       have hz34_1 : (data).length = ((List.set s18.1 (s18.2).toNat ((List.getD s18.1 ((IntKind.i64.wrap (s18.2 - 1))).toNat 0) : Int))).length := hz18_v0.trans hz34
       obtain ⟨q36, hS⟩ := grd_T hS
       have q36p := of_decide_eq_true q36
       have i37 : ((IntKind.i64.wrap (s18.2 - 1))).toNat < ((List.set s18.1 (s18.2).toNat ((List.getD s18.1 ((IntKind.i64.wrap (s18.2 - 1))).toNat 0) : Int))).length := by omega
       have i38 : ((IntKind.i64.wrap (s18.2 - 1))).toNat < (s18.1).length := by have := hz34; omega
       obtain ⟨kc35, cs35, hA35, hk35, hr35, hw35⟩ := h34.open_ i37 0
       obtain ⟨kb35, rfl⟩ : ∃ z, z = kc35 := ⟨_, rfl⟩
       subst hk35
       have hr35 : cs35 = [vi (List.getD (List.set s18.1 (s18.2).toNat ((List.getD s18.1 ((IntKind.i64.wrap (s18.2 - 1))).toNat 0) : Int)) ((IntKind.i64.wrap (s18.2 - 1))).toNat 0)] := hr35
       subst hr35
       refine xTp 16 RG (fun _ => (qIxB ((IntKind.i64.wrap (s18.2 - 1))).toNat 1 kb35.g hA35 (show ((IntKind.i64.wrap (s18.2 - 1)) : Int) = _ from by omega) i38)) ?_
       refine xO1 (lds := [9, 13]) 17 ?_
       refine xId (lds := [9, 13]) (Psi.le.refl _) (eStB ((IntKind.i64.wrap (s18.2 - 1))).toNat 1 0 1 [vi (List.getD s18.1 (s18.2).toNat 0)] h34 rfl hw35 (show (tyI .i64).rep _ _ _ from rfl) i37) ?_
       rintro _ _ _ - ⟨k39, rfl, rfl, h39⟩
       refine kf ?_
       have hz39 : (s18.1).length = ((List.set (List.set s18.1 (s18.2).toNat ((List.getD s18.1 ((IntKind.i64.wrap (s18.2 - 1))).toNat 0) : Int)) ((IntKind.i64.wrap (s18.2 - 1))).toNat ((List.getD s18.1 (s18.2).toNat 0) : Int))).length := hz34.trans (by simp)
       have hz39_1 : (data).length = ((List.set (List.set s18.1 (s18.2).toNat ((List.getD s18.1 ((IntKind.i64.wrap (s18.2 - 1))).toNat 0) : Int)) ((IntKind.i64.wrap (s18.2 - 1))).toNat ((List.getD s18.1 (s18.2).toNat 0) : Int))).length := hz34_1.trans (hz34.symm.trans hz39)
       refine xAe (lds := [9, 13]) ?_
       refine wpq_blockN ?_
       refine wpq_then ?_
       refine xSub [(0, Value.slice Adata ((s18.1).length) cdata), (1, vi a), (2, vi b), (3, Value.func (.func 42) #[] #[Value.pointer (some a_cmpc)]), (8, vi s6.2), (9, vi s18.2)] ?_
       refine xRg ?_
       have z510 := i64_in_ (s18.2 - 1)
       refine xB 3 [] [(0, Value.slice Adata ((s18.1).length) cdata), (1, vi a), (2, vi b), (3, Value.func (.func 42) #[] #[Value.pointer (some a_cmpc)]), (8, vi s6.2), (9, vi (IntKind.i64.wrap (s18.2 - 1)))] ?_
       refine xRe ?_
       refine wpq_thenN ?_
       refine wpq_re 0 (v := Value.slice Adata ((s18.1).length) cdata) (vs Adata (List.set (List.set s18.1 (s18.2).toNat ((List.getD s18.1 ((IntKind.i64.wrap (s18.2 - 1))).toNat 0) : Int)) ((IntKind.i64.wrap (s18.2 - 1))).toNat ((List.getD s18.1 (s18.2).toNat 0) : Int)) cdata) (by kernel_rfl) (congrArg (fun z => Value.slice Adata z cdata) hz39) ?_
       have h39 := Buf.re h39 hz39 (rfl : (List.set (List.set s18.1 (s18.2).toNat ((List.getD s18.1 ((IntKind.i64.wrap (s18.2 - 1))).toNat 0) : Int)) ((IntKind.i64.wrap (s18.2 - 1))).toNat ((List.getD s18.1 (s18.2).toNat 0) : Int)) = _)
       refine xSel [none, some 1] ?_
       refine xSub [(0, vs Adata (List.set (List.set s18.1 (s18.2).toNat ((List.getD s18.1 ((IntKind.i64.wrap (s18.2 - 1))).toNat 0) : Int)) ((IntKind.i64.wrap (s18.2 - 1))).toNat ((List.getD s18.1 (s18.2).toNat 0) : Int)) cdata), (1, vi a), (2, vi b), (3, Value.func (.func 42) #[] #[Value.pointer (some a_cmpc)]), (8, vi s6.2), (9, vi (IntKind.i64.wrap (s18.2 - 1)))] ?_
       have eS := (Option.some.inj hS).symm
       exact hN18 _ eS _ _ _ e23 ⟨k39, by kernel_rfl, by kernel_rfl, h39, hz39_1⟩
      ·have hS := cond_F h24 hS
       refine xEx 2 ?_
       refine wpq_thenX ?_
       refine wpq_thenX ?_
       refine wpq_blockE ?_
       have h18_0 := h18_0.mono e23.b
       refine xSel [none, some 1] ?_
       refine xSub [(0, vs Adata s18.1 cdata), (1, vi a), (2, vi b), (3, Value.func (.func 42) #[] #[Value.pointer (some a_cmpc)]), (8, vi s6.2)] ?_
       have eS := (Option.some.inj hS).symm
       have eS := (hD18 _ eS).symm
       exact hN13 _ eS _ _ _ (e20.trans e23) ⟨k18_0, by kernel_rfl, by kernel_rfl, h18_0, hz18_v0⟩
     ·intro uu21 hS hN21
      refine wpq_split 21 (b := decide (s18.2 > a)) (by kernel_rfl) (fun q40 => ?_) (fun q40 => ?_)
      ·have hS := cond_T q40 hS
       have q40p := of_decide_eq_true q40
       obtain ⟨q42, hS⟩ := grd_T hS
       have q42p := of_decide_eq_true q42
       have i43 : (s18.2).toNat < (s18.1).length := by omega
       obtain ⟨kc41, cs41, hA41, hk41, hr41, hw41⟩ := h18_0.open_ i43 0
       obtain ⟨kb41, rfl⟩ : ∃ z, z = kc41 := ⟨_, rfl⟩
       subst hk41
       have hr41 : cs41 = [vi (List.getD s18.1 (s18.2).toNat 0)] := hr41
       subst hr41
       refine xT 10 [4, 5, 6] [] [some 1] [(0, vs Adata s18.1 cdata), (1, vi a), (2, vi b), (3, Value.func (.func 42) #[] #[Value.pointer (some a_cmpc)]), (8, vi s6.2), (9, vi s18.2), (21, vb true), (22, Value.func (.func 42) #[] #[Value.pointer (some a_cmpc)]), (23, vs Adata s18.1 cdata), (24, vi s18.2)] RG (Psi.le.refl _) ?_
       refine xTp 7 RG (fun _ => (qIxB (s18.2).toNat 1 kb41.g hA41 (show (s18.2 : Int) = _ from by omega) i43)) ?_
       refine xTv 8 [some 1] RG (Psi.le.refl _) (qLdB (s18.2).toNat 1 0 0 hw41) ?_
       have z511 := i64_in_ (s18.2 - 1)
       obtain ⟨q45, hS⟩ := grd_T hS
       have q45p := of_decide_eq_true q45
       have i46 : ((IntKind.i64.wrap (s18.2 - 1))).toNat < (s18.1).length := by omega
       obtain ⟨kc44, cs44, hA44, hk44, hr44, hw44⟩ := h18_0.open_ i46 0
       cases hk44
       have hr44 : cs44 = [vi (List.getD s18.1 ((IntKind.i64.wrap (s18.2 - 1))).toNat 0)] := hr44
       subst hr44
       refine xT 5 [9, 10, 11] [] [some 1] [(0, vs Adata s18.1 cdata), (1, vi a), (2, vi b), (3, Value.func (.func 42) #[] #[Value.pointer (some a_cmpc)]), (8, vi s6.2), (9, vi s18.2), (21, vb true), (22, Value.func (.func 42) #[] #[Value.pointer (some a_cmpc)]), (26, vi (List.getD s18.1 (s18.2).toNat 0)), (27, vs Adata s18.1 cdata), (29, vi (IntKind.i64.wrap (s18.2 - 1)))] RG (Psi.le.refl _) ?_
       refine xTp 12 RG (fun _ => (qIxB ((IntKind.i64.wrap (s18.2 - 1))).toNat 1 kb41.g hA44 (show ((IntKind.i64.wrap (s18.2 - 1)) : Int) = _ from by omega) i46)) ?_
       refine xTv 13 [some 1] RG (Psi.le.refl _) (qLdB ((IntKind.i64.wrap (s18.2 - 1))).toNat 1 0 0 hw44) ?_
       have hc_cmpcp := hc_cmpcp.mono (e8.trans e20).r
       have fcmpcp_defs := fcmpcp_defs.mono (e8.trans e20).r
       have fcmpcp_conds := fcmpcp_conds.mono (e8.trans e20).r (e8.trans e20).b
       have hc_cmpc := hc_cmpc.mono (e8.trans e20).r
       obtain ⟨y47, hy47, hS⟩ := bindO_T hS
       refine xO1 (lds := [8, 13]) 14 ?_
       refine xIe (lds := [8, 13]) (Psi.le.refl _) (eC 0 (fun g' lr eb ln => c42 g' ((List.getD s18.1 (s18.2).toNat 0) : Int) ((List.getD s18.1 ((IntKind.i64.wrap (s18.2 - 1))).toNat 0) : Int) a_cmpc a_cmpcp cmpcp Acmpcp_defs ccmpcp_defs Acmpcp_conds ccmpcp_conds (hc_cmpcp.mono lr) (fcmpcp_defs.mono lr) (ArrM.lent fcmpcp_conds lr eb) (hc_cmpc.mono lr) hy47)) ?_
       rintro _ g48 _ e49 ⟨_, rfl, rfl, rfl⟩
       refine kk [some 1] ?_
       refine xT 0 [15, 16] [] [some 1] [(0, vs Adata s18.1 cdata), (1, vi a), (2, vi b), (3, Value.func (.func 42) #[] #[Value.pointer (some a_cmpc)]), (8, vi s6.2), (9, vi s18.2), (34, vb (decide (y47 < 0)))] RG e49.r ?_
       refine xSel [none, some 1] ?_
       refine xSub [(0, vs Adata s18.1 cdata), (1, vi a), (2, vi b), (3, Value.func (.func 42) #[] #[Value.pointer (some a_cmpc)]), (8, vi s6.2), (9, vi s18.2), (34, vb (decide (y47 < 0)))] ?_
       exact hN21 _ (Option.some.inj hS).symm _ _ _ e49 ⟨by kernel_rfl, by kernel_rfl⟩
      ·have hS := cond_F q40 hS
       have q40p := of_decide_eq_false q40
       refine xT 3 [4, 5, 6, 7, 8, 9, 10, 11, 12, 13] [] [some 1] [(0, vs Adata s18.1 cdata), (1, vi a), (2, vi b), (3, Value.func (.func 42) #[] #[Value.pointer (some a_cmpc)]), (8, vi s6.2), (9, vi s18.2), (21, vb false), (22, undef), (26, undef), (31, undef)] RG (Psi.le.refl _) ?_
       refine xO1 (lds := [8, 13]) 14 ?_
       refine xIb (lds := [8, 13]) [] ?_
       refine xT 0 [15, 16] [] [some 1] [(0, vs Adata s18.1 cdata), (1, vi a), (2, vi b), (3, Value.func (.func 42) #[] #[Value.pointer (some a_cmpc)]), (8, vi s6.2), (9, vi s18.2), (34, vb false)] RG (Psi.le.refl _) ?_
       refine xSel [none, some 1] ?_
       refine xSub [(0, vs Adata s18.1 cdata), (1, vi a), (2, vi b), (3, Value.func (.func 42) #[] #[Value.pointer (some a_cmpc)]), (8, vi s6.2), (9, vi s18.2), (34, vb false)] ?_
       exact hN21 _ (Option.some.inj hS).symm _ _ _ (Gh.le.refl _) ⟨by kernel_rfl, by kernel_rfl⟩
  ·have hS := cond_F h9 hS
   have h9p := of_decide_eq_false h9
   refine xEx 0 ?_
   refine wpq_thenX ?_
   refine wpq_thenX ?_
   refine wpq_blockE ?_
   refine xSel [none, some 1] ?_
   refine xSub [] ?_
   have eS := (Option.some.inj hS).symm
   have eS := (hD6 _ eS).symm
   exact hN1 _ eS _ _ _ e8 ⟨k6_0, by kernel_rfl, by kernel_rfl, h6_0, hz6_v0⟩

def o76f42_L0 (hi : Int) (first : Int) (cmpcp : Board) (s6 : (List Int) × Int) : Option (Ctl ((List Int) × Int) (Ctl ((List Int)) ((List Int)))) :=
 (cond (decide ((IntKind.i64.wrap ((IntKind.i64.wrap (2 * s6.2)) + 1)) ≥ hi)) (some (Ctl.done (Ctl.go (s6.1 : List Int)))) (bindO (τ := Bool) (cond (decide ((IntKind.i64.wrap ((IntKind.i64.wrap ((IntKind.i64.wrap (2 * s6.2)) + 1)) + 1)) < hi)) (grd (decide (0 ≤ (IntKind.i64.wrap (first + (IntKind.i64.wrap ((IntKind.i64.wrap (2 * s6.2)) + 1)))) ∧ (IntKind.i64.wrap (first + (IntKind.i64.wrap ((IntKind.i64.wrap (2 * s6.2)) + 1)))) < (((s6.1).length : Nat) : Int))) (grd (decide (0 ≤ (IntKind.i64.wrap ((IntKind.i64.wrap (first + (IntKind.i64.wrap ((IntKind.i64.wrap (2 * s6.2)) + 1)))) + 1)) ∧ (IntKind.i64.wrap ((IntKind.i64.wrap (first + (IntKind.i64.wrap ((IntKind.i64.wrap (2 * s6.2)) + 1)))) + 1)) < (((s6.1).length : Nat) : Int))) (bindO (τ := Int) (o42 ((List.getD s6.1 ((IntKind.i64.wrap (first + (IntKind.i64.wrap ((IntKind.i64.wrap (2 * s6.2)) + 1))))).toNat 0) : Int) ((List.getD s6.1 ((IntKind.i64.wrap ((IntKind.i64.wrap (first + (IntKind.i64.wrap ((IntKind.i64.wrap (2 * s6.2)) + 1)))) + 1))).toNat 0) : Int) cmpcp) fun y49 => (some (decide (y49 < 0)))))) (some (false))) fun t10 => (letJ (τ := Int) (cond (t10) ((IntKind.i64.wrap ((IntKind.i64.wrap ((IntKind.i64.wrap (2 * s6.2)) + 1)) + 1))) ((IntKind.i64.wrap ((IntKind.i64.wrap (2 * s6.2)) + 1)))) fun t13 => (grd (decide (0 ≤ (IntKind.i64.wrap (first + s6.2)) ∧ (IntKind.i64.wrap (first + s6.2)) < (((s6.1).length : Nat) : Int))) (grd (decide (0 ≤ (IntKind.i64.wrap (first + t13)) ∧ (IntKind.i64.wrap (first + t13)) < (((s6.1).length : Nat) : Int))) (bindO (τ := Int) (o42 ((List.getD s6.1 ((IntKind.i64.wrap (first + s6.2))).toNat 0) : Int) ((List.getD s6.1 ((IntKind.i64.wrap (first + t13))).toNat 0) : Int) cmpcp) fun y22 => (cond ((!decide (y22 < 0))) (some (Ctl.done (Ctl.done ((s6.1 : List Int))))) (grd (decide (0 ≤ (IntKind.i64.wrap (first + t13)) ∧ (IntKind.i64.wrap (first + t13)) < (((s6.1).length : Nat) : Int))) (grd (decide (0 ≤ (IntKind.i64.wrap (first + s6.2)) ∧ (IntKind.i64.wrap (first + s6.2)) < (((s6.1).length : Nat) : Int))) (grd (decide (0 ≤ (IntKind.i64.wrap (first + s6.2)) ∧ (IntKind.i64.wrap (first + s6.2)) < (((s6.1).length : Nat) : Int))) (grd (decide (0 ≤ (IntKind.i64.wrap (first + t13)) ∧ (IntKind.i64.wrap (first + t13)) < ((((List.set s6.1 ((IntKind.i64.wrap (first + s6.2))).toNat ((List.getD s6.1 ((IntKind.i64.wrap (first + t13))).toNat 0) : Int))).length : Nat) : Int))) (some (Ctl.go (((List.set (List.set s6.1 ((IntKind.i64.wrap (first + s6.2))).toNat ((List.getD s6.1 ((IntKind.i64.wrap (first + t13))).toNat 0) : Int)) ((IntKind.i64.wrap (first + t13))).toNat ((List.getD s6.1 ((IntKind.i64.wrap (first + s6.2))).toNat 0) : Int)) : List Int), t13))))))))))))))
def o76f42 (data : List Int) (lo : Int) (hi : Int) (first : Int) (cmpcp : Board) : Option ((List Int)) :=
 (joinO (τ := (List Int)) (ρ := (List Int)) (loopO (σ := (List Int) × Int) (ρ := Ctl ((List Int)) ((List Int))) fuelN (o76f42_L0 hi first cmpcp) ((data : List Int), lo)) fun t1 => (some ((t1 : List Int))))
set_option maxRecDepth 100000 in
theorem c76f42 (g : Gh) (data : List Int) (Adata : Option Addr) (cdata : Nat) (kdata : Option Bk) (lo : Int) (hi : Int) (first : Int) (a_cmpc : Addr) (a_cmpcp : Addr) (cmpcp : Board) (Acmpcp_defs : Option Addr) (ccmpcp_defs : Nat) (Acmpcp_conds : Option Addr) (ccmpcp_conds : Nat) (hdata : Buf g.b (tyI .i64) 3 (.slice Adata (data).length cdata) kdata data) (hc_cmpcp : Cells g.r a_cmpcp (cBoard cmpcp Acmpcp_defs ccmpcp_defs Acmpcp_conds ccmpcp_conds)) (fcmpcp_defs : Arr g.r tyAlertDef Acmpcp_defs ccmpcp_defs cmpcp.defs) (fcmpcp_conds : ArrM g.r g.b tyCnd Acmpcp_conds ccmpcp_conds cmpcp.conds) (hc_cmpc : Cells g.r a_cmpc [Value.pointer (some a_cmpcp)]) {r : (List Int)} (hS : o76f42 data lo hi first cmpcp = some r) :
  Ctr Try.prog 76 [vs Adata data cdata, vi lo, vi hi, vi first, Value.func (.func 42) #[] #[Value.pointer (some a_cmpc)]] g [kdata, none] (fun v ψ o => ∃ (ko_data : Option Bk), v = Value.tuple #[] ∧ o = [ko_data] ∧ Buf ψ (tyI .i64) 3 (.slice Adata (data).length cdata) ko_data r) := by
 unfold o76f42 at hS
 refine xFn Try.f76 (Try.f76.body.getD .skip) 82 ?_
 have nhdata := hdata.len
 have nfcmpcp_defs := fcmpcp_defs.len
 have nfcmpcp_conds := fcmpcp_conds.len
 refine xSq ?_
 refine xRg ?_
 refine xB 2 [] [(0, vs Adata data cdata), (2, vi hi), (3, vi first), (4, Value.func (.func 42) #[] #[Value.pointer (some a_cmpc)]), (10, vi lo)] ?_
 refine xRe ?_
 refine wpq_then ?_
 refine xJoinO hS (fun g own sl t1 => ∃ (k1_0 : Option Bk), own = [none, k1_0] ∧ sl = [] ∧ Buf g.b (tyI .i64) 3 (.slice Adata (t1).length cdata) k1_0 t1 ∧ (data).length = (t1).length) ?_ ?_
 ·rintro g2 _ _ t1 e3 ⟨k1_0, rfl, rfl, h1_0, hz1_v0⟩ hS
  have nh1_0 := h1_0.len
  have eS := (Option.some.inj hS).symm
  subst eS
  exact xFin [some 1] [] e3 ⟨k1_0, by kernel_rfl, by kernel_rfl, (Buf.re h1_0 hz1_v0.symm rfl)⟩
 ·intro uu1 hS hN1 hD1
  refine xBl 0 ?_
  refine xSel [none, some 0] ?_
  refine xSub [(0, vs Adata data cdata), (2, vi hi), (3, vi first), (4, Value.func (.func 42) #[] #[Value.pointer (some a_cmpc)]), (10, vi lo)] ?_
  refine xLo hS (fun g own sl s6 => ∃ (k6_0 : Option Bk), own = [none, k6_0] ∧ sl = [(0, vs Adata s6.1 cdata), (2, vi hi), (3, vi first), (4, Value.func (.func 42) #[] #[Value.pointer (some a_cmpc)]), (10, vi s6.2)] ∧ Buf g.b (tyI .i64) 3 (.slice Adata (s6.1).length cdata) k6_0 s6.1 ∧ (data).length = (s6.1).length) ⟨kdata, by kernel_rfl, by kernel_rfl, hdata, rfl⟩ ?_
  rintro g7 _ _ s6 uu6 e8 ⟨k6_0, rfl, rfl, h6_0, hz6_v0⟩ hS Qr6 hN6 hD6
  have nh6_0 := h6_0.len
  unfold o76f42_L0 at hS
  refine xBl 1 ?_
  refine xSq ?_
  refine xRg ?_
  have z188 := i64_in_ (2 * s6.2)
  have z189 := i64_in_ ((IntKind.i64.wrap (2 * s6.2)) + 1)
  refine xB 4 [] [(0, vs Adata s6.1 cdata), (2, vi hi), (3, vi first), (4, Value.func (.func 42) #[] #[Value.pointer (some a_cmpc)]), (10, vi s6.2), (11, vi (IntKind.i64.wrap ((IntKind.i64.wrap (2 * s6.2)) + 1)))] ?_
  refine xRe ?_
  refine wpq_then ?_
  refine xSq ?_
  refine xSq ?_
  refine xRg ?_
  refine xB 3 [] [(0, vs Adata s6.1 cdata), (2, vi hi), (3, vi first), (4, Value.func (.func 42) #[] #[Value.pointer (some a_cmpc)]), (10, vi s6.2), (11, vi (IntKind.i64.wrap ((IntKind.i64.wrap (2 * s6.2)) + 1))), (18, vb (decide ((IntKind.i64.wrap ((IntKind.i64.wrap (2 * s6.2)) + 1)) ≥ hi)))] ?_
  refine xRe ?_
  refine wpq_then ?_
  refine xCd (decide ((IntKind.i64.wrap ((IntKind.i64.wrap (2 * s6.2)) + 1)) ≥ hi)) (fun h9 => ?_) (fun h9 => ?_)
  ·have hS := cond_T h9 hS
   have h9p := of_decide_eq_true h9
   refine xEx 0 ?_
   refine wpq_thenX ?_
   refine wpq_blockX (by kernel_rfl) ?_
   refine wpq_thenX ?_
   refine wpq_blockE ?_
   refine xSel [none, some 1] ?_
   refine xSub [] ?_
   have eS := (Option.some.inj hS).symm
   have eS := (hD6 _ eS).symm
   exact hN1 _ eS _ _ _ e8 ⟨k6_0, by kernel_rfl, by kernel_rfl, h6_0, hz6_v0⟩
  ·have hS := cond_F h9 hS
   have h9p := of_decide_eq_false h9
   refine xSk ?_
   refine wpq_then ?_
   refine xSub [(0, vs Adata s6.1 cdata), (2, vi hi), (3, vi first), (4, Value.func (.func 42) #[] #[Value.pointer (some a_cmpc)]), (10, vi s6.2), (11, vi (IntKind.i64.wrap ((IntKind.i64.wrap (2 * s6.2)) + 1)))] ?_
   refine xSq ?_
   refine xSq ?_
   refine xDr 0 [11, 18] [] [k6_0] 22 (fun RG => ?_) (fun _ _ _ _ _ h => h)
   have z190 := i64_in_ ((IntKind.i64.wrap ((IntKind.i64.wrap (2 * s6.2)) + 1)) + 1)
   refine xT 17 [0, 1, 2, 3, 4] [] [some 1] [(0, vs Adata s6.1 cdata), (2, vi hi), (3, vi first), (4, Value.func (.func 42) #[] #[Value.pointer (some a_cmpc)]), (10, vi s6.2), (11, vi (IntKind.i64.wrap ((IntKind.i64.wrap (2 * s6.2)) + 1))), (23, vb (decide ((IntKind.i64.wrap ((IntKind.i64.wrap ((IntKind.i64.wrap (2 * s6.2)) + 1)) + 1)) < hi)))] RG (Psi.le.refl _) ?_
   refine xGJoA hS 0 [true, true, true, true, true, true, true, true, true, true, true, true, true, true, true, true, true, true, true, true, true, true] (fun g own sl t10 => own = [none, k6_0] ∧ sl = [(0, vs Adata s6.1 cdata), (2, vi hi), (3, vi first), (4, Value.func (.func 42) #[] #[Value.pointer (some a_cmpc)]), (10, vi s6.2), (11, vi (IntKind.i64.wrap ((IntKind.i64.wrap (2 * s6.2)) + 1))), (40, vb t10)]) ?_ ?_
   ·rintro g11 _ _ t10 e12 ⟨rfl, rfl⟩ hS
    refine xAe (lds := [11, 18]) ?_
    refine wpq_then ?_
    refine xLetJ hS (fun g own sl t13 => own = [none, k6_0] ∧ sl = [(0, vs Adata s6.1 cdata), (2, vi hi), (3, vi first), (4, Value.func (.func 42) #[] #[Value.pointer (some a_cmpc)]), (10, vi s6.2), (11, vi t13)]) ?_ ?_
    ·rintro g14 _ _ t13 e15 ⟨rfl, rfl⟩ hS
     refine wpq_then ?_
     refine xSq ?_
     refine xSq ?_
     refine xDr 0 [6, 12] [] [k6_0] 16 (fun RG => ?_) (fun _ _ _ _ _ h => h)
     have z195 := i64_in_ (first + s6.2)
     have h6_0 := h6_0.mono (e12.trans e15).b
     obtain ⟨q17, hS⟩ := grd_T hS
     have q17p := of_decide_eq_true q17
     have i18 : ((IntKind.i64.wrap (first + s6.2))).toNat < (s6.1).length := by omega
     obtain ⟨kc16, cs16, hA16, hk16, hr16, hw16⟩ := h6_0.open_ i18 0
     obtain ⟨kb16, rfl⟩ : ∃ z, z = kc16 := ⟨_, rfl⟩
     subst hk16
     have hr16 : cs16 = [vi (List.getD s6.1 ((IntKind.i64.wrap (first + s6.2))).toNat 0)] := hr16
     subst hr16
     refine xT 11 [0, 1, 2, 3, 4] [] [some 1] [(0, vs Adata s6.1 cdata), (2, vi hi), (3, vi first), (4, Value.func (.func 42) #[] #[Value.pointer (some a_cmpc)]), (10, vi s6.2), (11, vi t13), (43, Value.func (.func 42) #[] #[Value.pointer (some a_cmpc)]), (44, vs Adata s6.1 cdata), (47, vi (IntKind.i64.wrap (first + s6.2)))] RG (Psi.le.refl _) ?_
     refine xTp 5 RG (fun _ => (qIxB ((IntKind.i64.wrap (first + s6.2))).toNat 1 kb16.g hA16 (show ((IntKind.i64.wrap (first + s6.2)) : Int) = _ from by omega) i18)) ?_
     refine xTv 6 [some 1] RG (Psi.le.refl _) (qLdB ((IntKind.i64.wrap (first + s6.2))).toNat 1 0 0 hw16) ?_
     have z196 := i64_in_ (first + t13)
     obtain ⟨q20, hS⟩ := grd_T hS
     have q20p := of_decide_eq_true q20
     have i21 : ((IntKind.i64.wrap (first + t13))).toNat < (s6.1).length := by omega
     obtain ⟨kc19, cs19, hA19, hk19, hr19, hw19⟩ := h6_0.open_ i21 0
     cases hk19
     have hr19 : cs19 = [vi (List.getD s6.1 ((IntKind.i64.wrap (first + t13))).toNat 0)] := hr19
     subst hr19
     refine xT 5 [7, 8, 9, 10] [] [some 1] [(0, vs Adata s6.1 cdata), (2, vi hi), (3, vi first), (4, Value.func (.func 42) #[] #[Value.pointer (some a_cmpc)]), (10, vi s6.2), (11, vi t13), (43, Value.func (.func 42) #[] #[Value.pointer (some a_cmpc)]), (49, vi (List.getD s6.1 ((IntKind.i64.wrap (first + s6.2))).toNat 0)), (50, vs Adata s6.1 cdata), (53, vi (IntKind.i64.wrap (first + t13)))] RG (Psi.le.refl _) ?_
     refine xTp 11 RG (fun _ => (qIxB ((IntKind.i64.wrap (first + t13))).toNat 1 kb16.g hA19 (show ((IntKind.i64.wrap (first + t13)) : Int) = _ from by omega) i21)) ?_
     refine xTv 12 [some 1] RG (Psi.le.refl _) (qLdB ((IntKind.i64.wrap (first + t13))).toNat 1 0 0 hw19) ?_
     have hc_cmpcp := hc_cmpcp.mono (e8.trans (e12.trans e15)).r
     have fcmpcp_defs := fcmpcp_defs.mono (e8.trans (e12.trans e15)).r
     have fcmpcp_conds := fcmpcp_conds.mono (e8.trans (e12.trans e15)).r (e8.trans (e12.trans e15)).b
     have hc_cmpc := hc_cmpc.mono (e8.trans (e12.trans e15)).r
     obtain ⟨y22, hy22, hS⟩ := bindO_T hS
     refine xO1 (lds := [6, 12]) 13 ?_
     refine xIe (lds := [6, 12]) (Psi.le.refl _) (eC 0 (fun g' lr eb ln => c42 g' ((List.getD s6.1 ((IntKind.i64.wrap (first + s6.2))).toNat 0) : Int) ((List.getD s6.1 ((IntKind.i64.wrap (first + t13))).toNat 0) : Int) a_cmpc a_cmpcp cmpcp Acmpcp_defs ccmpcp_defs Acmpcp_conds ccmpcp_conds (hc_cmpcp.mono lr) (fcmpcp_defs.mono lr) (ArrM.lent fcmpcp_conds lr eb) (hc_cmpc.mono lr) hy22)) ?_
     rintro _ g23 _ e24 ⟨_, rfl, rfl, rfl⟩
     refine kk [some 1] ?_
     refine xT 0 [14, 15] [] [some 1] [(0, vs Adata s6.1 cdata), (2, vi hi), (3, vi first), (4, Value.func (.func 42) #[] #[Value.pointer (some a_cmpc)]), (10, vi s6.2), (11, vi t13), (58, vb (!decide (y22 < 0)))] RG e24.r ?_
     refine xAe (lds := [6, 12]) ?_
     refine wpq_then ?_
     refine xCd ((!decide (y22 < 0))) (fun h25 => ?_) (fun h25 => ?_)
     ·have hS := cond_T h25 hS
      have h25n := not_eq_true_ h25
      have h25np := of_decide_eq_false h25n
      have h6_0 := h6_0.mono e24.b
      have eS := (Option.some.inj hS).symm
      have eS := (hD6 _ eS).symm
      have eS := (hD1 _ eS).symm
      subst eS
      exact xRet [some 1] [] (e8.trans (e12.trans (e15.trans e24))) ⟨(some kb16), by kernel_rfl, by kernel_rfl, (Buf.re h6_0 hz6_v0.symm rfl)⟩ (fun _ _ h => h)
     ·have hS := cond_F h25 hS
      have h25n := not_eq_false_ h25
      have h25np := of_decide_eq_true h25n
      refine xSk ?_
      refine wpq_then ?_
      refine xSub [(0, vs Adata s6.1 cdata), (2, vi hi), (3, vi first), (4, Value.func (.func 42) #[] #[Value.pointer (some a_cmpc)]), (10, vi s6.2), (11, vi t13)] ?_
      refine xSq ?_
      refine xDr 0 [13, 19] [21, 23, 20, 22] [(some kb16)] 24 (fun RG => ?_) (fun _ _ _ _ _ h => h)
      have z197 := i64_in_ (first + s6.2)
      have z198 := i64_in_ (first + t13)
      have z199 := i64_in_ (first + t13)
      have h6_0 := h6_0.mono e24.b
      obtain ⟨q27, hS⟩ := grd_T hS
      have q27p := of_decide_eq_true q27
      have i28 : ((IntKind.i64.wrap (first + t13))).toNat < (s6.1).length := by omega
      obtain ⟨kc26, cs26, hA26, hk26, hr26, hw26⟩ := h6_0.open_ i28 0
      cases hk26
      have hr26 : cs26 = [vi (List.getD s6.1 ((IntKind.i64.wrap (first + t13))).toNat 0)] := hr26
      subst hr26
      refine xT 12 [0, 1, 2, 3, 4, 5, 6, 7, 8, 9, 10, 11] [] [some 1] [(0, vs Adata s6.1 cdata), (2, vi hi), (3, vi first), (4, Value.func (.func 42) #[] #[Value.pointer (some a_cmpc)]), (10, vi s6.2), (11, vi t13), (59, vs Adata s6.1 cdata), (62, vi (IntKind.i64.wrap (first + s6.2))), (63, vs Adata s6.1 cdata), (66, vi (IntKind.i64.wrap (first + t13))), (67, vs Adata s6.1 cdata), (70, vi (IntKind.i64.wrap (first + t13)))] RG (Psi.le.refl _) ?_
      refine xTp 12 RG (fun _ => (qIxB ((IntKind.i64.wrap (first + t13))).toNat 1 kb16.g hA26 (show ((IntKind.i64.wrap (first + t13)) : Int) = _ from by omega) i28)) ?_
      refine xTv 13 [some 1] RG (Psi.le.refl _) (qLdB ((IntKind.i64.wrap (first + t13))).toNat 1 0 0 hw26) ?_
      have z200 := i64_in_ (first + s6.2)
      obtain ⟨q30, hS⟩ := grd_T hS
      have q30p := of_decide_eq_true q30
      have i31 : ((IntKind.i64.wrap (first + s6.2))).toNat < (s6.1).length := by omega
      obtain ⟨kc29, cs29, hA29, hk29, hr29, hw29⟩ := h6_0.open_ i31 0
      cases hk29
      have hr29 : cs29 = [vi (List.getD s6.1 ((IntKind.i64.wrap (first + s6.2))).toNat 0)] := hr29
      subst hr29
      refine xT 6 [14, 15, 16, 17] [] [some 1] [(0, vs Adata s6.1 cdata), (2, vi hi), (3, vi first), (4, Value.func (.func 42) #[] #[Value.pointer (some a_cmpc)]), (11, vi t13), (59, vs Adata s6.1 cdata), (62, vi (IntKind.i64.wrap (first + s6.2))), (63, vs Adata s6.1 cdata), (66, vi (IntKind.i64.wrap (first + t13))), (72, vi (List.getD s6.1 ((IntKind.i64.wrap (first + t13))).toNat 0)), (73, vs Adata s6.1 cdata), (76, vi (IntKind.i64.wrap (first + s6.2)))] RG (Psi.le.refl _) ?_
      refine xTp 18 RG (fun _ => (qIxB ((IntKind.i64.wrap (first + s6.2))).toNat 1 kb16.g hA29 (show ((IntKind.i64.wrap (first + s6.2)) : Int) = _ from by omega) i31)) ?_
      refine xTv 19 [some 1] RG (Psi.le.refl _) (qLdB ((IntKind.i64.wrap (first + s6.2))).toNat 1 0 0 hw29) ?_
      obtain ⟨q33, hS⟩ := grd_T hS
      have q33p := of_decide_eq_true q33
      have i34 : ((IntKind.i64.wrap (first + s6.2))).toNat < (s6.1).length := by omega
      obtain ⟨kc32, cs32, hA32, hk32, hr32, hw32⟩ := h6_0.open_ i34 0
      cases hk32
      have hr32 : cs32 = [vi (List.getD s6.1 ((IntKind.i64.wrap (first + s6.2))).toNat 0)] := hr32
      subst hr32
      refine xTp 20 RG (fun _ => (qIxB ((IntKind.i64.wrap (first + s6.2))).toNat 1 kb16.g hA32 (show ((IntKind.i64.wrap (first + s6.2)) : Int) = _ from by omega) i34)) ?_
      refine xO1 (lds := [13, 19]) 21 ?_
      refine xId (lds := [13, 19]) (Psi.le.refl _) (eStB ((IntKind.i64.wrap (first + s6.2))).toNat 1 0 1 [vi (List.getD s6.1 ((IntKind.i64.wrap (first + t13))).toNat 0)] h6_0 rfl hw32 (show (tyI .i64).rep _ _ _ from rfl) i34) ?_
      rintro _ _ _ - ⟨k35, rfl, rfl, h35⟩
      refine kf ?_
      have hz35 : (s6.1).length = ((List.set s6.1 ((IntKind.i64.wrap (first + s6.2))).toNat ((List.getD s6.1 ((IntKind.i64.wrap (first + t13))).toNat 0) : Int))).length := by simp
      have hz35_1 : (data).length = ((List.set s6.1 ((IntKind.i64.wrap (first + s6.2))).toNat ((List.getD s6.1 ((IntKind.i64.wrap (first + t13))).toNat 0) : Int))).length := hz6_v0.trans hz35
      obtain ⟨q37, hS⟩ := grd_T hS
      have q37p := of_decide_eq_true q37
      have i38 : ((IntKind.i64.wrap (first + t13))).toNat < ((List.set s6.1 ((IntKind.i64.wrap (first + s6.2))).toNat ((List.getD s6.1 ((IntKind.i64.wrap (first + t13))).toNat 0) : Int))).length := by omega
      have i39 : ((IntKind.i64.wrap (first + t13))).toNat < (s6.1).length := by have := hz35; omega
      obtain ⟨kc36, cs36, hA36, hk36, hr36, hw36⟩ := h35.open_ i38 0
      obtain ⟨kb36, rfl⟩ : ∃ z, z = kc36 := ⟨_, rfl⟩
      subst hk36
      have hr36 : cs36 = [vi (List.getD (List.set s6.1 ((IntKind.i64.wrap (first + s6.2))).toNat ((List.getD s6.1 ((IntKind.i64.wrap (first + t13))).toNat 0) : Int)) ((IntKind.i64.wrap (first + t13))).toNat 0)] := hr36
      subst hr36
      refine xTp 22 RG (fun _ => (qIxB ((IntKind.i64.wrap (first + t13))).toNat 1 kb36.g hA36 (show ((IntKind.i64.wrap (first + t13)) : Int) = _ from by omega) i39)) ?_
      refine xO1 (lds := [13, 19]) 23 ?_
      refine xId (lds := [13, 19]) (Psi.le.refl _) (eStB ((IntKind.i64.wrap (first + t13))).toNat 1 0 1 [vi (List.getD s6.1 ((IntKind.i64.wrap (first + s6.2))).toNat 0)] h35 rfl hw36 (show (tyI .i64).rep _ _ _ from rfl) i38) ?_
      rintro _ _ _ - ⟨k40, rfl, rfl, h40⟩
      refine kf ?_
      have hz40 : (s6.1).length = ((List.set (List.set s6.1 ((IntKind.i64.wrap (first + s6.2))).toNat ((List.getD s6.1 ((IntKind.i64.wrap (first + t13))).toNat 0) : Int)) ((IntKind.i64.wrap (first + t13))).toNat ((List.getD s6.1 ((IntKind.i64.wrap (first + s6.2))).toNat 0) : Int))).length := hz35.trans (by simp)
      have hz40_1 : (data).length = ((List.set (List.set s6.1 ((IntKind.i64.wrap (first + s6.2))).toNat ((List.getD s6.1 ((IntKind.i64.wrap (first + t13))).toNat 0) : Int)) ((IntKind.i64.wrap (first + t13))).toNat ((List.getD s6.1 ((IntKind.i64.wrap (first + s6.2))).toNat 0) : Int))).length := hz35_1.trans (hz35.symm.trans hz40)
      refine xAe (lds := [13, 19]) ?_
      refine wpq_then ?_
      refine xSub [(0, Value.slice Adata ((s6.1).length) cdata), (2, vi hi), (3, vi first), (4, Value.func (.func 42) #[] #[Value.pointer (some a_cmpc)]), (11, vi t13)] ?_
      refine xRg ?_
      refine xB 2 [] [(0, Value.slice Adata ((s6.1).length) cdata), (2, vi hi), (3, vi first), (4, Value.func (.func 42) #[] #[Value.pointer (some a_cmpc)]), (10, vi t13)] ?_
      refine xRe ?_
      refine wpq_blockN ?_
      refine wpq_thenN ?_
      refine wpq_re 0 (v := Value.slice Adata ((s6.1).length) cdata) (vs Adata (List.set (List.set s6.1 ((IntKind.i64.wrap (first + s6.2))).toNat ((List.getD s6.1 ((IntKind.i64.wrap (first + t13))).toNat 0) : Int)) ((IntKind.i64.wrap (first + t13))).toNat ((List.getD s6.1 ((IntKind.i64.wrap (first + s6.2))).toNat 0) : Int)) cdata) (by kernel_rfl) (congrArg (fun z => Value.slice Adata z cdata) hz40) ?_
      have h40 := Buf.re h40 hz40 (rfl : (List.set (List.set s6.1 ((IntKind.i64.wrap (first + s6.2))).toNat ((List.getD s6.1 ((IntKind.i64.wrap (first + t13))).toNat 0) : Int)) ((IntKind.i64.wrap (first + t13))).toNat ((List.getD s6.1 ((IntKind.i64.wrap (first + s6.2))).toNat 0) : Int)) = _)
      refine xSel [none, some 1] ?_
      refine xSub [(0, vs Adata (List.set (List.set s6.1 ((IntKind.i64.wrap (first + s6.2))).toNat ((List.getD s6.1 ((IntKind.i64.wrap (first + t13))).toNat 0) : Int)) ((IntKind.i64.wrap (first + t13))).toNat ((List.getD s6.1 ((IntKind.i64.wrap (first + s6.2))).toNat 0) : Int)) cdata), (2, vi hi), (3, vi first), (4, Value.func (.func 42) #[] #[Value.pointer (some a_cmpc)]), (10, vi t13)] ?_
      have eS := (Option.some.inj hS).symm
      exact hN6 _ eS _ _ _ (e12.trans (e15.trans e24)) ⟨k40, by kernel_rfl, by kernel_rfl, h40, hz40_1⟩
    ·intro uu13 hS hN13
     refine xCd (t10) (fun h41 => ?_) (fun h41 => ?_)
     ·have hS := cond_T h41 hS
      refine xRg ?_
      have z201 := i64_in_ ((IntKind.i64.wrap ((IntKind.i64.wrap (2 * s6.2)) + 1)) + 1)
      refine xB 3 [] [(0, vs Adata s6.1 cdata), (2, vi hi), (3, vi first), (4, Value.func (.func 42) #[] #[Value.pointer (some a_cmpc)]), (10, vi s6.2), (11, vi (IntKind.i64.wrap ((IntKind.i64.wrap ((IntKind.i64.wrap (2 * s6.2)) + 1)) + 1)))] ?_
      refine xRe ?_
      refine xSel [none, some 1] ?_
      refine xSub [(0, vs Adata s6.1 cdata), (2, vi hi), (3, vi first), (4, Value.func (.func 42) #[] #[Value.pointer (some a_cmpc)]), (10, vi s6.2), (11, vi (IntKind.i64.wrap ((IntKind.i64.wrap ((IntKind.i64.wrap (2 * s6.2)) + 1)) + 1)))] ?_
      have eS := hS.symm
      exact hN13 _ eS _ _ _ (Gh.le.refl _) ⟨by kernel_rfl, by kernel_rfl⟩
     ·have hS := cond_F h41 hS
      refine xSk ?_
      refine xSel [none, some 1] ?_
      refine xSub [(0, vs Adata s6.1 cdata), (2, vi hi), (3, vi first), (4, Value.func (.func 42) #[] #[Value.pointer (some a_cmpc)]), (10, vi s6.2), (11, vi (IntKind.i64.wrap ((IntKind.i64.wrap (2 * s6.2)) + 1)))] ?_
      have eS := hS.symm
      exact hN13 _ eS _ _ _ (Gh.le.refl _) ⟨by kernel_rfl, by kernel_rfl⟩
   ·intro uu10 hS hN10
    refine wpq_split 23 (b := decide ((IntKind.i64.wrap ((IntKind.i64.wrap ((IntKind.i64.wrap (2 * s6.2)) + 1)) + 1)) < hi)) (by kernel_rfl) (fun q42 => ?_) (fun q42 => ?_)
    ·have hS := cond_T q42 hS
     have q42p := of_decide_eq_true q42
     have z202 := i64_in_ (first + (IntKind.i64.wrap ((IntKind.i64.wrap (2 * s6.2)) + 1)))
     obtain ⟨q44, hS⟩ := grd_T hS
     have q44p := of_decide_eq_true q44
     have i45 : ((IntKind.i64.wrap (first + (IntKind.i64.wrap ((IntKind.i64.wrap (2 * s6.2)) + 1))))).toNat < (s6.1).length := by omega
     obtain ⟨kc43, cs43, hA43, hk43, hr43, hw43⟩ := h6_0.open_ i45 0
     obtain ⟨kb43, rfl⟩ : ∃ z, z = kc43 := ⟨_, rfl⟩
     subst hk43
     have hr43 : cs43 = [vi (List.getD s6.1 ((IntKind.i64.wrap (first + (IntKind.i64.wrap ((IntKind.i64.wrap (2 * s6.2)) + 1))))).toNat 0)] := hr43
     subst hr43
     refine xT 12 [5, 6, 7, 8, 9] [] [some 1] [(0, vs Adata s6.1 cdata), (2, vi hi), (3, vi first), (4, Value.func (.func 42) #[] #[Value.pointer (some a_cmpc)]), (10, vi s6.2), (11, vi (IntKind.i64.wrap ((IntKind.i64.wrap (2 * s6.2)) + 1))), (23, vb true), (24, Value.func (.func 42) #[] #[Value.pointer (some a_cmpc)]), (25, vs Adata s6.1 cdata), (28, vi (IntKind.i64.wrap (first + (IntKind.i64.wrap ((IntKind.i64.wrap (2 * s6.2)) + 1)))))] RG (Psi.le.refl _) ?_
     refine xTp 10 RG (fun _ => (qIxB ((IntKind.i64.wrap (first + (IntKind.i64.wrap ((IntKind.i64.wrap (2 * s6.2)) + 1))))).toNat 1 kb43.g hA43 (show ((IntKind.i64.wrap (first + (IntKind.i64.wrap ((IntKind.i64.wrap (2 * s6.2)) + 1)))) : Int) = _ from by omega) i45)) ?_
     refine xTv 11 [some 1] RG (Psi.le.refl _) (qLdB ((IntKind.i64.wrap (first + (IntKind.i64.wrap ((IntKind.i64.wrap (2 * s6.2)) + 1))))).toNat 1 0 0 hw43) ?_
     have z203 := i64_in_ (first + (IntKind.i64.wrap ((IntKind.i64.wrap (2 * s6.2)) + 1)))
     have z204 := i64_in_ ((IntKind.i64.wrap (first + (IntKind.i64.wrap ((IntKind.i64.wrap (2 * s6.2)) + 1)))) + 1)
     obtain ⟨q47, hS⟩ := grd_T hS
     have q47p := of_decide_eq_true q47
     have i48 : ((IntKind.i64.wrap ((IntKind.i64.wrap (first + (IntKind.i64.wrap ((IntKind.i64.wrap (2 * s6.2)) + 1)))) + 1))).toNat < (s6.1).length := by omega
     obtain ⟨kc46, cs46, hA46, hk46, hr46, hw46⟩ := h6_0.open_ i48 0
     cases hk46
     have hr46 : cs46 = [vi (List.getD s6.1 ((IntKind.i64.wrap ((IntKind.i64.wrap (first + (IntKind.i64.wrap ((IntKind.i64.wrap (2 * s6.2)) + 1)))) + 1))).toNat 0)] := hr46
     subst hr46
     refine xT 5 [12, 13, 14, 15, 16] [] [some 1] [(0, vs Adata s6.1 cdata), (2, vi hi), (3, vi first), (4, Value.func (.func 42) #[] #[Value.pointer (some a_cmpc)]), (10, vi s6.2), (11, vi (IntKind.i64.wrap ((IntKind.i64.wrap (2 * s6.2)) + 1))), (23, vb true), (24, Value.func (.func 42) #[] #[Value.pointer (some a_cmpc)]), (30, vi (List.getD s6.1 ((IntKind.i64.wrap (first + (IntKind.i64.wrap ((IntKind.i64.wrap (2 * s6.2)) + 1))))).toNat 0)), (31, vs Adata s6.1 cdata), (35, vi (IntKind.i64.wrap ((IntKind.i64.wrap (first + (IntKind.i64.wrap ((IntKind.i64.wrap (2 * s6.2)) + 1)))) + 1)))] RG (Psi.le.refl _) ?_
     refine xTp 17 RG (fun _ => (qIxB ((IntKind.i64.wrap ((IntKind.i64.wrap (first + (IntKind.i64.wrap ((IntKind.i64.wrap (2 * s6.2)) + 1)))) + 1))).toNat 1 kb43.g hA46 (show ((IntKind.i64.wrap ((IntKind.i64.wrap (first + (IntKind.i64.wrap ((IntKind.i64.wrap (2 * s6.2)) + 1)))) + 1)) : Int) = _ from by omega) i48)) ?_
     refine xTv 18 [some 1] RG (Psi.le.refl _) (qLdB ((IntKind.i64.wrap ((IntKind.i64.wrap (first + (IntKind.i64.wrap ((IntKind.i64.wrap (2 * s6.2)) + 1)))) + 1))).toNat 1 0 0 hw46) ?_
     have hc_cmpcp := hc_cmpcp.mono e8.r
     have fcmpcp_defs := fcmpcp_defs.mono e8.r
     have fcmpcp_conds := fcmpcp_conds.mono e8.r e8.b
     have hc_cmpc := hc_cmpc.mono e8.r
     obtain ⟨y49, hy49, hS⟩ := bindO_T hS
     refine xO1 (lds := [11, 18]) 19 ?_
     refine xIe (lds := [11, 18]) (Psi.le.refl _) (eC 0 (fun g' lr eb ln => c42 g' ((List.getD s6.1 ((IntKind.i64.wrap (first + (IntKind.i64.wrap ((IntKind.i64.wrap (2 * s6.2)) + 1))))).toNat 0) : Int) ((List.getD s6.1 ((IntKind.i64.wrap ((IntKind.i64.wrap (first + (IntKind.i64.wrap ((IntKind.i64.wrap (2 * s6.2)) + 1)))) + 1))).toNat 0) : Int) a_cmpc a_cmpcp cmpcp Acmpcp_defs ccmpcp_defs Acmpcp_conds ccmpcp_conds (hc_cmpcp.mono lr) (fcmpcp_defs.mono lr) (ArrM.lent fcmpcp_conds lr eb) (hc_cmpc.mono lr) hy49)) ?_
     rintro _ g50 _ e51 ⟨_, rfl, rfl, rfl⟩
     refine kk [some 1] ?_
     refine xT 0 [20, 21] [] [some 1] [(0, vs Adata s6.1 cdata), (2, vi hi), (3, vi first), (4, Value.func (.func 42) #[] #[Value.pointer (some a_cmpc)]), (10, vi s6.2), (11, vi (IntKind.i64.wrap ((IntKind.i64.wrap (2 * s6.2)) + 1))), (40, vb (decide (y49 < 0)))] RG e51.r ?_
     refine xSel [none, some 1] ?_
     refine xSub [(0, vs Adata s6.1 cdata), (2, vi hi), (3, vi first), (4, Value.func (.func 42) #[] #[Value.pointer (some a_cmpc)]), (10, vi s6.2), (11, vi (IntKind.i64.wrap ((IntKind.i64.wrap (2 * s6.2)) + 1))), (40, vb (decide (y49 < 0)))] ?_
     exact hN10 _ (Option.some.inj hS).symm _ _ _ e51 ⟨by kernel_rfl, by kernel_rfl⟩
    ·have hS := cond_F q42 hS
     have q42p := of_decide_eq_false q42
     refine xT 3 [5, 6, 7, 8, 9, 10, 11, 12, 13, 14, 15, 16, 17, 18] [] [some 1] [(0, vs Adata s6.1 cdata), (2, vi hi), (3, vi first), (4, Value.func (.func 42) #[] #[Value.pointer (some a_cmpc)]), (10, vi s6.2), (11, vi (IntKind.i64.wrap ((IntKind.i64.wrap (2 * s6.2)) + 1))), (23, vb false), (24, undef), (30, undef), (37, undef)] RG (Psi.le.refl _) ?_
     refine xO1 (lds := [11, 18]) 19 ?_
     refine xIb (lds := [11, 18]) [] ?_
     refine xT 0 [20, 21] [] [some 1] [(0, vs Adata s6.1 cdata), (2, vi hi), (3, vi first), (4, Value.func (.func 42) #[] #[Value.pointer (some a_cmpc)]), (10, vi s6.2), (11, vi (IntKind.i64.wrap ((IntKind.i64.wrap (2 * s6.2)) + 1))), (40, vb false)] RG (Psi.le.refl _) ?_
     refine xSel [none, some 1] ?_
     refine xSub [(0, vs Adata s6.1 cdata), (2, vi hi), (3, vi first), (4, Value.func (.func 42) #[] #[Value.pointer (some a_cmpc)]), (10, vi s6.2), (11, vi (IntKind.i64.wrap ((IntKind.i64.wrap (2 * s6.2)) + 1))), (40, vb false)] ?_
     exact hN10 _ (Option.some.inj hS).symm _ _ _ (Gh.le.refl _) ⟨by kernel_rfl, by kernel_rfl⟩

def o67f42_L0 (a : Int) (cmpcp : Board) (s9 : (List Int) × Int) : Option (Ctl ((List Int) × Int) ((List Int))) :=
 (cond (decide (s9.2 ≥ 0)) (grd (decide (-9223372036854775808 ≤ a + s9.2 ∧ a + s9.2 ≤ 9223372036854775807)) (grd (decide (-9223372036854775808 ≤ a + s9.2 ∧ a + s9.2 ≤ 9223372036854775807)) (grd (decide (0 ≤ (a + s9.2) ∧ (a + s9.2) < (((s9.1).length : Nat) : Int))) (grd (decide (0 ≤ a ∧ a < (((s9.1).length : Nat) : Int))) (grd (decide (0 ≤ a ∧ a < (((s9.1).length : Nat) : Int))) (grd (decide (0 ≤ (a + s9.2) ∧ (a + s9.2) < ((((List.set s9.1 (a).toNat ((List.getD s9.1 ((a + s9.2)).toNat 0) : Int))).length : Nat) : Int))) (bindO (τ := (List Int)) (o76f42 ((List.set (List.set s9.1 (a).toNat ((List.getD s9.1 ((a + s9.2)).toNat 0) : Int)) ((a + s9.2)).toNat ((List.getD s9.1 (a).toNat 0) : Int)) : List Int) (0 : Int) (s9.2 : Int) (a : Int) cmpcp) fun y30 => (grd (decide (-9223372036854775808 ≤ s9.2 - 1 ∧ s9.2 - 1 ≤ 9223372036854775807)) (some (Ctl.go ((y30 : List Int), (s9.2 - 1)))))))))))) (some (Ctl.done ((s9.1 : List Int)))))
def o67f42_L1 (a : Int) (b : Int) (cmpcp : Board) (s36 : (List Int) × Int) : Option (Ctl ((List Int) × Int) ((List Int))) :=
 (cond (decide (s36.2 ≥ 0)) (bindO (τ := (List Int)) (o76f42 (s36.1 : List Int) (s36.2 : Int) ((IntKind.i64.wrap (b - a)) : Int) (a : Int) cmpcp) fun y40 => (grd (decide (-9223372036854775808 ≤ s36.2 - 1 ∧ s36.2 - 1 ≤ 9223372036854775807)) (some (Ctl.go ((y40 : List Int), (s36.2 - 1)))))) (some (Ctl.done ((s36.1 : List Int)))))
def o67f42 (data : List Int) (a : Int) (b : Int) (cmpcp : Board) : Option ((List Int)) :=
 (bindO (τ := (List Int)) (loopO (σ := (List Int) × Int) (ρ := (List Int)) fuelN (o67f42_L1 a b cmpcp) ((data : List Int), (IntKind.i64.wrap (Int.tdiv (IntKind.i64.wrap ((IntKind.i64.wrap (b - a)) - 1)) 2)))) fun t1 => (bindO (τ := (List Int)) (loopO (σ := (List Int) × Int) (ρ := (List Int)) fuelN (o67f42_L0 a cmpcp) ((t1 : List Int), (IntKind.i64.wrap ((IntKind.i64.wrap (b - a)) - 1)))) fun t4 => (some ((t4 : List Int)))))
set_option maxRecDepth 100000 in
theorem c67f42 (g : Gh) (data : List Int) (Adata : Option Addr) (cdata : Nat) (kdata : Option Bk) (a : Int) (b : Int) (a_cmpc : Addr) (a_cmpcp : Addr) (cmpcp : Board) (Acmpcp_defs : Option Addr) (ccmpcp_defs : Nat) (Acmpcp_conds : Option Addr) (ccmpcp_conds : Nat) (hdata : Buf g.b (tyI .i64) 3 (.slice Adata (data).length cdata) kdata data) (hc_cmpcp : Cells g.r a_cmpcp (cBoard cmpcp Acmpcp_defs ccmpcp_defs Acmpcp_conds ccmpcp_conds)) (fcmpcp_defs : Arr g.r tyAlertDef Acmpcp_defs ccmpcp_defs cmpcp.defs) (fcmpcp_conds : ArrM g.r g.b tyCnd Acmpcp_conds ccmpcp_conds cmpcp.conds) (hc_cmpc : Cells g.r a_cmpc [Value.pointer (some a_cmpcp)]) {r : (List Int)} (hS : o67f42 data a b cmpcp = some r) :
  Ctr Try.prog 67 [vs Adata data cdata, vi a, vi b, Value.func (.func 42) #[] #[Value.pointer (some a_cmpc)]] g [kdata, none] (fun v ψ o => ∃ (ko_data : Option Bk), v = Value.tuple #[] ∧ o = [ko_data] ∧ Buf ψ (tyI .i64) 3 (.slice Adata (data).length cdata) ko_data r) := by
 unfold o67f42 at hS
 refine xFn Try.f67 (Try.f67.body.getD .skip) 60 ?_
 have nhdata := hdata.len
 have nfcmpcp_defs := fcmpcp_defs.len
 have nfcmpcp_conds := fcmpcp_conds.len
 refine xSq ?_
 refine xRg ?_
 refine xB 2 [] [(0, vs Adata data cdata), (1, vi a), (2, vi b), (3, Value.func (.func 42) #[] #[Value.pointer (some a_cmpc)]), (8, vi a)] ?_
 refine xRe ?_
 refine wpq_then ?_
 refine xSq ?_
 refine xRg ?_
 refine xB 1 [] [(0, vs Adata data cdata), (1, vi a), (2, vi b), (3, Value.func (.func 42) #[] #[Value.pointer (some a_cmpc)]), (8, vi a), (9, vi 0)] ?_
 refine xRe ?_
 refine wpq_then ?_
 refine xSq ?_
 refine xRg ?_
 have z1 := i64_in_ (b - a)
 refine xB 4 [] [(0, vs Adata data cdata), (3, Value.func (.func 42) #[] #[Value.pointer (some a_cmpc)]), (8, vi a), (9, vi 0), (10, vi (IntKind.i64.wrap (b - a)))] ?_
 refine xRe ?_
 refine wpq_then ?_
 refine xSq ?_
 refine xSq ?_
 refine xRg ?_
 have z2 := i64_in_ ((IntKind.i64.wrap (b - a)) - 1)
 have z3 := i64_in_ (Int.tdiv (IntKind.i64.wrap ((IntKind.i64.wrap (b - a)) - 1)) 2)
 refine xB 2 [] [(0, vs Adata data cdata), (3, Value.func (.func 42) #[] #[Value.pointer (some a_cmpc)]), (8, vi a), (9, vi 0), (10, vi (IntKind.i64.wrap (b - a))), (18, vi (IntKind.i64.wrap ((IntKind.i64.wrap (b - a)) - 1)))] ?_
 refine xV (qQuo .i64 ((IntKind.i64.wrap ((IntKind.i64.wrap (b - a)) - 1))) (2) _ (by omega) rfl) ?_
 refine xB 1 [] [(0, vs Adata data cdata), (3, Value.func (.func 42) #[] #[Value.pointer (some a_cmpc)]), (8, vi a), (9, vi 0), (10, vi (IntKind.i64.wrap (b - a))), (11, vi (IntKind.i64.wrap (Int.tdiv (IntKind.i64.wrap ((IntKind.i64.wrap (b - a)) - 1)) 2)))] ?_
 refine xRe ?_
 refine wpq_then ?_
 refine xBindO hS (fun g own sl t1 => ∃ (k1_0 : Option Bk), own = [none, k1_0] ∧ sl = [(0, vs Adata t1 cdata), (3, Value.func (.func 42) #[] #[Value.pointer (some a_cmpc)]), (8, vi a), (9, vi 0), (10, vi (IntKind.i64.wrap (b - a)))] ∧ Buf g.b (tyI .i64) 3 (.slice Adata (t1).length cdata) k1_0 t1 ∧ (data).length = (t1).length) ?_ ?_
 ·rintro g2 _ _ t1 e3 ⟨k1_0, rfl, rfl, h1_0, hz1_v0⟩ hS
  have nh1_0 := h1_0.len
  refine wpq_then ?_
  refine xSq ?_
  refine xRg ?_
  have z4 := i64_in_ ((IntKind.i64.wrap (b - a)) - 1)
  refine xB 3 [] [(0, vs Adata t1 cdata), (3, Value.func (.func 42) #[] #[Value.pointer (some a_cmpc)]), (8, vi a), (9, vi 0), (12, vi (IntKind.i64.wrap ((IntKind.i64.wrap (b - a)) - 1)))] ?_
  refine xRe ?_
  refine wpq_then ?_
  refine xBindO hS (fun g own sl t4 => ∃ (k4_0 : Option Bk), own = [none, k4_0] ∧ sl = [] ∧ Buf g.b (tyI .i64) 3 (.slice Adata (t4).length cdata) k4_0 t4 ∧ (data).length = (t4).length) ?_ ?_
  ·rintro g5 _ _ t4 e6 ⟨k4_0, rfl, rfl, h4_0, hz4_v0⟩ hS
   have nh4_0 := h4_0.len
   have eS := (Option.some.inj hS).symm
   subst eS
   exact xFin [some 1] [] (e3.trans e6) ⟨k4_0, by kernel_rfl, by kernel_rfl, (Buf.re h4_0 hz4_v0.symm rfl)⟩
  ·intro uu4 hS hN4
   refine xBl 2 ?_
   refine xSel [none, some 1] ?_
   refine xSub [(0, vs Adata t1 cdata), (3, Value.func (.func 42) #[] #[Value.pointer (some a_cmpc)]), (8, vi a), (9, vi 0), (12, vi (IntKind.i64.wrap ((IntKind.i64.wrap (b - a)) - 1)))] ?_
   refine xLo hS (fun g own sl s9 => ∃ (k9_0 : Option Bk), own = [none, k9_0] ∧ sl = [(0, vs Adata s9.1 cdata), (3, Value.func (.func 42) #[] #[Value.pointer (some a_cmpc)]), (8, vi a), (9, vi 0), (12, vi s9.2)] ∧ Buf g.b (tyI .i64) 3 (.slice Adata (s9.1).length cdata) k9_0 s9.1 ∧ (data).length = (s9.1).length) ⟨k1_0, by kernel_rfl, by kernel_rfl, h1_0, hz1_v0⟩ ?_
   rintro g10 _ _ s9 uu9 e11 ⟨k9_0, rfl, rfl, h9_0, hz9_v0⟩ hS Qr9 hN9 hD9
   have nh9_0 := h9_0.len
   unfold o67f42_L0 at hS
   refine xSq ?_
   refine xSq ?_
   refine xRg ?_
   refine xB 2 [] [(0, vs Adata s9.1 cdata), (3, Value.func (.func 42) #[] #[Value.pointer (some a_cmpc)]), (8, vi a), (9, vi 0), (12, vi s9.2), (33, vb (decide (s9.2 ≥ 0)))] ?_
   refine xRe ?_
   refine wpq_then ?_
   refine xCd (decide (s9.2 ≥ 0)) (fun h12 => ?_) (fun h12 => ?_)
   ·have hS := cond_T h12 hS
    have h12p := of_decide_eq_true h12
    refine xSk ?_
    refine wpq_then ?_
    refine xSub [(0, vs Adata s9.1 cdata), (3, Value.func (.func 42) #[] #[Value.pointer (some a_cmpc)]), (8, vi a), (9, vi 0), (12, vi s9.2)] ?_
    refine xSq ?_
    refine xBl 3 ?_
    refine xSq ?_
    refine xDr 0 [11, 15] [17, 19, 16, 18] [k9_0] 20 (fun RG => ?_) (fun _ _ _ _ _ h => h)
    obtain ⟨q13, hS⟩ := grd_T hS
    have q13p := of_decide_eq_true q13
    refine xT 15 [0, 1, 2, 3, 4] [] [some 1] [(0, vs Adata s9.1 cdata), (3, Value.func (.func 42) #[] #[Value.pointer (some a_cmpc)]), (8, vi a), (9, vi 0), (12, vi s9.2), (36, vs Adata s9.1 cdata), (37, vi a), (38, vs Adata s9.1 cdata), (39, vi a), (40, vi s9.2)] RG (Psi.le.refl _) ?_
    refine xTp 5 RG (fun _ => (qAdd .i64 (a) (s9.2) (wr64 (by omega)))) ?_
    obtain ⟨q14, hS⟩ := grd_T hS
    have q14p := of_decide_eq_true q14
    refine xT 11 [6, 7, 8] [] [some 1] [(0, vs Adata s9.1 cdata), (3, Value.func (.func 42) #[] #[Value.pointer (some a_cmpc)]), (8, vi a), (9, vi 0), (12, vi s9.2), (36, vs Adata s9.1 cdata), (37, vi a), (38, vs Adata s9.1 cdata), (41, vi (a + s9.2)), (42, vs Adata s9.1 cdata), (43, vi a), (44, vi s9.2)] RG (Psi.le.refl _) ?_
    refine xTp 9 RG (fun _ => (qAdd .i64 (a) (s9.2) (wr64 (by omega)))) ?_
    obtain ⟨q16, hS⟩ := grd_T hS
    have q16p := of_decide_eq_true q16
    have i17 : ((a + s9.2)).toNat < (s9.1).length := by omega
    obtain ⟨kc15, cs15, hA15, hk15, hr15, hw15⟩ := h9_0.open_ i17 0
    obtain ⟨kb15, rfl⟩ : ∃ z, z = kc15 := ⟨_, rfl⟩
    subst hk15
    have hr15 : cs15 = [vi (List.getD s9.1 ((a + s9.2)).toNat 0)] := hr15
    subst hr15
    refine xTp 10 RG (fun _ => (qIxB ((a + s9.2)).toNat 1 kb15.g hA15 (show ((a + s9.2) : Int) = _ from by omega) i17)) ?_
    refine xTv 11 [some 1] RG (Psi.le.refl _) (qLdB ((a + s9.2)).toNat 1 0 0 hw15) ?_
    obtain ⟨q19, hS⟩ := grd_T hS
    have q19p := of_decide_eq_true q19
    have i20 : (a).toNat < (s9.1).length := by omega
    obtain ⟨kc18, cs18, hA18, hk18, hr18, hw18⟩ := h9_0.open_ i20 0
    cases hk18
    have hr18 : cs18 = [vi (List.getD s9.1 (a).toNat 0)] := hr18
    subst hr18
    refine xT 6 [12, 13] [] [some 1] [(0, vs Adata s9.1 cdata), (3, Value.func (.func 42) #[] #[Value.pointer (some a_cmpc)]), (8, vi a), (9, vi 0), (12, vi s9.2), (36, vs Adata s9.1 cdata), (37, vi a), (38, vs Adata s9.1 cdata), (41, vi (a + s9.2)), (47, vi (List.getD s9.1 ((a + s9.2)).toNat 0)), (48, vs Adata s9.1 cdata), (49, vi a)] RG (Psi.le.refl _) ?_
    refine xTp 14 RG (fun _ => (qIxB (a).toNat 1 kb15.g hA18 (show (a : Int) = _ from by omega) i20)) ?_
    refine xTv 15 [some 1] RG (Psi.le.refl _) (qLdB (a).toNat 1 0 0 hw18) ?_
    obtain ⟨q22, hS⟩ := grd_T hS
    have q22p := of_decide_eq_true q22
    have i23 : (a).toNat < (s9.1).length := by omega
    obtain ⟨kc21, cs21, hA21, hk21, hr21, hw21⟩ := h9_0.open_ i23 0
    cases hk21
    have hr21 : cs21 = [vi (List.getD s9.1 (a).toNat 0)] := hr21
    subst hr21
    refine xTp 16 RG (fun _ => (qIxB (a).toNat 1 kb15.g hA21 (show (a : Int) = _ from by omega) i23)) ?_
    refine xO1 (lds := [11, 15]) 17 ?_
    refine xId (lds := [11, 15]) (Psi.le.refl _) (eStB (a).toNat 1 0 1 [vi (List.getD s9.1 ((a + s9.2)).toNat 0)] h9_0 rfl hw21 (show (tyI .i64).rep _ _ _ from rfl) i23) ?_
    rintro _ _ _ - ⟨k24, rfl, rfl, h24⟩
    refine kf ?_
    have hz24 : (s9.1).length = ((List.set s9.1 (a).toNat ((List.getD s9.1 ((a + s9.2)).toNat 0) : Int))).length := by simp
    have hz24_1 : (data).length = ((List.set s9.1 (a).toNat ((List.getD s9.1 ((a + s9.2)).toNat 0) : Int))).length := hz9_v0.trans hz24
    obtain ⟨q26, hS⟩ := grd_T hS
    have q26p := of_decide_eq_true q26
    have i27 : ((a + s9.2)).toNat < ((List.set s9.1 (a).toNat ((List.getD s9.1 ((a + s9.2)).toNat 0) : Int))).length := by omega
    have i28 : ((a + s9.2)).toNat < (s9.1).length := by have := hz24; omega
    obtain ⟨kc25, cs25, hA25, hk25, hr25, hw25⟩ := h24.open_ i27 0
    obtain ⟨kb25, rfl⟩ : ∃ z, z = kc25 := ⟨_, rfl⟩
    subst hk25
    have hr25 : cs25 = [vi (List.getD (List.set s9.1 (a).toNat ((List.getD s9.1 ((a + s9.2)).toNat 0) : Int)) ((a + s9.2)).toNat 0)] := hr25
    subst hr25
    refine xTp 18 RG (fun _ => (qIxB ((a + s9.2)).toNat 1 kb25.g hA25 (show ((a + s9.2) : Int) = _ from by omega) i28)) ?_
    refine xO1 (lds := [11, 15]) 19 ?_
    refine xId (lds := [11, 15]) (Psi.le.refl _) (eStB ((a + s9.2)).toNat 1 0 1 [vi (List.getD s9.1 (a).toNat 0)] h24 rfl hw25 (show (tyI .i64).rep _ _ _ from rfl) i27) ?_
    rintro _ _ _ - ⟨k29, rfl, rfl, h29⟩
    refine kf ?_
    have hz29 : (s9.1).length = ((List.set (List.set s9.1 (a).toNat ((List.getD s9.1 ((a + s9.2)).toNat 0) : Int)) ((a + s9.2)).toNat ((List.getD s9.1 (a).toNat 0) : Int))).length := hz24.trans (by simp)
    have hz29_1 : (data).length = ((List.set (List.set s9.1 (a).toNat ((List.getD s9.1 ((a + s9.2)).toNat 0) : Int)) ((a + s9.2)).toNat ((List.getD s9.1 (a).toNat 0) : Int))).length := hz24_1.trans (hz24.symm.trans hz29)
    refine xAe (lds := [11, 15]) ?_
    refine wpq_then ?_
    refine xSub [(0, Value.slice Adata ((s9.1).length) cdata), (3, Value.func (.func 42) #[] #[Value.pointer (some a_cmpc)]), (8, vi a), (9, vi 0), (12, vi s9.2)] ?_
    refine xRg ?_
    refine xB 5 [] [(0, Value.slice Adata ((s9.1).length) cdata), (3, Value.func (.func 42) #[] #[Value.pointer (some a_cmpc)]), (8, vi a), (9, vi 0), (12, vi s9.2), (54, Value.slice Adata ((s9.1).length) cdata), (55, vi 0), (56, vi s9.2), (57, vi a), (58, Value.func (.func 42) #[] #[Value.pointer (some a_cmpc)])] ?_
    refine wpq_re 0 (v := Value.slice Adata ((s9.1).length) cdata) (vs Adata (List.set (List.set s9.1 (a).toNat ((List.getD s9.1 ((a + s9.2)).toNat 0) : Int)) ((a + s9.2)).toNat ((List.getD s9.1 (a).toNat 0) : Int)) cdata) (by kernel_rfl) (congrArg (fun z => Value.slice Adata z cdata) hz29) ?_
    have h29 := Buf.re h29 hz29 (rfl : (List.set (List.set s9.1 (a).toNat ((List.getD s9.1 ((a + s9.2)).toNat 0) : Int)) ((a + s9.2)).toNat ((List.getD s9.1 (a).toNat 0) : Int)) = _)
    refine wpq_re 54 (v := Value.slice Adata ((s9.1).length) cdata) (vs Adata (List.set (List.set s9.1 (a).toNat ((List.getD s9.1 ((a + s9.2)).toNat 0) : Int)) ((a + s9.2)).toNat ((List.getD s9.1 (a).toNat 0) : Int)) cdata) (by kernel_rfl) (congrArg (fun z => Value.slice Adata z cdata) hz29) ?_
    refine xSel [some 1, none, some 0] ?_
    have hc_cmpcp := hc_cmpcp.mono (e3.trans e11).r
    have fcmpcp_defs := fcmpcp_defs.mono (e3.trans e11).r
    have fcmpcp_conds := fcmpcp_conds.mono (e3.trans e11).r (e3.trans e11).b
    have hc_cmpc := hc_cmpc.mono (e3.trans e11).r
    obtain ⟨y30, hy30, hS⟩ := bindO_T hS
    refine xE (eC 2 (fun g' lr eb ln => c76f42 g' ((List.set (List.set s9.1 (a).toNat ((List.getD s9.1 ((a + s9.2)).toNat 0) : Int)) ((a + s9.2)).toNat ((List.getD s9.1 (a).toNat 0) : Int)) : List Int) Adata cdata k29 (0 : Int) (s9.2 : Int) (a : Int) a_cmpc a_cmpcp cmpcp Acmpcp_defs ccmpcp_defs Acmpcp_conds ccmpcp_conds (by rw [eb]; exact h29) (hc_cmpcp.mono lr) (fcmpcp_defs.mono lr) (ArrM.lent fcmpcp_conds lr eb) (hc_cmpc.mono lr) hy30)) ?_
    rintro _ g31 _ e32 ⟨_, rfl, k30_data, rfl, rfl, h30_data⟩
    have nh30_data := h30_data.len
    have hz30_data : ((List.set (List.set s9.1 (a).toNat ((List.getD s9.1 ((a + s9.2)).toNat 0) : Int)) ((a + s9.2)).toNat ((List.getD s9.1 (a).toNat 0) : Int))).length = (y30).length := h30_data.leneq
    have hz30_data_1 : (data).length = (y30).length := hz29_1.trans hz30_data
    refine xRe ?_
    refine wpq_blockN ?_
    refine wpq_then ?_
    refine xSub [(0, Value.slice Adata (((List.set (List.set s9.1 (a).toNat ((List.getD s9.1 ((a + s9.2)).toNat 0) : Int)) ((a + s9.2)).toNat ((List.getD s9.1 (a).toNat 0) : Int))).length) cdata), (3, Value.func (.func 42) #[] #[Value.pointer (some a_cmpc)]), (8, vi a), (9, vi 0), (12, vi s9.2)] ?_
    refine xRg ?_
    obtain ⟨q33, hS⟩ := grd_T hS
    have q33p := of_decide_eq_true q33
    refine xB 1 [] [(0, Value.slice Adata (((List.set (List.set s9.1 (a).toNat ((List.getD s9.1 ((a + s9.2)).toNat 0) : Int)) ((a + s9.2)).toNat ((List.getD s9.1 (a).toNat 0) : Int))).length) cdata), (3, Value.func (.func 42) #[] #[Value.pointer (some a_cmpc)]), (8, vi a), (9, vi 0), (12, vi s9.2), (34, vi s9.2)] ?_
    refine xV (qSub .i64 (s9.2) (1) (wr64 (by omega))) ?_
    refine xB 1 [] [(0, Value.slice Adata (((List.set (List.set s9.1 (a).toNat ((List.getD s9.1 ((a + s9.2)).toNat 0) : Int)) ((a + s9.2)).toNat ((List.getD s9.1 (a).toNat 0) : Int))).length) cdata), (3, Value.func (.func 42) #[] #[Value.pointer (some a_cmpc)]), (8, vi a), (9, vi 0), (12, vi (s9.2 - 1))] ?_
    refine xRe ?_
    refine wpq_thenN ?_
    refine wpq_re 0 (v := Value.slice Adata (((List.set (List.set s9.1 (a).toNat ((List.getD s9.1 ((a + s9.2)).toNat 0) : Int)) ((a + s9.2)).toNat ((List.getD s9.1 (a).toNat 0) : Int))).length) cdata) (vs Adata y30 cdata) (by kernel_rfl) (congrArg (fun z => Value.slice Adata z cdata) hz30_data) ?_
    have h30_data := Buf.re h30_data hz30_data (rfl : y30 = _)
    refine xSel [none, some 0] ?_
    refine xSub [(0, vs Adata y30 cdata), (3, Value.func (.func 42) #[] #[Value.pointer (some a_cmpc)]), (8, vi a), (9, vi 0), (12, vi (s9.2 - 1))] ?_
    have eS := (Option.some.inj hS).symm
    exact hN9 _ eS _ _ _ e32 ⟨k30_data, by kernel_rfl, by kernel_rfl, h30_data, hz30_data_1⟩
   ·have hS := cond_F h12 hS
    have h12p := of_decide_eq_false h12
    refine xEx 2 ?_
    refine wpq_thenX ?_
    refine wpq_thenX ?_
    refine wpq_blockE ?_
    refine xSel [none, some 1] ?_
    refine xSub [] ?_
    have eS := (Option.some.inj hS).symm
    have eS := (hD9 _ eS).symm
    exact hN4 _ eS _ _ _ e11 ⟨k9_0, by kernel_rfl, by kernel_rfl, h9_0, hz9_v0⟩
 ·intro uu1 hS hN1
  refine xBl 0 ?_
  refine xSel [none, some 0] ?_
  refine xSub [(0, vs Adata data cdata), (3, Value.func (.func 42) #[] #[Value.pointer (some a_cmpc)]), (8, vi a), (9, vi 0), (10, vi (IntKind.i64.wrap (b - a))), (11, vi (IntKind.i64.wrap (Int.tdiv (IntKind.i64.wrap ((IntKind.i64.wrap (b - a)) - 1)) 2)))] ?_
  refine xLo hS (fun g own sl s36 => ∃ (k36_0 : Option Bk), own = [none, k36_0] ∧ sl = [(0, vs Adata s36.1 cdata), (3, Value.func (.func 42) #[] #[Value.pointer (some a_cmpc)]), (8, vi a), (9, vi 0), (10, vi (IntKind.i64.wrap (b - a))), (11, vi s36.2)] ∧ Buf g.b (tyI .i64) 3 (.slice Adata (s36.1).length cdata) k36_0 s36.1 ∧ (data).length = (s36.1).length) ⟨kdata, by kernel_rfl, by kernel_rfl, hdata, rfl⟩ ?_
  rintro g37 _ _ s36 uu36 e38 ⟨k36_0, rfl, rfl, h36_0, hz36_v0⟩ hS Qr36 hN36 hD36
  have nh36_0 := h36_0.len
  unfold o67f42_L1 at hS
  refine xSq ?_
  refine xSq ?_
  refine xRg ?_
  refine xB 2 [] [(0, vs Adata s36.1 cdata), (3, Value.func (.func 42) #[] #[Value.pointer (some a_cmpc)]), (8, vi a), (9, vi 0), (10, vi (IntKind.i64.wrap (b - a))), (11, vi s36.2), (21, vb (decide (s36.2 ≥ 0)))] ?_
  refine xRe ?_
  refine wpq_then ?_
  refine xCd (decide (s36.2 ≥ 0)) (fun h39 => ?_) (fun h39 => ?_)
  ·have hS := cond_T h39 hS
   have h39p := of_decide_eq_true h39
   refine xSk ?_
   refine wpq_then ?_
   refine xSub [(0, vs Adata s36.1 cdata), (3, Value.func (.func 42) #[] #[Value.pointer (some a_cmpc)]), (8, vi a), (9, vi 0), (10, vi (IntKind.i64.wrap (b - a))), (11, vi s36.2)] ?_
   refine xSq ?_
   refine xBl 1 ?_
   refine xRg ?_
   refine xB 5 [] [(0, vs Adata s36.1 cdata), (3, Value.func (.func 42) #[] #[Value.pointer (some a_cmpc)]), (8, vi a), (9, vi 0), (10, vi (IntKind.i64.wrap (b - a))), (11, vi s36.2), (24, vs Adata s36.1 cdata), (25, vi s36.2), (26, vi (IntKind.i64.wrap (b - a))), (27, vi a), (28, Value.func (.func 42) #[] #[Value.pointer (some a_cmpc)])] ?_
   refine xSel [some 1, none, some 0] ?_
   have hc_cmpcp := hc_cmpcp.mono e38.r
   have fcmpcp_defs := fcmpcp_defs.mono e38.r
   have fcmpcp_conds := fcmpcp_conds.mono e38.r e38.b
   have hc_cmpc := hc_cmpc.mono e38.r
   obtain ⟨y40, hy40, hS⟩ := bindO_T hS
   refine xE (eC 2 (fun g' lr eb ln => c76f42 g' (s36.1 : List Int) Adata cdata k36_0 (s36.2 : Int) ((IntKind.i64.wrap (b - a)) : Int) (a : Int) a_cmpc a_cmpcp cmpcp Acmpcp_defs ccmpcp_defs Acmpcp_conds ccmpcp_conds (by rw [eb]; exact h36_0) (hc_cmpcp.mono lr) (fcmpcp_defs.mono lr) (ArrM.lent fcmpcp_conds lr eb) (hc_cmpc.mono lr) hy40)) ?_
   rintro _ g41 _ e42 ⟨_, rfl, k40_data, rfl, rfl, h40_data⟩
   have nh40_data := h40_data.len
   have hz40_data : (s36.1).length = (y40).length := h40_data.leneq
   have hz40_data_1 : (data).length = (y40).length := hz36_v0.trans hz40_data
   refine xRe ?_
   refine wpq_blockN ?_
   refine wpq_then ?_
   refine xSub [(0, Value.slice Adata ((s36.1).length) cdata), (3, Value.func (.func 42) #[] #[Value.pointer (some a_cmpc)]), (8, vi a), (9, vi 0), (10, vi (IntKind.i64.wrap (b - a))), (11, vi s36.2)] ?_
   refine xRg ?_
   obtain ⟨q43, hS⟩ := grd_T hS
   have q43p := of_decide_eq_true q43
   refine xB 1 [] [(0, Value.slice Adata ((s36.1).length) cdata), (3, Value.func (.func 42) #[] #[Value.pointer (some a_cmpc)]), (8, vi a), (9, vi 0), (10, vi (IntKind.i64.wrap (b - a))), (11, vi s36.2), (22, vi s36.2)] ?_
   refine xV (qSub .i64 (s36.2) (1) (wr64 (by omega))) ?_
   refine xB 1 [] [(0, Value.slice Adata ((s36.1).length) cdata), (3, Value.func (.func 42) #[] #[Value.pointer (some a_cmpc)]), (8, vi a), (9, vi 0), (10, vi (IntKind.i64.wrap (b - a))), (11, vi (s36.2 - 1))] ?_
   refine xRe ?_
   refine wpq_thenN ?_
   refine wpq_re 0 (v := Value.slice Adata ((s36.1).length) cdata) (vs Adata y40 cdata) (by kernel_rfl) (congrArg (fun z => Value.slice Adata z cdata) hz40_data) ?_
   have h40_data := Buf.re h40_data hz40_data (rfl : y40 = _)
   refine xSel [none, some 0] ?_
   refine xSub [(0, vs Adata y40 cdata), (3, Value.func (.func 42) #[] #[Value.pointer (some a_cmpc)]), (8, vi a), (9, vi 0), (10, vi (IntKind.i64.wrap (b - a))), (11, vi (s36.2 - 1))] ?_
   have eS := (Option.some.inj hS).symm
   exact hN36 _ eS _ _ _ e42 ⟨k40_data, by kernel_rfl, by kernel_rfl, h40_data, hz40_data_1⟩
  ·have hS := cond_F h39 hS
   have h39p := of_decide_eq_false h39
   refine xEx 0 ?_
   refine wpq_thenX ?_
   refine wpq_thenX ?_
   refine wpq_blockE ?_
   refine xSel [none, some 1] ?_
   refine xSub [(0, vs Adata s36.1 cdata), (3, Value.func (.func 42) #[] #[Value.pointer (some a_cmpc)]), (8, vi a), (9, vi 0), (10, vi (IntKind.i64.wrap (b - a)))] ?_
   have eS := (Option.some.inj hS).symm
   have eS := (hD36 _ eS).symm
   exact hN1 _ eS _ _ _ e38 ⟨k36_0, by kernel_rfl, by kernel_rfl, h36_0, hz36_v0⟩

def o77 (length : Int) : Option (Int) :=
 (bindO (τ := Int) (o60 ((IntKind.u64.wrap length) : Int)) fun y1 => (grd (decide (0 ≤ y1)) (some (((shlK .u64 1 y1) : Int)))))
set_option maxRecDepth 100000 in
theorem c77 (g : Gh) (length : Int) {r : Int} (hS : o77 length = some r) :
  Ctr Try.prog 77 [vi length] g [] (fun v ψ o => v = Value.int .u64 r ∧ o = []) := by
 unfold o77 at hS
 refine xFn Try.f77 (Try.f77.body.getD .skip) 7 ?_
 refine xSq ?_
 refine xRg ?_
 refine xB 1 [] [(0, vi length)] ?_
 refine xRe ?_
 refine wpq_then ?_
 refine xSq ?_
 refine xRg ?_
 have z1 := u64_in_ length
 refine xB 2 [] [(4, Value.int .u64 (IntKind.u64.wrap length))] ?_
 obtain ⟨y1, hy1, hS⟩ := bindO_T hS
 refine xE (eC 0 (fun g' lr eb ln => c60 g' ((IntKind.u64.wrap length) : Int) hy1)) ?_
 rintro _ g2 _ e3 ⟨_, rfl, rfl, rfl⟩
 obtain ⟨q4, hS⟩ := grd_T hS
 have q4p := of_decide_eq_true q4
 refine xV (qShl .u64 .i64 (1) (y1) (by omega)) ?_
 refine xB 1 [] [(2, Value.int .u64 (shlK .u64 1 y1))] ?_
 refine xRe ?_
 refine wpq_then ?_
 have eS := (Option.some.inj hS).symm
 subst eS
 exact xRet [] [2] e3 ⟨by kernel_rfl, by kernel_rfl⟩ (fun _ _ h => h)

def o78 (r_ : Int) : Int × Int :=
 ((((lxorK .u64 (lxorK .u64 (lxorK .u64 r_ (shlK .u64 r_ 13)) (shrK .u64 (lxorK .u64 r_ (shlK .u64 r_ 13)) 7)) (shlK .u64 (lxorK .u64 (lxorK .u64 r_ (shlK .u64 r_ 13)) (shrK .u64 (lxorK .u64 r_ (shlK .u64 r_ 13)) 7)) 17)) : Int), ((lxorK .u64 (lxorK .u64 (lxorK .u64 r_ (shlK .u64 r_ 13)) (shrK .u64 (lxorK .u64 r_ (shlK .u64 r_ 13)) 7)) (shlK .u64 (lxorK .u64 (lxorK .u64 r_ (shlK .u64 r_ 13)) (shrK .u64 (lxorK .u64 r_ (shlK .u64 r_ 13)) 7)) 17)) : Int)))
set_option maxRecDepth 100000 in
theorem c78 (g : Gh) (b_r_ : Nat) (r_ : Int) {r : Int × Int} (hS : o78 r_ = r) :
  Ctr Try.prog 78 [vp b_r_ 0] g [some ⟨b_r_, 113, [Value.int .u64 r_]⟩] (fun v ψ o => v = Value.int .u64 r.2 ∧ o = [some ⟨b_r_, 113, [Value.int .u64 r.1]⟩]) := by
 unfold o78 at hS
 refine xFn Try.f78 (Try.f78.body.getD .skip) 33 ?_
 refine xSq ?_
 refine xRg ?_
 refine xB 1 [] [(0, vp b_r_ 0)] ?_
 refine xRe ?_
 refine wpq_then ?_
 refine xSq ?_
 refine xDr 0 [2, 5] [9, 8] [some ⟨b_r_, 113, [Value.int .u64 r_]⟩] 10 (fun RG => ?_) (fun _ _ _ _ _ h => h)
 refine xT 1 [0, 1, 2, 3, 4, 5, 6, 7, 8] [(2, 0), (5, 0)] [some 0] [(0, vp b_r_ 0), (10, Value.int .u64 (lxorK .u64 r_ (shlK .u64 r_ 13))), (11, vp b_r_ 0)] RG (Psi.le.refl _) ?_
 refine xO1 (lds := [2, 5]) 9 ?_
 refine xId (lds := [2, 5]) (Psi.le.refl _) (eStL b_r_ 0 0) ?_
 rintro _ _ _ - ⟨rfl, rfl⟩
 refine kf ?_
 refine xAe (lds := [2, 5]) ?_
 refine wpq_then ?_
 refine xSub [(0, vp b_r_ 0)] ?_
 refine xSq ?_
 refine xDr 0 [2, 5] [9, 8] [some ⟨b_r_, 113, [Value.int .u64 (lxorK .u64 r_ (shlK .u64 r_ 13))]⟩] 10 (fun RG => ?_) (fun _ _ _ _ _ h => h)
 refine xT 1 [0, 1, 2, 3, 4, 5, 6, 7, 8] [(2, 0), (5, 0)] [some 0] [(0, vp b_r_ 0), (19, Value.int .u64 (lxorK .u64 (lxorK .u64 r_ (shlK .u64 r_ 13)) (shrK .u64 (lxorK .u64 r_ (shlK .u64 r_ 13)) 7))), (20, vp b_r_ 0)] RG (Psi.le.refl _) ?_
 refine xO1 (lds := [2, 5]) 9 ?_
 refine xId (lds := [2, 5]) (Psi.le.refl _) (eStL b_r_ 0 0) ?_
 rintro _ _ _ - ⟨rfl, rfl⟩
 refine kf ?_
 refine xAe (lds := [2, 5]) ?_
 refine wpq_then ?_
 refine xSub [(0, vp b_r_ 0)] ?_
 refine xSq ?_
 refine xDr 0 [2, 5] [9, 8] [some ⟨b_r_, 113, [Value.int .u64 (lxorK .u64 (lxorK .u64 r_ (shlK .u64 r_ 13)) (shrK .u64 (lxorK .u64 r_ (shlK .u64 r_ 13)) 7))]⟩] 10 (fun RG => ?_) (fun _ _ _ _ _ h => h)
 refine xT 1 [0, 1, 2, 3, 4, 5, 6, 7, 8] [(2, 0), (5, 0)] [some 0] [(0, vp b_r_ 0), (28, Value.int .u64 (lxorK .u64 (lxorK .u64 (lxorK .u64 r_ (shlK .u64 r_ 13)) (shrK .u64 (lxorK .u64 r_ (shlK .u64 r_ 13)) 7)) (shlK .u64 (lxorK .u64 (lxorK .u64 r_ (shlK .u64 r_ 13)) (shrK .u64 (lxorK .u64 r_ (shlK .u64 r_ 13)) 7)) 17))), (29, vp b_r_ 0)] RG (Psi.le.refl _) ?_
 refine xO1 (lds := [2, 5]) 9 ?_
 refine xId (lds := [2, 5]) (Psi.le.refl _) (eStL b_r_ 0 0) ?_
 rintro _ _ _ - ⟨rfl, rfl⟩
 refine kf ?_
 refine xAe (lds := [2, 5]) ?_
 refine wpq_then ?_
 refine xSub [(0, vp b_r_ 0)] ?_
 refine xSq ?_
 refine xRg ?_
 refine xB 4 [(2, 0)] [(2, Value.int .u64 (lxorK .u64 (lxorK .u64 (lxorK .u64 r_ (shlK .u64 r_ 13)) (shrK .u64 (lxorK .u64 r_ (shlK .u64 r_ 13)) 7)) (shlK .u64 (lxorK .u64 (lxorK .u64 r_ (shlK .u64 r_ 13)) (shrK .u64 (lxorK .u64 r_ (shlK .u64 r_ 13)) 7)) 17)))] ?_
 refine xRe ?_
 refine wpq_then ?_
 have eS := hS.symm
 subst eS
 exact xRet [some 0] [2] (Gh.le.refl _) ⟨by kernel_rfl, by kernel_rfl⟩ (fun _ _ h => h)

def o68f42_L0 (a : Int) (b : Int) (y6 : Int) (s14 : (List Int) × Int × Int) : Option (Ctl ((List Int) × Int × Int) ((List Int))) :=
 (cond (decide (s14.2.1 ≤ (IntKind.i64.wrap ((IntKind.i64.wrap (a + (IntKind.i64.wrap (((IntKind.i64.wrap (b - a)) / 4) * 2)))) + 1)))) (letJ (τ := Int × Int) (o78 (s14.2.2 : Int)) fun y18 => (bindO (τ := Int) (cond (decide ((IntKind.i64.wrap (landK .u64 y18.2 (IntKind.u64.wrap (y6 - 1)))) ≥ (IntKind.i64.wrap (b - a)))) (grd (decide (-9223372036854775808 ≤ (IntKind.i64.wrap (landK .u64 y18.2 (IntKind.u64.wrap (y6 - 1)))) - (IntKind.i64.wrap (b - a)) ∧ (IntKind.i64.wrap (landK .u64 y18.2 (IntKind.u64.wrap (y6 - 1)))) - (IntKind.i64.wrap (b - a)) ≤ 9223372036854775807)) (some (((IntKind.i64.wrap (landK .u64 y18.2 (IntKind.u64.wrap (y6 - 1)))) - (IntKind.i64.wrap (b - a)))))) (some ((IntKind.i64.wrap (landK .u64 y18.2 (IntKind.u64.wrap (y6 - 1))))))) fun t21 => (grd (decide (0 ≤ (IntKind.i64.wrap (a + t21)) ∧ (IntKind.i64.wrap (a + t21)) < (((s14.1).length : Nat) : Int))) (grd (decide (0 ≤ s14.2.1 ∧ s14.2.1 < (((s14.1).length : Nat) : Int))) (grd (decide (0 ≤ s14.2.1 ∧ s14.2.1 < (((s14.1).length : Nat) : Int))) (grd (decide (0 ≤ (IntKind.i64.wrap (a + t21)) ∧ (IntKind.i64.wrap (a + t21)) < ((((List.set s14.1 (s14.2.1).toNat ((List.getD s14.1 ((IntKind.i64.wrap (a + t21))).toNat 0) : Int))).length : Nat) : Int))) (some (Ctl.go (((List.set (List.set s14.1 (s14.2.1).toNat ((List.getD s14.1 ((IntKind.i64.wrap (a + t21))).toNat 0) : Int)) ((IntKind.i64.wrap (a + t21))).toNat ((List.getD s14.1 (s14.2.1).toNat 0) : Int)) : List Int), (IntKind.i64.wrap (s14.2.1 + 1)), y18.1))))))))) (some (Ctl.done ((s14.1 : List Int)))))
def o68f42 (data : List Int) (a : Int) (b : Int) (cmpcp : Board) : Option ((List Int)) :=
 (bindO (τ := (List Int)) (cond (decide ((IntKind.i64.wrap (b - a)) ≥ 8)) (bindO (τ := Int) (o77 ((IntKind.i64.wrap (b - a)) : Int)) fun y6 => (bindO (τ := (List Int)) (loopO (σ := (List Int) × Int × Int) (ρ := (List Int)) fuelN (o68f42_L0 a b y6) ((data : List Int), (IntKind.i64.wrap ((IntKind.i64.wrap (a + (IntKind.i64.wrap (((IntKind.i64.wrap (b - a)) / 4) * 2)))) - 1)), (IntKind.u64.wrap (IntKind.i64.wrap (b - a))))) fun t9 => (some ((t9 : List Int))))) (some ((data : List Int)))) fun t1 => (some ((t1 : List Int))))
set_option maxRecDepth 100000 in
theorem c68f42 (g : Gh) (data : List Int) (Adata : Option Addr) (cdata : Nat) (kdata : Option Bk) (a : Int) (b : Int) (a_cmpc : Addr) (a_cmpcp : Addr) (cmpcp : Board) (Acmpcp_defs : Option Addr) (ccmpcp_defs : Nat) (Acmpcp_conds : Option Addr) (ccmpcp_conds : Nat) (hdata : Buf g.b (tyI .i64) 3 (.slice Adata (data).length cdata) kdata data) (hc_cmpcp : Cells g.r a_cmpcp (cBoard cmpcp Acmpcp_defs ccmpcp_defs Acmpcp_conds ccmpcp_conds)) (fcmpcp_defs : Arr g.r tyAlertDef Acmpcp_defs ccmpcp_defs cmpcp.defs) (fcmpcp_conds : ArrM g.r g.b tyCnd Acmpcp_conds ccmpcp_conds cmpcp.conds) (hc_cmpc : Cells g.r a_cmpc [Value.pointer (some a_cmpcp)]) {r : (List Int)} (hS : o68f42 data a b cmpcp = some r) :
  Ctr Try.prog 68 [vs Adata data cdata, vi a, vi b, Value.func (.func 42) #[] #[Value.pointer (some a_cmpc)]] g [kdata, none] (fun v ψ o => ∃ (ko_data : Option Bk), v = Value.tuple #[] ∧ o = [ko_data] ∧ Buf ψ (tyI .i64) 3 (.slice Adata (data).length cdata) ko_data r) := by
 unfold o68f42 at hS
 refine xFn Try.f68 (Try.f68.body.getD .skip) 67 ?_
 have nhdata := hdata.len
 have nfcmpcp_defs := fcmpcp_defs.len
 have nfcmpcp_conds := fcmpcp_conds.len
 refine xSq ?_
 refine xRg ?_
 have z1 := i64_in_ (b - a)
 refine xB 4 [] [(0, vs Adata data cdata), (1, vi a), (8, vi (IntKind.i64.wrap (b - a)))] ?_
 refine xRe ?_
 refine wpq_then ?_
 refine xSq ?_
 refine xRg ?_
 refine xB 2 [] [(0, vs Adata data cdata), (1, vi a), (8, vi (IntKind.i64.wrap (b - a))), (17, vb (decide ((IntKind.i64.wrap (b - a)) ≥ 8)))] ?_
 refine xRe ?_
 refine wpq_then ?_
 refine xBindO hS (fun g own sl t1 => ∃ (k1_0 : Option Bk), own = [none, k1_0] ∧ sl = [] ∧ Buf g.b (tyI .i64) 3 (.slice Adata (t1).length cdata) k1_0 t1 ∧ (data).length = (t1).length) ?_ ?_
 ·rintro g2 _ _ t1 e3 ⟨k1_0, rfl, rfl, h1_0, hz1_v0⟩ hS
  have nh1_0 := h1_0.len
  have eS := (Option.some.inj hS).symm
  subst eS
  exact xFin [some 1] [] e3 ⟨k1_0, by kernel_rfl, by kernel_rfl, (Buf.re h1_0 hz1_v0.symm rfl)⟩
 ·intro uu1 hS hN1
  refine xCd (decide ((IntKind.i64.wrap (b - a)) ≥ 8)) (fun h4 => ?_) (fun h4 => ?_)
  ·have hS := cond_T h4 hS
   have h4p := of_decide_eq_true h4
   refine xSq ?_
   refine xRg ?_
   have z78 := u64_in_ (IntKind.i64.wrap (b - a))
   refine xB 2 [] [(0, vs Adata data cdata), (1, vi a), (8, vi (IntKind.i64.wrap (b - a))), (19, Value.int .u64 (IntKind.u64.wrap (IntKind.i64.wrap (b - a))))] ?_
   refine xE eB ?_
   rintro _ _ _ - ⟨b5, rfl, rfl, rfl⟩
   refine xBo 1 [(3, 0)] [some ⟨b5, 113, [Value.int .u64 (IntKind.u64.wrap (IntKind.i64.wrap (b - a)))]⟩, kdata, none] [(0, vs Adata data cdata), (1, vi a), (8, vi (IntKind.i64.wrap (b - a))), (9, vp b5 0)] ?_
   refine xRe ?_
   refine wpq_then ?_
   refine xSq ?_
   refine xRg ?_
   refine xB 1 [] [(0, vs Adata data cdata), (1, vi a), (8, vi (IntKind.i64.wrap (b - a))), (9, vp b5 0), (20, vi (IntKind.i64.wrap (b - a)))] ?_
   obtain ⟨y6, hy6, hS⟩ := bindO_T hS
   refine xE (eC 0 (fun g' lr eb ln => c77 g' ((IntKind.i64.wrap (b - a)) : Int) hy6)) ?_
   rintro _ g7 _ e8 ⟨_, rfl, rfl, rfl⟩
   refine xB 1 [] [(0, vs Adata data cdata), (1, vi a), (8, vi (IntKind.i64.wrap (b - a))), (9, vp b5 0), (10, Value.int .u64 y6)] ?_
   refine xRe ?_
   refine wpq_then ?_
   refine xSq ?_
   refine xRg ?_
   refine xB 2 [] [(0, vs Adata data cdata), (1, vi a), (8, vi (IntKind.i64.wrap (b - a))), (9, vp b5 0), (10, Value.int .u64 y6), (22, vi a), (23, vi (IntKind.i64.wrap (b - a)))] ?_
   refine xV (qQuo .i64 ((IntKind.i64.wrap (b - a))) (4) _ (by omega) (IntWalk.i64_quo _ _ (by omega))) ?_
   have z79 := i64_in_ (((IntKind.i64.wrap (b - a)) / 4) * 2)
   have z80 := i64_in_ (a + (IntKind.i64.wrap (((IntKind.i64.wrap (b - a)) / 4) * 2)))
   have z81 := i64_in_ ((IntKind.i64.wrap (a + (IntKind.i64.wrap (((IntKind.i64.wrap (b - a)) / 4) * 2)))) - 1)
   refine xB 4 [] [(0, vs Adata data cdata), (1, vi a), (8, vi (IntKind.i64.wrap (b - a))), (9, vp b5 0), (10, Value.int .u64 y6), (11, vi (IntKind.i64.wrap ((IntKind.i64.wrap (a + (IntKind.i64.wrap (((IntKind.i64.wrap (b - a)) / 4) * 2)))) - 1)))] ?_
   refine xRe ?_
   refine wpq_then ?_
   refine xBindO hS (fun g own sl t9 => ∃ (k9_0 : Option Bk), own = [none, k9_0] ∧ sl = [] ∧ Buf g.b (tyI .i64) 3 (.slice Adata (t9).length cdata) k9_0 t9 ∧ (data).length = (t9).length) ?_ ?_
   ·rintro g10 _ _ t9 e11 ⟨k9_0, rfl, rfl, h9_0, hz9_v0⟩ hS
    have nh9_0 := h9_0.len
    refine xSel [none, some 1] ?_
    refine xSub [] ?_
    have eS := (Option.some.inj hS).symm
    exact hN1 _ eS _ _ _ (e8.trans e11) ⟨k9_0, by kernel_rfl, by kernel_rfl, h9_0, hz9_v0⟩
   ·intro uu9 hS hN9
    refine xBl 0 ?_
    have hdata := hdata.mono e8.b
    refine xSel [some 0, none, some 1] ?_
    refine xSub [(0, vs Adata data cdata), (1, vi a), (8, vi (IntKind.i64.wrap (b - a))), (9, vp b5 0), (10, Value.int .u64 y6), (11, vi (IntKind.i64.wrap ((IntKind.i64.wrap (a + (IntKind.i64.wrap (((IntKind.i64.wrap (b - a)) / 4) * 2)))) - 1)))] ?_
    refine xLo hS (fun g own sl s14 => ∃ (k14_0 : Option Bk), own = [some ⟨b5, 113, [Value.int .u64 s14.2.2]⟩, none, k14_0] ∧ sl = [(0, vs Adata s14.1 cdata), (1, vi a), (8, vi (IntKind.i64.wrap (b - a))), (9, vp b5 0), (10, Value.int .u64 y6), (11, vi s14.2.1)] ∧ Buf g.b (tyI .i64) 3 (.slice Adata (s14.1).length cdata) k14_0 s14.1 ∧ (data).length = (s14.1).length) ⟨kdata, by kernel_rfl, by kernel_rfl, hdata, rfl⟩ ?_
    rintro g15 _ _ s14 uu14 e16 ⟨k14_0, rfl, rfl, h14_0, hz14_v0⟩ hS Qr14 hN14 hD14
    have nh14_0 := h14_0.len
    unfold o68f42_L0 at hS
    refine xSq ?_
    refine xSq ?_
    refine xRg ?_
    refine xB 3 [] [(0, vs Adata s14.1 cdata), (1, vi a), (8, vi (IntKind.i64.wrap (b - a))), (9, vp b5 0), (10, Value.int .u64 y6), (11, vi s14.2.1), (28, vi s14.2.1), (29, vi a), (30, vi (IntKind.i64.wrap (b - a)))] ?_
    refine xV (qQuo .i64 ((IntKind.i64.wrap (b - a))) (4) _ (by omega) (IntWalk.i64_quo _ _ (by omega))) ?_
    have z142 := i64_in_ (((IntKind.i64.wrap (b - a)) / 4) * 2)
    have z143 := i64_in_ (a + (IntKind.i64.wrap (((IntKind.i64.wrap (b - a)) / 4) * 2)))
    have z144 := i64_in_ ((IntKind.i64.wrap (a + (IntKind.i64.wrap (((IntKind.i64.wrap (b - a)) / 4) * 2)))) + 1)
    refine xB 4 [] [(0, vs Adata s14.1 cdata), (1, vi a), (8, vi (IntKind.i64.wrap (b - a))), (9, vp b5 0), (10, Value.int .u64 y6), (11, vi s14.2.1), (35, vb (decide (s14.2.1 ≤ (IntKind.i64.wrap ((IntKind.i64.wrap (a + (IntKind.i64.wrap (((IntKind.i64.wrap (b - a)) / 4) * 2)))) + 1)))))] ?_
    refine xRe ?_
    refine wpq_then ?_
    refine xCd (decide (s14.2.1 ≤ (IntKind.i64.wrap ((IntKind.i64.wrap (a + (IntKind.i64.wrap (((IntKind.i64.wrap (b - a)) / 4) * 2)))) + 1)))) (fun h17 => ?_) (fun h17 => ?_)
    ·have hS := cond_T h17 hS
     have h17p := of_decide_eq_true h17
     refine xSk ?_
     refine wpq_then ?_
     refine xSub [(0, vs Adata s14.1 cdata), (1, vi a), (8, vi (IntKind.i64.wrap (b - a))), (9, vp b5 0), (10, Value.int .u64 y6), (11, vi s14.2.1)] ?_
     refine xSq ?_
     refine xBl 1 ?_
     refine xSq ?_
     refine xRg ?_
     obtain ⟨y18, hy18, hS⟩ := letJ_T hS
     refine xE (eC 1 (fun g' lr eb ln => c78 g' b5 (s14.2.2 : Int) hy18)) ?_
     rintro _ g19 _ e20 ⟨_, rfl, rfl, rfl⟩
     have z149 := u64_in_ (y6 - 1)
     have z150 := i64_in_ (landK .u64 y18.2 (IntKind.u64.wrap (y6 - 1)))
     refine xB 5 [] [(0, vs Adata s14.1 cdata), (1, vi a), (8, vi (IntKind.i64.wrap (b - a))), (9, vp b5 0), (10, Value.int .u64 y6), (11, vi s14.2.1), (12, vi (IntKind.i64.wrap (landK .u64 y18.2 (IntKind.u64.wrap (y6 - 1)))))] ?_
     refine xRe ?_
     refine wpq_then ?_
     refine xSq ?_
     refine xSq ?_
     refine xRg ?_
     refine xB 3 [] [(0, vs Adata s14.1 cdata), (1, vi a), (8, vi (IntKind.i64.wrap (b - a))), (9, vp b5 0), (10, Value.int .u64 y6), (11, vi s14.2.1), (12, vi (IntKind.i64.wrap (landK .u64 y18.2 (IntKind.u64.wrap (y6 - 1))))), (45, vb (decide ((IntKind.i64.wrap (landK .u64 y18.2 (IntKind.u64.wrap (y6 - 1)))) ≥ (IntKind.i64.wrap (b - a)))))] ?_
     refine xRe ?_
     refine wpq_then ?_
     refine xBindO hS (fun g own sl t21 => own = [some ⟨b5, 113, [Value.int .u64 y18.1]⟩, none, k14_0] ∧ sl = [(0, vs Adata s14.1 cdata), (1, vi a), (8, vi (IntKind.i64.wrap (b - a))), (9, vp b5 0), (10, Value.int .u64 y6), (11, vi s14.2.1), (12, vi t21)]) ?_ ?_
     ·rintro g22 _ _ t21 e23 ⟨rfl, rfl⟩ hS
      refine wpq_then ?_
      refine xDr 0 [11, 15] [17, 19, 16, 18] [some ⟨b5, 113, [Value.int .u64 y18.1]⟩, k14_0] 20 (fun RG => ?_) (fun _ _ _ _ _ h => h)
      have z151 := i64_in_ (a + t21)
      have z152 := i64_in_ (a + t21)
      have h14_0 := h14_0.mono (e20.trans e23).b
      obtain ⟨q25, hS⟩ := grd_T hS
      have q25p := of_decide_eq_true q25
      have i26 : ((IntKind.i64.wrap (a + t21))).toNat < (s14.1).length := by omega
      obtain ⟨kc24, cs24, hA24, hk24, hr24, hw24⟩ := h14_0.open_ i26 0
      obtain ⟨kb24, rfl⟩ : ∃ z, z = kc24 := ⟨_, rfl⟩
      subst hk24
      have hr24 : cs24 = [vi (List.getD s14.1 ((IntKind.i64.wrap (a + t21))).toNat 0)] := hr24
      subst hr24
      refine xT 10 [0, 1, 2, 3, 4, 5, 6, 7, 8, 9] [] [some 0, some 2] [(0, vs Adata s14.1 cdata), (1, vi a), (8, vi (IntKind.i64.wrap (b - a))), (9, vp b5 0), (10, Value.int .u64 y6), (11, vi s14.2.1), (49, vs Adata s14.1 cdata), (50, vi s14.2.1), (51, vs Adata s14.1 cdata), (54, vi (IntKind.i64.wrap (a + t21))), (55, vs Adata s14.1 cdata), (58, vi (IntKind.i64.wrap (a + t21)))] RG (Psi.le.refl _) ?_
      refine xTp 10 RG (fun _ => (qIxB ((IntKind.i64.wrap (a + t21))).toNat 1 kb24.g hA24 (show ((IntKind.i64.wrap (a + t21)) : Int) = _ from by omega) i26)) ?_
      refine xTv 11 [some 0, some 2] RG (Psi.le.refl _) (qLdB ((IntKind.i64.wrap (a + t21))).toNat 1 0 1 hw24) ?_
      obtain ⟨q28, hS⟩ := grd_T hS
      have q28p := of_decide_eq_true q28
      have i29 : (s14.2.1).toNat < (s14.1).length := by omega
      obtain ⟨kc27, cs27, hA27, hk27, hr27, hw27⟩ := h14_0.open_ i29 0
      cases hk27
      have hr27 : cs27 = [vi (List.getD s14.1 (s14.2.1).toNat 0)] := hr27
      subst hr27
      refine xT 6 [12, 13] [] [some 0, some 2] [(0, vs Adata s14.1 cdata), (1, vi a), (8, vi (IntKind.i64.wrap (b - a))), (9, vp b5 0), (10, Value.int .u64 y6), (11, vi s14.2.1), (49, vs Adata s14.1 cdata), (50, vi s14.2.1), (51, vs Adata s14.1 cdata), (54, vi (IntKind.i64.wrap (a + t21))), (60, vi (List.getD s14.1 ((IntKind.i64.wrap (a + t21))).toNat 0)), (61, vs Adata s14.1 cdata), (62, vi s14.2.1)] RG (Psi.le.refl _) ?_
      refine xTp 14 RG (fun _ => (qIxB (s14.2.1).toNat 1 kb24.g hA27 (show (s14.2.1 : Int) = _ from by omega) i29)) ?_
      refine xTv 15 [some 0, some 2] RG (Psi.le.refl _) (qLdB (s14.2.1).toNat 1 0 1 hw27) ?_
      obtain ⟨q31, hS⟩ := grd_T hS
      have q31p := of_decide_eq_true q31
      have i32 : (s14.2.1).toNat < (s14.1).length := by omega
      obtain ⟨kc30, cs30, hA30, hk30, hr30, hw30⟩ := h14_0.open_ i32 0
      cases hk30
      have hr30 : cs30 = [vi (List.getD s14.1 (s14.2.1).toNat 0)] := hr30
      subst hr30
      refine xTp 16 RG (fun _ => (qIxB (s14.2.1).toNat 1 kb24.g hA30 (show (s14.2.1 : Int) = _ from by omega) i32)) ?_
      refine xO1 (lds := [11, 15]) 17 ?_
      refine xId (lds := [11, 15]) (Psi.le.refl _) (eStB (s14.2.1).toNat 1 0 2 [vi (List.getD s14.1 ((IntKind.i64.wrap (a + t21))).toNat 0)] h14_0 rfl hw30 (show (tyI .i64).rep _ _ _ from rfl) i32) ?_
      rintro _ _ _ - ⟨k33, rfl, rfl, h33⟩
      refine kf ?_
      have hz33 : (s14.1).length = ((List.set s14.1 (s14.2.1).toNat ((List.getD s14.1 ((IntKind.i64.wrap (a + t21))).toNat 0) : Int))).length := by simp
      have hz33_1 : (data).length = ((List.set s14.1 (s14.2.1).toNat ((List.getD s14.1 ((IntKind.i64.wrap (a + t21))).toNat 0) : Int))).length := hz14_v0.trans hz33
      obtain ⟨q35, hS⟩ := grd_T hS
      have q35p := of_decide_eq_true q35
      have i36 : ((IntKind.i64.wrap (a + t21))).toNat < ((List.set s14.1 (s14.2.1).toNat ((List.getD s14.1 ((IntKind.i64.wrap (a + t21))).toNat 0) : Int))).length := by omega
      have i37 : ((IntKind.i64.wrap (a + t21))).toNat < (s14.1).length := by have := hz33; omega
      obtain ⟨kc34, cs34, hA34, hk34, hr34, hw34⟩ := h33.open_ i36 0
      obtain ⟨kb34, rfl⟩ : ∃ z, z = kc34 := ⟨_, rfl⟩
      subst hk34
      have hr34 : cs34 = [vi (List.getD (List.set s14.1 (s14.2.1).toNat ((List.getD s14.1 ((IntKind.i64.wrap (a + t21))).toNat 0) : Int)) ((IntKind.i64.wrap (a + t21))).toNat 0)] := hr34
      subst hr34
      refine xTp 18 RG (fun _ => (qIxB ((IntKind.i64.wrap (a + t21))).toNat 1 kb34.g hA34 (show ((IntKind.i64.wrap (a + t21)) : Int) = _ from by omega) i37)) ?_
      refine xO1 (lds := [11, 15]) 19 ?_
      refine xId (lds := [11, 15]) (Psi.le.refl _) (eStB ((IntKind.i64.wrap (a + t21))).toNat 1 0 2 [vi (List.getD s14.1 (s14.2.1).toNat 0)] h33 rfl hw34 (show (tyI .i64).rep _ _ _ from rfl) i36) ?_
      rintro _ _ _ - ⟨k38, rfl, rfl, h38⟩
      refine kf ?_
      have hz38 : (s14.1).length = ((List.set (List.set s14.1 (s14.2.1).toNat ((List.getD s14.1 ((IntKind.i64.wrap (a + t21))).toNat 0) : Int)) ((IntKind.i64.wrap (a + t21))).toNat ((List.getD s14.1 (s14.2.1).toNat 0) : Int))).length := hz33.trans (by simp)
      have hz38_1 : (data).length = ((List.set (List.set s14.1 (s14.2.1).toNat ((List.getD s14.1 ((IntKind.i64.wrap (a + t21))).toNat 0) : Int)) ((IntKind.i64.wrap (a + t21))).toNat ((List.getD s14.1 (s14.2.1).toNat 0) : Int))).length := hz33_1.trans (hz33.symm.trans hz38)
      refine xAe (lds := [11, 15]) ?_
      refine wpq_blockN ?_
      refine wpq_then ?_
      refine xSub [(0, Value.slice Adata ((s14.1).length) cdata), (1, vi a), (8, vi (IntKind.i64.wrap (b - a))), (9, vp b5 0), (10, Value.int .u64 y6), (11, vi s14.2.1)] ?_
      refine xRg ?_
      have z153 := i64_in_ (s14.2.1 + 1)
      refine xB 3 [] [(0, Value.slice Adata ((s14.1).length) cdata), (1, vi a), (8, vi (IntKind.i64.wrap (b - a))), (9, vp b5 0), (10, Value.int .u64 y6), (11, vi (IntKind.i64.wrap (s14.2.1 + 1)))] ?_
      refine xRe ?_
      refine wpq_thenN ?_
      refine wpq_re 0 (v := Value.slice Adata ((s14.1).length) cdata) (vs Adata (List.set (List.set s14.1 (s14.2.1).toNat ((List.getD s14.1 ((IntKind.i64.wrap (a + t21))).toNat 0) : Int)) ((IntKind.i64.wrap (a + t21))).toNat ((List.getD s14.1 (s14.2.1).toNat 0) : Int)) cdata) (by kernel_rfl) (congrArg (fun z => Value.slice Adata z cdata) hz38) ?_
      have h38 := Buf.re h38 hz38 (rfl : (List.set (List.set s14.1 (s14.2.1).toNat ((List.getD s14.1 ((IntKind.i64.wrap (a + t21))).toNat 0) : Int)) ((IntKind.i64.wrap (a + t21))).toNat ((List.getD s14.1 (s14.2.1).toNat 0) : Int)) = _)
      refine xSel [some 0, none, some 2] ?_
      refine xSub [(0, vs Adata (List.set (List.set s14.1 (s14.2.1).toNat ((List.getD s14.1 ((IntKind.i64.wrap (a + t21))).toNat 0) : Int)) ((IntKind.i64.wrap (a + t21))).toNat ((List.getD s14.1 (s14.2.1).toNat 0) : Int)) cdata), (1, vi a), (8, vi (IntKind.i64.wrap (b - a))), (9, vp b5 0), (10, Value.int .u64 y6), (11, vi (IntKind.i64.wrap (s14.2.1 + 1)))] ?_
      have eS := (Option.some.inj hS).symm
      exact hN14 _ eS _ _ _ (e20.trans e23) ⟨k38, by kernel_rfl, by kernel_rfl, h38, hz38_1⟩
     ·intro uu21 hS hN21
      refine xCd (decide ((IntKind.i64.wrap (landK .u64 y18.2 (IntKind.u64.wrap (y6 - 1)))) ≥ (IntKind.i64.wrap (b - a)))) (fun h39 => ?_) (fun h39 => ?_)
      ·have hS := cond_T h39 hS
       have h39p := of_decide_eq_true h39
       refine xRg ?_
       obtain ⟨q40, hS⟩ := grd_T hS
       have q40p := of_decide_eq_true q40
       refine xB 2 [] [(0, vs Adata s14.1 cdata), (1, vi a), (8, vi (IntKind.i64.wrap (b - a))), (9, vp b5 0), (10, Value.int .u64 y6), (11, vi s14.2.1), (12, vi (IntKind.i64.wrap (landK .u64 y18.2 (IntKind.u64.wrap (y6 - 1))))), (46, vi (IntKind.i64.wrap (landK .u64 y18.2 (IntKind.u64.wrap (y6 - 1))))), (47, vi (IntKind.i64.wrap (b - a)))] ?_
       refine xV (qSub .i64 ((IntKind.i64.wrap (landK .u64 y18.2 (IntKind.u64.wrap (y6 - 1))))) ((IntKind.i64.wrap (b - a))) (wr64 (by omega))) ?_
       refine xB 1 [] [(0, vs Adata s14.1 cdata), (1, vi a), (8, vi (IntKind.i64.wrap (b - a))), (9, vp b5 0), (10, Value.int .u64 y6), (11, vi s14.2.1), (12, vi ((IntKind.i64.wrap (landK .u64 y18.2 (IntKind.u64.wrap (y6 - 1)))) - (IntKind.i64.wrap (b - a))))] ?_
       refine xRe ?_
       refine xSel [some 0, none, some 2] ?_
       refine xSub [(0, vs Adata s14.1 cdata), (1, vi a), (8, vi (IntKind.i64.wrap (b - a))), (9, vp b5 0), (10, Value.int .u64 y6), (11, vi s14.2.1), (12, vi ((IntKind.i64.wrap (landK .u64 y18.2 (IntKind.u64.wrap (y6 - 1)))) - (IntKind.i64.wrap (b - a))))] ?_
       have eS := (Option.some.inj hS).symm
       exact hN21 _ eS _ _ _ (Gh.le.refl _) ⟨by kernel_rfl, by kernel_rfl⟩
      ·have hS := cond_F h39 hS
       have h39p := of_decide_eq_false h39
       refine xSk ?_
       refine xSel [some 0, none, some 2] ?_
       refine xSub [(0, vs Adata s14.1 cdata), (1, vi a), (8, vi (IntKind.i64.wrap (b - a))), (9, vp b5 0), (10, Value.int .u64 y6), (11, vi s14.2.1), (12, vi (IntKind.i64.wrap (landK .u64 y18.2 (IntKind.u64.wrap (y6 - 1)))))] ?_
       have eS := (Option.some.inj hS).symm
       exact hN21 _ eS _ _ _ (Gh.le.refl _) ⟨by kernel_rfl, by kernel_rfl⟩
    ·have hS := cond_F h17 hS
     have h17p := of_decide_eq_false h17
     refine xEx 0 ?_
     refine wpq_thenX ?_
     refine wpq_thenX ?_
     refine wpq_blockE ?_
     refine xSel [none, some 2] ?_
     refine xSub [] ?_
     have eS := (Option.some.inj hS).symm
     have eS := (hD14 _ eS).symm
     exact hN9 _ eS _ _ _ e16 ⟨k14_0, by kernel_rfl, by kernel_rfl, h14_0, hz14_v0⟩
  ·have hS := cond_F h4 hS
   have h4p := of_decide_eq_false h4
   refine xSk ?_
   refine xSel [none, some 0] ?_
   refine xSub [] ?_
   have eS := (Option.some.inj hS).symm
   exact hN1 _ eS _ _ _ (Gh.le.refl _) ⟨kdata, by kernel_rfl, by kernel_rfl, hdata, rfl⟩

def o81f42 (data : List Int) (a : Int) (b : Int) (swaps : Int) (cmpcp : Board) : Option (Int × Int × Int) :=
 (grd (decide (0 ≤ b ∧ b < (((data).length : Nat) : Int))) (grd (decide (0 ≤ a ∧ a < (((data).length : Nat) : Int))) (bindO (τ := Int) (o42 ((List.getD data (b).toNat 0) : Int) ((List.getD data (a).toNat 0) : Int) cmpcp) fun y7 => (cond (decide (y7 < 0)) (some ((((IntKind.i64.wrap (swaps + 1)) : Int), (b : Int), (a : Int)))) (some (((swaps : Int), (a : Int), (b : Int))))))))
set_option maxRecDepth 100000 in
theorem c81f42 (g : Gh) (data : List Int) (Adata : Option Addr) (cdata : Nat) (a : Int) (b : Int) (b_swaps : Nat) (swaps : Int) (a_cmpc : Addr) (a_cmpcp : Addr) (cmpcp : Board) (Acmpcp_defs : Option Addr) (ccmpcp_defs : Nat) (Acmpcp_conds : Option Addr) (ccmpcp_conds : Nat) (fdata : Arr g.r (tyI .i64) Adata cdata data) (hc_cmpcp : Cells g.r a_cmpcp (cBoard cmpcp Acmpcp_defs ccmpcp_defs Acmpcp_conds ccmpcp_conds)) (fcmpcp_defs : Arr g.r tyAlertDef Acmpcp_defs ccmpcp_defs cmpcp.defs) (fcmpcp_conds : ArrM g.r g.b tyCnd Acmpcp_conds ccmpcp_conds cmpcp.conds) (hc_cmpc : Cells g.r a_cmpc [Value.pointer (some a_cmpcp)]) {r : Int × Int × Int} (hS : o81f42 data a b swaps cmpcp = some r) :
  Ctr Try.prog 81 [vs Adata data cdata, vi a, vi b, vp b_swaps 0, Value.func (.func 42) #[] #[Value.pointer (some a_cmpc)]] g [some ⟨b_swaps, 3, [vi swaps]⟩] (fun v ψ o => v = Value.tuple #[vi r.2.1, vi r.2.2] ∧ o = [some ⟨b_swaps, 3, [vi r.1]⟩]) := by
 unfold o81f42 at hS
 refine xFn Try.f81 (Try.f81.body.getD .skip) 32 ?_
 have nfdata := fdata.len
 have nfcmpcp_defs := fcmpcp_defs.len
 have nfcmpcp_conds := fcmpcp_conds.len
 refine xSq ?_
 refine xRg ?_
 refine xB 2 [] [(0, vs Adata data cdata), (1, vi a), (2, vi b), (3, vp b_swaps 0), (4, Value.func (.func 42) #[] #[Value.pointer (some a_cmpc)])] ?_
 refine xRe ?_
 refine wpq_then ?_
 refine xSq ?_
 refine xSq ?_
 refine xDr 0 [4, 8] [] [some ⟨b_swaps, 3, [vi swaps]⟩] 11 (fun RG => ?_) (fun _ _ _ _ _ h => h)
 obtain ⟨q2, hS⟩ := grd_T hS
 have q2p := of_decide_eq_true q2
 have i3 : (b).toNat < (data).length := by omega
 obtain ⟨ad1, cs1, hA1, hr1, hc1⟩ := fdata.at_ (get_getD (d := 0) i3)
 have hr1 : cs1 = [vi (List.getD data (b).toNat 0)] := hr1
 subst hr1
 refine xT 8 [0, 1, 2] [] [some 0] [(0, vs Adata data cdata), (1, vi a), (2, vi b), (3, vp b_swaps 0), (12, Value.func (.func 42) #[] #[Value.pointer (some a_cmpc)]), (13, vs Adata data cdata), (14, vi b)] RG (Psi.le.refl _) ?_
 refine xTp 3 RG (fun _ => (qIx (b).toNat 1 hA1 (show (b : Int) = _ from by omega) i3)) ?_
 refine xTv 4 [some 0] RG (Psi.le.refl _) (qLdP (Addr.add ad1 ((b).toNat * 1)) 0 hc1) ?_
 obtain ⟨q5, hS⟩ := grd_T hS
 have q5p := of_decide_eq_true q5
 have i6 : (a).toNat < (data).length := by omega
 obtain ⟨ad4, cs4, hA4, hr4, hc4⟩ := fdata.at_ (get_getD (d := 0) i6)
 have hr4 : cs4 = [vi (List.getD data (a).toNat 0)] := hr4
 subst hr4
 refine xT 4 [5, 6] [] [some 0] [(1, vi a), (2, vi b), (3, vp b_swaps 0), (12, Value.func (.func 42) #[] #[Value.pointer (some a_cmpc)]), (16, vi (List.getD data (b).toNat 0)), (17, vs Adata data cdata), (18, vi a)] RG (Psi.le.refl _) ?_
 refine xTp 7 RG (fun _ => (qIx (a).toNat 1 hA4 (show (a : Int) = _ from by omega) i6)) ?_
 refine xTv 8 [some 0] RG (Psi.le.refl _) (qLdP (Addr.add ad4 ((a).toNat * 1)) 0 hc4) ?_
 obtain ⟨y7, hy7, hS⟩ := bindO_T hS
 refine xO1 (lds := [4, 8]) 9 ?_
 refine xIe (lds := [4, 8]) (Psi.le.refl _) (eC 0 (fun g' lr eb ln => c42 g' ((List.getD data (b).toNat 0) : Int) ((List.getD data (a).toNat 0) : Int) a_cmpc a_cmpcp cmpcp Acmpcp_defs ccmpcp_defs Acmpcp_conds ccmpcp_conds (hc_cmpcp.mono lr) (fcmpcp_defs.mono lr) (ArrM.lent fcmpcp_conds lr eb) (hc_cmpc.mono lr) hy7)) ?_
 rintro _ g8 _ e9 ⟨_, rfl, rfl, rfl⟩
 refine kk [some 0] ?_
 refine xT 0 [10] [] [some 0] [(1, vi a), (2, vi b), (3, vp b_swaps 0), (22, vb (decide (y7 < 0)))] RG e9.r ?_
 refine xAe (lds := [4, 8]) ?_
 refine wpq_then ?_
 refine xCd (decide (y7 < 0)) (fun h10 => ?_) (fun h10 => ?_)
 ·have hS := cond_T h10 hS
  have h10p := of_decide_eq_true h10
  refine xSq ?_
  refine xRg ?_
  have z1 := i64_in_ (swaps + 1)
  refine xBo 6 [(2, 0), (5, 0)] [some ⟨b_swaps, 3, [vi (IntKind.i64.wrap (swaps + 1))]⟩] [(1, vi a), (2, vi b)] ?_
  refine xRe ?_
  refine wpq_then ?_
  refine xSq ?_
  refine xRg ?_
  refine xB 4 [] [(10, vi b), (11, vi a)] ?_
  refine xRe ?_
  refine wpq_then ?_
  have eS := (Option.some.inj hS).symm
  subst eS
  exact xRet [some 0] [10, 11] e9 ⟨by kernel_rfl, by kernel_rfl⟩ (fun _ _ h => h)
 ·have hS := cond_F h10 hS
  have h10p := of_decide_eq_false h10
  refine xSk ?_
  refine wpq_then ?_
  refine xSub [(1, vi a), (2, vi b)] ?_
  refine xSq ?_
  refine xRg ?_
  refine xB 4 [] [(10, vi a), (11, vi b)] ?_
  refine xRe ?_
  refine wpq_then ?_
  have eS := (Option.some.inj hS).symm
  subst eS
  exact xRet [some 0] [10, 11] e9 ⟨by kernel_rfl, by kernel_rfl⟩ (fun _ _ h => h)

def o80f42 (data : List Int) (a : Int) (b : Int) (c : Int) (swaps : Int) (cmpcp : Board) : Option (Int × Int) :=
 (bindO (τ := Int × Int × Int) (o81f42 (data : List Int) (a : Int) (b : Int) (swaps : Int) cmpcp) fun y1 => (bindO (τ := Int × Int × Int) (o81f42 (data : List Int) (y1.2.2 : Int) (c : Int) (y1.1 : Int) cmpcp) fun y4 => (bindO (τ := Int × Int × Int) (o81f42 (data : List Int) (y1.2.1 : Int) (y4.2.1 : Int) (y4.1 : Int) cmpcp) fun y7 => (some (((y7.1 : Int), (y7.2.2 : Int)))))))
set_option maxRecDepth 100000 in
theorem c80f42 (g : Gh) (data : List Int) (Adata : Option Addr) (cdata : Nat) (a : Int) (b : Int) (c : Int) (b_swaps : Nat) (swaps : Int) (a_cmpc : Addr) (a_cmpcp : Addr) (cmpcp : Board) (Acmpcp_defs : Option Addr) (ccmpcp_defs : Nat) (Acmpcp_conds : Option Addr) (ccmpcp_conds : Nat) (fdata : Arr g.r (tyI .i64) Adata cdata data) (hc_cmpcp : Cells g.r a_cmpcp (cBoard cmpcp Acmpcp_defs ccmpcp_defs Acmpcp_conds ccmpcp_conds)) (fcmpcp_defs : Arr g.r tyAlertDef Acmpcp_defs ccmpcp_defs cmpcp.defs) (fcmpcp_conds : ArrM g.r g.b tyCnd Acmpcp_conds ccmpcp_conds cmpcp.conds) (hc_cmpc : Cells g.r a_cmpc [Value.pointer (some a_cmpcp)]) {r : Int × Int} (hS : o80f42 data a b c swaps cmpcp = some r) :
  Ctr Try.prog 80 [vs Adata data cdata, vi a, vi b, vi c, vp b_swaps 0, Value.func (.func 42) #[] #[Value.pointer (some a_cmpc)]] g [some ⟨b_swaps, 3, [vi swaps]⟩] (fun v ψ o => v = vi r.2 ∧ o = [some ⟨b_swaps, 3, [vi r.1]⟩]) := by
 unfold o80f42 at hS
 refine xFn Try.f80 (Try.f80.body.getD .skip) 41 ?_
 have nfdata := fdata.len
 have nfcmpcp_defs := fcmpcp_defs.len
 have nfcmpcp_conds := fcmpcp_conds.len
 refine xSq ?_
 refine xRg ?_
 refine xB 1 [] [(0, vs Adata data cdata), (1, vi a), (2, vi b), (3, vi c), (4, vp b_swaps 0), (5, Value.func (.func 42) #[] #[Value.pointer (some a_cmpc)])] ?_
 refine xRe ?_
 refine wpq_then ?_
 refine xSq ?_
 refine xRg ?_
 refine xB 5 [] [(0, vs Adata data cdata), (1, vi a), (2, vi b), (3, vi c), (4, vp b_swaps 0), (5, Value.func (.func 42) #[] #[Value.pointer (some a_cmpc)]), (14, vs Adata data cdata), (15, vi a), (16, vi b), (17, vp b_swaps 0), (18, Value.func (.func 42) #[] #[Value.pointer (some a_cmpc)])] ?_
 obtain ⟨y1, hy1, hS⟩ := bindO_T hS
 refine xE (eC 1 (fun g' lr eb ln => c81f42 g' (data : List Int) Adata cdata (a : Int) (b : Int) b_swaps (swaps : Int) a_cmpc a_cmpcp cmpcp Acmpcp_defs ccmpcp_defs Acmpcp_conds ccmpcp_conds (fdata.mono lr) (hc_cmpcp.mono lr) (fcmpcp_defs.mono lr) (ArrM.lent fcmpcp_conds lr eb) (hc_cmpc.mono lr) hy1)) ?_
 rintro _ g2 _ e3 ⟨_, rfl, rfl, rfl⟩
 refine xB 5 [] [(0, vs Adata data cdata), (1, vi y1.2.1), (2, vi y1.2.2), (3, vi c), (4, vp b_swaps 0), (5, Value.func (.func 42) #[] #[Value.pointer (some a_cmpc)])] ?_
 refine xRe ?_
 refine wpq_then ?_
 refine xSq ?_
 refine xRg ?_
 refine xB 5 [] [(0, vs Adata data cdata), (1, vi y1.2.1), (2, vi y1.2.2), (4, vp b_swaps 0), (5, Value.func (.func 42) #[] #[Value.pointer (some a_cmpc)]), (23, vs Adata data cdata), (24, vi y1.2.2), (25, vi c), (26, vp b_swaps 0), (27, Value.func (.func 42) #[] #[Value.pointer (some a_cmpc)])] ?_
 have fdata := fdata.mono e3.r
 have hc_cmpcp := hc_cmpcp.mono e3.r
 have fcmpcp_defs := fcmpcp_defs.mono e3.r
 have fcmpcp_conds := fcmpcp_conds.mono e3.r e3.b
 have hc_cmpc := hc_cmpc.mono e3.r
 obtain ⟨y4, hy4, hS⟩ := bindO_T hS
 refine xE (eC 1 (fun g' lr eb ln => c81f42 g' (data : List Int) Adata cdata (y1.2.2 : Int) (c : Int) b_swaps (y1.1 : Int) a_cmpc a_cmpcp cmpcp Acmpcp_defs ccmpcp_defs Acmpcp_conds ccmpcp_conds (fdata.mono lr) (hc_cmpcp.mono lr) (fcmpcp_defs.mono lr) (ArrM.lent fcmpcp_conds lr eb) (hc_cmpc.mono lr) hy4)) ?_
 rintro _ g5 _ e6 ⟨_, rfl, rfl, rfl⟩
 refine xB 5 [] [(0, vs Adata data cdata), (1, vi y1.2.1), (2, vi y4.2.1), (4, vp b_swaps 0), (5, Value.func (.func 42) #[] #[Value.pointer (some a_cmpc)])] ?_
 refine xRe ?_
 refine wpq_then ?_
 refine xSq ?_
 refine xRg ?_
 refine xB 5 [] [(2, vi y4.2.1), (32, vs Adata data cdata), (33, vi y1.2.1), (34, vi y4.2.1), (35, vp b_swaps 0), (36, Value.func (.func 42) #[] #[Value.pointer (some a_cmpc)])] ?_
 have fdata := fdata.mono e6.r
 have hc_cmpcp := hc_cmpcp.mono e6.r
 have fcmpcp_defs := fcmpcp_defs.mono e6.r
 have fcmpcp_conds := fcmpcp_conds.mono e6.r e6.b
 have hc_cmpc := hc_cmpc.mono e6.r
 obtain ⟨y7, hy7, hS⟩ := bindO_T hS
 refine xE (eC 1 (fun g' lr eb ln => c81f42 g' (data : List Int) Adata cdata (y1.2.1 : Int) (y4.2.1 : Int) b_swaps (y4.1 : Int) a_cmpc a_cmpcp cmpcp Acmpcp_defs ccmpcp_defs Acmpcp_conds ccmpcp_conds (fdata.mono lr) (hc_cmpcp.mono lr) (fcmpcp_defs.mono lr) (ArrM.lent fcmpcp_conds lr eb) (hc_cmpc.mono lr) hy7)) ?_
 rintro _ g8 _ e9 ⟨_, rfl, rfl, rfl⟩
 refine xB 5 [] [(2, vi y7.2.2)] ?_
 refine xRe ?_
 refine wpq_then ?_
 refine xSq ?_
 refine xRg ?_
 refine xB 2 [] [(12, vi y7.2.2)] ?_
 refine xRe ?_
 refine wpq_then ?_
 have eS := (Option.some.inj hS).symm
 subst eS
 exact xRet [some 0] [12] (e3.trans (e6.trans e9)) ⟨by kernel_rfl, by kernel_rfl⟩ (fun _ _ h => h)

def o79f42 (data : List Int) (a : Int) (swaps : Int) (cmpcp : Board) : Option (Int × Int) :=
 (bindO (τ := Int × Int) (o80f42 (data : List Int) ((IntKind.i64.wrap (a - 1)) : Int) (a : Int) ((IntKind.i64.wrap (a + 1)) : Int) (swaps : Int) cmpcp) fun y1 => (some (((y1.1 : Int), (y1.2 : Int)))))
set_option maxRecDepth 100000 in
theorem c79f42 (g : Gh) (data : List Int) (Adata : Option Addr) (cdata : Nat) (a : Int) (b_swaps : Nat) (swaps : Int) (a_cmpc : Addr) (a_cmpcp : Addr) (cmpcp : Board) (Acmpcp_defs : Option Addr) (ccmpcp_defs : Nat) (Acmpcp_conds : Option Addr) (ccmpcp_conds : Nat) (fdata : Arr g.r (tyI .i64) Adata cdata data) (hc_cmpcp : Cells g.r a_cmpcp (cBoard cmpcp Acmpcp_defs ccmpcp_defs Acmpcp_conds ccmpcp_conds)) (fcmpcp_defs : Arr g.r tyAlertDef Acmpcp_defs ccmpcp_defs cmpcp.defs) (fcmpcp_conds : ArrM g.r g.b tyCnd Acmpcp_conds ccmpcp_conds cmpcp.conds) (hc_cmpc : Cells g.r a_cmpc [Value.pointer (some a_cmpcp)]) {r : Int × Int} (hS : o79f42 data a swaps cmpcp = some r) :
  Ctr Try.prog 79 [vs Adata data cdata, vi a, vp b_swaps 0, Value.func (.func 42) #[] #[Value.pointer (some a_cmpc)]] g [some ⟨b_swaps, 3, [vi swaps]⟩] (fun v ψ o => v = vi r.2 ∧ o = [some ⟨b_swaps, 3, [vi r.1]⟩]) := by
 unfold o79f42 at hS
 refine xFn Try.f79 (Try.f79.body.getD .skip) 18 ?_
 have nfdata := fdata.len
 have nfcmpcp_defs := fcmpcp_defs.len
 have nfcmpcp_conds := fcmpcp_conds.len
 refine xSq ?_
 refine xRg ?_
 refine xB 1 [] [(0, vs Adata data cdata), (1, vi a), (2, vp b_swaps 0), (3, Value.func (.func 42) #[] #[Value.pointer (some a_cmpc)])] ?_
 refine xRe ?_
 refine wpq_then ?_
 refine xSq ?_
 refine xRg ?_
 have z1 := i64_in_ (a - 1)
 have z2 := i64_in_ (a + 1)
 refine xB 8 [] [(9, vs Adata data cdata), (11, vi (IntKind.i64.wrap (a - 1))), (12, vi a), (14, vi (IntKind.i64.wrap (a + 1))), (15, vp b_swaps 0), (16, Value.func (.func 42) #[] #[Value.pointer (some a_cmpc)])] ?_
 obtain ⟨y1, hy1, hS⟩ := bindO_T hS
 refine xE (eC 1 (fun g' lr eb ln => c80f42 g' (data : List Int) Adata cdata ((IntKind.i64.wrap (a - 1)) : Int) (a : Int) ((IntKind.i64.wrap (a + 1)) : Int) b_swaps (swaps : Int) a_cmpc a_cmpcp cmpcp Acmpcp_defs ccmpcp_defs Acmpcp_conds ccmpcp_conds (fdata.mono lr) (hc_cmpcp.mono lr) (fcmpcp_defs.mono lr) (ArrM.lent fcmpcp_conds lr eb) (hc_cmpc.mono lr) hy1)) ?_
 rintro _ g2 _ e3 ⟨_, rfl, rfl, rfl⟩
 refine xB 1 [] [(8, vi y1.2)] ?_
 refine xRe ?_
 refine wpq_then ?_
 have eS := (Option.some.inj hS).symm
 subst eS
 exact xRet [some 0] [8] e3 ⟨by kernel_rfl, by kernel_rfl⟩ (fun _ _ h => h)

def o69f42 (data : List Int) (a : Int) (b : Int) (cmpcp : Board) : Option (Int × Int) :=
 (bindO (τ := Int × Int) (cond (decide ((IntKind.i64.wrap (b - a)) ≥ 8)) (bindO (τ := Int × Int × Int × Int) (cond (decide ((IntKind.i64.wrap (b - a)) ≥ 50)) (bindO (τ := Int × Int) (o79f42 (data : List Int) ((IntKind.i64.wrap (a + (IntKind.i64.wrap ((IntKind.i64.wrap (Int.tdiv (IntKind.i64.wrap (b - a)) 4)) * 1)))) : Int) (0 : Int) cmpcp) fun y15 => (bindO (τ := Int × Int) (o79f42 (data : List Int) ((IntKind.i64.wrap (a + (IntKind.i64.wrap ((IntKind.i64.wrap (Int.tdiv (IntKind.i64.wrap (b - a)) 4)) * 2)))) : Int) (y15.1 : Int) cmpcp) fun y18 => (bindO (τ := Int × Int) (o79f42 (data : List Int) ((IntKind.i64.wrap (a + (IntKind.i64.wrap ((IntKind.i64.wrap (Int.tdiv (IntKind.i64.wrap (b - a)) 4)) * 3)))) : Int) (y18.1 : Int) cmpcp) fun y21 => (some ((y15.2, y18.2, y21.2, y21.1)))))) (some (((IntKind.i64.wrap (a + (IntKind.i64.wrap ((IntKind.i64.wrap (Int.tdiv (IntKind.i64.wrap (b - a)) 4)) * 1)))), (IntKind.i64.wrap (a + (IntKind.i64.wrap ((IntKind.i64.wrap (Int.tdiv (IntKind.i64.wrap (b - a)) 4)) * 2)))), (IntKind.i64.wrap (a + (IntKind.i64.wrap ((IntKind.i64.wrap (Int.tdiv (IntKind.i64.wrap (b - a)) 4)) * 3)))), 0)))) fun t8 => (bindO (τ := Int × Int) (o80f42 (data : List Int) (t8.1 : Int) (t8.2.1 : Int) (t8.2.2.1 : Int) (t8.2.2.2 : Int) cmpcp) fun y11 => (some ((y11.2, y11.1))))) (some (((IntKind.i64.wrap (a + (IntKind.i64.wrap ((IntKind.i64.wrap (Int.tdiv (IntKind.i64.wrap (b - a)) 4)) * 2)))), 0)))) fun t2 => (cond ((t2.2 == 0)) (some (((t2.1 : Int), (1 : Int)))) (cond ((t2.2 == 12)) (some (((t2.1 : Int), (2 : Int)))) (some (((t2.1 : Int), (0 : Int)))))))
set_option maxRecDepth 100000 in
theorem c69f42 (g : Gh) (data : List Int) (Adata : Option Addr) (cdata : Nat) (a : Int) (b : Int) (a_cmpc : Addr) (a_cmpcp : Addr) (cmpcp : Board) (Acmpcp_defs : Option Addr) (ccmpcp_defs : Nat) (Acmpcp_conds : Option Addr) (ccmpcp_conds : Nat) (fdata : Arr g.r (tyI .i64) Adata cdata data) (hc_cmpcp : Cells g.r a_cmpcp (cBoard cmpcp Acmpcp_defs ccmpcp_defs Acmpcp_conds ccmpcp_conds)) (fcmpcp_defs : Arr g.r tyAlertDef Acmpcp_defs ccmpcp_defs cmpcp.defs) (fcmpcp_conds : ArrM g.r g.b tyCnd Acmpcp_conds ccmpcp_conds cmpcp.conds) (hc_cmpc : Cells g.r a_cmpc [Value.pointer (some a_cmpcp)]) {r : Int × Int} (hS : o69f42 data a b cmpcp = some r) :
  Ctr Try.prog 69 [vs Adata data cdata, vi a, vi b, Value.func (.func 42) #[] #[Value.pointer (some a_cmpc)]] g [] (fun v ψ o => v = Value.tuple #[vi r.1, vi r.2] ∧ o = []) := by
 unfold o69f42 at hS
 refine xFn Try.f69 (Try.f69.body.getD .skip) 63 ?_
 have nfdata := fdata.len
 have nfcmpcp_defs := fcmpcp_defs.len
 have nfcmpcp_conds := fcmpcp_conds.len
 refine xSq ?_
 refine xRg ?_
 refine xB 2 [] [(0, vs Adata data cdata), (1, vi a), (2, vi b), (3, Value.func (.func 42) #[] #[Value.pointer (some a_cmpc)])] ?_
 refine xRe ?_
 refine wpq_then ?_
 refine xSq ?_
 refine xRg ?_
 have z1 := i64_in_ (b - a)
 refine xB 4 [] [(0, vs Adata data cdata), (1, vi a), (3, Value.func (.func 42) #[] #[Value.pointer (some a_cmpc)]), (10, vi (IntKind.i64.wrap (b - a)))] ?_
 refine xRe ?_
 refine wpq_then ?_
 refine xSq ?_
 refine xRg ?_
 refine xE eB ?_
 rintro _ _ _ - ⟨b1, rfl, rfl, rfl⟩
 refine xRe ?_
 refine wpq_then ?_
 refine xSq ?_
 refine xRg ?_
 have z2 := i64_in_ (Int.tdiv (IntKind.i64.wrap (b - a)) 4)
 refine xB 2 [] [(0, vs Adata data cdata), (1, vi a), (3, Value.func (.func 42) #[] #[Value.pointer (some a_cmpc)]), (10, vi (IntKind.i64.wrap (b - a))), (11, vp b1 0), (18, vi a), (19, vi (IntKind.i64.wrap (b - a)))] ?_
 refine xV (qQuo .i64 ((IntKind.i64.wrap (b - a))) (4) _ (by omega) rfl) ?_
 have z3 := i64_in_ ((IntKind.i64.wrap (Int.tdiv (IntKind.i64.wrap (b - a)) 4)) * 1)
 have z4 := i64_in_ (a + (IntKind.i64.wrap ((IntKind.i64.wrap (Int.tdiv (IntKind.i64.wrap (b - a)) 4)) * 1)))
 refine xB 3 [] [(0, vs Adata data cdata), (1, vi a), (3, Value.func (.func 42) #[] #[Value.pointer (some a_cmpc)]), (10, vi (IntKind.i64.wrap (b - a))), (11, vp b1 0), (12, vi (IntKind.i64.wrap (a + (IntKind.i64.wrap ((IntKind.i64.wrap (Int.tdiv (IntKind.i64.wrap (b - a)) 4)) * 1)))))] ?_
 refine xRe ?_
 refine wpq_then ?_
 refine xSq ?_
 refine xRg ?_
 have z5 := i64_in_ (Int.tdiv (IntKind.i64.wrap (b - a)) 4)
 refine xB 2 [] [(0, vs Adata data cdata), (1, vi a), (3, Value.func (.func 42) #[] #[Value.pointer (some a_cmpc)]), (10, vi (IntKind.i64.wrap (b - a))), (11, vp b1 0), (12, vi (IntKind.i64.wrap (a + (IntKind.i64.wrap ((IntKind.i64.wrap (Int.tdiv (IntKind.i64.wrap (b - a)) 4)) * 1))))), (23, vi a), (24, vi (IntKind.i64.wrap (b - a)))] ?_
 refine xV (qQuo .i64 ((IntKind.i64.wrap (b - a))) (4) _ (by omega) rfl) ?_
 have z6 := i64_in_ ((IntKind.i64.wrap (Int.tdiv (IntKind.i64.wrap (b - a)) 4)) * 2)
 have z7 := i64_in_ (a + (IntKind.i64.wrap ((IntKind.i64.wrap (Int.tdiv (IntKind.i64.wrap (b - a)) 4)) * 2)))
 refine xB 3 [] [(0, vs Adata data cdata), (1, vi a), (3, Value.func (.func 42) #[] #[Value.pointer (some a_cmpc)]), (10, vi (IntKind.i64.wrap (b - a))), (11, vp b1 0), (12, vi (IntKind.i64.wrap (a + (IntKind.i64.wrap ((IntKind.i64.wrap (Int.tdiv (IntKind.i64.wrap (b - a)) 4)) * 1))))), (13, vi (IntKind.i64.wrap (a + (IntKind.i64.wrap ((IntKind.i64.wrap (Int.tdiv (IntKind.i64.wrap (b - a)) 4)) * 2)))))] ?_
 refine xRe ?_
 refine wpq_then ?_
 refine xSq ?_
 refine xRg ?_
 have z8 := i64_in_ (Int.tdiv (IntKind.i64.wrap (b - a)) 4)
 refine xB 2 [] [(0, vs Adata data cdata), (3, Value.func (.func 42) #[] #[Value.pointer (some a_cmpc)]), (10, vi (IntKind.i64.wrap (b - a))), (11, vp b1 0), (12, vi (IntKind.i64.wrap (a + (IntKind.i64.wrap ((IntKind.i64.wrap (Int.tdiv (IntKind.i64.wrap (b - a)) 4)) * 1))))), (13, vi (IntKind.i64.wrap (a + (IntKind.i64.wrap ((IntKind.i64.wrap (Int.tdiv (IntKind.i64.wrap (b - a)) 4)) * 2))))), (28, vi a), (29, vi (IntKind.i64.wrap (b - a)))] ?_
 refine xV (qQuo .i64 ((IntKind.i64.wrap (b - a))) (4) _ (by omega) rfl) ?_
 have z9 := i64_in_ ((IntKind.i64.wrap (Int.tdiv (IntKind.i64.wrap (b - a)) 4)) * 3)
 have z10 := i64_in_ (a + (IntKind.i64.wrap ((IntKind.i64.wrap (Int.tdiv (IntKind.i64.wrap (b - a)) 4)) * 3)))
 refine xB 3 [] [(0, vs Adata data cdata), (3, Value.func (.func 42) #[] #[Value.pointer (some a_cmpc)]), (10, vi (IntKind.i64.wrap (b - a))), (11, vp b1 0), (12, vi (IntKind.i64.wrap (a + (IntKind.i64.wrap ((IntKind.i64.wrap (Int.tdiv (IntKind.i64.wrap (b - a)) 4)) * 1))))), (13, vi (IntKind.i64.wrap (a + (IntKind.i64.wrap ((IntKind.i64.wrap (Int.tdiv (IntKind.i64.wrap (b - a)) 4)) * 2))))), (14, vi (IntKind.i64.wrap (a + (IntKind.i64.wrap ((IntKind.i64.wrap (Int.tdiv (IntKind.i64.wrap (b - a)) 4)) * 3)))))] ?_
 refine xRe ?_
 refine wpq_then ?_
 refine xSq ?_
 refine xSq ?_
 refine xRg ?_
 refine xB 2 [] [(0, vs Adata data cdata), (3, Value.func (.func 42) #[] #[Value.pointer (some a_cmpc)]), (10, vi (IntKind.i64.wrap (b - a))), (11, vp b1 0), (12, vi (IntKind.i64.wrap (a + (IntKind.i64.wrap ((IntKind.i64.wrap (Int.tdiv (IntKind.i64.wrap (b - a)) 4)) * 1))))), (13, vi (IntKind.i64.wrap (a + (IntKind.i64.wrap ((IntKind.i64.wrap (Int.tdiv (IntKind.i64.wrap (b - a)) 4)) * 2))))), (14, vi (IntKind.i64.wrap (a + (IntKind.i64.wrap ((IntKind.i64.wrap (Int.tdiv (IntKind.i64.wrap (b - a)) 4)) * 3))))), (34, vb (decide ((IntKind.i64.wrap (b - a)) ≥ 8)))] ?_
 refine xRe ?_
 refine wpq_then ?_
 refine xBindO hS (fun g own sl t2 => own = [some ⟨b1, 3, [vi t2.2]⟩] ∧ sl = [(11, vp b1 0), (13, vi t2.1)]) ?_ ?_
 ·rintro g3 _ _ t2 e4 ⟨rfl, rfl⟩ hS
  refine wpq_then ?_
  refine xSq ?_
  refine xRg ?_
  refine xB 1 [(0, 0)] [(13, vi t2.1), (55, vi t2.2)] ?_
  refine xRe ?_
  refine wpq_then ?_
  refine xBl 0 ?_
  refine xSq ?_
  refine xRg ?_
  refine xB 2 [] [(13, vi t2.1), (55, vi t2.2), (57, vb (t2.2 == 0))] ?_
  refine xRe ?_
  refine wpq_then ?_
  refine xCd ((t2.2 == 0)) (fun h5 => ?_) (fun h5 => ?_)
  ·have hS := cond_T h5 hS
   have h5p : t2.2 = 0 := eq_of_beq h5
   refine xSq ?_
   refine xRg ?_
   refine xB 3 [] [(8, vi t2.1), (9, vi 1)] ?_
   refine xRe ?_
   refine wpq_then ?_
   have eS := (Option.some.inj hS).symm
   subst eS
   exact xRet [] [8, 9] e4 ⟨by kernel_rfl, by kernel_rfl⟩ (fun _ _ h => h)
  ·have hS := cond_F h5 hS
   have h5p : ¬ (t2.2 = 0) := ne_of_beq_false_ h5
   refine xSq ?_
   refine xRg ?_
   refine xB 2 [] [(13, vi t2.1), (60, vb (t2.2 == 12))] ?_
   refine xRe ?_
   refine wpq_then ?_
   refine xCd ((t2.2 == 12)) (fun h6 => ?_) (fun h6 => ?_)
   ·have hS := cond_T h6 hS
    have h6p : t2.2 = 12 := eq_of_beq h6
    refine xSq ?_
    refine xRg ?_
    refine xB 3 [] [(8, vi t2.1), (9, vi 2)] ?_
    refine xRe ?_
    refine wpq_then ?_
    have eS := (Option.some.inj hS).symm
    subst eS
    exact xRet [] [8, 9] e4 ⟨by kernel_rfl, by kernel_rfl⟩ (fun _ _ h => h)
   ·have hS := cond_F h6 hS
    have h6p : ¬ (t2.2 = 12) := ne_of_beq_false_ h6
    refine xSq ?_
    refine xRg ?_
    refine xB 3 [] [(8, vi t2.1), (9, vi 0)] ?_
    refine xRe ?_
    refine wpq_then ?_
    have eS := (Option.some.inj hS).symm
    subst eS
    exact xRet [] [8, 9] e4 ⟨by kernel_rfl, by kernel_rfl⟩ (fun _ _ h => h)
 ·intro uu2 hS hN2
  refine xCd (decide ((IntKind.i64.wrap (b - a)) ≥ 8)) (fun h7 => ?_) (fun h7 => ?_)
  ·have hS := cond_T h7 hS
   have h7p := of_decide_eq_true h7
   refine xSq ?_
   refine xSq ?_
   refine xRg ?_
   refine xB 2 [] [(0, vs Adata data cdata), (3, Value.func (.func 42) #[] #[Value.pointer (some a_cmpc)]), (11, vp b1 0), (12, vi (IntKind.i64.wrap (a + (IntKind.i64.wrap ((IntKind.i64.wrap (Int.tdiv (IntKind.i64.wrap (b - a)) 4)) * 1))))), (13, vi (IntKind.i64.wrap (a + (IntKind.i64.wrap ((IntKind.i64.wrap (Int.tdiv (IntKind.i64.wrap (b - a)) 4)) * 2))))), (14, vi (IntKind.i64.wrap (a + (IntKind.i64.wrap ((IntKind.i64.wrap (Int.tdiv (IntKind.i64.wrap (b - a)) 4)) * 3))))), (36, vb (decide ((IntKind.i64.wrap (b - a)) ≥ 50)))] ?_
   refine xRe ?_
   refine wpq_then ?_
   refine xBindO hS (fun g own sl t8 => own = [some ⟨b1, 3, [vi t8.2.2.2]⟩] ∧ sl = [(0, vs Adata data cdata), (3, Value.func (.func 42) #[] #[Value.pointer (some a_cmpc)]), (11, vp b1 0), (12, vi t8.1), (13, vi t8.2.1), (14, vi t8.2.2.1)]) ?_ ?_
   ·rintro g9 _ _ t8 e10 ⟨rfl, rfl⟩ hS
    refine wpq_then ?_
    refine xRg ?_
    refine xB 5 [] [(11, vp b1 0), (13, vi t8.2.1), (49, vs Adata data cdata), (50, vi t8.1), (51, vi t8.2.1), (52, vi t8.2.2.1), (53, Value.func (.func 42) #[] #[Value.pointer (some a_cmpc)])] ?_
    have fdata := fdata.mono e10.r
    have hc_cmpcp := hc_cmpcp.mono e10.r
    have fcmpcp_defs := fcmpcp_defs.mono e10.r
    have fcmpcp_conds := fcmpcp_conds.mono e10.r e10.b
    have hc_cmpc := hc_cmpc.mono e10.r
    obtain ⟨y11, hy11, hS⟩ := bindO_T hS
    refine xE (eC 1 (fun g' lr eb ln => c80f42 g' (data : List Int) Adata cdata (t8.1 : Int) (t8.2.1 : Int) (t8.2.2.1 : Int) b1 (t8.2.2.2 : Int) a_cmpc a_cmpcp cmpcp Acmpcp_defs ccmpcp_defs Acmpcp_conds ccmpcp_conds (fdata.mono lr) (hc_cmpcp.mono lr) (fcmpcp_defs.mono lr) (ArrM.lent fcmpcp_conds lr eb) (hc_cmpc.mono lr) hy11)) ?_
    rintro _ g12 _ e13 ⟨_, rfl, rfl, rfl⟩
    refine xB 1 [] [(11, vp b1 0), (13, vi y11.2)] ?_
    refine xRe ?_
    refine xSub [(11, vp b1 0), (13, vi y11.2)] ?_
    have eS := (Option.some.inj hS).symm
    exact hN2 _ eS _ _ _ (e10.trans e13) ⟨by kernel_rfl, by kernel_rfl⟩
   ·intro uu8 hS hN8
    refine xCd (decide ((IntKind.i64.wrap (b - a)) ≥ 50)) (fun h14 => ?_) (fun h14 => ?_)
    ·have hS := cond_T h14 hS
     have h14p := of_decide_eq_true h14
     refine xSq ?_
     refine xRg ?_
     refine xB 3 [] [(0, vs Adata data cdata), (3, Value.func (.func 42) #[] #[Value.pointer (some a_cmpc)]), (11, vp b1 0), (12, vi (IntKind.i64.wrap (a + (IntKind.i64.wrap ((IntKind.i64.wrap (Int.tdiv (IntKind.i64.wrap (b - a)) 4)) * 1))))), (13, vi (IntKind.i64.wrap (a + (IntKind.i64.wrap ((IntKind.i64.wrap (Int.tdiv (IntKind.i64.wrap (b - a)) 4)) * 2))))), (14, vi (IntKind.i64.wrap (a + (IntKind.i64.wrap ((IntKind.i64.wrap (Int.tdiv (IntKind.i64.wrap (b - a)) 4)) * 3))))), (37, vs Adata data cdata), (38, vi (IntKind.i64.wrap (a + (IntKind.i64.wrap ((IntKind.i64.wrap (Int.tdiv (IntKind.i64.wrap (b - a)) 4)) * 1))))), (39, Value.func (.func 42) #[] #[Value.pointer (some a_cmpc)])] ?_
     obtain ⟨y15, hy15, hS⟩ := bindO_T hS
     refine xE (eC 1 (fun g' lr eb ln => c79f42 g' (data : List Int) Adata cdata ((IntKind.i64.wrap (a + (IntKind.i64.wrap ((IntKind.i64.wrap (Int.tdiv (IntKind.i64.wrap (b - a)) 4)) * 1)))) : Int) b1 (0 : Int) a_cmpc a_cmpcp cmpcp Acmpcp_defs ccmpcp_defs Acmpcp_conds ccmpcp_conds (fdata.mono lr) (hc_cmpcp.mono lr) (fcmpcp_defs.mono lr) (ArrM.lent fcmpcp_conds lr eb) (hc_cmpc.mono lr) hy15)) ?_
     rintro _ g16 _ e17 ⟨_, rfl, rfl, rfl⟩
     refine xB 1 [] [(0, vs Adata data cdata), (3, Value.func (.func 42) #[] #[Value.pointer (some a_cmpc)]), (11, vp b1 0), (12, vi y15.2), (13, vi (IntKind.i64.wrap (a + (IntKind.i64.wrap ((IntKind.i64.wrap (Int.tdiv (IntKind.i64.wrap (b - a)) 4)) * 2))))), (14, vi (IntKind.i64.wrap (a + (IntKind.i64.wrap ((IntKind.i64.wrap (Int.tdiv (IntKind.i64.wrap (b - a)) 4)) * 3)))))] ?_
     refine xRe ?_
     refine wpq_then ?_
     refine xSq ?_
     refine xRg ?_
     refine xB 3 [] [(0, vs Adata data cdata), (3, Value.func (.func 42) #[] #[Value.pointer (some a_cmpc)]), (11, vp b1 0), (12, vi y15.2), (13, vi (IntKind.i64.wrap (a + (IntKind.i64.wrap ((IntKind.i64.wrap (Int.tdiv (IntKind.i64.wrap (b - a)) 4)) * 2))))), (14, vi (IntKind.i64.wrap (a + (IntKind.i64.wrap ((IntKind.i64.wrap (Int.tdiv (IntKind.i64.wrap (b - a)) 4)) * 3))))), (41, vs Adata data cdata), (42, vi (IntKind.i64.wrap (a + (IntKind.i64.wrap ((IntKind.i64.wrap (Int.tdiv (IntKind.i64.wrap (b - a)) 4)) * 2))))), (43, Value.func (.func 42) #[] #[Value.pointer (some a_cmpc)])] ?_
     have fdata := fdata.mono e17.r
     have hc_cmpcp := hc_cmpcp.mono e17.r
     have fcmpcp_defs := fcmpcp_defs.mono e17.r
     have fcmpcp_conds := fcmpcp_conds.mono e17.r e17.b
     have hc_cmpc := hc_cmpc.mono e17.r
     obtain ⟨y18, hy18, hS⟩ := bindO_T hS
     refine xE (eC 1 (fun g' lr eb ln => c79f42 g' (data : List Int) Adata cdata ((IntKind.i64.wrap (a + (IntKind.i64.wrap ((IntKind.i64.wrap (Int.tdiv (IntKind.i64.wrap (b - a)) 4)) * 2)))) : Int) b1 (y15.1 : Int) a_cmpc a_cmpcp cmpcp Acmpcp_defs ccmpcp_defs Acmpcp_conds ccmpcp_conds (fdata.mono lr) (hc_cmpcp.mono lr) (fcmpcp_defs.mono lr) (ArrM.lent fcmpcp_conds lr eb) (hc_cmpc.mono lr) hy18)) ?_
     rintro _ g19 _ e20 ⟨_, rfl, rfl, rfl⟩
     refine xB 1 [] [(0, vs Adata data cdata), (3, Value.func (.func 42) #[] #[Value.pointer (some a_cmpc)]), (11, vp b1 0), (12, vi y15.2), (13, vi y18.2), (14, vi (IntKind.i64.wrap (a + (IntKind.i64.wrap ((IntKind.i64.wrap (Int.tdiv (IntKind.i64.wrap (b - a)) 4)) * 3)))))] ?_
     refine xRe ?_
     refine wpq_then ?_
     refine xRg ?_
     refine xB 3 [] [(0, vs Adata data cdata), (3, Value.func (.func 42) #[] #[Value.pointer (some a_cmpc)]), (11, vp b1 0), (12, vi y15.2), (13, vi y18.2), (14, vi (IntKind.i64.wrap (a + (IntKind.i64.wrap ((IntKind.i64.wrap (Int.tdiv (IntKind.i64.wrap (b - a)) 4)) * 3))))), (45, vs Adata data cdata), (46, vi (IntKind.i64.wrap (a + (IntKind.i64.wrap ((IntKind.i64.wrap (Int.tdiv (IntKind.i64.wrap (b - a)) 4)) * 3))))), (47, Value.func (.func 42) #[] #[Value.pointer (some a_cmpc)])] ?_
     have fdata := fdata.mono e20.r
     have hc_cmpcp := hc_cmpcp.mono e20.r
     have fcmpcp_defs := fcmpcp_defs.mono e20.r
     have fcmpcp_conds := fcmpcp_conds.mono e20.r e20.b
     have hc_cmpc := hc_cmpc.mono e20.r
     obtain ⟨y21, hy21, hS⟩ := bindO_T hS
     refine xE (eC 1 (fun g' lr eb ln => c79f42 g' (data : List Int) Adata cdata ((IntKind.i64.wrap (a + (IntKind.i64.wrap ((IntKind.i64.wrap (Int.tdiv (IntKind.i64.wrap (b - a)) 4)) * 3)))) : Int) b1 (y18.1 : Int) a_cmpc a_cmpcp cmpcp Acmpcp_defs ccmpcp_defs Acmpcp_conds ccmpcp_conds (fdata.mono lr) (hc_cmpcp.mono lr) (fcmpcp_defs.mono lr) (ArrM.lent fcmpcp_conds lr eb) (hc_cmpc.mono lr) hy21)) ?_
     rintro _ g22 _ e23 ⟨_, rfl, rfl, rfl⟩
     refine xB 1 [] [(0, vs Adata data cdata), (3, Value.func (.func 42) #[] #[Value.pointer (some a_cmpc)]), (11, vp b1 0), (12, vi y15.2), (13, vi y18.2), (14, vi y21.2)] ?_
     refine xRe ?_
     refine xSub [(0, vs Adata data cdata), (3, Value.func (.func 42) #[] #[Value.pointer (some a_cmpc)]), (11, vp b1 0), (12, vi y15.2), (13, vi y18.2), (14, vi y21.2)] ?_
     have eS := (Option.some.inj hS).symm
     exact hN8 _ eS _ _ _ (e17.trans (e20.trans e23)) ⟨by kernel_rfl, by kernel_rfl⟩
    ·have hS := cond_F h14 hS
     have h14p := of_decide_eq_false h14
     refine xSk ?_
     refine xSub [(0, vs Adata data cdata), (3, Value.func (.func 42) #[] #[Value.pointer (some a_cmpc)]), (11, vp b1 0), (12, vi (IntKind.i64.wrap (a + (IntKind.i64.wrap ((IntKind.i64.wrap (Int.tdiv (IntKind.i64.wrap (b - a)) 4)) * 1))))), (13, vi (IntKind.i64.wrap (a + (IntKind.i64.wrap ((IntKind.i64.wrap (Int.tdiv (IntKind.i64.wrap (b - a)) 4)) * 2))))), (14, vi (IntKind.i64.wrap (a + (IntKind.i64.wrap ((IntKind.i64.wrap (Int.tdiv (IntKind.i64.wrap (b - a)) 4)) * 3)))))] ?_
     have eS := (Option.some.inj hS).symm
     exact hN8 _ eS _ _ _ (Gh.le.refl _) ⟨by kernel_rfl, by kernel_rfl⟩
  ·have hS := cond_F h7 hS
   have h7p := of_decide_eq_false h7
   refine xSk ?_
   refine xSub [(11, vp b1 0), (13, vi (IntKind.i64.wrap (a + (IntKind.i64.wrap ((IntKind.i64.wrap (Int.tdiv (IntKind.i64.wrap (b - a)) 4)) * 2)))))] ?_
   have eS := (Option.some.inj hS).symm
   exact hN2 _ eS _ _ _ (Gh.le.refl _) ⟨by kernel_rfl, by kernel_rfl⟩

def o70f42_L0 (s6 : (List Int) × Int × Int) : Option (Ctl ((List Int) × Int × Int) ((List Int))) :=
 (cond (decide (s6.2.1 < s6.2.2)) (grd (decide (0 ≤ s6.2.2 ∧ s6.2.2 < (((s6.1).length : Nat) : Int))) (grd (decide (0 ≤ s6.2.1 ∧ s6.2.1 < (((s6.1).length : Nat) : Int))) (grd (decide (0 ≤ s6.2.1 ∧ s6.2.1 < (((s6.1).length : Nat) : Int))) (grd (decide (0 ≤ s6.2.2 ∧ s6.2.2 < ((((List.set s6.1 (s6.2.1).toNat ((List.getD s6.1 (s6.2.2).toNat 0) : Int))).length : Nat) : Int))) (some (Ctl.go (((List.set (List.set s6.1 (s6.2.1).toNat ((List.getD s6.1 (s6.2.2).toNat 0) : Int)) (s6.2.2).toNat ((List.getD s6.1 (s6.2.1).toNat 0) : Int)) : List Int), (IntKind.i64.wrap (s6.2.1 + 1)), (IntKind.i64.wrap (s6.2.2 - 1))))))))) (some (Ctl.done ((s6.1 : List Int)))))
def o70f42 (data : List Int) (a : Int) (b : Int) (cmpcp : Board) : Option ((List Int)) :=
 (bindO (τ := (List Int)) (loopO (σ := (List Int) × Int × Int) (ρ := (List Int)) fuelN (o70f42_L0) ((data : List Int), a, (IntKind.i64.wrap (b - 1)))) fun t1 => (some ((t1 : List Int))))
set_option maxRecDepth 100000 in
theorem c70f42 (g : Gh) (data : List Int) (Adata : Option Addr) (cdata : Nat) (kdata : Option Bk) (a : Int) (b : Int) (a_cmpc : Addr) (a_cmpcp : Addr) (cmpcp : Board) (Acmpcp_defs : Option Addr) (ccmpcp_defs : Nat) (Acmpcp_conds : Option Addr) (ccmpcp_conds : Nat) (hdata : Buf g.b (tyI .i64) 3 (.slice Adata (data).length cdata) kdata data) (hc_cmpcp : Cells g.r a_cmpcp (cBoard cmpcp Acmpcp_defs ccmpcp_defs Acmpcp_conds ccmpcp_conds)) (fcmpcp_defs : Arr g.r tyAlertDef Acmpcp_defs ccmpcp_defs cmpcp.defs) (fcmpcp_conds : ArrM g.r g.b tyCnd Acmpcp_conds ccmpcp_conds cmpcp.conds) (hc_cmpc : Cells g.r a_cmpc [Value.pointer (some a_cmpcp)]) {r : (List Int)} (hS : o70f42 data a b cmpcp = some r) :
  Ctr Try.prog 70 [vs Adata data cdata, vi a, vi b, Value.func (.func 42) #[] #[Value.pointer (some a_cmpc)]] g [kdata, none] (fun v ψ o => ∃ (ko_data : Option Bk), v = Value.tuple #[] ∧ o = [ko_data] ∧ Buf ψ (tyI .i64) 3 (.slice Adata (data).length cdata) ko_data r) := by
 unfold o70f42 at hS
 refine xFn Try.f70 (Try.f70.body.getD .skip) 34 ?_
 have nhdata := hdata.len
 have nfcmpcp_defs := fcmpcp_defs.len
 have nfcmpcp_conds := fcmpcp_conds.len
 refine xSq ?_
 refine xRg ?_
 refine xB 2 [] [(0, vs Adata data cdata), (2, vi b), (8, vi a)] ?_
 refine xRe ?_
 refine wpq_then ?_
 refine xSq ?_
 refine xRg ?_
 have z1 := i64_in_ (b - 1)
 refine xB 3 [] [(0, vs Adata data cdata), (8, vi a), (9, vi (IntKind.i64.wrap (b - 1)))] ?_
 refine xRe ?_
 refine wpq_then ?_
 refine xBindO hS (fun g own sl t1 => ∃ (k1_0 : Option Bk), own = [none, k1_0] ∧ sl = [] ∧ Buf g.b (tyI .i64) 3 (.slice Adata (t1).length cdata) k1_0 t1 ∧ (data).length = (t1).length) ?_ ?_
 ·rintro g2 _ _ t1 e3 ⟨k1_0, rfl, rfl, h1_0, hz1_v0⟩ hS
  have nh1_0 := h1_0.len
  have eS := (Option.some.inj hS).symm
  subst eS
  exact xFin [some 1] [] e3 ⟨k1_0, by kernel_rfl, by kernel_rfl, (Buf.re h1_0 hz1_v0.symm rfl)⟩
 ·intro uu1 hS hN1
  refine xBl 0 ?_
  refine xSel [none, some 0] ?_
  refine xSub [(0, vs Adata data cdata), (8, vi a), (9, vi (IntKind.i64.wrap (b - 1)))] ?_
  refine xLo hS (fun g own sl s6 => ∃ (k6_0 : Option Bk), own = [none, k6_0] ∧ sl = [(0, vs Adata s6.1 cdata), (8, vi s6.2.1), (9, vi s6.2.2)] ∧ Buf g.b (tyI .i64) 3 (.slice Adata (s6.1).length cdata) k6_0 s6.1 ∧ (data).length = (s6.1).length) ⟨kdata, by kernel_rfl, by kernel_rfl, hdata, rfl⟩ ?_
  rintro g7 _ _ s6 uu6 e8 ⟨k6_0, rfl, rfl, h6_0, hz6_v0⟩ hS Qr6 hN6 hD6
  have nh6_0 := h6_0.len
  unfold o70f42_L0 at hS
  refine xSq ?_
  refine xSq ?_
  refine xRg ?_
  refine xB 3 [] [(0, vs Adata s6.1 cdata), (8, vi s6.2.1), (9, vi s6.2.2), (15, vb (decide (s6.2.1 < s6.2.2)))] ?_
  refine xRe ?_
  refine wpq_then ?_
  refine xCd (decide (s6.2.1 < s6.2.2)) (fun h9 => ?_) (fun h9 => ?_)
  ·have hS := cond_T h9 hS
   have h9p := of_decide_eq_true h9
   refine xSk ?_
   refine wpq_then ?_
   refine xSub [(0, vs Adata s6.1 cdata), (8, vi s6.2.1), (9, vi s6.2.2)] ?_
   refine xBl 1 ?_
   refine xSq ?_
   refine xDr 0 [7, 11] [13, 15, 12, 14] [k6_0] 16 (fun RG => ?_) (fun _ _ _ _ _ h => h)
   obtain ⟨q11, hS⟩ := grd_T hS
   have q11p := of_decide_eq_true q11
   have i12 : (s6.2.2).toNat < (s6.1).length := by omega
   obtain ⟨kc10, cs10, hA10, hk10, hr10, hw10⟩ := h6_0.open_ i12 0
   obtain ⟨kb10, rfl⟩ : ∃ z, z = kc10 := ⟨_, rfl⟩
   subst hk10
   have hr10 : cs10 = [vi (List.getD s6.1 (s6.2.2).toNat 0)] := hr10
   subst hr10
   refine xT 10 [0, 1, 2, 3, 4, 5] [] [some 1] [(0, vs Adata s6.1 cdata), (8, vi s6.2.1), (9, vi s6.2.2), (16, vs Adata s6.1 cdata), (17, vi s6.2.1), (18, vs Adata s6.1 cdata), (19, vi s6.2.2), (20, vs Adata s6.1 cdata), (21, vi s6.2.2)] RG (Psi.le.refl _) ?_
   refine xTp 6 RG (fun _ => (qIxB (s6.2.2).toNat 1 kb10.g hA10 (show (s6.2.2 : Int) = _ from by omega) i12)) ?_
   refine xTv 7 [some 1] RG (Psi.le.refl _) (qLdB (s6.2.2).toNat 1 0 0 hw10) ?_
   obtain ⟨q14, hS⟩ := grd_T hS
   have q14p := of_decide_eq_true q14
   have i15 : (s6.2.1).toNat < (s6.1).length := by omega
   obtain ⟨kc13, cs13, hA13, hk13, hr13, hw13⟩ := h6_0.open_ i15 0
   cases hk13
   have hr13 : cs13 = [vi (List.getD s6.1 (s6.2.1).toNat 0)] := hr13
   subst hr13
   refine xT 6 [8, 9] [] [some 1] [(0, vs Adata s6.1 cdata), (8, vi s6.2.1), (9, vi s6.2.2), (16, vs Adata s6.1 cdata), (17, vi s6.2.1), (18, vs Adata s6.1 cdata), (19, vi s6.2.2), (23, vi (List.getD s6.1 (s6.2.2).toNat 0)), (24, vs Adata s6.1 cdata), (25, vi s6.2.1)] RG (Psi.le.refl _) ?_
   refine xTp 10 RG (fun _ => (qIxB (s6.2.1).toNat 1 kb10.g hA13 (show (s6.2.1 : Int) = _ from by omega) i15)) ?_
   refine xTv 11 [some 1] RG (Psi.le.refl _) (qLdB (s6.2.1).toNat 1 0 0 hw13) ?_
   obtain ⟨q17, hS⟩ := grd_T hS
   have q17p := of_decide_eq_true q17
   have i18 : (s6.2.1).toNat < (s6.1).length := by omega
   obtain ⟨kc16, cs16, hA16, hk16, hr16, hw16⟩ := h6_0.open_ i18 0
   cases hk16
   have hr16 : cs16 = [vi (List.getD s6.1 (s6.2.1).toNat 0)] := hr16
   subst hr16
   refine xTp 12 RG (fun _ => (qIxB (s6.2.1).toNat 1 kb10.g hA16 (show (s6.2.1 : Int) = _ from by omega) i18)) ?_
   refine xO1 (lds := [7, 11]) 13 ?_
   refine xId (lds := [7, 11]) (Psi.le.refl _) (eStB (s6.2.1).toNat 1 0 1 [vi (List.getD s6.1 (s6.2.2).toNat 0)] h6_0 rfl hw16 (show (tyI .i64).rep _ _ _ from rfl) i18) ?_
   rintro _ _ _ - ⟨k19, rfl, rfl, h19⟩
   refine kf ?_
   have hz19 : (s6.1).length = ((List.set s6.1 (s6.2.1).toNat ((List.getD s6.1 (s6.2.2).toNat 0) : Int))).length := by simp
   have hz19_1 : (data).length = ((List.set s6.1 (s6.2.1).toNat ((List.getD s6.1 (s6.2.2).toNat 0) : Int))).length := hz6_v0.trans hz19
   obtain ⟨q21, hS⟩ := grd_T hS
   have q21p := of_decide_eq_true q21
   have i22 : (s6.2.2).toNat < ((List.set s6.1 (s6.2.1).toNat ((List.getD s6.1 (s6.2.2).toNat 0) : Int))).length := by omega
   have i23 : (s6.2.2).toNat < (s6.1).length := by have := hz19; omega
   obtain ⟨kc20, cs20, hA20, hk20, hr20, hw20⟩ := h19.open_ i22 0
   obtain ⟨kb20, rfl⟩ : ∃ z, z = kc20 := ⟨_, rfl⟩
   subst hk20
   have hr20 : cs20 = [vi (List.getD (List.set s6.1 (s6.2.1).toNat ((List.getD s6.1 (s6.2.2).toNat 0) : Int)) (s6.2.2).toNat 0)] := hr20
   subst hr20
   refine xTp 14 RG (fun _ => (qIxB (s6.2.2).toNat 1 kb20.g hA20 (show (s6.2.2 : Int) = _ from by omega) i23)) ?_
   refine xO1 (lds := [7, 11]) 15 ?_
   refine xId (lds := [7, 11]) (Psi.le.refl _) (eStB (s6.2.2).toNat 1 0 1 [vi (List.getD s6.1 (s6.2.1).toNat 0)] h19 rfl hw20 (show (tyI .i64).rep _ _ _ from rfl) i22) ?_
   rintro _ _ _ - ⟨k24, rfl, rfl, h24⟩
   refine kf ?_
   have hz24 : (s6.1).length = ((List.set (List.set s6.1 (s6.2.1).toNat ((List.getD s6.1 (s6.2.2).toNat 0) : Int)) (s6.2.2).toNat ((List.getD s6.1 (s6.2.1).toNat 0) : Int))).length := hz19.trans (by simp)
   have hz24_1 : (data).length = ((List.set (List.set s6.1 (s6.2.1).toNat ((List.getD s6.1 (s6.2.2).toNat 0) : Int)) (s6.2.2).toNat ((List.getD s6.1 (s6.2.1).toNat 0) : Int))).length := hz19_1.trans (hz19.symm.trans hz24)
   refine xAe (lds := [7, 11]) ?_
   refine wpq_then ?_
   refine xSub [(0, Value.slice Adata ((s6.1).length) cdata), (8, vi s6.2.1), (9, vi s6.2.2)] ?_
   refine xSq ?_
   refine xRg ?_
   have z24 := i64_in_ (s6.2.1 + 1)
   refine xB 3 [] [(0, Value.slice Adata ((s6.1).length) cdata), (8, vi (IntKind.i64.wrap (s6.2.1 + 1))), (9, vi s6.2.2)] ?_
   refine xRe ?_
   refine wpq_then ?_
   refine xRg ?_
   have z25 := i64_in_ (s6.2.2 - 1)
   refine xB 3 [] [(0, Value.slice Adata ((s6.1).length) cdata), (8, vi (IntKind.i64.wrap (s6.2.1 + 1))), (9, vi (IntKind.i64.wrap (s6.2.2 - 1)))] ?_
   refine xRe ?_
   refine wpq_blockN ?_
   refine wpq_thenN ?_
   refine wpq_re 0 (v := Value.slice Adata ((s6.1).length) cdata) (vs Adata (List.set (List.set s6.1 (s6.2.1).toNat ((List.getD s6.1 (s6.2.2).toNat 0) : Int)) (s6.2.2).toNat ((List.getD s6.1 (s6.2.1).toNat 0) : Int)) cdata) (by kernel_rfl) (congrArg (fun z => Value.slice Adata z cdata) hz24) ?_
   have h24 := Buf.re h24 hz24 (rfl : (List.set (List.set s6.1 (s6.2.1).toNat ((List.getD s6.1 (s6.2.2).toNat 0) : Int)) (s6.2.2).toNat ((List.getD s6.1 (s6.2.1).toNat 0) : Int)) = _)
   refine xSel [none, some 1] ?_
   refine xSub [(0, vs Adata (List.set (List.set s6.1 (s6.2.1).toNat ((List.getD s6.1 (s6.2.2).toNat 0) : Int)) (s6.2.2).toNat ((List.getD s6.1 (s6.2.1).toNat 0) : Int)) cdata), (8, vi (IntKind.i64.wrap (s6.2.1 + 1))), (9, vi (IntKind.i64.wrap (s6.2.2 - 1)))] ?_
   have eS := (Option.some.inj hS).symm
   exact hN6 _ eS _ _ _ (Gh.le.refl _) ⟨k24, by kernel_rfl, by kernel_rfl, h24, hz24_1⟩
  ·have hS := cond_F h9 hS
   have h9p := of_decide_eq_false h9
   refine xEx 0 ?_
   refine wpq_thenX ?_
   refine wpq_thenX ?_
   refine wpq_blockE ?_
   refine xSel [none, some 1] ?_
   refine xSub [] ?_
   have eS := (Option.some.inj hS).symm
   have eS := (hD6 _ eS).symm
   exact hN1 _ eS _ _ _ e8 ⟨k6_0, by kernel_rfl, by kernel_rfl, h6_0, hz6_v0⟩

end Go.Proofs.Ytfhchendnfpbkaa
