/-
Walks, printed by wip/gen, with half of their indentation. Conditions: each theorem's own.
-/
import Derived.Test.YtfhchendnfpbkaaA2
namespace Go.Proofs.Ytfhchendnfpbkaa
set_option linter.unusedVariables false
set_option linter.unusedSimpArgs false
open Go.RowKit
def o73f42_L1 (a : Int) (cmpcp : Board) (s73 : (List Int) × Int × Int) (t79 : Int) (s103 : Int) : Option (Ctl (Int) (Int)) :=
 (bindO (τ := Bool) (cond (decide (t79 ≤ s103)) (grd (decide (0 ≤ s103 ∧ s103 < (((s73.1).length : Nat) : Int))) (grd (decide (0 ≤ a ∧ a < (((s73.1).length : Nat) : Int))) (bindO (τ := Int) (o42 ((List.getD s73.1 (s103).toNat 0) : Int) ((List.getD s73.1 (a).toNat 0) : Int) cmpcp) fun y117 => (some (!decide (y117 < 0)))))) (some (false))) fun t106 => (cond (t106) (some (Ctl.go (IntKind.i64.wrap (s103 - 1)))) (some (Ctl.done (s103)))))
def o73f42_L2 (a : Int) (cmpcp : Board) (s73 : (List Int) × Int × Int) (s122 : Int) : Option (Ctl (Int) (Int)) :=
 (bindO (τ := Bool) (cond (decide (s122 ≤ s73.2.2)) (grd (decide (0 ≤ s122 ∧ s122 < (((s73.1).length : Nat) : Int))) (grd (decide (0 ≤ a ∧ a < (((s73.1).length : Nat) : Int))) (bindO (τ := Int) (o42 ((List.getD s73.1 (s122).toNat 0) : Int) ((List.getD s73.1 (a).toNat 0) : Int) cmpcp) fun y136 => (some (decide (y136 < 0)))))) (some (false))) fun t125 => (cond (t125) (some (Ctl.go (IntKind.i64.wrap (s122 + 1)))) (some (Ctl.done (s122)))))
def o73f42_L0 (a : Int) (cmpcp : Board) (s73 : (List Int) × Int × Int) : Option (Ctl ((List Int) × Int × Int) ((List Int) × Int)) :=
 (joinO (τ := (List Int) × Int × Int) (ρ := Ctl ((List Int) × Int × Int) ((List Int) × Int)) (bindO (τ := Int) (loopO (σ := Int) (ρ := Int) fuelN (o73f42_L2 a cmpcp s73) (s73.2.1)) fun t79 => (bindO (τ := Int) (loopO (σ := Int) (ρ := Int) fuelN (o73f42_L1 a cmpcp s73 t79) (s73.2.2)) fun t82 => (cond (decide (t79 > t82)) (some (Ctl.done (Ctl.done (((s73.1 : List Int), t82))))) (grd (decide (0 ≤ t82 ∧ t82 < (((s73.1).length : Nat) : Int))) (grd (decide (0 ≤ t79 ∧ t79 < (((s73.1).length : Nat) : Int))) (grd (decide (0 ≤ t79 ∧ t79 < (((s73.1).length : Nat) : Int))) (grd (decide (0 ≤ t82 ∧ t82 < ((((List.set s73.1 (t79).toNat ((List.getD s73.1 (t82).toNat 0) : Int))).length : Nat) : Int))) (some (Ctl.go (((List.set (List.set s73.1 (t79).toNat ((List.getD s73.1 (t82).toNat 0) : Int)) (t82).toNat ((List.getD s73.1 (t79).toNat 0) : Int)) : List Int), (IntKind.i64.wrap (t79 + 1)), (IntKind.i64.wrap (t82 - 1)))))))))))) fun t76 => (some (Ctl.go ((t76.1 : List Int), t76.2.1, t76.2.2))))
def o73f42_L3 (data : List Int) (a : Int) (pivot : Int) (cmpcp : Board) (t16 : Int) (s141 : Int) : Option (Ctl (Int) (Int)) :=
 (bindO (τ := Bool) (cond (decide (t16 ≤ s141)) (grd (decide (0 ≤ s141 ∧ s141 < ((((List.set (List.set data (a).toNat ((List.getD data (pivot).toNat 0) : Int)) (pivot).toNat ((List.getD data (a).toNat 0) : Int))).length : Nat) : Int))) (grd (decide (0 ≤ a ∧ a < ((((List.set (List.set data (a).toNat ((List.getD data (pivot).toNat 0) : Int)) (pivot).toNat ((List.getD data (a).toNat 0) : Int))).length : Nat) : Int))) (bindO (τ := Int) (o42 ((List.getD (List.set (List.set data (a).toNat ((List.getD data (pivot).toNat 0) : Int)) (pivot).toNat ((List.getD data (a).toNat 0) : Int)) (s141).toNat 0) : Int) ((List.getD (List.set (List.set data (a).toNat ((List.getD data (pivot).toNat 0) : Int)) (pivot).toNat ((List.getD data (a).toNat 0) : Int)) (a).toNat 0) : Int) cmpcp) fun y155 => (some (!decide (y155 < 0)))))) (some (false))) fun t144 => (cond (t144) (some (Ctl.go (IntKind.i64.wrap (s141 - 1)))) (some (Ctl.done (s141)))))
def o73f42_L4 (data : List Int) (a : Int) (b : Int) (pivot : Int) (cmpcp : Board) (s160 : Int) : Option (Ctl (Int) (Int)) :=
 (bindO (τ := Bool) (cond (decide (s160 ≤ (IntKind.i64.wrap (b - 1)))) (grd (decide (0 ≤ s160 ∧ s160 < ((((List.set (List.set data (a).toNat ((List.getD data (pivot).toNat 0) : Int)) (pivot).toNat ((List.getD data (a).toNat 0) : Int))).length : Nat) : Int))) (grd (decide (0 ≤ a ∧ a < ((((List.set (List.set data (a).toNat ((List.getD data (pivot).toNat 0) : Int)) (pivot).toNat ((List.getD data (a).toNat 0) : Int))).length : Nat) : Int))) (bindO (τ := Int) (o42 ((List.getD (List.set (List.set data (a).toNat ((List.getD data (pivot).toNat 0) : Int)) (pivot).toNat ((List.getD data (a).toNat 0) : Int)) (s160).toNat 0) : Int) ((List.getD (List.set (List.set data (a).toNat ((List.getD data (pivot).toNat 0) : Int)) (pivot).toNat ((List.getD data (a).toNat 0) : Int)) (a).toNat 0) : Int) cmpcp) fun y174 => (some (decide (y174 < 0)))))) (some (false))) fun t163 => (cond (t163) (some (Ctl.go (IntKind.i64.wrap (s160 + 1)))) (some (Ctl.done (s160)))))
def o73f42 (data : List Int) (a : Int) (b : Int) (pivot : Int) (cmpcp : Board) : Option ((List Int) × Int × Bool) :=
 (grd (decide (0 ≤ pivot ∧ pivot < (((data).length : Nat) : Int))) (grd (decide (0 ≤ a ∧ a < (((data).length : Nat) : Int))) (grd (decide (0 ≤ a ∧ a < (((data).length : Nat) : Int))) (grd (decide (0 ≤ pivot ∧ pivot < ((((List.set data (a).toNat ((List.getD data (pivot).toNat 0) : Int))).length : Nat) : Int))) (bindO (τ := Int) (loopO (σ := Int) (ρ := Int) fuelN (o73f42_L4 data a b pivot cmpcp) (IntKind.i64.wrap (a + 1))) fun t16 => (bindO (τ := Int) (loopO (σ := Int) (ρ := Int) fuelN (o73f42_L3 data a pivot cmpcp t16) (IntKind.i64.wrap (b - 1))) fun t19 => (cond (decide (t16 > t19)) (grd (decide (0 ≤ a ∧ a < ((((List.set (List.set data (a).toNat ((List.getD data (pivot).toNat 0) : Int)) (pivot).toNat ((List.getD data (a).toNat 0) : Int))).length : Nat) : Int))) (grd (decide (0 ≤ t19 ∧ t19 < ((((List.set (List.set data (a).toNat ((List.getD data (pivot).toNat 0) : Int)) (pivot).toNat ((List.getD data (a).toNat 0) : Int))).length : Nat) : Int))) (grd (decide (0 ≤ t19 ∧ t19 < ((((List.set (List.set data (a).toNat ((List.getD data (pivot).toNat 0) : Int)) (pivot).toNat ((List.getD data (a).toNat 0) : Int))).length : Nat) : Int))) (grd (decide (0 ≤ a ∧ a < ((((List.set (List.set (List.set data (a).toNat ((List.getD data (pivot).toNat 0) : Int)) (pivot).toNat ((List.getD data (a).toNat 0) : Int)) (t19).toNat ((List.getD (List.set (List.set data (a).toNat ((List.getD data (pivot).toNat 0) : Int)) (pivot).toNat ((List.getD data (a).toNat 0) : Int)) (a).toNat 0) : Int))).length : Nat) : Int))) (some ((((List.set (List.set (List.set (List.set data (a).toNat ((List.getD data (pivot).toNat 0) : Int)) (pivot).toNat ((List.getD data (a).toNat 0) : Int)) (t19).toNat ((List.getD (List.set (List.set data (a).toNat ((List.getD data (pivot).toNat 0) : Int)) (pivot).toNat ((List.getD data (a).toNat 0) : Int)) (a).toNat 0) : Int)) (a).toNat ((List.getD (List.set (List.set data (a).toNat ((List.getD data (pivot).toNat 0) : Int)) (pivot).toNat ((List.getD data (a).toNat 0) : Int)) (t19).toNat 0) : Int)) : List Int), (t19 : Int), (true)))))))) (grd (decide (0 ≤ t19 ∧ t19 < ((((List.set (List.set data (a).toNat ((List.getD data (pivot).toNat 0) : Int)) (pivot).toNat ((List.getD data (a).toNat 0) : Int))).length : Nat) : Int))) (grd (decide (0 ≤ t16 ∧ t16 < ((((List.set (List.set data (a).toNat ((List.getD data (pivot).toNat 0) : Int)) (pivot).toNat ((List.getD data (a).toNat 0) : Int))).length : Nat) : Int))) (grd (decide (0 ≤ t16 ∧ t16 < ((((List.set (List.set data (a).toNat ((List.getD data (pivot).toNat 0) : Int)) (pivot).toNat ((List.getD data (a).toNat 0) : Int))).length : Nat) : Int))) (grd (decide (0 ≤ t19 ∧ t19 < ((((List.set (List.set (List.set data (a).toNat ((List.getD data (pivot).toNat 0) : Int)) (pivot).toNat ((List.getD data (a).toNat 0) : Int)) (t16).toNat ((List.getD (List.set (List.set data (a).toNat ((List.getD data (pivot).toNat 0) : Int)) (pivot).toNat ((List.getD data (a).toNat 0) : Int)) (t19).toNat 0) : Int))).length : Nat) : Int))) (bindO (τ := (List Int) × Int) (loopO (σ := (List Int) × Int × Int) (ρ := (List Int) × Int) fuelN (o73f42_L0 a cmpcp) (((List.set (List.set (List.set (List.set data (a).toNat ((List.getD data (pivot).toNat 0) : Int)) (pivot).toNat ((List.getD data (a).toNat 0) : Int)) (t16).toNat ((List.getD (List.set (List.set data (a).toNat ((List.getD data (pivot).toNat 0) : Int)) (pivot).toNat ((List.getD data (a).toNat 0) : Int)) (t19).toNat 0) : Int)) (t19).toNat ((List.getD (List.set (List.set data (a).toNat ((List.getD data (pivot).toNat 0) : Int)) (pivot).toNat ((List.getD data (a).toNat 0) : Int)) (t16).toNat 0) : Int)) : List Int), (IntKind.i64.wrap (t16 + 1)), (IntKind.i64.wrap (t19 - 1)))) fun t53 => (grd (decide (0 ≤ a ∧ a < (((t53.1).length : Nat) : Int))) (grd (decide (0 ≤ t53.2 ∧ t53.2 < (((t53.1).length : Nat) : Int))) (grd (decide (0 ≤ t53.2 ∧ t53.2 < (((t53.1).length : Nat) : Int))) (grd (decide (0 ≤ a ∧ a < ((((List.set t53.1 (t53.2).toNat ((List.getD t53.1 (a).toNat 0) : Int))).length : Nat) : Int))) (some ((((List.set (List.set t53.1 (t53.2).toNat ((List.getD t53.1 (a).toNat 0) : Int)) (a).toNat ((List.getD t53.1 (t53.2).toNat 0) : Int)) : List Int), (t53.2 : Int), (false))))))))))))))))))))
set_option maxRecDepth 100000 in
theorem c73f42 (g : Gh) (data : List Int) (Adata : Option Addr) (cdata : Nat) (kdata : Option Bk) (a : Int) (b : Int) (pivot : Int) (a_cmpc : Addr) (a_cmpcp : Addr) (cmpcp : Board) (Acmpcp_defs : Option Addr) (ccmpcp_defs : Nat) (Acmpcp_conds : Option Addr) (ccmpcp_conds : Nat) (hdata : Buf g.b (tyI .i64) 3 (.slice Adata (data).length cdata) kdata data) (hc_cmpcp : Cells g.r a_cmpcp (cBoard cmpcp Acmpcp_defs ccmpcp_defs Acmpcp_conds ccmpcp_conds)) (fcmpcp_defs : Arr g.r tyAlertDef Acmpcp_defs ccmpcp_defs cmpcp.defs) (fcmpcp_conds : ArrM g.r g.b tyCnd Acmpcp_conds ccmpcp_conds cmpcp.conds) (hc_cmpc : Cells g.r a_cmpc [Value.pointer (some a_cmpcp)]) {r : (List Int) × Int × Bool} (hS : o73f42 data a b pivot cmpcp = some r) :
  Ctr Try.prog 73 [vs Adata data cdata, vi a, vi b, vi pivot, Value.func (.func 42) #[] #[Value.pointer (some a_cmpc)]] g [kdata, none] (fun v ψ o => ∃ (ko_data : Option Bk), v = Value.tuple #[vi r.2.1, vb r.2.2] ∧ o = [ko_data] ∧ Buf ψ (tyI .i64) 3 (.slice Adata (data).length cdata) ko_data r.1) := by
 unfold o73f42 at hS
 refine xFn Try.f73 (Try.f73.body.getD .skip) 178 ?_
 have nhdata := hdata.len
 have nfcmpcp_defs := fcmpcp_defs.len
 have nfcmpcp_conds := fcmpcp_conds.len
 refine xSq ?_
 refine xRg ?_
 refine xB 2 [] [(0, vs Adata data cdata), (1, vi a), (2, vi b), (3, vi pivot), (4, Value.func (.func 42) #[] #[Value.pointer (some a_cmpc)])] ?_
 refine xRe ?_
 refine wpq_then ?_
 refine xSq ?_
 refine xDr 0 [7, 11] [13, 15, 12, 14] [kdata] 16 (fun RG => ?_) (fun _ _ _ _ _ h => h)
 obtain ⟨q2, hS⟩ := grd_T hS
 have q2p := of_decide_eq_true q2
 have i3 : (pivot).toNat < (data).length := by omega
 obtain ⟨kc1, cs1, hA1, hk1, hr1, hw1⟩ := hdata.open_ i3 0
 obtain ⟨kb1, rfl⟩ : ∃ z, z = kc1 := ⟨_, rfl⟩
 subst hk1
 have hr1 : cs1 = [vi (List.getD data (pivot).toNat 0)] := hr1
 subst hr1
 refine xT 10 [0, 1, 2, 3, 4, 5] [] [some 0] [(0, vs Adata data cdata), (1, vi a), (2, vi b), (4, Value.func (.func 42) #[] #[Value.pointer (some a_cmpc)]), (14, vs Adata data cdata), (15, vi a), (16, vs Adata data cdata), (17, vi pivot), (18, vs Adata data cdata), (19, vi pivot)] RG (Psi.le.refl _) ?_
 refine xTp 6 RG (fun _ => (qIxB (pivot).toNat 1 kb1.g hA1 (show (pivot : Int) = _ from by omega) i3)) ?_
 refine xTv 7 [some 0] RG (Psi.le.refl _) (qLdB (pivot).toNat 1 0 0 hw1) ?_
 obtain ⟨q5, hS⟩ := grd_T hS
 have q5p := of_decide_eq_true q5
 have i6 : (a).toNat < (data).length := by omega
 obtain ⟨kc4, cs4, hA4, hk4, hr4, hw4⟩ := hdata.open_ i6 0
 cases hk4
 have hr4 : cs4 = [vi (List.getD data (a).toNat 0)] := hr4
 subst hr4
 refine xT 6 [8, 9] [] [some 0] [(0, vs Adata data cdata), (1, vi a), (2, vi b), (4, Value.func (.func 42) #[] #[Value.pointer (some a_cmpc)]), (14, vs Adata data cdata), (15, vi a), (16, vs Adata data cdata), (17, vi pivot), (21, vi (List.getD data (pivot).toNat 0)), (22, vs Adata data cdata), (23, vi a)] RG (Psi.le.refl _) ?_
 refine xTp 10 RG (fun _ => (qIxB (a).toNat 1 kb1.g hA4 (show (a : Int) = _ from by omega) i6)) ?_
 refine xTv 11 [some 0] RG (Psi.le.refl _) (qLdB (a).toNat 1 0 0 hw4) ?_
 obtain ⟨q8, hS⟩ := grd_T hS
 have q8p := of_decide_eq_true q8
 have i9 : (a).toNat < (data).length := by omega
 obtain ⟨kc7, cs7, hA7, hk7, hr7, hw7⟩ := hdata.open_ i9 0
 cases hk7
 have hr7 : cs7 = [vi (List.getD data (a).toNat 0)] := hr7
 subst hr7
 refine xTp 12 RG (fun _ => (qIxB (a).toNat 1 kb1.g hA7 (show (a : Int) = _ from by omega) i9)) ?_
 refine xO1 (lds := [7, 11]) 13 ?_
 refine xId (lds := [7, 11]) (Psi.le.refl _) (eStB (a).toNat 1 0 0 [vi (List.getD data (pivot).toNat 0)] hdata rfl hw7 (show (tyI .i64).rep _ _ _ from rfl) i9) ?_
 rintro _ _ _ - ⟨k10, rfl, rfl, h10⟩
 refine kf ?_
 have hz10 : (data).length = ((List.set data (a).toNat ((List.getD data (pivot).toNat 0) : Int))).length := by simp
 obtain ⟨q12, hS⟩ := grd_T hS
 have q12p := of_decide_eq_true q12
 have i13 : (pivot).toNat < ((List.set data (a).toNat ((List.getD data (pivot).toNat 0) : Int))).length := by omega
 have i14 : (pivot).toNat < (data).length := by have := hz10; omega
 obtain ⟨kc11, cs11, hA11, hk11, hr11, hw11⟩ := h10.open_ i13 0
 obtain ⟨kb11, rfl⟩ : ∃ z, z = kc11 := ⟨_, rfl⟩
 subst hk11
 have hr11 : cs11 = [vi (List.getD (List.set data (a).toNat ((List.getD data (pivot).toNat 0) : Int)) (pivot).toNat 0)] := hr11
 subst hr11
 refine xTp 14 RG (fun _ => (qIxB (pivot).toNat 1 kb11.g hA11 (show (pivot : Int) = _ from by omega) i14)) ?_
 refine xO1 (lds := [7, 11]) 15 ?_
 refine xId (lds := [7, 11]) (Psi.le.refl _) (eStB (pivot).toNat 1 0 0 [vi (List.getD data (a).toNat 0)] h10 rfl hw11 (show (tyI .i64).rep _ _ _ from rfl) i13) ?_
 rintro _ _ _ - ⟨k15, rfl, rfl, h15⟩
 refine kf ?_
 have hz15 : (data).length = ((List.set (List.set data (a).toNat ((List.getD data (pivot).toNat 0) : Int)) (pivot).toNat ((List.getD data (a).toNat 0) : Int))).length := hz10.trans (by simp)
 refine xAe (lds := [7, 11]) ?_
 refine wpq_then ?_
 refine xSub [(0, Value.slice Adata ((data).length) cdata), (1, vi a), (2, vi b), (4, Value.func (.func 42) #[] #[Value.pointer (some a_cmpc)])] ?_
 refine xSq ?_
 refine xRg ?_
 have z1 := i64_in_ (a + 1)
 have z2 := i64_in_ (b - 1)
 refine xB 6 [] [(0, Value.slice Adata ((data).length) cdata), (1, vi a), (4, Value.func (.func 42) #[] #[Value.pointer (some a_cmpc)]), (12, vi (IntKind.i64.wrap (a + 1))), (13, vi (IntKind.i64.wrap (b - 1)))] ?_
 refine xRe ?_
 refine wpq_then ?_
 refine xSq ?_
 refine xBindO hS (fun g own sl t16 => own = [none, k15] ∧ sl = [(0, vs Adata (List.set (List.set data (a).toNat ((List.getD data (pivot).toNat 0) : Int)) (pivot).toNat ((List.getD data (a).toNat 0) : Int)) cdata), (1, vi a), (4, Value.func (.func 42) #[] #[Value.pointer (some a_cmpc)]), (12, vi t16), (13, vi (IntKind.i64.wrap (b - 1)))]) ?_ ?_
 ·rintro g17 _ _ t16 e18 ⟨rfl, rfl⟩ hS
  refine wpq_then ?_
  refine xSq ?_
  refine xBindO hS (fun g own sl t19 => own = [none, k15] ∧ sl = [(0, vs Adata (List.set (List.set data (a).toNat ((List.getD data (pivot).toNat 0) : Int)) (pivot).toNat ((List.getD data (a).toNat 0) : Int)) cdata), (1, vi a), (4, Value.func (.func 42) #[] #[Value.pointer (some a_cmpc)]), (12, vi t16), (13, vi t19)]) ?_ ?_
  ·rintro g20 _ _ t19 e21 ⟨rfl, rfl⟩ hS
   refine wpq_then ?_
   refine xSq ?_
   refine xSq ?_
   refine xRg ?_
   refine xB 3 [] [(0, vs Adata (List.set (List.set data (a).toNat ((List.getD data (pivot).toNat 0) : Int)) (pivot).toNat ((List.getD data (a).toNat 0) : Int)) cdata), (1, vi a), (4, Value.func (.func 42) #[] #[Value.pointer (some a_cmpc)]), (12, vi t16), (13, vi t19), (71, vb (decide (t16 > t19)))] ?_
   refine xRe ?_
   refine wpq_then ?_
   refine xCd (decide (t16 > t19)) (fun h22 => ?_) (fun h22 => ?_)
   ·have hS := cond_T h22 hS
    have h22p := of_decide_eq_true h22
    refine xSq ?_
    refine xDr 0 [7, 11] [13, 15, 12, 14] [k15] 16 (fun RG => ?_) (fun _ _ _ _ _ h => h)
    have h15 := h15.mono (e18.trans e21).b
    obtain ⟨q24, hS⟩ := grd_T hS
    have q24p := of_decide_eq_true q24
    have i25 : (a).toNat < ((List.set (List.set data (a).toNat ((List.getD data (pivot).toNat 0) : Int)) (pivot).toNat ((List.getD data (a).toNat 0) : Int))).length := by omega
    obtain ⟨kc23, cs23, hA23, hk23, hr23, hw23⟩ := h15.open_ i25 0
    obtain ⟨kb23, rfl⟩ : ∃ z, z = kc23 := ⟨_, rfl⟩
    subst hk23
    have hr23 : cs23 = [vi (List.getD (List.set (List.set data (a).toNat ((List.getD data (pivot).toNat 0) : Int)) (pivot).toNat ((List.getD data (a).toNat 0) : Int)) (a).toNat 0)] := hr23
    subst hr23
    refine xT 10 [0, 1, 2, 3, 4, 5] [] [some 1] [(0, vs Adata (List.set (List.set data (a).toNat ((List.getD data (pivot).toNat 0) : Int)) (pivot).toNat ((List.getD data (a).toNat 0) : Int)) cdata), (13, vi t19), (72, vs Adata (List.set (List.set data (a).toNat ((List.getD data (pivot).toNat 0) : Int)) (pivot).toNat ((List.getD data (a).toNat 0) : Int)) cdata), (73, vi t19), (74, vs Adata (List.set (List.set data (a).toNat ((List.getD data (pivot).toNat 0) : Int)) (pivot).toNat ((List.getD data (a).toNat 0) : Int)) cdata), (75, vi a), (76, vs Adata (List.set (List.set data (a).toNat ((List.getD data (pivot).toNat 0) : Int)) (pivot).toNat ((List.getD data (a).toNat 0) : Int)) cdata), (77, vi a)] RG (Psi.le.refl _) ?_
    refine xTp 6 RG (fun _ => (qIxB (a).toNat 1 kb23.g hA23 (show (a : Int) = _ from by omega) i25)) ?_
    refine xTv 7 [some 1] RG (Psi.le.refl _) (qLdB (a).toNat 1 0 0 hw23) ?_
    obtain ⟨q27, hS⟩ := grd_T hS
    have q27p := of_decide_eq_true q27
    have i28 : (t19).toNat < ((List.set (List.set data (a).toNat ((List.getD data (pivot).toNat 0) : Int)) (pivot).toNat ((List.getD data (a).toNat 0) : Int))).length := by omega
    obtain ⟨kc26, cs26, hA26, hk26, hr26, hw26⟩ := h15.open_ i28 0
    cases hk26
    have hr26 : cs26 = [vi (List.getD (List.set (List.set data (a).toNat ((List.getD data (pivot).toNat 0) : Int)) (pivot).toNat ((List.getD data (a).toNat 0) : Int)) (t19).toNat 0)] := hr26
    subst hr26
    refine xT 6 [8, 9] [] [some 1] [(13, vi t19), (72, vs Adata (List.set (List.set data (a).toNat ((List.getD data (pivot).toNat 0) : Int)) (pivot).toNat ((List.getD data (a).toNat 0) : Int)) cdata), (73, vi t19), (74, vs Adata (List.set (List.set data (a).toNat ((List.getD data (pivot).toNat 0) : Int)) (pivot).toNat ((List.getD data (a).toNat 0) : Int)) cdata), (75, vi a), (79, vi (List.getD (List.set (List.set data (a).toNat ((List.getD data (pivot).toNat 0) : Int)) (pivot).toNat ((List.getD data (a).toNat 0) : Int)) (a).toNat 0)), (80, vs Adata (List.set (List.set data (a).toNat ((List.getD data (pivot).toNat 0) : Int)) (pivot).toNat ((List.getD data (a).toNat 0) : Int)) cdata), (81, vi t19)] RG (Psi.le.refl _) ?_
    refine xTp 10 RG (fun _ => (qIxB (t19).toNat 1 kb23.g hA26 (show (t19 : Int) = _ from by omega) i28)) ?_
    refine xTv 11 [some 1] RG (Psi.le.refl _) (qLdB (t19).toNat 1 0 0 hw26) ?_
    obtain ⟨q30, hS⟩ := grd_T hS
    have q30p := of_decide_eq_true q30
    have i31 : (t19).toNat < ((List.set (List.set data (a).toNat ((List.getD data (pivot).toNat 0) : Int)) (pivot).toNat ((List.getD data (a).toNat 0) : Int))).length := by omega
    obtain ⟨kc29, cs29, hA29, hk29, hr29, hw29⟩ := h15.open_ i31 0
    cases hk29
    have hr29 : cs29 = [vi (List.getD (List.set (List.set data (a).toNat ((List.getD data (pivot).toNat 0) : Int)) (pivot).toNat ((List.getD data (a).toNat 0) : Int)) (t19).toNat 0)] := hr29
    subst hr29
    refine xTp 12 RG (fun _ => (qIxB (t19).toNat 1 kb23.g hA29 (show (t19 : Int) = _ from by omega) i31)) ?_
    refine xO1 (lds := [7, 11]) 13 ?_
    refine xId (lds := [7, 11]) (Psi.le.refl _) (eStB (t19).toNat 1 0 1 [vi (List.getD (List.set (List.set data (a).toNat ((List.getD data (pivot).toNat 0) : Int)) (pivot).toNat ((List.getD data (a).toNat 0) : Int)) (a).toNat 0)] h15 rfl hw29 (show (tyI .i64).rep _ _ _ from rfl) i31) ?_
    rintro _ _ _ - ⟨k32, rfl, rfl, h32⟩
    refine kf ?_
    have hz32 : (data).length = ((List.set (List.set (List.set data (a).toNat ((List.getD data (pivot).toNat 0) : Int)) (pivot).toNat ((List.getD data (a).toNat 0) : Int)) (t19).toNat ((List.getD (List.set (List.set data (a).toNat ((List.getD data (pivot).toNat 0) : Int)) (pivot).toNat ((List.getD data (a).toNat 0) : Int)) (a).toNat 0) : Int))).length := hz15.trans (by simp)
    have hz32_1 : ((List.set (List.set data (a).toNat ((List.getD data (pivot).toNat 0) : Int)) (pivot).toNat ((List.getD data (a).toNat 0) : Int))).length = ((List.set (List.set (List.set data (a).toNat ((List.getD data (pivot).toNat 0) : Int)) (pivot).toNat ((List.getD data (a).toNat 0) : Int)) (t19).toNat ((List.getD (List.set (List.set data (a).toNat ((List.getD data (pivot).toNat 0) : Int)) (pivot).toNat ((List.getD data (a).toNat 0) : Int)) (a).toNat 0) : Int))).length := hz15.symm.trans hz32
    obtain ⟨q34, hS⟩ := grd_T hS
    have q34p := of_decide_eq_true q34
    have i35 : (a).toNat < ((List.set (List.set (List.set data (a).toNat ((List.getD data (pivot).toNat 0) : Int)) (pivot).toNat ((List.getD data (a).toNat 0) : Int)) (t19).toNat ((List.getD (List.set (List.set data (a).toNat ((List.getD data (pivot).toNat 0) : Int)) (pivot).toNat ((List.getD data (a).toNat 0) : Int)) (a).toNat 0) : Int))).length := by omega
    have i36 : (a).toNat < ((List.set (List.set data (a).toNat ((List.getD data (pivot).toNat 0) : Int)) (pivot).toNat ((List.getD data (a).toNat 0) : Int))).length := by have := hz32_1; omega
    obtain ⟨kc33, cs33, hA33, hk33, hr33, hw33⟩ := h32.open_ i35 0
    obtain ⟨kb33, rfl⟩ : ∃ z, z = kc33 := ⟨_, rfl⟩
    subst hk33
    have hr33 : cs33 = [vi (List.getD (List.set (List.set (List.set data (a).toNat ((List.getD data (pivot).toNat 0) : Int)) (pivot).toNat ((List.getD data (a).toNat 0) : Int)) (t19).toNat ((List.getD (List.set (List.set data (a).toNat ((List.getD data (pivot).toNat 0) : Int)) (pivot).toNat ((List.getD data (a).toNat 0) : Int)) (a).toNat 0) : Int)) (a).toNat 0)] := hr33
    subst hr33
    refine xTp 14 RG (fun _ => (qIxB (a).toNat 1 kb33.g hA33 (show (a : Int) = _ from by omega) i36)) ?_
    refine xO1 (lds := [7, 11]) 15 ?_
    refine xId (lds := [7, 11]) (Psi.le.refl _) (eStB (a).toNat 1 0 1 [vi (List.getD (List.set (List.set data (a).toNat ((List.getD data (pivot).toNat 0) : Int)) (pivot).toNat ((List.getD data (a).toNat 0) : Int)) (t19).toNat 0)] h32 rfl hw33 (show (tyI .i64).rep _ _ _ from rfl) i35) ?_
    rintro _ _ _ - ⟨k37, rfl, rfl, h37⟩
    refine kf ?_
    have hz37 : (data).length = ((List.set (List.set (List.set (List.set data (a).toNat ((List.getD data (pivot).toNat 0) : Int)) (pivot).toNat ((List.getD data (a).toNat 0) : Int)) (t19).toNat ((List.getD (List.set (List.set data (a).toNat ((List.getD data (pivot).toNat 0) : Int)) (pivot).toNat ((List.getD data (a).toNat 0) : Int)) (a).toNat 0) : Int)) (a).toNat ((List.getD (List.set (List.set data (a).toNat ((List.getD data (pivot).toNat 0) : Int)) (pivot).toNat ((List.getD data (a).toNat 0) : Int)) (t19).toNat 0) : Int))).length := hz32.trans (by simp)
    have hz37_1 : ((List.set (List.set data (a).toNat ((List.getD data (pivot).toNat 0) : Int)) (pivot).toNat ((List.getD data (a).toNat 0) : Int))).length = ((List.set (List.set (List.set (List.set data (a).toNat ((List.getD data (pivot).toNat 0) : Int)) (pivot).toNat ((List.getD data (a).toNat 0) : Int)) (t19).toNat ((List.getD (List.set (List.set data (a).toNat ((List.getD data (pivot).toNat 0) : Int)) (pivot).toNat ((List.getD data (a).toNat 0) : Int)) (a).toNat 0) : Int)) (a).toNat ((List.getD (List.set (List.set data (a).toNat ((List.getD data (pivot).toNat 0) : Int)) (pivot).toNat ((List.getD data (a).toNat 0) : Int)) (t19).toNat 0) : Int))).length := hz32_1.trans (hz32.symm.trans hz37)
    refine xAe (lds := [7, 11]) ?_
    refine wpq_then ?_
    refine xSub [(13, vi t19)] ?_
    refine xSq ?_
    refine xRg ?_
    refine xB 3 [] [(10, vi t19), (11, vb true)] ?_
    refine xRe ?_
    refine wpq_then ?_
    have eS := (Option.some.inj hS).symm
    subst eS
    exact xRet [some 1] [10, 11] (e18.trans e21) ⟨k37, by kernel_rfl, by kernel_rfl, h37⟩ (fun _ _ h => h)
   ·have hS := cond_F h22 hS
    have h22p := of_decide_eq_false h22
    refine xSk ?_
    refine wpq_then ?_
    refine xSub [(0, vs Adata (List.set (List.set data (a).toNat ((List.getD data (pivot).toNat 0) : Int)) (pivot).toNat ((List.getD data (a).toNat 0) : Int)) cdata), (1, vi a), (4, Value.func (.func 42) #[] #[Value.pointer (some a_cmpc)]), (12, vi t16), (13, vi t19)] ?_
    refine xSq ?_
    refine xDr 0 [7, 11] [13, 15, 12, 14] [k15] 16 (fun RG => ?_) (fun _ _ _ _ _ h => h)
    have h15 := h15.mono (e18.trans e21).b
    obtain ⟨q39, hS⟩ := grd_T hS
    have q39p := of_decide_eq_true q39
    have i40 : (t19).toNat < ((List.set (List.set data (a).toNat ((List.getD data (pivot).toNat 0) : Int)) (pivot).toNat ((List.getD data (a).toNat 0) : Int))).length := by omega
    obtain ⟨kc38, cs38, hA38, hk38, hr38, hw38⟩ := h15.open_ i40 0
    obtain ⟨kb38, rfl⟩ : ∃ z, z = kc38 := ⟨_, rfl⟩
    subst hk38
    have hr38 : cs38 = [vi (List.getD (List.set (List.set data (a).toNat ((List.getD data (pivot).toNat 0) : Int)) (pivot).toNat ((List.getD data (a).toNat 0) : Int)) (t19).toNat 0)] := hr38
    subst hr38
    refine xT 10 [0, 1, 2, 3, 4, 5] [] [some 1] [(0, vs Adata (List.set (List.set data (a).toNat ((List.getD data (pivot).toNat 0) : Int)) (pivot).toNat ((List.getD data (a).toNat 0) : Int)) cdata), (1, vi a), (4, Value.func (.func 42) #[] #[Value.pointer (some a_cmpc)]), (12, vi t16), (13, vi t19), (87, vs Adata (List.set (List.set data (a).toNat ((List.getD data (pivot).toNat 0) : Int)) (pivot).toNat ((List.getD data (a).toNat 0) : Int)) cdata), (88, vi t16), (89, vs Adata (List.set (List.set data (a).toNat ((List.getD data (pivot).toNat 0) : Int)) (pivot).toNat ((List.getD data (a).toNat 0) : Int)) cdata), (90, vi t19), (91, vs Adata (List.set (List.set data (a).toNat ((List.getD data (pivot).toNat 0) : Int)) (pivot).toNat ((List.getD data (a).toNat 0) : Int)) cdata), (92, vi t19)] RG (Psi.le.refl _) ?_
    refine xTp 6 RG (fun _ => (qIxB (t19).toNat 1 kb38.g hA38 (show (t19 : Int) = _ from by omega) i40)) ?_
    refine xTv 7 [some 1] RG (Psi.le.refl _) (qLdB (t19).toNat 1 0 0 hw38) ?_
    obtain ⟨q42, hS⟩ := grd_T hS
    have q42p := of_decide_eq_true q42
    have i43 : (t16).toNat < ((List.set (List.set data (a).toNat ((List.getD data (pivot).toNat 0) : Int)) (pivot).toNat ((List.getD data (a).toNat 0) : Int))).length := by omega
    obtain ⟨kc41, cs41, hA41, hk41, hr41, hw41⟩ := h15.open_ i43 0
    cases hk41
    have hr41 : cs41 = [vi (List.getD (List.set (List.set data (a).toNat ((List.getD data (pivot).toNat 0) : Int)) (pivot).toNat ((List.getD data (a).toNat 0) : Int)) (t16).toNat 0)] := hr41
    subst hr41
    refine xT 6 [8, 9] [] [some 1] [(0, vs Adata (List.set (List.set data (a).toNat ((List.getD data (pivot).toNat 0) : Int)) (pivot).toNat ((List.getD data (a).toNat 0) : Int)) cdata), (1, vi a), (4, Value.func (.func 42) #[] #[Value.pointer (some a_cmpc)]), (12, vi t16), (13, vi t19), (87, vs Adata (List.set (List.set data (a).toNat ((List.getD data (pivot).toNat 0) : Int)) (pivot).toNat ((List.getD data (a).toNat 0) : Int)) cdata), (88, vi t16), (89, vs Adata (List.set (List.set data (a).toNat ((List.getD data (pivot).toNat 0) : Int)) (pivot).toNat ((List.getD data (a).toNat 0) : Int)) cdata), (90, vi t19), (94, vi (List.getD (List.set (List.set data (a).toNat ((List.getD data (pivot).toNat 0) : Int)) (pivot).toNat ((List.getD data (a).toNat 0) : Int)) (t19).toNat 0)), (95, vs Adata (List.set (List.set data (a).toNat ((List.getD data (pivot).toNat 0) : Int)) (pivot).toNat ((List.getD data (a).toNat 0) : Int)) cdata), (96, vi t16)] RG (Psi.le.refl _) ?_
    refine xTp 10 RG (fun _ => (qIxB (t16).toNat 1 kb38.g hA41 (show (t16 : Int) = _ from by omega) i43)) ?_
    refine xTv 11 [some 1] RG (Psi.le.refl _) (qLdB (t16).toNat 1 0 0 hw41) ?_
    obtain ⟨q45, hS⟩ := grd_T hS
    have q45p := of_decide_eq_true q45
    have i46 : (t16).toNat < ((List.set (List.set data (a).toNat ((List.getD data (pivot).toNat 0) : Int)) (pivot).toNat ((List.getD data (a).toNat 0) : Int))).length := by omega
    obtain ⟨kc44, cs44, hA44, hk44, hr44, hw44⟩ := h15.open_ i46 0
    cases hk44
    have hr44 : cs44 = [vi (List.getD (List.set (List.set data (a).toNat ((List.getD data (pivot).toNat 0) : Int)) (pivot).toNat ((List.getD data (a).toNat 0) : Int)) (t16).toNat 0)] := hr44
    subst hr44
    refine xTp 12 RG (fun _ => (qIxB (t16).toNat 1 kb38.g hA44 (show (t16 : Int) = _ from by omega) i46)) ?_
    refine xO1 (lds := [7, 11]) 13 ?_
    refine xId (lds := [7, 11]) (Psi.le.refl _) (eStB (t16).toNat 1 0 1 [vi (List.getD (List.set (List.set data (a).toNat ((List.getD data (pivot).toNat 0) : Int)) (pivot).toNat ((List.getD data (a).toNat 0) : Int)) (t19).toNat 0)] h15 rfl hw44 (show (tyI .i64).rep _ _ _ from rfl) i46) ?_
    rintro _ _ _ - ⟨k47, rfl, rfl, h47⟩
    refine kf ?_
    have hz47 : (data).length = ((List.set (List.set (List.set data (a).toNat ((List.getD data (pivot).toNat 0) : Int)) (pivot).toNat ((List.getD data (a).toNat 0) : Int)) (t16).toNat ((List.getD (List.set (List.set data (a).toNat ((List.getD data (pivot).toNat 0) : Int)) (pivot).toNat ((List.getD data (a).toNat 0) : Int)) (t19).toNat 0) : Int))).length := hz15.trans (by simp)
    have hz47_1 : ((List.set (List.set data (a).toNat ((List.getD data (pivot).toNat 0) : Int)) (pivot).toNat ((List.getD data (a).toNat 0) : Int))).length = ((List.set (List.set (List.set data (a).toNat ((List.getD data (pivot).toNat 0) : Int)) (pivot).toNat ((List.getD data (a).toNat 0) : Int)) (t16).toNat ((List.getD (List.set (List.set data (a).toNat ((List.getD data (pivot).toNat 0) : Int)) (pivot).toNat ((List.getD data (a).toNat 0) : Int)) (t19).toNat 0) : Int))).length := hz15.symm.trans hz47
    obtain ⟨q49, hS⟩ := grd_T hS
    have q49p := of_decide_eq_true q49
    have i50 : (t19).toNat < ((List.set (List.set (List.set data (a).toNat ((List.getD data (pivot).toNat 0) : Int)) (pivot).toNat ((List.getD data (a).toNat 0) : Int)) (t16).toNat ((List.getD (List.set (List.set data (a).toNat ((List.getD data (pivot).toNat 0) : Int)) (pivot).toNat ((List.getD data (a).toNat 0) : Int)) (t19).toNat 0) : Int))).length := by omega
    have i51 : (t19).toNat < ((List.set (List.set data (a).toNat ((List.getD data (pivot).toNat 0) : Int)) (pivot).toNat ((List.getD data (a).toNat 0) : Int))).length := by have := hz47_1; omega
    obtain ⟨kc48, cs48, hA48, hk48, hr48, hw48⟩ := h47.open_ i50 0
    obtain ⟨kb48, rfl⟩ : ∃ z, z = kc48 := ⟨_, rfl⟩
    subst hk48
    have hr48 : cs48 = [vi (List.getD (List.set (List.set (List.set data (a).toNat ((List.getD data (pivot).toNat 0) : Int)) (pivot).toNat ((List.getD data (a).toNat 0) : Int)) (t16).toNat ((List.getD (List.set (List.set data (a).toNat ((List.getD data (pivot).toNat 0) : Int)) (pivot).toNat ((List.getD data (a).toNat 0) : Int)) (t19).toNat 0) : Int)) (t19).toNat 0)] := hr48
    subst hr48
    refine xTp 14 RG (fun _ => (qIxB (t19).toNat 1 kb48.g hA48 (show (t19 : Int) = _ from by omega) i51)) ?_
    refine xO1 (lds := [7, 11]) 15 ?_
    refine xId (lds := [7, 11]) (Psi.le.refl _) (eStB (t19).toNat 1 0 1 [vi (List.getD (List.set (List.set data (a).toNat ((List.getD data (pivot).toNat 0) : Int)) (pivot).toNat ((List.getD data (a).toNat 0) : Int)) (t16).toNat 0)] h47 rfl hw48 (show (tyI .i64).rep _ _ _ from rfl) i50) ?_
    rintro _ _ _ - ⟨k52, rfl, rfl, h52⟩
    refine kf ?_
    have hz52 : (data).length = ((List.set (List.set (List.set (List.set data (a).toNat ((List.getD data (pivot).toNat 0) : Int)) (pivot).toNat ((List.getD data (a).toNat 0) : Int)) (t16).toNat ((List.getD (List.set (List.set data (a).toNat ((List.getD data (pivot).toNat 0) : Int)) (pivot).toNat ((List.getD data (a).toNat 0) : Int)) (t19).toNat 0) : Int)) (t19).toNat ((List.getD (List.set (List.set data (a).toNat ((List.getD data (pivot).toNat 0) : Int)) (pivot).toNat ((List.getD data (a).toNat 0) : Int)) (t16).toNat 0) : Int))).length := hz47.trans (by simp)
    have hz52_1 : ((List.set (List.set data (a).toNat ((List.getD data (pivot).toNat 0) : Int)) (pivot).toNat ((List.getD data (a).toNat 0) : Int))).length = ((List.set (List.set (List.set (List.set data (a).toNat ((List.getD data (pivot).toNat 0) : Int)) (pivot).toNat ((List.getD data (a).toNat 0) : Int)) (t16).toNat ((List.getD (List.set (List.set data (a).toNat ((List.getD data (pivot).toNat 0) : Int)) (pivot).toNat ((List.getD data (a).toNat 0) : Int)) (t19).toNat 0) : Int)) (t19).toNat ((List.getD (List.set (List.set data (a).toNat ((List.getD data (pivot).toNat 0) : Int)) (pivot).toNat ((List.getD data (a).toNat 0) : Int)) (t16).toNat 0) : Int))).length := hz47_1.trans (hz47.symm.trans hz52)
    refine xAe (lds := [7, 11]) ?_
    refine wpq_then ?_
    refine xSub [(0, Value.slice Adata (((List.set (List.set data (a).toNat ((List.getD data (pivot).toNat 0) : Int)) (pivot).toNat ((List.getD data (a).toNat 0) : Int))).length) cdata), (1, vi a), (4, Value.func (.func 42) #[] #[Value.pointer (some a_cmpc)]), (12, vi t16), (13, vi t19)] ?_
    refine xSq ?_
    refine xRg ?_
    have z15 := i64_in_ (t16 + 1)
    refine xB 3 [] [(0, Value.slice Adata (((List.set (List.set data (a).toNat ((List.getD data (pivot).toNat 0) : Int)) (pivot).toNat ((List.getD data (a).toNat 0) : Int))).length) cdata), (1, vi a), (4, Value.func (.func 42) #[] #[Value.pointer (some a_cmpc)]), (12, vi (IntKind.i64.wrap (t16 + 1))), (13, vi t19)] ?_
    refine xRe ?_
    refine wpq_then ?_
    refine xSq ?_
    refine xRg ?_
    have z16 := i64_in_ (t19 - 1)
    refine xB 3 [] [(0, Value.slice Adata (((List.set (List.set data (a).toNat ((List.getD data (pivot).toNat 0) : Int)) (pivot).toNat ((List.getD data (a).toNat 0) : Int))).length) cdata), (1, vi a), (4, Value.func (.func 42) #[] #[Value.pointer (some a_cmpc)]), (12, vi (IntKind.i64.wrap (t16 + 1))), (13, vi (IntKind.i64.wrap (t19 - 1)))] ?_
    refine xRe ?_
    refine wpq_then ?_
    refine xSq ?_
    refine xBindO hS (fun g own sl t53 => ∃ (k53_0 : Option Bk), own = [none, k53_0] ∧ sl = [(0, vs Adata t53.1 cdata), (1, vi a), (13, vi t53.2)] ∧ Buf g.b (tyI .i64) 3 (.slice Adata (t53.1).length cdata) k53_0 t53.1 ∧ (data).length = (t53.1).length) ?_ ?_
    ·rintro g54 _ _ t53 e55 ⟨k53_0, rfl, rfl, h53_0, hz53_v0⟩ hS
     have nh53_0 := h53_0.len
     refine wpq_then ?_
     refine xSq ?_
     refine xDr 0 [7, 11] [13, 15, 12, 14] [k53_0] 16 (fun RG => ?_) (fun _ _ _ _ _ h => h)
     obtain ⟨q57, hS⟩ := grd_T hS
     have q57p := of_decide_eq_true q57
     have i58 : (a).toNat < (t53.1).length := by omega
     obtain ⟨kc56, cs56, hA56, hk56, hr56, hw56⟩ := h53_0.open_ i58 0
     obtain ⟨kb56, rfl⟩ : ∃ z, z = kc56 := ⟨_, rfl⟩
     subst hk56
     have hr56 : cs56 = [vi (List.getD t53.1 (a).toNat 0)] := hr56
     subst hr56
     refine xT 10 [0, 1, 2, 3, 4, 5] [] [some 1] [(0, vs Adata t53.1 cdata), (13, vi t53.2), (163, vs Adata t53.1 cdata), (164, vi t53.2), (165, vs Adata t53.1 cdata), (166, vi a), (167, vs Adata t53.1 cdata), (168, vi a)] RG (Psi.le.refl _) ?_
     refine xTp 6 RG (fun _ => (qIxB (a).toNat 1 kb56.g hA56 (show (a : Int) = _ from by omega) i58)) ?_
     refine xTv 7 [some 1] RG (Psi.le.refl _) (qLdB (a).toNat 1 0 0 hw56) ?_
     obtain ⟨q60, hS⟩ := grd_T hS
     have q60p := of_decide_eq_true q60
     have i61 : (t53.2).toNat < (t53.1).length := by omega
     obtain ⟨kc59, cs59, hA59, hk59, hr59, hw59⟩ := h53_0.open_ i61 0
     cases hk59
     have hr59 : cs59 = [vi (List.getD t53.1 (t53.2).toNat 0)] := hr59
     subst hr59
     refine xT 6 [8, 9] [] [some 1] [(13, vi t53.2), (163, vs Adata t53.1 cdata), (164, vi t53.2), (165, vs Adata t53.1 cdata), (166, vi a), (170, vi (List.getD t53.1 (a).toNat 0)), (171, vs Adata t53.1 cdata), (172, vi t53.2)] RG (Psi.le.refl _) ?_
     refine xTp 10 RG (fun _ => (qIxB (t53.2).toNat 1 kb56.g hA59 (show (t53.2 : Int) = _ from by omega) i61)) ?_
     refine xTv 11 [some 1] RG (Psi.le.refl _) (qLdB (t53.2).toNat 1 0 0 hw59) ?_
     obtain ⟨q63, hS⟩ := grd_T hS
     have q63p := of_decide_eq_true q63
     have i64 : (t53.2).toNat < (t53.1).length := by omega
     obtain ⟨kc62, cs62, hA62, hk62, hr62, hw62⟩ := h53_0.open_ i64 0
     cases hk62
     have hr62 : cs62 = [vi (List.getD t53.1 (t53.2).toNat 0)] := hr62
     subst hr62
     refine xTp 12 RG (fun _ => (qIxB (t53.2).toNat 1 kb56.g hA62 (show (t53.2 : Int) = _ from by omega) i64)) ?_
     refine xO1 (lds := [7, 11]) 13 ?_
     refine xId (lds := [7, 11]) (Psi.le.refl _) (eStB (t53.2).toNat 1 0 1 [vi (List.getD t53.1 (a).toNat 0)] h53_0 rfl hw62 (show (tyI .i64).rep _ _ _ from rfl) i64) ?_
     rintro _ _ _ - ⟨k65, rfl, rfl, h65⟩
     refine kf ?_
     have hz65 : (t53.1).length = ((List.set t53.1 (t53.2).toNat ((List.getD t53.1 (a).toNat 0) : Int))).length := by simp
     have hz65_1 : (data).length = ((List.set t53.1 (t53.2).toNat ((List.getD t53.1 (a).toNat 0) : Int))).length := hz53_v0.trans hz65
     obtain ⟨q67, hS⟩ := grd_T hS
     have q67p := of_decide_eq_true q67
     have i68 : (a).toNat < ((List.set t53.1 (t53.2).toNat ((List.getD t53.1 (a).toNat 0) : Int))).length := by omega
     have i69 : (a).toNat < (t53.1).length := by have := hz65; omega
     obtain ⟨kc66, cs66, hA66, hk66, hr66, hw66⟩ := h65.open_ i68 0
     obtain ⟨kb66, rfl⟩ : ∃ z, z = kc66 := ⟨_, rfl⟩
     subst hk66
     have hr66 : cs66 = [vi (List.getD (List.set t53.1 (t53.2).toNat ((List.getD t53.1 (a).toNat 0) : Int)) (a).toNat 0)] := hr66
     subst hr66
     refine xTp 14 RG (fun _ => (qIxB (a).toNat 1 kb66.g hA66 (show (a : Int) = _ from by omega) i69)) ?_
     refine xO1 (lds := [7, 11]) 15 ?_
     refine xId (lds := [7, 11]) (Psi.le.refl _) (eStB (a).toNat 1 0 1 [vi (List.getD t53.1 (t53.2).toNat 0)] h65 rfl hw66 (show (tyI .i64).rep _ _ _ from rfl) i68) ?_
     rintro _ _ _ - ⟨k70, rfl, rfl, h70⟩
     refine kf ?_
     have hz70 : (t53.1).length = ((List.set (List.set t53.1 (t53.2).toNat ((List.getD t53.1 (a).toNat 0) : Int)) (a).toNat ((List.getD t53.1 (t53.2).toNat 0) : Int))).length := hz65.trans (by simp)
     have hz70_1 : (data).length = ((List.set (List.set t53.1 (t53.2).toNat ((List.getD t53.1 (a).toNat 0) : Int)) (a).toNat ((List.getD t53.1 (t53.2).toNat 0) : Int))).length := hz65_1.trans (hz65.symm.trans hz70)
     refine xAe (lds := [7, 11]) ?_
     refine wpq_then ?_
     refine xSub [(13, vi t53.2)] ?_
     refine xSq ?_
     refine xRg ?_
     refine xB 3 [] [(10, vi t53.2), (11, vb false)] ?_
     refine xRe ?_
     refine wpq_then ?_
     have eS := (Option.some.inj hS).symm
     subst eS
     exact xRet [some 1] [10, 11] (e18.trans (e21.trans e55)) ⟨k70, by kernel_rfl, by kernel_rfl, (Buf.re h70 (hz70.trans hz70_1.symm) rfl)⟩ (fun _ _ h => h)
    ·intro uu53 hS hN53
     refine xBl 4 ?_
     refine wpq_re 0 (v := Value.slice Adata (((List.set (List.set data (a).toNat ((List.getD data (pivot).toNat 0) : Int)) (pivot).toNat ((List.getD data (a).toNat 0) : Int))).length) cdata) (vs Adata (List.set (List.set (List.set (List.set data (a).toNat ((List.getD data (pivot).toNat 0) : Int)) (pivot).toNat ((List.getD data (a).toNat 0) : Int)) (t16).toNat ((List.getD (List.set (List.set data (a).toNat ((List.getD data (pivot).toNat 0) : Int)) (pivot).toNat ((List.getD data (a).toNat 0) : Int)) (t19).toNat 0) : Int)) (t19).toNat ((List.getD (List.set (List.set data (a).toNat ((List.getD data (pivot).toNat 0) : Int)) (pivot).toNat ((List.getD data (a).toNat 0) : Int)) (t16).toNat 0) : Int)) cdata) (by kernel_rfl) (congrArg (fun z => Value.slice Adata z cdata) hz52_1) ?_
     have h52 := Buf.re h52 hz52 (rfl : (List.set (List.set (List.set (List.set data (a).toNat ((List.getD data (pivot).toNat 0) : Int)) (pivot).toNat ((List.getD data (a).toNat 0) : Int)) (t16).toNat ((List.getD (List.set (List.set data (a).toNat ((List.getD data (pivot).toNat 0) : Int)) (pivot).toNat ((List.getD data (a).toNat 0) : Int)) (t19).toNat 0) : Int)) (t19).toNat ((List.getD (List.set (List.set data (a).toNat ((List.getD data (pivot).toNat 0) : Int)) (pivot).toNat ((List.getD data (a).toNat 0) : Int)) (t16).toNat 0) : Int)) = _)
     refine xSel [none, some 1] ?_
     refine xSub [(0, vs Adata (List.set (List.set (List.set (List.set data (a).toNat ((List.getD data (pivot).toNat 0) : Int)) (pivot).toNat ((List.getD data (a).toNat 0) : Int)) (t16).toNat ((List.getD (List.set (List.set data (a).toNat ((List.getD data (pivot).toNat 0) : Int)) (pivot).toNat ((List.getD data (a).toNat 0) : Int)) (t19).toNat 0) : Int)) (t19).toNat ((List.getD (List.set (List.set data (a).toNat ((List.getD data (pivot).toNat 0) : Int)) (pivot).toNat ((List.getD data (a).toNat 0) : Int)) (t16).toNat 0) : Int)) cdata), (1, vi a), (4, Value.func (.func 42) #[] #[Value.pointer (some a_cmpc)]), (12, vi (IntKind.i64.wrap (t16 + 1))), (13, vi (IntKind.i64.wrap (t19 - 1)))] ?_
     refine xLo hS (fun g own sl s73 => ∃ (k73_0 : Option Bk), own = [none, k73_0] ∧ sl = [(0, vs Adata s73.1 cdata), (1, vi a), (4, Value.func (.func 42) #[] #[Value.pointer (some a_cmpc)]), (12, vi s73.2.1), (13, vi s73.2.2)] ∧ Buf g.b (tyI .i64) 3 (.slice Adata (s73.1).length cdata) k73_0 s73.1 ∧ (data).length = (s73.1).length) ⟨k52, by kernel_rfl, by kernel_rfl, h52, hz52⟩ ?_
     rintro g74 _ _ s73 uu73 e75 ⟨k73_0, rfl, rfl, h73_0, hz73_v0⟩ hS Qr73 hN73 hD73
     have nh73_0 := h73_0.len
     unfold o73f42_L0 at hS
     refine xJoinO hS (fun g own sl t76 => ∃ (k76_0 : Option Bk), own = [none, k76_0] ∧ sl = [(0, vs Adata t76.1 cdata), (1, vi a), (4, Value.func (.func 42) #[] #[Value.pointer (some a_cmpc)]), (12, vi t76.2.1), (13, vi t76.2.2)] ∧ Buf g.b (tyI .i64) 3 (.slice Adata (t76.1).length cdata) k76_0 t76.1 ∧ (data).length = (t76.1).length) ?_ ?_
     ·rintro g77 _ _ t76 e78 ⟨k76_0, rfl, rfl, h76_0, hz76_v0⟩ hS
      have nh76_0 := h76_0.len
      refine wpq_thenN ?_
      refine xSel [none, some 1] ?_
      refine xSub [(0, vs Adata t76.1 cdata), (1, vi a), (4, Value.func (.func 42) #[] #[Value.pointer (some a_cmpc)]), (12, vi t76.2.1), (13, vi t76.2.2)] ?_
      have eS := (Option.some.inj hS).symm
      exact hN73 _ eS _ _ _ e78 ⟨k76_0, by kernel_rfl, by kernel_rfl, h76_0, hz76_v0⟩
     ·intro uu76 hS hN76 hD76
      refine xBl 5 ?_
      refine xSq ?_
      refine xBindO hS (fun g own sl t79 => own = [none, k73_0] ∧ sl = [(0, vs Adata s73.1 cdata), (1, vi a), (4, Value.func (.func 42) #[] #[Value.pointer (some a_cmpc)]), (12, vi t79), (13, vi s73.2.2)]) ?_ ?_
      ·rintro g80 _ _ t79 e81 ⟨rfl, rfl⟩ hS
       refine wpq_then ?_
       refine xSq ?_
       refine xBindO hS (fun g own sl t82 => own = [none, k73_0] ∧ sl = [(0, vs Adata s73.1 cdata), (1, vi a), (4, Value.func (.func 42) #[] #[Value.pointer (some a_cmpc)]), (12, vi t79), (13, vi t82)]) ?_ ?_
       ·rintro g83 _ _ t82 e84 ⟨rfl, rfl⟩ hS
        refine wpq_then ?_
        refine xSq ?_
        refine xSq ?_
        refine xRg ?_
        refine xB 3 [] [(0, vs Adata s73.1 cdata), (1, vi a), (4, Value.func (.func 42) #[] #[Value.pointer (some a_cmpc)]), (12, vi t79), (13, vi t82), (144, vb (decide (t79 > t82)))] ?_
        refine xRe ?_
        refine wpq_then ?_
        refine xCd (decide (t79 > t82)) (fun h85 => ?_) (fun h85 => ?_)
        ·have hS := cond_T h85 hS
         have h85p := of_decide_eq_true h85
         refine xEx 4 ?_
         refine wpq_thenX ?_
         refine wpq_blockX (by kernel_rfl) ?_
         refine wpq_thenX ?_
         refine wpq_blockE ?_
         have h73_0 := h73_0.mono (e81.trans e84).b
         refine xSel [none, some 1] ?_
         refine xSub [(0, vs Adata s73.1 cdata), (1, vi a), (13, vi t82)] ?_
         have eS := (Option.some.inj hS).symm
         have eS := (hD76 _ eS).symm
         have eS := (hD73 _ eS).symm
         exact hN53 _ eS _ _ _ (e75.trans (e81.trans e84)) ⟨k73_0, by kernel_rfl, by kernel_rfl, h73_0, hz73_v0⟩
        ·have hS := cond_F h85 hS
         have h85p := of_decide_eq_false h85
         refine xSk ?_
         refine wpq_then ?_
         refine xSub [(0, vs Adata s73.1 cdata), (1, vi a), (4, Value.func (.func 42) #[] #[Value.pointer (some a_cmpc)]), (12, vi t79), (13, vi t82)] ?_
         refine xSq ?_
         refine xDr 0 [7, 11] [13, 15, 12, 14] [k73_0] 16 (fun RG => ?_) (fun _ _ _ _ _ h => h)
         have h73_0 := h73_0.mono (e81.trans e84).b
         obtain ⟨q87, hS⟩ := grd_T hS
         have q87p := of_decide_eq_true q87
         have i88 : (t82).toNat < (s73.1).length := by omega
         obtain ⟨kc86, cs86, hA86, hk86, hr86, hw86⟩ := h73_0.open_ i88 0
         obtain ⟨kb86, rfl⟩ : ∃ z, z = kc86 := ⟨_, rfl⟩
         subst hk86
         have hr86 : cs86 = [vi (List.getD s73.1 (t82).toNat 0)] := hr86
         subst hr86
         refine xT 10 [0, 1, 2, 3, 4, 5] [] [some 1] [(0, vs Adata s73.1 cdata), (1, vi a), (4, Value.func (.func 42) #[] #[Value.pointer (some a_cmpc)]), (12, vi t79), (13, vi t82), (145, vs Adata s73.1 cdata), (146, vi t79), (147, vs Adata s73.1 cdata), (148, vi t82), (149, vs Adata s73.1 cdata), (150, vi t82)] RG (Psi.le.refl _) ?_
         refine xTp 6 RG (fun _ => (qIxB (t82).toNat 1 kb86.g hA86 (show (t82 : Int) = _ from by omega) i88)) ?_
         refine xTv 7 [some 1] RG (Psi.le.refl _) (qLdB (t82).toNat 1 0 0 hw86) ?_
         obtain ⟨q90, hS⟩ := grd_T hS
         have q90p := of_decide_eq_true q90
         have i91 : (t79).toNat < (s73.1).length := by omega
         obtain ⟨kc89, cs89, hA89, hk89, hr89, hw89⟩ := h73_0.open_ i91 0
         cases hk89
         have hr89 : cs89 = [vi (List.getD s73.1 (t79).toNat 0)] := hr89
         subst hr89
         refine xT 6 [8, 9] [] [some 1] [(0, vs Adata s73.1 cdata), (1, vi a), (4, Value.func (.func 42) #[] #[Value.pointer (some a_cmpc)]), (12, vi t79), (13, vi t82), (145, vs Adata s73.1 cdata), (146, vi t79), (147, vs Adata s73.1 cdata), (148, vi t82), (152, vi (List.getD s73.1 (t82).toNat 0)), (153, vs Adata s73.1 cdata), (154, vi t79)] RG (Psi.le.refl _) ?_
         refine xTp 10 RG (fun _ => (qIxB (t79).toNat 1 kb86.g hA89 (show (t79 : Int) = _ from by omega) i91)) ?_
         refine xTv 11 [some 1] RG (Psi.le.refl _) (qLdB (t79).toNat 1 0 0 hw89) ?_
         obtain ⟨q93, hS⟩ := grd_T hS
         have q93p := of_decide_eq_true q93
         have i94 : (t79).toNat < (s73.1).length := by omega
         obtain ⟨kc92, cs92, hA92, hk92, hr92, hw92⟩ := h73_0.open_ i94 0
         cases hk92
         have hr92 : cs92 = [vi (List.getD s73.1 (t79).toNat 0)] := hr92
         subst hr92
         refine xTp 12 RG (fun _ => (qIxB (t79).toNat 1 kb86.g hA92 (show (t79 : Int) = _ from by omega) i94)) ?_
         refine xO1 (lds := [7, 11]) 13 ?_
         refine xId (lds := [7, 11]) (Psi.le.refl _) (eStB (t79).toNat 1 0 1 [vi (List.getD s73.1 (t82).toNat 0)] h73_0 rfl hw92 (show (tyI .i64).rep _ _ _ from rfl) i94) ?_
         rintro _ _ _ - ⟨k95, rfl, rfl, h95⟩
         refine kf ?_
         have hz95 : (s73.1).length = ((List.set s73.1 (t79).toNat ((List.getD s73.1 (t82).toNat 0) : Int))).length := by simp
         have hz95_1 : (data).length = ((List.set s73.1 (t79).toNat ((List.getD s73.1 (t82).toNat 0) : Int))).length := hz73_v0.trans hz95
         obtain ⟨q97, hS⟩ := grd_T hS
         have q97p := of_decide_eq_true q97
         have i98 : (t82).toNat < ((List.set s73.1 (t79).toNat ((List.getD s73.1 (t82).toNat 0) : Int))).length := by omega
         have i99 : (t82).toNat < (s73.1).length := by have := hz95; omega
         obtain ⟨kc96, cs96, hA96, hk96, hr96, hw96⟩ := h95.open_ i98 0
         obtain ⟨kb96, rfl⟩ : ∃ z, z = kc96 := ⟨_, rfl⟩
         subst hk96
         have hr96 : cs96 = [vi (List.getD (List.set s73.1 (t79).toNat ((List.getD s73.1 (t82).toNat 0) : Int)) (t82).toNat 0)] := hr96
         subst hr96
         refine xTp 14 RG (fun _ => (qIxB (t82).toNat 1 kb96.g hA96 (show (t82 : Int) = _ from by omega) i99)) ?_
         refine xO1 (lds := [7, 11]) 15 ?_
         refine xId (lds := [7, 11]) (Psi.le.refl _) (eStB (t82).toNat 1 0 1 [vi (List.getD s73.1 (t79).toNat 0)] h95 rfl hw96 (show (tyI .i64).rep _ _ _ from rfl) i98) ?_
         rintro _ _ _ - ⟨k100, rfl, rfl, h100⟩
         refine kf ?_
         have hz100 : (s73.1).length = ((List.set (List.set s73.1 (t79).toNat ((List.getD s73.1 (t82).toNat 0) : Int)) (t82).toNat ((List.getD s73.1 (t79).toNat 0) : Int))).length := hz95.trans (by simp)
         have hz100_1 : (data).length = ((List.set (List.set s73.1 (t79).toNat ((List.getD s73.1 (t82).toNat 0) : Int)) (t82).toNat ((List.getD s73.1 (t79).toNat 0) : Int))).length := hz95_1.trans (hz95.symm.trans hz100)
         refine xAe (lds := [7, 11]) ?_
         refine wpq_then ?_
         refine xSub [(0, Value.slice Adata ((s73.1).length) cdata), (1, vi a), (4, Value.func (.func 42) #[] #[Value.pointer (some a_cmpc)]), (12, vi t79), (13, vi t82)] ?_
         refine xSq ?_
         refine xRg ?_
         have z315 := i64_in_ (t79 + 1)
         refine xB 3 [] [(0, Value.slice Adata ((s73.1).length) cdata), (1, vi a), (4, Value.func (.func 42) #[] #[Value.pointer (some a_cmpc)]), (12, vi (IntKind.i64.wrap (t79 + 1))), (13, vi t82)] ?_
         refine xRe ?_
         refine wpq_then ?_
         refine xRg ?_
         have z316 := i64_in_ (t82 - 1)
         refine xB 3 [] [(0, Value.slice Adata ((s73.1).length) cdata), (1, vi a), (4, Value.func (.func 42) #[] #[Value.pointer (some a_cmpc)]), (12, vi (IntKind.i64.wrap (t79 + 1))), (13, vi (IntKind.i64.wrap (t82 - 1)))] ?_
         refine xRe ?_
         refine wpq_blockN ?_
         refine wpq_re 0 (v := Value.slice Adata ((s73.1).length) cdata) (vs Adata (List.set (List.set s73.1 (t79).toNat ((List.getD s73.1 (t82).toNat 0) : Int)) (t82).toNat ((List.getD s73.1 (t79).toNat 0) : Int)) cdata) (by kernel_rfl) (congrArg (fun z => Value.slice Adata z cdata) hz100) ?_
         have h100 := Buf.re h100 hz100 (rfl : (List.set (List.set s73.1 (t79).toNat ((List.getD s73.1 (t82).toNat 0) : Int)) (t82).toNat ((List.getD s73.1 (t79).toNat 0) : Int)) = _)
         refine xSel [none, some 1] ?_
         refine xSub [(0, vs Adata (List.set (List.set s73.1 (t79).toNat ((List.getD s73.1 (t82).toNat 0) : Int)) (t82).toNat ((List.getD s73.1 (t79).toNat 0) : Int)) cdata), (1, vi a), (4, Value.func (.func 42) #[] #[Value.pointer (some a_cmpc)]), (12, vi (IntKind.i64.wrap (t79 + 1))), (13, vi (IntKind.i64.wrap (t82 - 1)))] ?_
         have eS := (Option.some.inj hS).symm
         exact hN76 _ eS _ _ _ (e81.trans e84) ⟨k100, by kernel_rfl, by kernel_rfl, h100, hz100_1⟩
       ·intro uu82 hS hN82
        refine xBl 8 ?_
        refine xSel [none, some 1] ?_
        refine xSub [(0, vs Adata s73.1 cdata), (1, vi a), (4, Value.func (.func 42) #[] #[Value.pointer (some a_cmpc)]), (12, vi t79), (13, vi s73.2.2)] ?_
        refine xLo hS (fun g own sl s103 => own = [none, k73_0] ∧ sl = [(0, vs Adata s73.1 cdata), (1, vi a), (4, Value.func (.func 42) #[] #[Value.pointer (some a_cmpc)]), (12, vi t79), (13, vi s103)]) ⟨by kernel_rfl, by kernel_rfl⟩ ?_
        rintro g104 _ _ s103 uu103 e105 ⟨rfl, rfl⟩ hS Qr103 hN103 hD103
        unfold o73f42_L1 at hS
        refine xSq ?_
        refine xSq ?_
        refine xDr 0 [8, 12] [] [k73_0] 17 (fun RG => ?_) (fun _ _ _ _ _ h => h)
        refine xT 13 [0, 1, 2, 3] [] [some 1] [(0, vs Adata s73.1 cdata), (1, vi a), (4, Value.func (.func 42) #[] #[Value.pointer (some a_cmpc)]), (12, vi t79), (13, vi s103), (126, vb (decide (t79 ≤ s103)))] RG (Psi.le.refl _) ?_
        refine xGJoA hS 0 [true, true, true, true, true, true, true, true, true, true, true, true, true, true, true, true, true] (fun g own sl t106 => own = [none, k73_0] ∧ sl = [(0, vs Adata s73.1 cdata), (1, vi a), (4, Value.func (.func 42) #[] #[Value.pointer (some a_cmpc)]), (12, vi t79), (13, vi s103), (139, vb t106)]) ?_ ?_
        ·rintro g107 _ _ t106 e108 ⟨rfl, rfl⟩ hS
         refine xAe (lds := [8, 12]) ?_
         refine wpq_then ?_
         refine xCd (t106) (fun h109 => ?_) (fun h109 => ?_)
         ·have hS := cond_T h109 hS
          refine xSk ?_
          refine wpq_then ?_
          refine xSub [(0, vs Adata s73.1 cdata), (1, vi a), (4, Value.func (.func 42) #[] #[Value.pointer (some a_cmpc)]), (12, vi t79), (13, vi s103)] ?_
          refine xBl 9 ?_
          refine xRg ?_
          have z322 := i64_in_ (s103 - 1)
          refine xB 3 [] [(0, vs Adata s73.1 cdata), (1, vi a), (4, Value.func (.func 42) #[] #[Value.pointer (some a_cmpc)]), (12, vi t79), (13, vi (IntKind.i64.wrap (s103 - 1)))] ?_
          refine xRe ?_
          refine wpq_blockN ?_
          refine wpq_thenN ?_
          refine xSel [none, some 1] ?_
          refine xSub [(0, vs Adata s73.1 cdata), (1, vi a), (4, Value.func (.func 42) #[] #[Value.pointer (some a_cmpc)]), (12, vi t79), (13, vi (IntKind.i64.wrap (s103 - 1)))] ?_
          have eS := (Option.some.inj hS).symm
          exact hN103 _ eS _ _ _ e108 ⟨by kernel_rfl, by kernel_rfl⟩
         ·have hS := cond_F h109 hS
          refine xEx 8 ?_
          refine wpq_thenX ?_
          refine wpq_thenX ?_
          refine wpq_blockE ?_
          refine xSel [none, some 1] ?_
          refine xSub [(0, vs Adata s73.1 cdata), (1, vi a), (4, Value.func (.func 42) #[] #[Value.pointer (some a_cmpc)]), (12, vi t79), (13, vi s103)] ?_
          have eS := (Option.some.inj hS).symm
          have eS := (hD103 _ eS).symm
          exact hN82 _ eS _ _ _ (e105.trans e108) ⟨by kernel_rfl, by kernel_rfl⟩
        ·intro uu106 hS hN106
         refine wpq_split 126 (b := decide (t79 ≤ s103)) (by kernel_rfl) (fun q110 => ?_) (fun q110 => ?_)
         ·have hS := cond_T q110 hS
          have q110p := of_decide_eq_true q110
          have h73_0 := h73_0.mono (e81.trans e105).b
          obtain ⟨q112, hS⟩ := grd_T hS
          have q112p := of_decide_eq_true q112
          have i113 : (s103).toNat < (s73.1).length := by omega
          obtain ⟨kc111, cs111, hA111, hk111, hr111, hw111⟩ := h73_0.open_ i113 0
          obtain ⟨kb111, rfl⟩ : ∃ z, z = kc111 := ⟨_, rfl⟩
          subst hk111
          have hr111 : cs111 = [vi (List.getD s73.1 (s103).toNat 0)] := hr111
          subst hr111
          refine xT 10 [4, 5, 6] [] [some 1] [(0, vs Adata s73.1 cdata), (1, vi a), (4, Value.func (.func 42) #[] #[Value.pointer (some a_cmpc)]), (12, vi t79), (13, vi s103), (126, vb true), (127, Value.func (.func 42) #[] #[Value.pointer (some a_cmpc)]), (128, vs Adata s73.1 cdata), (129, vi s103)] RG (Psi.le.refl _) ?_
          refine xTp 7 RG (fun _ => (qIxB (s103).toNat 1 kb111.g hA111 (show (s103 : Int) = _ from by omega) i113)) ?_
          refine xTv 8 [some 1] RG (Psi.le.refl _) (qLdB (s103).toNat 1 0 0 hw111) ?_
          obtain ⟨q115, hS⟩ := grd_T hS
          have q115p := of_decide_eq_true q115
          have i116 : (a).toNat < (s73.1).length := by omega
          obtain ⟨kc114, cs114, hA114, hk114, hr114, hw114⟩ := h73_0.open_ i116 0
          cases hk114
          have hr114 : cs114 = [vi (List.getD s73.1 (a).toNat 0)] := hr114
          subst hr114
          refine xT 6 [9, 10] [] [some 1] [(0, vs Adata s73.1 cdata), (1, vi a), (4, Value.func (.func 42) #[] #[Value.pointer (some a_cmpc)]), (12, vi t79), (13, vi s103), (126, vb true), (127, Value.func (.func 42) #[] #[Value.pointer (some a_cmpc)]), (131, vi (List.getD s73.1 (s103).toNat 0)), (132, vs Adata s73.1 cdata), (133, vi a)] RG (Psi.le.refl _) ?_
          refine xTp 11 RG (fun _ => (qIxB (a).toNat 1 kb111.g hA114 (show (a : Int) = _ from by omega) i116)) ?_
          refine xTv 12 [some 1] RG (Psi.le.refl _) (qLdB (a).toNat 1 0 0 hw114) ?_
          have hc_cmpcp := hc_cmpcp.mono (e18.trans (e21.trans (e75.trans (e81.trans e105)))).r
          have fcmpcp_defs := fcmpcp_defs.mono (e18.trans (e21.trans (e75.trans (e81.trans e105)))).r
          have fcmpcp_conds := fcmpcp_conds.mono (e18.trans (e21.trans (e75.trans (e81.trans e105)))).r (e18.trans (e21.trans (e75.trans (e81.trans e105)))).b
          have hc_cmpc := hc_cmpc.mono (e18.trans (e21.trans (e75.trans (e81.trans e105)))).r
          obtain ⟨y117, hy117, hS⟩ := bindO_T hS
          refine xO1 (lds := [8, 12]) 13 ?_
          refine xIe (lds := [8, 12]) (Psi.le.refl _) (eC 0 (fun g' lr eb ln => c42 g' ((List.getD s73.1 (s103).toNat 0) : Int) ((List.getD s73.1 (a).toNat 0) : Int) a_cmpc a_cmpcp cmpcp Acmpcp_defs ccmpcp_defs Acmpcp_conds ccmpcp_conds (hc_cmpcp.mono lr) (fcmpcp_defs.mono lr) (ArrM.lent fcmpcp_conds lr eb) (hc_cmpc.mono lr) hy117)) ?_
          rintro _ g118 _ e119 ⟨_, rfl, rfl, rfl⟩
          refine kk [some 1] ?_
          refine xT 0 [14, 15, 16] [] [some 1] [(0, vs Adata s73.1 cdata), (1, vi a), (4, Value.func (.func 42) #[] #[Value.pointer (some a_cmpc)]), (12, vi t79), (13, vi s103), (139, vb (!decide (y117 < 0)))] RG e119.r ?_
          refine xSel [none, some 1] ?_
          refine xSub [(0, vs Adata s73.1 cdata), (1, vi a), (4, Value.func (.func 42) #[] #[Value.pointer (some a_cmpc)]), (12, vi t79), (13, vi s103), (139, vb (!decide (y117 < 0)))] ?_
          exact hN106 _ (Option.some.inj hS).symm _ _ _ e119 ⟨by kernel_rfl, by kernel_rfl⟩
         ·have hS := cond_F q110 hS
          have q110p := of_decide_eq_false q110
          refine xT 4 [4, 5, 6, 7, 8, 9, 10, 11, 12] [] [some 1] [(0, vs Adata s73.1 cdata), (1, vi a), (4, Value.func (.func 42) #[] #[Value.pointer (some a_cmpc)]), (12, vi t79), (13, vi s103), (126, vb false), (127, undef), (131, undef), (135, undef)] RG (Psi.le.refl _) ?_
          refine xO1 (lds := [8, 12]) 13 ?_
          refine xIb (lds := [8, 12]) [] ?_
          refine xT 0 [14, 15, 16] [] [some 1] [(0, vs Adata s73.1 cdata), (1, vi a), (4, Value.func (.func 42) #[] #[Value.pointer (some a_cmpc)]), (12, vi t79), (13, vi s103), (139, vb false)] RG (Psi.le.refl _) ?_
          refine xSel [none, some 1] ?_
          refine xSub [(0, vs Adata s73.1 cdata), (1, vi a), (4, Value.func (.func 42) #[] #[Value.pointer (some a_cmpc)]), (12, vi t79), (13, vi s103), (139, vb false)] ?_
          exact hN106 _ (Option.some.inj hS).symm _ _ _ (Gh.le.refl _) ⟨by kernel_rfl, by kernel_rfl⟩
      ·intro uu79 hS hN79
       refine xBl 6 ?_
       refine xSel [none, some 1] ?_
       refine xSub [(0, vs Adata s73.1 cdata), (1, vi a), (4, Value.func (.func 42) #[] #[Value.pointer (some a_cmpc)]), (12, vi s73.2.1), (13, vi s73.2.2)] ?_
       refine xLo hS (fun g own sl s122 => own = [none, k73_0] ∧ sl = [(0, vs Adata s73.1 cdata), (1, vi a), (4, Value.func (.func 42) #[] #[Value.pointer (some a_cmpc)]), (12, vi s122), (13, vi s73.2.2)]) ⟨by kernel_rfl, by kernel_rfl⟩ ?_
       rintro g123 _ _ s122 uu122 e124 ⟨rfl, rfl⟩ hS Qr122 hN122 hD122
       unfold o73f42_L2 at hS
       refine xSq ?_
       refine xSq ?_
       refine xDr 0 [8, 12] [] [k73_0] 16 (fun RG => ?_) (fun _ _ _ _ _ h => h)
       refine xT 12 [0, 1, 2, 3] [] [some 1] [(0, vs Adata s73.1 cdata), (1, vi a), (4, Value.func (.func 42) #[] #[Value.pointer (some a_cmpc)]), (12, vi s122), (13, vi s73.2.2), (108, vb (decide (s122 ≤ s73.2.2)))] RG (Psi.le.refl _) ?_
       refine xGJoA hS 0 [true, true, true, true, true, true, true, true, true, true, true, true, true, true, true, true] (fun g own sl t125 => own = [none, k73_0] ∧ sl = [(0, vs Adata s73.1 cdata), (1, vi a), (4, Value.func (.func 42) #[] #[Value.pointer (some a_cmpc)]), (12, vi s122), (13, vi s73.2.2), (120, vb t125)]) ?_ ?_
       ·rintro g126 _ _ t125 e127 ⟨rfl, rfl⟩ hS
        refine xAe (lds := [8, 12]) ?_
        refine wpq_then ?_
        refine xCd (t125) (fun h128 => ?_) (fun h128 => ?_)
        ·have hS := cond_T h128 hS
         refine xSk ?_
         refine wpq_then ?_
         refine xSub [(0, vs Adata s73.1 cdata), (1, vi a), (4, Value.func (.func 42) #[] #[Value.pointer (some a_cmpc)]), (12, vi s122), (13, vi s73.2.2)] ?_
         refine xBl 7 ?_
         refine xRg ?_
         have z328 := i64_in_ (s122 + 1)
         refine xB 3 [] [(0, vs Adata s73.1 cdata), (1, vi a), (4, Value.func (.func 42) #[] #[Value.pointer (some a_cmpc)]), (12, vi (IntKind.i64.wrap (s122 + 1))), (13, vi s73.2.2)] ?_
         refine xRe ?_
         refine wpq_blockN ?_
         refine wpq_thenN ?_
         refine xSel [none, some 1] ?_
         refine xSub [(0, vs Adata s73.1 cdata), (1, vi a), (4, Value.func (.func 42) #[] #[Value.pointer (some a_cmpc)]), (12, vi (IntKind.i64.wrap (s122 + 1))), (13, vi s73.2.2)] ?_
         have eS := (Option.some.inj hS).symm
         exact hN122 _ eS _ _ _ e127 ⟨by kernel_rfl, by kernel_rfl⟩
        ·have hS := cond_F h128 hS
         refine xEx 6 ?_
         refine wpq_thenX ?_
         refine wpq_thenX ?_
         refine wpq_blockE ?_
         refine xSel [none, some 1] ?_
         refine xSub [(0, vs Adata s73.1 cdata), (1, vi a), (4, Value.func (.func 42) #[] #[Value.pointer (some a_cmpc)]), (12, vi s122), (13, vi s73.2.2)] ?_
         have eS := (Option.some.inj hS).symm
         have eS := (hD122 _ eS).symm
         exact hN79 _ eS _ _ _ (e124.trans e127) ⟨by kernel_rfl, by kernel_rfl⟩
       ·intro uu125 hS hN125
        refine wpq_split 108 (b := decide (s122 ≤ s73.2.2)) (by kernel_rfl) (fun q129 => ?_) (fun q129 => ?_)
        ·have hS := cond_T q129 hS
         have q129p := of_decide_eq_true q129
         have h73_0 := h73_0.mono e124.b
         obtain ⟨q131, hS⟩ := grd_T hS
         have q131p := of_decide_eq_true q131
         have i132 : (s122).toNat < (s73.1).length := by omega
         obtain ⟨kc130, cs130, hA130, hk130, hr130, hw130⟩ := h73_0.open_ i132 0
         obtain ⟨kb130, rfl⟩ : ∃ z, z = kc130 := ⟨_, rfl⟩
         subst hk130
         have hr130 : cs130 = [vi (List.getD s73.1 (s122).toNat 0)] := hr130
         subst hr130
         refine xT 9 [4, 5, 6] [] [some 1] [(0, vs Adata s73.1 cdata), (1, vi a), (4, Value.func (.func 42) #[] #[Value.pointer (some a_cmpc)]), (12, vi s122), (13, vi s73.2.2), (108, vb true), (109, Value.func (.func 42) #[] #[Value.pointer (some a_cmpc)]), (110, vs Adata s73.1 cdata), (111, vi s122)] RG (Psi.le.refl _) ?_
         refine xTp 7 RG (fun _ => (qIxB (s122).toNat 1 kb130.g hA130 (show (s122 : Int) = _ from by omega) i132)) ?_
         refine xTv 8 [some 1] RG (Psi.le.refl _) (qLdB (s122).toNat 1 0 0 hw130) ?_
         obtain ⟨q134, hS⟩ := grd_T hS
         have q134p := of_decide_eq_true q134
         have i135 : (a).toNat < (s73.1).length := by omega
         obtain ⟨kc133, cs133, hA133, hk133, hr133, hw133⟩ := h73_0.open_ i135 0
         cases hk133
         have hr133 : cs133 = [vi (List.getD s73.1 (a).toNat 0)] := hr133
         subst hr133
         refine xT 5 [9, 10] [] [some 1] [(0, vs Adata s73.1 cdata), (1, vi a), (4, Value.func (.func 42) #[] #[Value.pointer (some a_cmpc)]), (12, vi s122), (13, vi s73.2.2), (108, vb true), (109, Value.func (.func 42) #[] #[Value.pointer (some a_cmpc)]), (113, vi (List.getD s73.1 (s122).toNat 0)), (114, vs Adata s73.1 cdata), (115, vi a)] RG (Psi.le.refl _) ?_
         refine xTp 11 RG (fun _ => (qIxB (a).toNat 1 kb130.g hA133 (show (a : Int) = _ from by omega) i135)) ?_
         refine xTv 12 [some 1] RG (Psi.le.refl _) (qLdB (a).toNat 1 0 0 hw133) ?_
         have hc_cmpcp := hc_cmpcp.mono (e18.trans (e21.trans (e75.trans e124))).r
         have fcmpcp_defs := fcmpcp_defs.mono (e18.trans (e21.trans (e75.trans e124))).r
         have fcmpcp_conds := fcmpcp_conds.mono (e18.trans (e21.trans (e75.trans e124))).r (e18.trans (e21.trans (e75.trans e124))).b
         have hc_cmpc := hc_cmpc.mono (e18.trans (e21.trans (e75.trans e124))).r
         obtain ⟨y136, hy136, hS⟩ := bindO_T hS
         refine xO1 (lds := [8, 12]) 13 ?_
         refine xIe (lds := [8, 12]) (Psi.le.refl _) (eC 0 (fun g' lr eb ln => c42 g' ((List.getD s73.1 (s122).toNat 0) : Int) ((List.getD s73.1 (a).toNat 0) : Int) a_cmpc a_cmpcp cmpcp Acmpcp_defs ccmpcp_defs Acmpcp_conds ccmpcp_conds (hc_cmpcp.mono lr) (fcmpcp_defs.mono lr) (ArrM.lent fcmpcp_conds lr eb) (hc_cmpc.mono lr) hy136)) ?_
         rintro _ g137 _ e138 ⟨_, rfl, rfl, rfl⟩
         refine kk [some 1] ?_
         refine xT 0 [14, 15] [] [some 1] [(0, vs Adata s73.1 cdata), (1, vi a), (4, Value.func (.func 42) #[] #[Value.pointer (some a_cmpc)]), (12, vi s122), (13, vi s73.2.2), (120, vb (decide (y136 < 0)))] RG e138.r ?_
         refine xSel [none, some 1] ?_
         refine xSub [(0, vs Adata s73.1 cdata), (1, vi a), (4, Value.func (.func 42) #[] #[Value.pointer (some a_cmpc)]), (12, vi s122), (13, vi s73.2.2), (120, vb (decide (y136 < 0)))] ?_
         exact hN125 _ (Option.some.inj hS).symm _ _ _ e138 ⟨by kernel_rfl, by kernel_rfl⟩
        ·have hS := cond_F q129 hS
         have q129p := of_decide_eq_false q129
         refine xT 3 [4, 5, 6, 7, 8, 9, 10, 11, 12] [] [some 1] [(0, vs Adata s73.1 cdata), (1, vi a), (4, Value.func (.func 42) #[] #[Value.pointer (some a_cmpc)]), (12, vi s122), (13, vi s73.2.2), (108, vb false), (109, undef), (113, undef), (117, undef)] RG (Psi.le.refl _) ?_
         refine xO1 (lds := [8, 12]) 13 ?_
         refine xIb (lds := [8, 12]) [] ?_
         refine xT 0 [14, 15] [] [some 1] [(0, vs Adata s73.1 cdata), (1, vi a), (4, Value.func (.func 42) #[] #[Value.pointer (some a_cmpc)]), (12, vi s122), (13, vi s73.2.2), (120, vb false)] RG (Psi.le.refl _) ?_
         refine xSel [none, some 1] ?_
         refine xSub [(0, vs Adata s73.1 cdata), (1, vi a), (4, Value.func (.func 42) #[] #[Value.pointer (some a_cmpc)]), (12, vi s122), (13, vi s73.2.2), (120, vb false)] ?_
         exact hN125 _ (Option.some.inj hS).symm _ _ _ (Gh.le.refl _) ⟨by kernel_rfl, by kernel_rfl⟩
  ·intro uu19 hS hN19
   refine xBl 2 ?_
   refine xSel [none, some 1] ?_
   refine xSub [(0, vs Adata (List.set (List.set data (a).toNat ((List.getD data (pivot).toNat 0) : Int)) (pivot).toNat ((List.getD data (a).toNat 0) : Int)) cdata), (1, vi a), (4, Value.func (.func 42) #[] #[Value.pointer (some a_cmpc)]), (12, vi t16), (13, vi (IntKind.i64.wrap (b - 1)))] ?_
   refine xLo hS (fun g own sl s141 => own = [none, k15] ∧ sl = [(0, vs Adata (List.set (List.set data (a).toNat ((List.getD data (pivot).toNat 0) : Int)) (pivot).toNat ((List.getD data (a).toNat 0) : Int)) cdata), (1, vi a), (4, Value.func (.func 42) #[] #[Value.pointer (some a_cmpc)]), (12, vi t16), (13, vi s141)]) ⟨by kernel_rfl, by kernel_rfl⟩ ?_
   rintro g142 _ _ s141 uu141 e143 ⟨rfl, rfl⟩ hS Qr141 hN141 hD141
   unfold o73f42_L3 at hS
   refine xSq ?_
   refine xSq ?_
   refine xDr 0 [8, 12] [] [k15] 17 (fun RG => ?_) (fun _ _ _ _ _ h => h)
   refine xT 13 [0, 1, 2, 3] [] [some 1] [(0, vs Adata (List.set (List.set data (a).toNat ((List.getD data (pivot).toNat 0) : Int)) (pivot).toNat ((List.getD data (a).toNat 0) : Int)) cdata), (1, vi a), (4, Value.func (.func 42) #[] #[Value.pointer (some a_cmpc)]), (12, vi t16), (13, vi s141), (53, vb (decide (t16 ≤ s141)))] RG (Psi.le.refl _) ?_
   refine xGJoA hS 0 [true, true, true, true, true, true, true, true, true, true, true, true, true, true, true, true, true] (fun g own sl t144 => own = [none, k15] ∧ sl = [(0, vs Adata (List.set (List.set data (a).toNat ((List.getD data (pivot).toNat 0) : Int)) (pivot).toNat ((List.getD data (a).toNat 0) : Int)) cdata), (1, vi a), (4, Value.func (.func 42) #[] #[Value.pointer (some a_cmpc)]), (12, vi t16), (13, vi s141), (66, vb t144)]) ?_ ?_
   ·rintro g145 _ _ t144 e146 ⟨rfl, rfl⟩ hS
    refine xAe (lds := [8, 12]) ?_
    refine wpq_then ?_
    refine xCd (t144) (fun h147 => ?_) (fun h147 => ?_)
    ·have hS := cond_T h147 hS
     refine xSk ?_
     refine wpq_then ?_
     refine xSub [(0, vs Adata (List.set (List.set data (a).toNat ((List.getD data (pivot).toNat 0) : Int)) (pivot).toNat ((List.getD data (a).toNat 0) : Int)) cdata), (1, vi a), (4, Value.func (.func 42) #[] #[Value.pointer (some a_cmpc)]), (12, vi t16), (13, vi s141)] ?_
     refine xBl 3 ?_
     refine xRg ?_
     have z334 := i64_in_ (s141 - 1)
     refine xB 3 [] [(0, vs Adata (List.set (List.set data (a).toNat ((List.getD data (pivot).toNat 0) : Int)) (pivot).toNat ((List.getD data (a).toNat 0) : Int)) cdata), (1, vi a), (4, Value.func (.func 42) #[] #[Value.pointer (some a_cmpc)]), (12, vi t16), (13, vi (IntKind.i64.wrap (s141 - 1)))] ?_
     refine xRe ?_
     refine wpq_blockN ?_
     refine wpq_thenN ?_
     refine xSel [none, some 1] ?_
     refine xSub [(0, vs Adata (List.set (List.set data (a).toNat ((List.getD data (pivot).toNat 0) : Int)) (pivot).toNat ((List.getD data (a).toNat 0) : Int)) cdata), (1, vi a), (4, Value.func (.func 42) #[] #[Value.pointer (some a_cmpc)]), (12, vi t16), (13, vi (IntKind.i64.wrap (s141 - 1)))] ?_
     have eS := (Option.some.inj hS).symm
     exact hN141 _ eS _ _ _ e146 ⟨by kernel_rfl, by kernel_rfl⟩
    ·have hS := cond_F h147 hS
     refine xEx 2 ?_
     refine wpq_thenX ?_
     refine wpq_thenX ?_
     refine wpq_blockE ?_
     refine xSel [none, some 1] ?_
     refine xSub [(0, vs Adata (List.set (List.set data (a).toNat ((List.getD data (pivot).toNat 0) : Int)) (pivot).toNat ((List.getD data (a).toNat 0) : Int)) cdata), (1, vi a), (4, Value.func (.func 42) #[] #[Value.pointer (some a_cmpc)]), (12, vi t16), (13, vi s141)] ?_
     have eS := (Option.some.inj hS).symm
     have eS := (hD141 _ eS).symm
     exact hN19 _ eS _ _ _ (e143.trans e146) ⟨by kernel_rfl, by kernel_rfl⟩
   ·intro uu144 hS hN144
    refine wpq_split 53 (b := decide (t16 ≤ s141)) (by kernel_rfl) (fun q148 => ?_) (fun q148 => ?_)
    ·have hS := cond_T q148 hS
     have q148p := of_decide_eq_true q148
     have h15 := h15.mono (e18.trans e143).b
     obtain ⟨q150, hS⟩ := grd_T hS
     have q150p := of_decide_eq_true q150
     have i151 : (s141).toNat < ((List.set (List.set data (a).toNat ((List.getD data (pivot).toNat 0) : Int)) (pivot).toNat ((List.getD data (a).toNat 0) : Int))).length := by omega
     obtain ⟨kc149, cs149, hA149, hk149, hr149, hw149⟩ := h15.open_ i151 0
     obtain ⟨kb149, rfl⟩ : ∃ z, z = kc149 := ⟨_, rfl⟩
     subst hk149
     have hr149 : cs149 = [vi (List.getD (List.set (List.set data (a).toNat ((List.getD data (pivot).toNat 0) : Int)) (pivot).toNat ((List.getD data (a).toNat 0) : Int)) (s141).toNat 0)] := hr149
     subst hr149
     refine xT 10 [4, 5, 6] [] [some 1] [(0, vs Adata (List.set (List.set data (a).toNat ((List.getD data (pivot).toNat 0) : Int)) (pivot).toNat ((List.getD data (a).toNat 0) : Int)) cdata), (1, vi a), (4, Value.func (.func 42) #[] #[Value.pointer (some a_cmpc)]), (12, vi t16), (13, vi s141), (53, vb true), (54, Value.func (.func 42) #[] #[Value.pointer (some a_cmpc)]), (55, vs Adata (List.set (List.set data (a).toNat ((List.getD data (pivot).toNat 0) : Int)) (pivot).toNat ((List.getD data (a).toNat 0) : Int)) cdata), (56, vi s141)] RG (Psi.le.refl _) ?_
     refine xTp 7 RG (fun _ => (qIxB (s141).toNat 1 kb149.g hA149 (show (s141 : Int) = _ from by omega) i151)) ?_
     refine xTv 8 [some 1] RG (Psi.le.refl _) (qLdB (s141).toNat 1 0 0 hw149) ?_
     obtain ⟨q153, hS⟩ := grd_T hS
     have q153p := of_decide_eq_true q153
     have i154 : (a).toNat < ((List.set (List.set data (a).toNat ((List.getD data (pivot).toNat 0) : Int)) (pivot).toNat ((List.getD data (a).toNat 0) : Int))).length := by omega
     obtain ⟨kc152, cs152, hA152, hk152, hr152, hw152⟩ := h15.open_ i154 0
     cases hk152
     have hr152 : cs152 = [vi (List.getD (List.set (List.set data (a).toNat ((List.getD data (pivot).toNat 0) : Int)) (pivot).toNat ((List.getD data (a).toNat 0) : Int)) (a).toNat 0)] := hr152
     subst hr152
     refine xT 6 [9, 10] [] [some 1] [(0, vs Adata (List.set (List.set data (a).toNat ((List.getD data (pivot).toNat 0) : Int)) (pivot).toNat ((List.getD data (a).toNat 0) : Int)) cdata), (1, vi a), (4, Value.func (.func 42) #[] #[Value.pointer (some a_cmpc)]), (12, vi t16), (13, vi s141), (53, vb true), (54, Value.func (.func 42) #[] #[Value.pointer (some a_cmpc)]), (58, vi (List.getD (List.set (List.set data (a).toNat ((List.getD data (pivot).toNat 0) : Int)) (pivot).toNat ((List.getD data (a).toNat 0) : Int)) (s141).toNat 0)), (59, vs Adata (List.set (List.set data (a).toNat ((List.getD data (pivot).toNat 0) : Int)) (pivot).toNat ((List.getD data (a).toNat 0) : Int)) cdata), (60, vi a)] RG (Psi.le.refl _) ?_
     refine xTp 11 RG (fun _ => (qIxB (a).toNat 1 kb149.g hA152 (show (a : Int) = _ from by omega) i154)) ?_
     refine xTv 12 [some 1] RG (Psi.le.refl _) (qLdB (a).toNat 1 0 0 hw152) ?_
     have hc_cmpcp := hc_cmpcp.mono (e18.trans e143).r
     have fcmpcp_defs := fcmpcp_defs.mono (e18.trans e143).r
     have fcmpcp_conds := fcmpcp_conds.mono (e18.trans e143).r (e18.trans e143).b
     have hc_cmpc := hc_cmpc.mono (e18.trans e143).r
     obtain ⟨y155, hy155, hS⟩ := bindO_T hS
     refine xO1 (lds := [8, 12]) 13 ?_
     refine xIe (lds := [8, 12]) (Psi.le.refl _) (eC 0 (fun g' lr eb ln => c42 g' ((List.getD (List.set (List.set data (a).toNat ((List.getD data (pivot).toNat 0) : Int)) (pivot).toNat ((List.getD data (a).toNat 0) : Int)) (s141).toNat 0) : Int) ((List.getD (List.set (List.set data (a).toNat ((List.getD data (pivot).toNat 0) : Int)) (pivot).toNat ((List.getD data (a).toNat 0) : Int)) (a).toNat 0) : Int) a_cmpc a_cmpcp cmpcp Acmpcp_defs ccmpcp_defs Acmpcp_conds ccmpcp_conds (hc_cmpcp.mono lr) (fcmpcp_defs.mono lr) (ArrM.lent fcmpcp_conds lr eb) (hc_cmpc.mono lr) hy155)) ?_
     rintro _ g156 _ e157 ⟨_, rfl, rfl, rfl⟩
     refine kk [some 1] ?_
     refine xT 0 [14, 15, 16] [] [some 1] [(0, vs Adata (List.set (List.set data (a).toNat ((List.getD data (pivot).toNat 0) : Int)) (pivot).toNat ((List.getD data (a).toNat 0) : Int)) cdata), (1, vi a), (4, Value.func (.func 42) #[] #[Value.pointer (some a_cmpc)]), (12, vi t16), (13, vi s141), (66, vb (!decide (y155 < 0)))] RG e157.r ?_
     refine xSel [none, some 1] ?_
     refine xSub [(0, vs Adata (List.set (List.set data (a).toNat ((List.getD data (pivot).toNat 0) : Int)) (pivot).toNat ((List.getD data (a).toNat 0) : Int)) cdata), (1, vi a), (4, Value.func (.func 42) #[] #[Value.pointer (some a_cmpc)]), (12, vi t16), (13, vi s141), (66, vb (!decide (y155 < 0)))] ?_
     exact hN144 _ (Option.some.inj hS).symm _ _ _ e157 ⟨by kernel_rfl, by kernel_rfl⟩
    ·have hS := cond_F q148 hS
     have q148p := of_decide_eq_false q148
     refine xT 4 [4, 5, 6, 7, 8, 9, 10, 11, 12] [] [some 1] [(0, vs Adata (List.set (List.set data (a).toNat ((List.getD data (pivot).toNat 0) : Int)) (pivot).toNat ((List.getD data (a).toNat 0) : Int)) cdata), (1, vi a), (4, Value.func (.func 42) #[] #[Value.pointer (some a_cmpc)]), (12, vi t16), (13, vi s141), (53, vb false), (54, undef), (58, undef), (62, undef)] RG (Psi.le.refl _) ?_
     refine xO1 (lds := [8, 12]) 13 ?_
     refine xIb (lds := [8, 12]) [] ?_
     refine xT 0 [14, 15, 16] [] [some 1] [(0, vs Adata (List.set (List.set data (a).toNat ((List.getD data (pivot).toNat 0) : Int)) (pivot).toNat ((List.getD data (a).toNat 0) : Int)) cdata), (1, vi a), (4, Value.func (.func 42) #[] #[Value.pointer (some a_cmpc)]), (12, vi t16), (13, vi s141), (66, vb false)] RG (Psi.le.refl _) ?_
     refine xSel [none, some 1] ?_
     refine xSub [(0, vs Adata (List.set (List.set data (a).toNat ((List.getD data (pivot).toNat 0) : Int)) (pivot).toNat ((List.getD data (a).toNat 0) : Int)) cdata), (1, vi a), (4, Value.func (.func 42) #[] #[Value.pointer (some a_cmpc)]), (12, vi t16), (13, vi s141), (66, vb false)] ?_
     exact hN144 _ (Option.some.inj hS).symm _ _ _ (Gh.le.refl _) ⟨by kernel_rfl, by kernel_rfl⟩
 ·intro uu16 hS hN16
  refine xBl 0 ?_
  refine wpq_re 0 (v := Value.slice Adata ((data).length) cdata) (vs Adata (List.set (List.set data (a).toNat ((List.getD data (pivot).toNat 0) : Int)) (pivot).toNat ((List.getD data (a).toNat 0) : Int)) cdata) (by kernel_rfl) (congrArg (fun z => Value.slice Adata z cdata) hz15) ?_
  have h15 := Buf.re h15 hz15 (rfl : (List.set (List.set data (a).toNat ((List.getD data (pivot).toNat 0) : Int)) (pivot).toNat ((List.getD data (a).toNat 0) : Int)) = _)
  refine xSel [none, some 0] ?_
  refine xSub [(0, vs Adata (List.set (List.set data (a).toNat ((List.getD data (pivot).toNat 0) : Int)) (pivot).toNat ((List.getD data (a).toNat 0) : Int)) cdata), (1, vi a), (4, Value.func (.func 42) #[] #[Value.pointer (some a_cmpc)]), (12, vi (IntKind.i64.wrap (a + 1))), (13, vi (IntKind.i64.wrap (b - 1)))] ?_
  refine xLo hS (fun g own sl s160 => own = [none, k15] ∧ sl = [(0, vs Adata (List.set (List.set data (a).toNat ((List.getD data (pivot).toNat 0) : Int)) (pivot).toNat ((List.getD data (a).toNat 0) : Int)) cdata), (1, vi a), (4, Value.func (.func 42) #[] #[Value.pointer (some a_cmpc)]), (12, vi s160), (13, vi (IntKind.i64.wrap (b - 1)))]) ⟨by kernel_rfl, by kernel_rfl⟩ ?_
  rintro g161 _ _ s160 uu160 e162 ⟨rfl, rfl⟩ hS Qr160 hN160 hD160
  unfold o73f42_L4 at hS
  refine xSq ?_
  refine xSq ?_
  refine xDr 0 [8, 12] [] [k15] 16 (fun RG => ?_) (fun _ _ _ _ _ h => h)
  refine xT 12 [0, 1, 2, 3] [] [some 1] [(0, vs Adata (List.set (List.set data (a).toNat ((List.getD data (pivot).toNat 0) : Int)) (pivot).toNat ((List.getD data (a).toNat 0) : Int)) cdata), (1, vi a), (4, Value.func (.func 42) #[] #[Value.pointer (some a_cmpc)]), (12, vi s160), (13, vi (IntKind.i64.wrap (b - 1))), (35, vb (decide (s160 ≤ (IntKind.i64.wrap (b - 1)))))] RG (Psi.le.refl _) ?_
  refine xGJoA hS 0 [true, true, true, true, true, true, true, true, true, true, true, true, true, true, true, true] (fun g own sl t163 => own = [none, k15] ∧ sl = [(0, vs Adata (List.set (List.set data (a).toNat ((List.getD data (pivot).toNat 0) : Int)) (pivot).toNat ((List.getD data (a).toNat 0) : Int)) cdata), (1, vi a), (4, Value.func (.func 42) #[] #[Value.pointer (some a_cmpc)]), (12, vi s160), (13, vi (IntKind.i64.wrap (b - 1))), (47, vb t163)]) ?_ ?_
  ·rintro g164 _ _ t163 e165 ⟨rfl, rfl⟩ hS
   refine xAe (lds := [8, 12]) ?_
   refine wpq_then ?_
   refine xCd (t163) (fun h166 => ?_) (fun h166 => ?_)
   ·have hS := cond_T h166 hS
    refine xSk ?_
    refine wpq_then ?_
    refine xSub [(0, vs Adata (List.set (List.set data (a).toNat ((List.getD data (pivot).toNat 0) : Int)) (pivot).toNat ((List.getD data (a).toNat 0) : Int)) cdata), (1, vi a), (4, Value.func (.func 42) #[] #[Value.pointer (some a_cmpc)]), (12, vi s160), (13, vi (IntKind.i64.wrap (b - 1)))] ?_
    refine xBl 1 ?_
    refine xRg ?_
    have z340 := i64_in_ (s160 + 1)
    refine xB 3 [] [(0, vs Adata (List.set (List.set data (a).toNat ((List.getD data (pivot).toNat 0) : Int)) (pivot).toNat ((List.getD data (a).toNat 0) : Int)) cdata), (1, vi a), (4, Value.func (.func 42) #[] #[Value.pointer (some a_cmpc)]), (12, vi (IntKind.i64.wrap (s160 + 1))), (13, vi (IntKind.i64.wrap (b - 1)))] ?_
    refine xRe ?_
    refine wpq_blockN ?_
    refine wpq_thenN ?_
    refine xSel [none, some 1] ?_
    refine xSub [(0, vs Adata (List.set (List.set data (a).toNat ((List.getD data (pivot).toNat 0) : Int)) (pivot).toNat ((List.getD data (a).toNat 0) : Int)) cdata), (1, vi a), (4, Value.func (.func 42) #[] #[Value.pointer (some a_cmpc)]), (12, vi (IntKind.i64.wrap (s160 + 1))), (13, vi (IntKind.i64.wrap (b - 1)))] ?_
    have eS := (Option.some.inj hS).symm
    exact hN160 _ eS _ _ _ e165 ⟨by kernel_rfl, by kernel_rfl⟩
   ·have hS := cond_F h166 hS
    refine xEx 0 ?_
    refine wpq_thenX ?_
    refine wpq_thenX ?_
    refine wpq_blockE ?_
    refine xSel [none, some 1] ?_
    refine xSub [(0, vs Adata (List.set (List.set data (a).toNat ((List.getD data (pivot).toNat 0) : Int)) (pivot).toNat ((List.getD data (a).toNat 0) : Int)) cdata), (1, vi a), (4, Value.func (.func 42) #[] #[Value.pointer (some a_cmpc)]), (12, vi s160), (13, vi (IntKind.i64.wrap (b - 1)))] ?_
    have eS := (Option.some.inj hS).symm
    have eS := (hD160 _ eS).symm
    exact hN16 _ eS _ _ _ (e162.trans e165) ⟨by kernel_rfl, by kernel_rfl⟩
  ·intro uu163 hS hN163
   refine wpq_split 35 (b := decide (s160 ≤ (IntKind.i64.wrap (b - 1)))) (by kernel_rfl) (fun q167 => ?_) (fun q167 => ?_)
   ·have hS := cond_T q167 hS
    have q167p := of_decide_eq_true q167
    have h15 := h15.mono e162.b
    obtain ⟨q169, hS⟩ := grd_T hS
    have q169p := of_decide_eq_true q169
    have i170 : (s160).toNat < ((List.set (List.set data (a).toNat ((List.getD data (pivot).toNat 0) : Int)) (pivot).toNat ((List.getD data (a).toNat 0) : Int))).length := by omega
    obtain ⟨kc168, cs168, hA168, hk168, hr168, hw168⟩ := h15.open_ i170 0
    obtain ⟨kb168, rfl⟩ : ∃ z, z = kc168 := ⟨_, rfl⟩
    subst hk168
    have hr168 : cs168 = [vi (List.getD (List.set (List.set data (a).toNat ((List.getD data (pivot).toNat 0) : Int)) (pivot).toNat ((List.getD data (a).toNat 0) : Int)) (s160).toNat 0)] := hr168
    subst hr168
    refine xT 9 [4, 5, 6] [] [some 1] [(0, vs Adata (List.set (List.set data (a).toNat ((List.getD data (pivot).toNat 0) : Int)) (pivot).toNat ((List.getD data (a).toNat 0) : Int)) cdata), (1, vi a), (4, Value.func (.func 42) #[] #[Value.pointer (some a_cmpc)]), (12, vi s160), (13, vi (IntKind.i64.wrap (b - 1))), (35, vb true), (36, Value.func (.func 42) #[] #[Value.pointer (some a_cmpc)]), (37, vs Adata (List.set (List.set data (a).toNat ((List.getD data (pivot).toNat 0) : Int)) (pivot).toNat ((List.getD data (a).toNat 0) : Int)) cdata), (38, vi s160)] RG (Psi.le.refl _) ?_
    refine xTp 7 RG (fun _ => (qIxB (s160).toNat 1 kb168.g hA168 (show (s160 : Int) = _ from by omega) i170)) ?_
    refine xTv 8 [some 1] RG (Psi.le.refl _) (qLdB (s160).toNat 1 0 0 hw168) ?_
    obtain ⟨q172, hS⟩ := grd_T hS
    have q172p := of_decide_eq_true q172
    have i173 : (a).toNat < ((List.set (List.set data (a).toNat ((List.getD data (pivot).toNat 0) : Int)) (pivot).toNat ((List.getD data (a).toNat 0) : Int))).length := by omega
    obtain ⟨kc171, cs171, hA171, hk171, hr171, hw171⟩ := h15.open_ i173 0
    cases hk171
    have hr171 : cs171 = [vi (List.getD (List.set (List.set data (a).toNat ((List.getD data (pivot).toNat 0) : Int)) (pivot).toNat ((List.getD data (a).toNat 0) : Int)) (a).toNat 0)] := hr171
    subst hr171
    refine xT 5 [9, 10] [] [some 1] [(0, vs Adata (List.set (List.set data (a).toNat ((List.getD data (pivot).toNat 0) : Int)) (pivot).toNat ((List.getD data (a).toNat 0) : Int)) cdata), (1, vi a), (4, Value.func (.func 42) #[] #[Value.pointer (some a_cmpc)]), (12, vi s160), (13, vi (IntKind.i64.wrap (b - 1))), (35, vb true), (36, Value.func (.func 42) #[] #[Value.pointer (some a_cmpc)]), (40, vi (List.getD (List.set (List.set data (a).toNat ((List.getD data (pivot).toNat 0) : Int)) (pivot).toNat ((List.getD data (a).toNat 0) : Int)) (s160).toNat 0)), (41, vs Adata (List.set (List.set data (a).toNat ((List.getD data (pivot).toNat 0) : Int)) (pivot).toNat ((List.getD data (a).toNat 0) : Int)) cdata), (42, vi a)] RG (Psi.le.refl _) ?_
    refine xTp 11 RG (fun _ => (qIxB (a).toNat 1 kb168.g hA171 (show (a : Int) = _ from by omega) i173)) ?_
    refine xTv 12 [some 1] RG (Psi.le.refl _) (qLdB (a).toNat 1 0 0 hw171) ?_
    have hc_cmpcp := hc_cmpcp.mono e162.r
    have fcmpcp_defs := fcmpcp_defs.mono e162.r
    have fcmpcp_conds := fcmpcp_conds.mono e162.r e162.b
    have hc_cmpc := hc_cmpc.mono e162.r
    obtain ⟨y174, hy174, hS⟩ := bindO_T hS
    refine xO1 (lds := [8, 12]) 13 ?_
    refine xIe (lds := [8, 12]) (Psi.le.refl _) (eC 0 (fun g' lr eb ln => c42 g' ((List.getD (List.set (List.set data (a).toNat ((List.getD data (pivot).toNat 0) : Int)) (pivot).toNat ((List.getD data (a).toNat 0) : Int)) (s160).toNat 0) : Int) ((List.getD (List.set (List.set data (a).toNat ((List.getD data (pivot).toNat 0) : Int)) (pivot).toNat ((List.getD data (a).toNat 0) : Int)) (a).toNat 0) : Int) a_cmpc a_cmpcp cmpcp Acmpcp_defs ccmpcp_defs Acmpcp_conds ccmpcp_conds (hc_cmpcp.mono lr) (fcmpcp_defs.mono lr) (ArrM.lent fcmpcp_conds lr eb) (hc_cmpc.mono lr) hy174)) ?_
    rintro _ g175 _ e176 ⟨_, rfl, rfl, rfl⟩
    refine kk [some 1] ?_
    refine xT 0 [14, 15] [] [some 1] [(0, vs Adata (List.set (List.set data (a).toNat ((List.getD data (pivot).toNat 0) : Int)) (pivot).toNat ((List.getD data (a).toNat 0) : Int)) cdata), (1, vi a), (4, Value.func (.func 42) #[] #[Value.pointer (some a_cmpc)]), (12, vi s160), (13, vi (IntKind.i64.wrap (b - 1))), (47, vb (decide (y174 < 0)))] RG e176.r ?_
    refine xSel [none, some 1] ?_
    refine xSub [(0, vs Adata (List.set (List.set data (a).toNat ((List.getD data (pivot).toNat 0) : Int)) (pivot).toNat ((List.getD data (a).toNat 0) : Int)) cdata), (1, vi a), (4, Value.func (.func 42) #[] #[Value.pointer (some a_cmpc)]), (12, vi s160), (13, vi (IntKind.i64.wrap (b - 1))), (47, vb (decide (y174 < 0)))] ?_
    exact hN163 _ (Option.some.inj hS).symm _ _ _ e176 ⟨by kernel_rfl, by kernel_rfl⟩
   ·have hS := cond_F q167 hS
    have q167p := of_decide_eq_false q167
    refine xT 3 [4, 5, 6, 7, 8, 9, 10, 11, 12] [] [some 1] [(0, vs Adata (List.set (List.set data (a).toNat ((List.getD data (pivot).toNat 0) : Int)) (pivot).toNat ((List.getD data (a).toNat 0) : Int)) cdata), (1, vi a), (4, Value.func (.func 42) #[] #[Value.pointer (some a_cmpc)]), (12, vi s160), (13, vi (IntKind.i64.wrap (b - 1))), (35, vb false), (36, undef), (40, undef), (44, undef)] RG (Psi.le.refl _) ?_
    refine xO1 (lds := [8, 12]) 13 ?_
    refine xIb (lds := [8, 12]) [] ?_
    refine xT 0 [14, 15] [] [some 1] [(0, vs Adata (List.set (List.set data (a).toNat ((List.getD data (pivot).toNat 0) : Int)) (pivot).toNat ((List.getD data (a).toNat 0) : Int)) cdata), (1, vi a), (4, Value.func (.func 42) #[] #[Value.pointer (some a_cmpc)]), (12, vi s160), (13, vi (IntKind.i64.wrap (b - 1))), (47, vb false)] RG (Psi.le.refl _) ?_
    refine xSel [none, some 1] ?_
    refine xSub [(0, vs Adata (List.set (List.set data (a).toNat ((List.getD data (pivot).toNat 0) : Int)) (pivot).toNat ((List.getD data (a).toNat 0) : Int)) cdata), (1, vi a), (4, Value.func (.func 42) #[] #[Value.pointer (some a_cmpc)]), (12, vi s160), (13, vi (IntKind.i64.wrap (b - 1))), (47, vb false)] ?_
    exact hN163 _ (Option.some.inj hS).symm _ _ _ (Gh.le.refl _) ⟨by kernel_rfl, by kernel_rfl⟩

def o59f42_L0 (ih : (List Int) → Int → Int → Int → Board → Option ((List Int))) (cmpcp : Board) (s3 : (List Int) × Int × Int × Int × Bool × Bool) : Option (Ctl ((List Int) × Int × Int × Int × Bool × Bool) ((List Int))) :=
 (joinO (τ := (List Int) × Int × Int × Int × Bool × Bool) (ρ := Ctl ((List Int) × Int × Int × Int × Bool × Bool) ((List Int))) (cond (decide ((IntKind.i64.wrap (s3.2.2.1 - s3.2.1)) ≤ 12)) (bindO (τ := (List Int)) (o66f42 (s3.1 : List Int) (s3.2.1 : Int) (s3.2.2.1 : Int) cmpcp) fun y10 => (some (Ctl.done (Ctl.done ((y10 : List Int)))))) (cond ((s3.2.2.2.1 == 0)) (bindO (τ := (List Int)) (o67f42 (s3.1 : List Int) (s3.2.1 : Int) (s3.2.2.1 : Int) cmpcp) fun y14 => (some (Ctl.done (Ctl.done ((y14 : List Int)))))) (bindO (τ := (List Int) × Int) (cond ((!s3.2.2.2.2.1)) (bindO (τ := (List Int)) (o68f42 (s3.1 : List Int) (s3.2.1 : Int) (s3.2.2.1 : Int) cmpcp) fun y72 => (some (((y72 : List Int), (IntKind.i64.wrap (s3.2.2.2.1 - 1)))))) (some (((s3.1 : List Int), s3.2.2.2.1)))) fun t17 => (bindO (τ := Int × Int) (o69f42 (t17.1 : List Int) (s3.2.1 : Int) (s3.2.2.1 : Int) cmpcp) fun y20 => (bindO (τ := (List Int) × Int × Int) (cond ((y20.2 == 2)) (bindO (τ := (List Int)) (o70f42 (t17.1 : List Int) (s3.2.1 : Int) (s3.2.2.1 : Int) cmpcp) fun y68 => (some (((y68 : List Int), (IntKind.i64.wrap ((IntKind.i64.wrap (s3.2.2.1 - 1)) - (IntKind.i64.wrap (y20.1 - s3.2.1)))), 1)))) (some (((t17.1 : List Int), y20.1, y20.2)))) fun t23 => (joinO (τ := (List Int)) (ρ := Ctl ((List Int) × Int × Int × Int × Bool × Bool) (Ctl ((List Int) × Int × Int × Int × Bool × Bool) ((List Int)))) (cond (((s3.2.2.2.2.1 && s3.2.2.2.2.2) && (t23.2.2 == 1))) (bindO (τ := (List Int) × Bool) (o71f42 (t23.1 : List Int) (s3.2.1 : Int) (s3.2.2.1 : Int) cmpcp) fun y63 => (cond (y63.2) (some (Ctl.done (Ctl.done (Ctl.done ((y63.1 : List Int)))))) (some (Ctl.go (y63.1 : List Int))))) (some (Ctl.go (t23.1 : List Int)))) fun t28 => (bindO (τ := Bool) (cond (decide (s3.2.1 > 0)) (grd (decide (-9223372036854775808 ≤ s3.2.1 - 1 ∧ s3.2.1 - 1 ≤ 9223372036854775807)) (grd (decide (0 ≤ (s3.2.1 - 1) ∧ (s3.2.1 - 1) < (((t28).length : Nat) : Int))) (grd (decide (0 ≤ t23.2.1 ∧ t23.2.1 < (((t28).length : Nat) : Int))) (bindO (τ := Int) (o42 ((List.getD t28 ((s3.2.1 - 1)).toNat 0) : Int) ((List.getD t28 (t23.2.1).toNat 0) : Int) cmpcp) fun y59 => (some (!decide (y59 < 0))))))) (some (false))) fun t31 => (cond (t31) (bindO (τ := (List Int) × Int) (o72f42 (t28 : List Int) (s3.2.1 : Int) (s3.2.2.1 : Int) (t23.2.1 : Int) cmpcp) fun y35 => (some (Ctl.go ((y35.1 : List Int), y35.2, s3.2.2.1, t17.2, s3.2.2.2.2.1, s3.2.2.2.2.2)))) (bindO (τ := (List Int) × Int × Bool) (o73f42 (t28 : List Int) (s3.2.1 : Int) (s3.2.2.1 : Int) (t23.2.1 : Int) cmpcp) fun y38 => (bindO (τ := (List Int) × Int × Int × Bool) (cond (decide ((IntKind.i64.wrap (y38.2.1 - s3.2.1)) < (IntKind.i64.wrap (s3.2.2.1 - y38.2.1)))) (bindO (τ := (List Int)) (ih (y38.1 : List Int) (s3.2.1 : Int) (y38.2.1 : Int) (t17.2 : Int) cmpcp) fun y45 => (some (((y45 : List Int), (IntKind.i64.wrap (y38.2.1 + 1)), s3.2.2.1, decide ((IntKind.i64.wrap (y38.2.1 - s3.2.1)) ≥ ((IntKind.i64.wrap (s3.2.2.1 - s3.2.1)) / 8)))))) (bindO (τ := (List Int)) (ih (y38.1 : List Int) ((IntKind.i64.wrap (y38.2.1 + 1)) : Int) (s3.2.2.1 : Int) (t17.2 : Int) cmpcp) fun y48 => (some (((y48 : List Int), s3.2.1, y38.2.1, decide ((IntKind.i64.wrap (s3.2.2.1 - y38.2.1)) ≥ ((IntKind.i64.wrap (s3.2.2.1 - s3.2.1)) / 8))))))) fun t41 => (some (Ctl.go ((t41.1 : List Int), t41.2.1, t41.2.2.1, t17.2, t41.2.2.2, y38.2.2))))))))))))) fun t6 => (some (Ctl.go ((t6.1 : List Int), t6.2.1, t6.2.2.1, t6.2.2.2.1, t6.2.2.2.2.1, t6.2.2.2.2.2))))
def o59f42_B (ih : (List Int) → Int → Int → Int → Board → Option ((List Int))) (data : List Int) (a : Int) (b : Int) (limit : Int) (cmpcp : Board) : Option ((List Int)) :=
 (loopO (σ := (List Int) × Int × Int × Int × Bool × Bool) (ρ := (List Int)) fuelN (o59f42_L0 ih cmpcp) ((data : List Int), a, b, limit, true, true))
def o59f42 (n : Nat) : (List Int) → Int → Int → Int → Board → Option ((List Int)) := Nat.rec (motive := fun _ => (List Int) → Int → Int → Int → Board → Option ((List Int))) (fun _ _ _ _ _ => none) (fun _ ih => o59f42_B ih) n
set_option maxRecDepth 100000 in
theorem c59f42 (n : Nat) : ∀ (g : Gh) (data : List Int) (Adata : Option Addr) (cdata : Nat) (kdata : Option Bk) (a : Int) (b : Int) (limit : Int) (a_cmpc : Addr) (a_cmpcp : Addr) (cmpcp : Board) (Acmpcp_defs : Option Addr) (ccmpcp_defs : Nat) (Acmpcp_conds : Option Addr) (ccmpcp_conds : Nat) (hdata : Buf g.b (tyI .i64) 3 (.slice Adata (data).length cdata) kdata data) (hc_cmpcp : Cells g.r a_cmpcp (cBoard cmpcp Acmpcp_defs ccmpcp_defs Acmpcp_conds ccmpcp_conds)) (fcmpcp_defs : Arr g.r tyAlertDef Acmpcp_defs ccmpcp_defs cmpcp.defs) (fcmpcp_conds : ArrM g.r g.b tyCnd Acmpcp_conds ccmpcp_conds cmpcp.conds) (hc_cmpc : Cells g.r a_cmpc [Value.pointer (some a_cmpcp)]) {r : (List Int)} (hS : o59f42 n data a b limit cmpcp = some r),
  Ctr Try.prog 59 [vs Adata data cdata, vi a, vi b, vi limit, Value.func (.func 42) #[] #[Value.pointer (some a_cmpc)]] g [kdata, none] (fun v ψ o => ∃ (ko_data : Option Bk), v = Value.tuple #[] ∧ o = [ko_data] ∧ Buf ψ (tyI .i64) 3 (.slice Adata (data).length cdata) ko_data r) := by
 induction n with
 | zero =>
  intro g data Adata cdata kdata a b limit a_cmpc a_cmpcp cmpcp Acmpcp_defs ccmpcp_defs Acmpcp_conds ccmpcp_conds hdata hc_cmpcp fcmpcp_defs fcmpcp_conds hc_cmpc r hS
  have hS : (none : Option ((List Int))) = some r := hS
  cases hS
 | succ n cih =>
  intro g data Adata cdata kdata a b limit a_cmpc a_cmpcp cmpcp Acmpcp_defs ccmpcp_defs Acmpcp_conds ccmpcp_conds hdata hc_cmpcp fcmpcp_defs fcmpcp_conds hc_cmpc r hS
  have hS : o59f42_B (o59f42 n) data a b limit cmpcp = some r := hS
  unfold o59f42_B at hS
  refine xFn Try.f59 (Try.f59.body.getD .skip) 148 ?_
  have nhdata := hdata.len
  have nfcmpcp_defs := fcmpcp_defs.len
  have nfcmpcp_conds := fcmpcp_conds.len
  refine xSq ?_
  refine xRg ?_
  refine xB 1 [] [(0, vs Adata data cdata), (1, vi a), (2, vi b), (3, vi limit), (4, Value.func (.func 42) #[] #[Value.pointer (some a_cmpc)]), (10, vb true)] ?_
  refine xRe ?_
  refine wpq_then ?_
  refine xSq ?_
  refine xRg ?_
  refine xB 1 [] [(0, vs Adata data cdata), (1, vi a), (2, vi b), (3, vi limit), (4, Value.func (.func 42) #[] #[Value.pointer (some a_cmpc)]), (10, vb true), (11, vb true)] ?_
  refine xRe ?_
  refine wpq_then ?_
  refine xBl 0 ?_
  refine xSel [none, some 0] ?_
  refine xSub [(0, vs Adata data cdata), (1, vi a), (2, vi b), (3, vi limit), (4, Value.func (.func 42) #[] #[Value.pointer (some a_cmpc)]), (10, vb true), (11, vb true)] ?_
  refine xLo hS (fun g own sl s3 => ∃ (k3_0 : Option Bk), own = [none, k3_0] ∧ sl = [(0, vs Adata s3.1 cdata), (1, vi s3.2.1), (2, vi s3.2.2.1), (3, vi s3.2.2.2.1), (4, Value.func (.func 42) #[] #[Value.pointer (some a_cmpc)]), (10, vb s3.2.2.2.2.1), (11, vb s3.2.2.2.2.2)] ∧ Buf g.b (tyI .i64) 3 (.slice Adata (s3.1).length cdata) k3_0 s3.1 ∧ (data).length = (s3.1).length) ⟨kdata, by kernel_rfl, by kernel_rfl, hdata, rfl⟩ ?_
  rintro g4 _ _ s3 uu3 e5 ⟨k3_0, rfl, rfl, h3_0, hz3_v0⟩ hS Qr3 hN3 hD3
  have nh3_0 := h3_0.len
  unfold o59f42_L0 at hS
  refine xJoinO hS (fun g own sl t6 => ∃ (k6_0 : Option Bk), own = [none, k6_0] ∧ sl = [(0, vs Adata t6.1 cdata), (1, vi t6.2.1), (2, vi t6.2.2.1), (3, vi t6.2.2.2.1), (4, Value.func (.func 42) #[] #[Value.pointer (some a_cmpc)]), (10, vb t6.2.2.2.2.1), (11, vb t6.2.2.2.2.2)] ∧ Buf g.b (tyI .i64) 3 (.slice Adata (t6.1).length cdata) k6_0 t6.1 ∧ (data).length = (t6.1).length) ?_ ?_
  ·rintro g7 _ _ t6 e8 ⟨k6_0, rfl, rfl, h6_0, hz6_v0⟩ hS
   have nh6_0 := h6_0.len
   refine wpq_thenN ?_
   refine xSel [none, some 1] ?_
   refine xSub [(0, vs Adata t6.1 cdata), (1, vi t6.2.1), (2, vi t6.2.2.1), (3, vi t6.2.2.2.1), (4, Value.func (.func 42) #[] #[Value.pointer (some a_cmpc)]), (10, vb t6.2.2.2.2.1), (11, vb t6.2.2.2.2.2)] ?_
   have eS := (Option.some.inj hS).symm
   exact hN3 _ eS _ _ _ e8 ⟨k6_0, by kernel_rfl, by kernel_rfl, h6_0, hz6_v0⟩
  ·intro uu6 hS hN6 hD6
   refine xBl 1 ?_
   refine xSq ?_
   refine xRg ?_
   have z166 := i64_in_ (s3.2.2.1 - s3.2.1)
   refine xB 4 [] [(0, vs Adata s3.1 cdata), (1, vi s3.2.1), (2, vi s3.2.2.1), (3, vi s3.2.2.2.1), (4, Value.func (.func 42) #[] #[Value.pointer (some a_cmpc)]), (10, vb s3.2.2.2.2.1), (11, vb s3.2.2.2.2.2), (12, vi (IntKind.i64.wrap (s3.2.2.1 - s3.2.1)))] ?_
   refine xRe ?_
   refine wpq_then ?_
   refine xSq ?_
   refine xSq ?_
   refine xRg ?_
   refine xB 2 [] [(0, vs Adata s3.1 cdata), (1, vi s3.2.1), (2, vi s3.2.2.1), (3, vi s3.2.2.2.1), (4, Value.func (.func 42) #[] #[Value.pointer (some a_cmpc)]), (10, vb s3.2.2.2.2.1), (11, vb s3.2.2.2.2.2), (12, vi (IntKind.i64.wrap (s3.2.2.1 - s3.2.1))), (25, vb (decide ((IntKind.i64.wrap (s3.2.2.1 - s3.2.1)) ≤ 12)))] ?_
   refine xRe ?_
   refine wpq_then ?_
   refine xCd (decide ((IntKind.i64.wrap (s3.2.2.1 - s3.2.1)) ≤ 12)) (fun h9 => ?_) (fun h9 => ?_)
   ·have hS := cond_T h9 hS
    have h9p := of_decide_eq_true h9
    refine xSq ?_
    refine xRg ?_
    refine xB 4 [] [(26, vs Adata s3.1 cdata), (27, vi s3.2.1), (28, vi s3.2.2.1), (29, Value.func (.func 42) #[] #[Value.pointer (some a_cmpc)])] ?_
    refine xSel [some 1, none, some 0] ?_
    have hc_cmpcp := hc_cmpcp.mono e5.r
    have fcmpcp_defs := fcmpcp_defs.mono e5.r
    have fcmpcp_conds := fcmpcp_conds.mono e5.r e5.b
    have hc_cmpc := hc_cmpc.mono e5.r
    obtain ⟨y10, hy10, hS⟩ := bindO_T hS
    refine xE (eC 2 (fun g' lr eb ln => c66f42 g' (s3.1 : List Int) Adata cdata k3_0 (s3.2.1 : Int) (s3.2.2.1 : Int) a_cmpc a_cmpcp cmpcp Acmpcp_defs ccmpcp_defs Acmpcp_conds ccmpcp_conds (by rw [eb]; exact h3_0) (hc_cmpcp.mono lr) (fcmpcp_defs.mono lr) (ArrM.lent fcmpcp_conds lr eb) (hc_cmpc.mono lr) hy10)) ?_
    rintro _ g11 _ e12 ⟨_, rfl, k10_data, rfl, rfl, h10_data⟩
    have nh10_data := h10_data.len
    have hz10_data : (s3.1).length = (y10).length := h10_data.leneq
    have hz10_data_1 : (data).length = (y10).length := hz3_v0.trans hz10_data
    refine xRe ?_
    refine wpq_then ?_
    refine xSub [] ?_
    have eS := (Option.some.inj hS).symm
    have eS := (hD6 _ eS).symm
    have eS := (hD3 _ eS).symm
    subst eS
    exact xRet [some 0] [] (e5.trans e12) ⟨k10_data, by kernel_rfl, by kernel_rfl, (Buf.re h10_data (hz10_data.trans hz10_data_1.symm) rfl)⟩ (fun _ _ h => h)
   ·have hS := cond_F h9 hS
    have h9p := of_decide_eq_false h9
    refine xSk ?_
    refine wpq_then ?_
    refine xSub [(0, vs Adata s3.1 cdata), (1, vi s3.2.1), (2, vi s3.2.2.1), (3, vi s3.2.2.2.1), (4, Value.func (.func 42) #[] #[Value.pointer (some a_cmpc)]), (10, vb s3.2.2.2.2.1), (11, vb s3.2.2.2.2.2), (12, vi (IntKind.i64.wrap (s3.2.2.1 - s3.2.1)))] ?_
    refine xSq ?_
    refine xSq ?_
    refine xRg ?_
    refine xB 2 [] [(0, vs Adata s3.1 cdata), (1, vi s3.2.1), (2, vi s3.2.2.1), (3, vi s3.2.2.2.1), (4, Value.func (.func 42) #[] #[Value.pointer (some a_cmpc)]), (10, vb s3.2.2.2.2.1), (11, vb s3.2.2.2.2.2), (12, vi (IntKind.i64.wrap (s3.2.2.1 - s3.2.1))), (32, vb (s3.2.2.2.1 == 0))] ?_
    refine xRe ?_
    refine wpq_then ?_
    refine xCd ((s3.2.2.2.1 == 0)) (fun h13 => ?_) (fun h13 => ?_)
    ·have hS := cond_T h13 hS
     have h13p : s3.2.2.2.1 = 0 := eq_of_beq h13
     refine xSq ?_
     refine xRg ?_
     refine xB 4 [] [(33, vs Adata s3.1 cdata), (34, vi s3.2.1), (35, vi s3.2.2.1), (36, Value.func (.func 42) #[] #[Value.pointer (some a_cmpc)])] ?_
     refine xSel [some 1, none, some 0] ?_
     have hc_cmpcp := hc_cmpcp.mono e5.r
     have fcmpcp_defs := fcmpcp_defs.mono e5.r
     have fcmpcp_conds := fcmpcp_conds.mono e5.r e5.b
     have hc_cmpc := hc_cmpc.mono e5.r
     obtain ⟨y14, hy14, hS⟩ := bindO_T hS
     refine xE (eC 2 (fun g' lr eb ln => c67f42 g' (s3.1 : List Int) Adata cdata k3_0 (s3.2.1 : Int) (s3.2.2.1 : Int) a_cmpc a_cmpcp cmpcp Acmpcp_defs ccmpcp_defs Acmpcp_conds ccmpcp_conds (by rw [eb]; exact h3_0) (hc_cmpcp.mono lr) (fcmpcp_defs.mono lr) (ArrM.lent fcmpcp_conds lr eb) (hc_cmpc.mono lr) hy14)) ?_
     rintro _ g15 _ e16 ⟨_, rfl, k14_data, rfl, rfl, h14_data⟩
     have nh14_data := h14_data.len
     have hz14_data : (s3.1).length = (y14).length := h14_data.leneq
     have hz14_data_1 : (data).length = (y14).length := hz3_v0.trans hz14_data
     refine xRe ?_
     refine wpq_then ?_
     refine xSub [] ?_
     have eS := (Option.some.inj hS).symm
     have eS := (hD6 _ eS).symm
     have eS := (hD3 _ eS).symm
     subst eS
     exact xRet [some 0] [] (e5.trans e16) ⟨k14_data, by kernel_rfl, by kernel_rfl, (Buf.re h14_data (hz14_data.trans hz14_data_1.symm) rfl)⟩ (fun _ _ h => h)
    ·have hS := cond_F h13 hS
     have h13p : ¬ (s3.2.2.2.1 = 0) := ne_of_beq_false_ h13
     refine xSk ?_
     refine wpq_then ?_
     refine xSub [(0, vs Adata s3.1 cdata), (1, vi s3.2.1), (2, vi s3.2.2.1), (3, vi s3.2.2.2.1), (4, Value.func (.func 42) #[] #[Value.pointer (some a_cmpc)]), (10, vb s3.2.2.2.2.1), (11, vb s3.2.2.2.2.2), (12, vi (IntKind.i64.wrap (s3.2.2.1 - s3.2.1)))] ?_
     refine xSq ?_
     refine xSq ?_
     refine xRg ?_
     refine xB 2 [] [(0, vs Adata s3.1 cdata), (1, vi s3.2.1), (2, vi s3.2.2.1), (3, vi s3.2.2.2.1), (4, Value.func (.func 42) #[] #[Value.pointer (some a_cmpc)]), (10, vb s3.2.2.2.2.1), (11, vb s3.2.2.2.2.2), (12, vi (IntKind.i64.wrap (s3.2.2.1 - s3.2.1))), (39, vb (!s3.2.2.2.2.1))] ?_
     refine xRe ?_
     refine wpq_then ?_
     refine xBindO hS (fun g own sl t17 => ∃ (k17_0 : Option Bk), own = [none, k17_0] ∧ sl = [(0, vs Adata t17.1 cdata), (1, vi s3.2.1), (2, vi s3.2.2.1), (3, vi t17.2), (4, Value.func (.func 42) #[] #[Value.pointer (some a_cmpc)]), (10, vb s3.2.2.2.2.1), (11, vb s3.2.2.2.2.2), (12, vi (IntKind.i64.wrap (s3.2.2.1 - s3.2.1)))] ∧ Buf g.b (tyI .i64) 3 (.slice Adata (t17.1).length cdata) k17_0 t17.1 ∧ (data).length = (t17.1).length) ?_ ?_
     ·rintro g18 _ _ t17 e19 ⟨k17_0, rfl, rfl, h17_0, hz17_v0⟩ hS
      have nh17_0 := h17_0.len
      refine wpq_then ?_
      refine xSq ?_
      refine xRg ?_
      refine xB 4 [] [(0, vs Adata t17.1 cdata), (1, vi s3.2.1), (2, vi s3.2.2.1), (3, vi t17.2), (4, Value.func (.func 42) #[] #[Value.pointer (some a_cmpc)]), (10, vb s3.2.2.2.2.1), (11, vb s3.2.2.2.2.2), (12, vi (IntKind.i64.wrap (s3.2.2.1 - s3.2.1))), (48, vs Adata t17.1 cdata), (49, vi s3.2.1), (50, vi s3.2.2.1), (51, Value.func (.func 42) #[] #[Value.pointer (some a_cmpc)])] ?_
      have hc_cmpcp := hc_cmpcp.mono (e5.trans e19).r
      have fcmpcp_defs := fcmpcp_defs.mono (e5.trans e19).r
      have fcmpcp_conds := fcmpcp_conds.mono (e5.trans e19).r (e5.trans e19).b
      have hc_cmpc := hc_cmpc.mono (e5.trans e19).r
      obtain ⟨y20, hy20, hS⟩ := bindO_T hS
      refine xE (eC 0 (fun g' lr eb ln => c69f42 g' (t17.1 : List Int) Adata cdata (s3.2.1 : Int) (s3.2.2.1 : Int) a_cmpc a_cmpcp cmpcp Acmpcp_defs ccmpcp_defs Acmpcp_conds ccmpcp_conds (arr_of_buf h17_0 (Psi.le_b eb) (lentk 1 (by kernel_rfl) ln)) (hc_cmpcp.mono lr) (fcmpcp_defs.mono lr) (ArrM.lent fcmpcp_conds lr eb) (hc_cmpc.mono lr) hy20)) ?_
      rintro _ g21 _ e22 ⟨_, rfl, rfl, rfl⟩
      refine xB 5 [] [(0, vs Adata t17.1 cdata), (1, vi s3.2.1), (2, vi s3.2.2.1), (3, vi t17.2), (4, Value.func (.func 42) #[] #[Value.pointer (some a_cmpc)]), (10, vb s3.2.2.2.2.1), (11, vb s3.2.2.2.2.2), (12, vi (IntKind.i64.wrap (s3.2.2.1 - s3.2.1))), (13, vi y20.1), (14, vi y20.2)] ?_
      refine xRe ?_
      refine wpq_then ?_
      refine xSq ?_
      refine xSq ?_
      refine xRg ?_
      refine xB 2 [] [(0, vs Adata t17.1 cdata), (1, vi s3.2.1), (2, vi s3.2.2.1), (3, vi t17.2), (4, Value.func (.func 42) #[] #[Value.pointer (some a_cmpc)]), (10, vb s3.2.2.2.2.1), (11, vb s3.2.2.2.2.2), (12, vi (IntKind.i64.wrap (s3.2.2.1 - s3.2.1))), (13, vi y20.1), (14, vi y20.2), (56, vb (y20.2 == 2))] ?_
      refine xRe ?_
      refine wpq_then ?_
      refine xBindO hS (fun g own sl t23 => ∃ (k23_0 : Option Bk), own = [none, k23_0] ∧ sl = [(0, vs Adata t23.1 cdata), (1, vi s3.2.1), (2, vi s3.2.2.1), (3, vi t17.2), (4, Value.func (.func 42) #[] #[Value.pointer (some a_cmpc)]), (10, vb s3.2.2.2.2.1), (11, vb s3.2.2.2.2.2), (12, vi (IntKind.i64.wrap (s3.2.2.1 - s3.2.1))), (13, vi t23.2.1), (14, vi t23.2.2)] ∧ Buf g.b (tyI .i64) 3 (.slice Adata (t23.1).length cdata) k23_0 t23.1 ∧ (data).length = (t23.1).length) ?_ ?_
      ·rintro g24 _ _ t23 e25 ⟨k23_0, rfl, rfl, h23_0, hz23_v0⟩ hS
       have nh23_0 := h23_0.len
       refine wpq_then ?_
       refine xSq ?_
       refine xSq ?_
       refine xRg ?_
       refine xB 2 [] [(0, vs Adata t23.1 cdata), (1, vi s3.2.1), (2, vi s3.2.2.1), (3, vi t17.2), (4, Value.func (.func 42) #[] #[Value.pointer (some a_cmpc)]), (10, vb s3.2.2.2.2.1), (11, vb s3.2.2.2.2.2), (12, vi (IntKind.i64.wrap (s3.2.2.1 - s3.2.1))), (13, vi t23.2.1), (14, vi t23.2.2), (69, vb s3.2.2.2.2.1)] ?_
       refine wpr_grp 4 [(0, vs Adata t23.1 cdata), (1, vi s3.2.1), (2, vi s3.2.2.1), (3, vi t17.2), (4, Value.func (.func 42) #[] #[Value.pointer (some a_cmpc)]), (10, vb s3.2.2.2.2.1), (11, vb s3.2.2.2.2.2), (12, vi (IntKind.i64.wrap (s3.2.2.1 - s3.2.1))), (13, vi t23.2.1), (14, vi t23.2.2), (71, vb (s3.2.2.2.2.1 && s3.2.2.2.2.2))] (fun hk1 => ?_) ?_
       ·refine wpq_split 69 (b := s3.2.2.2.2.1) (by kernel_rfl) (fun q26 => ?_) (fun q26 => ?_)
        ·refine xB 2 [] [(0, vs Adata t23.1 cdata), (1, vi s3.2.1), (2, vi s3.2.2.1), (3, vi t17.2), (4, Value.func (.func 42) #[] #[Value.pointer (some a_cmpc)]), (10, vb s3.2.2.2.2.1), (11, vb s3.2.2.2.2.2), (12, vi (IntKind.i64.wrap (s3.2.2.1 - s3.2.1))), (13, vi t23.2.1), (14, vi t23.2.2), (71, vb s3.2.2.2.2.2)] ?_
         refine wpq_re 71 (v := vb s3.2.2.2.2.2) (Value.bool ((s3.2.2.2.2.1 && s3.2.2.2.2.2))) (by kernel_rfl) (re_and1 q26) ?_
         exact wpq_sub _ (by kernel_rfl) hk1
        ·refine xB 2 [] [(0, vs Adata t23.1 cdata), (1, vi s3.2.1), (2, vi s3.2.2.1), (3, vi t17.2), (4, Value.func (.func 42) #[] #[Value.pointer (some a_cmpc)]), (10, vb s3.2.2.2.2.1), (11, vb s3.2.2.2.2.2), (12, vi (IntKind.i64.wrap (s3.2.2.1 - s3.2.1))), (13, vi t23.2.1), (14, vi t23.2.2), (71, vb false)] ?_
         refine wpq_re 71 (v := vb false) (Value.bool ((s3.2.2.2.2.1 && s3.2.2.2.2.2))) (by kernel_rfl) (re_and0 q26) ?_
         exact wpq_sub _ (by kernel_rfl) hk1
       ·refine xB 1 [] [(0, vs Adata t23.1 cdata), (1, vi s3.2.1), (2, vi s3.2.2.1), (3, vi t17.2), (4, Value.func (.func 42) #[] #[Value.pointer (some a_cmpc)]), (10, vb s3.2.2.2.2.1), (11, vb s3.2.2.2.2.2), (12, vi (IntKind.i64.wrap (s3.2.2.1 - s3.2.1))), (13, vi t23.2.1), (14, vi t23.2.2), (72, vb (s3.2.2.2.2.1 && s3.2.2.2.2.2))] ?_
        refine wpr_grp 8 [(0, vs Adata t23.1 cdata), (1, vi s3.2.1), (2, vi s3.2.2.1), (3, vi t17.2), (4, Value.func (.func 42) #[] #[Value.pointer (some a_cmpc)]), (10, vb s3.2.2.2.2.1), (11, vb s3.2.2.2.2.2), (12, vi (IntKind.i64.wrap (s3.2.2.1 - s3.2.1))), (13, vi t23.2.1), (75, vb ((s3.2.2.2.2.1 && s3.2.2.2.2.2) && (t23.2.2 == 1)))] (fun hk4 => ?_) ?_
        ·refine wpq_split 72 (b := (s3.2.2.2.2.1 && s3.2.2.2.2.2)) (by kernel_rfl) (fun q27 => ?_) (fun q27 => ?_)
         ·have q27l := (and_true_ q27).1
          have q27r := (and_true_ q27).2
          refine xB 3 [] [(0, vs Adata t23.1 cdata), (1, vi s3.2.1), (2, vi s3.2.2.1), (3, vi t17.2), (4, Value.func (.func 42) #[] #[Value.pointer (some a_cmpc)]), (10, vb s3.2.2.2.2.1), (11, vb s3.2.2.2.2.2), (12, vi (IntKind.i64.wrap (s3.2.2.1 - s3.2.1))), (13, vi t23.2.1), (75, vb (t23.2.2 == 1))] ?_
          refine wpq_re 75 (v := vb (t23.2.2 == 1)) (Value.bool (((s3.2.2.2.2.1 && s3.2.2.2.2.2) && (t23.2.2 == 1)))) (by kernel_rfl) (re_and1 q27) ?_
          exact wpq_sub _ (by kernel_rfl) hk4
         ·refine xB 3 [] [(0, vs Adata t23.1 cdata), (1, vi s3.2.1), (2, vi s3.2.2.1), (3, vi t17.2), (4, Value.func (.func 42) #[] #[Value.pointer (some a_cmpc)]), (10, vb s3.2.2.2.2.1), (11, vb s3.2.2.2.2.2), (12, vi (IntKind.i64.wrap (s3.2.2.1 - s3.2.1))), (13, vi t23.2.1), (75, vb false)] ?_
          refine wpq_re 75 (v := vb false) (Value.bool (((s3.2.2.2.2.1 && s3.2.2.2.2.2) && (t23.2.2 == 1)))) (by kernel_rfl) (re_and0 q27) ?_
          exact wpq_sub _ (by kernel_rfl) hk4
        ·refine xRe ?_
         refine wpq_then ?_
         refine xJoinO hS (fun g own sl t28 => ∃ (k28_0 : Option Bk), own = [none, k28_0] ∧ sl = [(0, vs Adata t28 cdata), (1, vi s3.2.1), (2, vi s3.2.2.1), (3, vi t17.2), (4, Value.func (.func 42) #[] #[Value.pointer (some a_cmpc)]), (10, vb s3.2.2.2.2.1), (11, vb s3.2.2.2.2.2), (12, vi (IntKind.i64.wrap (s3.2.2.1 - s3.2.1))), (13, vi t23.2.1)] ∧ Buf g.b (tyI .i64) 3 (.slice Adata (t28).length cdata) k28_0 t28 ∧ (data).length = (t28).length) ?_ ?_
         ·rintro g29 _ _ t28 e30 ⟨k28_0, rfl, rfl, h28_0, hz28_v0⟩ hS
          have nh28_0 := h28_0.len
          refine wpq_then ?_
          refine xSq ?_
          refine xSq ?_
          refine xDr 0 [8, 12] [] [k28_0] 17 (fun RG => ?_) (fun _ _ _ _ _ h => h)
          refine xT 14 [0, 1, 2] [] [some 1] [(0, vs Adata t28 cdata), (1, vi s3.2.1), (2, vi s3.2.2.1), (3, vi t17.2), (4, Value.func (.func 42) #[] #[Value.pointer (some a_cmpc)]), (10, vb s3.2.2.2.2.1), (11, vb s3.2.2.2.2.2), (12, vi (IntKind.i64.wrap (s3.2.2.1 - s3.2.1))), (13, vi t23.2.1), (83, vb (decide (s3.2.1 > 0)))] RG (Psi.le.refl _) ?_
          refine xGJoA hS 0 [true, true, true, true, true, true, true, true, true, true, true, true, true, true, true, true, true] (fun g own sl t31 => own = [none, k28_0] ∧ sl = [(0, vs Adata t28 cdata), (1, vi s3.2.1), (2, vi s3.2.2.1), (3, vi t17.2), (4, Value.func (.func 42) #[] #[Value.pointer (some a_cmpc)]), (10, vb s3.2.2.2.2.1), (11, vb s3.2.2.2.2.2), (12, vi (IntKind.i64.wrap (s3.2.2.1 - s3.2.1))), (13, vi t23.2.1), (97, vb t31)]) ?_ ?_
          ·rintro g32 _ _ t31 e33 ⟨rfl, rfl⟩ hS
           refine xAe (lds := [8, 12]) ?_
           refine wpq_then ?_
           refine xCd (t31) (fun h34 => ?_) (fun h34 => ?_)
           ·have hS := cond_T h34 hS
            refine xSq ?_
            refine xRg ?_
            refine xB 5 [] [(0, vs Adata t28 cdata), (2, vi s3.2.2.1), (3, vi t17.2), (4, Value.func (.func 42) #[] #[Value.pointer (some a_cmpc)]), (10, vb s3.2.2.2.2.1), (11, vb s3.2.2.2.2.2), (98, vs Adata t28 cdata), (99, vi s3.2.1), (100, vi s3.2.2.1), (101, vi t23.2.1), (102, Value.func (.func 42) #[] #[Value.pointer (some a_cmpc)])] ?_
            refine xSel [some 1, none, some 0] ?_
            have h28_0 := h28_0.mono e33.b
            have hc_cmpcp := hc_cmpcp.mono (e22.trans (e25.trans (e30.trans e33))).r
            have fcmpcp_defs := fcmpcp_defs.mono (e22.trans (e25.trans (e30.trans e33))).r
            have fcmpcp_conds := fcmpcp_conds.mono (e22.trans (e25.trans (e30.trans e33))).r (e22.trans (e25.trans (e30.trans e33))).b
            have hc_cmpc := hc_cmpc.mono (e22.trans (e25.trans (e30.trans e33))).r
            obtain ⟨y35, hy35, hS⟩ := bindO_T hS
            refine xE (eC 2 (fun g' lr eb ln => c72f42 g' (t28 : List Int) Adata cdata k28_0 (s3.2.1 : Int) (s3.2.2.1 : Int) (t23.2.1 : Int) a_cmpc a_cmpcp cmpcp Acmpcp_defs ccmpcp_defs Acmpcp_conds ccmpcp_conds (by rw [eb]; exact h28_0) (hc_cmpcp.mono lr) (fcmpcp_defs.mono lr) (ArrM.lent fcmpcp_conds lr eb) (hc_cmpc.mono lr) hy35)) ?_
            rintro _ g36 _ e37 ⟨_, rfl, k35_data, rfl, rfl, h35_data⟩
            have nh35_data := h35_data.len
            have hz35_data : (t28).length = (y35.1).length := h35_data.leneq
            have hz35_data_1 : (data).length = (y35.1).length := hz28_v0.trans hz35_data
            refine xB 1 [] [(0, Value.slice Adata ((t28).length) cdata), (2, vi s3.2.2.1), (3, vi t17.2), (4, Value.func (.func 42) #[] #[Value.pointer (some a_cmpc)]), (10, vb s3.2.2.2.2.1), (11, vb s3.2.2.2.2.2), (15, vi y35.2)] ?_
            refine xRe ?_
            refine wpq_then ?_
            refine xSq ?_
            refine xRg ?_
            refine xB 2 [] [(0, Value.slice Adata ((t28).length) cdata), (1, vi y35.2), (2, vi s3.2.2.1), (3, vi t17.2), (4, Value.func (.func 42) #[] #[Value.pointer (some a_cmpc)]), (10, vb s3.2.2.2.2.1), (11, vb s3.2.2.2.2.2)] ?_
            refine xRe ?_
            refine wpq_then ?_
            refine xEx 1 ?_
            refine wpq_thenX ?_
            refine wpq_blockE ?_
            refine wpq_re 0 (v := Value.slice Adata ((t28).length) cdata) (vs Adata y35.1 cdata) (by kernel_rfl) (congrArg (fun z => Value.slice Adata z cdata) hz35_data) ?_
            have h35_data := Buf.re h35_data hz35_data (rfl : y35.1 = _)
            refine xSel [none, some 0] ?_
            refine xSub [(0, vs Adata y35.1 cdata), (1, vi y35.2), (2, vi s3.2.2.1), (3, vi t17.2), (4, Value.func (.func 42) #[] #[Value.pointer (some a_cmpc)]), (10, vb s3.2.2.2.2.1), (11, vb s3.2.2.2.2.2)] ?_
            have eS := (Option.some.inj hS).symm
            exact hN6 _ eS _ _ _ (e19.trans (e22.trans (e25.trans (e30.trans (e33.trans e37))))) ⟨k35_data, by kernel_rfl, by kernel_rfl, h35_data, hz35_data_1⟩
           ·have hS := cond_F h34 hS
            refine xSk ?_
            refine wpq_then ?_
            refine xSub [(0, vs Adata t28 cdata), (1, vi s3.2.1), (2, vi s3.2.2.1), (3, vi t17.2), (4, Value.func (.func 42) #[] #[Value.pointer (some a_cmpc)]), (12, vi (IntKind.i64.wrap (s3.2.2.1 - s3.2.1))), (13, vi t23.2.1)] ?_
            refine xSq ?_
            refine xRg ?_
            refine xB 5 [] [(0, vs Adata t28 cdata), (1, vi s3.2.1), (2, vi s3.2.2.1), (3, vi t17.2), (4, Value.func (.func 42) #[] #[Value.pointer (some a_cmpc)]), (12, vi (IntKind.i64.wrap (s3.2.2.1 - s3.2.1))), (106, vs Adata t28 cdata), (107, vi s3.2.1), (108, vi s3.2.2.1), (109, vi t23.2.1), (110, Value.func (.func 42) #[] #[Value.pointer (some a_cmpc)])] ?_
            refine xSel [some 1, none, some 0] ?_
            have h28_0 := h28_0.mono e33.b
            have hc_cmpcp := hc_cmpcp.mono (e22.trans (e25.trans (e30.trans e33))).r
            have fcmpcp_defs := fcmpcp_defs.mono (e22.trans (e25.trans (e30.trans e33))).r
            have fcmpcp_conds := fcmpcp_conds.mono (e22.trans (e25.trans (e30.trans e33))).r (e22.trans (e25.trans (e30.trans e33))).b
            have hc_cmpc := hc_cmpc.mono (e22.trans (e25.trans (e30.trans e33))).r
            obtain ⟨y38, hy38, hS⟩ := bindO_T hS
            refine xE (eC 2 (fun g' lr eb ln => c73f42 g' (t28 : List Int) Adata cdata k28_0 (s3.2.1 : Int) (s3.2.2.1 : Int) (t23.2.1 : Int) a_cmpc a_cmpcp cmpcp Acmpcp_defs ccmpcp_defs Acmpcp_conds ccmpcp_conds (by rw [eb]; exact h28_0) (hc_cmpcp.mono lr) (fcmpcp_defs.mono lr) (ArrM.lent fcmpcp_conds lr eb) (hc_cmpc.mono lr) hy38)) ?_
            rintro _ g39 _ e40 ⟨_, rfl, k38_data, rfl, rfl, h38_data⟩
            have nh38_data := h38_data.len
            have hz38_data : (t28).length = (y38.1).length := h38_data.leneq
            have hz38_data_1 : (data).length = (y38.1).length := hz28_v0.trans hz38_data
            refine xB 5 [] [(0, Value.slice Adata ((t28).length) cdata), (1, vi s3.2.1), (2, vi s3.2.2.1), (3, vi t17.2), (4, Value.func (.func 42) #[] #[Value.pointer (some a_cmpc)]), (12, vi (IntKind.i64.wrap (s3.2.2.1 - s3.2.1))), (16, vi y38.2.1), (17, vb y38.2.2)] ?_
            refine xRe ?_
            refine wpq_then ?_
            refine xSq ?_
            refine xRg ?_
            refine xB 2 [] [(0, Value.slice Adata ((t28).length) cdata), (1, vi s3.2.1), (2, vi s3.2.2.1), (3, vi t17.2), (4, Value.func (.func 42) #[] #[Value.pointer (some a_cmpc)]), (11, vb y38.2.2), (12, vi (IntKind.i64.wrap (s3.2.2.1 - s3.2.1))), (16, vi y38.2.1)] ?_
            refine xRe ?_
            refine wpq_then ?_
            refine xSq ?_
            refine xRg ?_
            have z171 := i64_in_ (y38.2.1 - s3.2.1)
            have z172 := i64_in_ (s3.2.2.1 - y38.2.1)
            refine xB 8 [] [(0, Value.slice Adata ((t28).length) cdata), (1, vi s3.2.1), (2, vi s3.2.2.1), (3, vi t17.2), (4, Value.func (.func 42) #[] #[Value.pointer (some a_cmpc)]), (11, vb y38.2.2), (12, vi (IntKind.i64.wrap (s3.2.2.1 - s3.2.1))), (16, vi y38.2.1), (18, vi (IntKind.i64.wrap (y38.2.1 - s3.2.1))), (19, vi (IntKind.i64.wrap (s3.2.2.1 - y38.2.1)))] ?_
            refine xRe ?_
            refine wpq_then ?_
            refine xSq ?_
            refine xRg ?_
            refine xB 1 [] [(0, Value.slice Adata ((t28).length) cdata), (1, vi s3.2.1), (2, vi s3.2.2.1), (3, vi t17.2), (4, Value.func (.func 42) #[] #[Value.pointer (some a_cmpc)]), (11, vb y38.2.2), (16, vi y38.2.1), (18, vi (IntKind.i64.wrap (y38.2.1 - s3.2.1))), (19, vi (IntKind.i64.wrap (s3.2.2.1 - y38.2.1))), (121, vi (IntKind.i64.wrap (s3.2.2.1 - s3.2.1)))] ?_
            refine xV (qQuo .i64 ((IntKind.i64.wrap (s3.2.2.1 - s3.2.1))) (8) _ (by omega) (IntWalk.i64_quo _ _ (by omega))) ?_
            refine xB 1 [] [(0, Value.slice Adata ((t28).length) cdata), (1, vi s3.2.1), (2, vi s3.2.2.1), (3, vi t17.2), (4, Value.func (.func 42) #[] #[Value.pointer (some a_cmpc)]), (11, vb y38.2.2), (16, vi y38.2.1), (18, vi (IntKind.i64.wrap (y38.2.1 - s3.2.1))), (19, vi (IntKind.i64.wrap (s3.2.2.1 - y38.2.1))), (20, vi ((IntKind.i64.wrap (s3.2.2.1 - s3.2.1)) / 8))] ?_
            refine xRe ?_
            refine wpq_then ?_
            refine xSq ?_
            refine xRg ?_
            refine xB 3 [] [(0, Value.slice Adata ((t28).length) cdata), (1, vi s3.2.1), (2, vi s3.2.2.1), (3, vi t17.2), (4, Value.func (.func 42) #[] #[Value.pointer (some a_cmpc)]), (11, vb y38.2.2), (16, vi y38.2.1), (18, vi (IntKind.i64.wrap (y38.2.1 - s3.2.1))), (19, vi (IntKind.i64.wrap (s3.2.2.1 - y38.2.1))), (20, vi ((IntKind.i64.wrap (s3.2.2.1 - s3.2.1)) / 8)), (125, vb (decide ((IntKind.i64.wrap (y38.2.1 - s3.2.1)) < (IntKind.i64.wrap (s3.2.2.1 - y38.2.1)))))] ?_
            refine xRe ?_
            refine wpq_then ?_
            refine xBindO hS (fun g own sl t41 => ∃ (k41_0 : Option Bk), own = [none, k41_0] ∧ sl = [(0, vs Adata t41.1 cdata), (1, vi t41.2.1), (2, vi t41.2.2.1), (3, vi t17.2), (4, Value.func (.func 42) #[] #[Value.pointer (some a_cmpc)]), (10, vb t41.2.2.2), (11, vb y38.2.2)] ∧ Buf g.b (tyI .i64) 3 (.slice Adata (t41.1).length cdata) k41_0 t41.1 ∧ (data).length = (t41.1).length) ?_ ?_
            ·rintro g42 _ _ t41 e43 ⟨k41_0, rfl, rfl, h41_0, hz41_v0⟩ hS
             have nh41_0 := h41_0.len
             refine wpq_blockN ?_
             refine xSel [none, some 1] ?_
             refine xSub [(0, vs Adata t41.1 cdata), (1, vi t41.2.1), (2, vi t41.2.2.1), (3, vi t17.2), (4, Value.func (.func 42) #[] #[Value.pointer (some a_cmpc)]), (10, vb t41.2.2.2), (11, vb y38.2.2)] ?_
             have eS := (Option.some.inj hS).symm
             exact hN6 _ eS _ _ _ (e19.trans (e22.trans (e25.trans (e30.trans (e33.trans (e40.trans e43)))))) ⟨k41_0, by kernel_rfl, by kernel_rfl, h41_0, hz41_v0⟩
            ·intro uu41 hS hN41
             refine xCd (decide ((IntKind.i64.wrap (y38.2.1 - s3.2.1)) < (IntKind.i64.wrap (s3.2.2.1 - y38.2.1)))) (fun h44 => ?_) (fun h44 => ?_)
             ·have hS := cond_T h44 hS
              have h44p := of_decide_eq_true h44
              refine xSq ?_
              refine xRg ?_
              refine xB 4 [] [(0, Value.slice Adata ((t28).length) cdata), (1, vi s3.2.1), (2, vi s3.2.2.1), (3, vi t17.2), (4, Value.func (.func 42) #[] #[Value.pointer (some a_cmpc)]), (10, vb (decide ((IntKind.i64.wrap (y38.2.1 - s3.2.1)) ≥ ((IntKind.i64.wrap (s3.2.2.1 - s3.2.1)) / 8)))), (11, vb y38.2.2), (16, vi y38.2.1)] ?_
              refine xRe ?_
              refine wpq_then ?_
              refine xSq ?_
              refine xRg ?_
              refine xB 5 [] [(0, Value.slice Adata ((t28).length) cdata), (2, vi s3.2.2.1), (3, vi t17.2), (4, Value.func (.func 42) #[] #[Value.pointer (some a_cmpc)]), (10, vb (decide ((IntKind.i64.wrap (y38.2.1 - s3.2.1)) ≥ ((IntKind.i64.wrap (s3.2.2.1 - s3.2.1)) / 8)))), (11, vb y38.2.2), (16, vi y38.2.1), (129, Value.slice Adata ((t28).length) cdata), (130, vi s3.2.1), (131, vi y38.2.1), (132, vi t17.2), (133, Value.func (.func 42) #[] #[Value.pointer (some a_cmpc)])] ?_
              refine wpq_re 0 (v := Value.slice Adata ((t28).length) cdata) (vs Adata y38.1 cdata) (by kernel_rfl) (congrArg (fun z => Value.slice Adata z cdata) hz38_data) ?_
              have h38_data := Buf.re h38_data hz38_data (rfl : y38.1 = _)
              refine wpq_re 129 (v := Value.slice Adata ((t28).length) cdata) (vs Adata y38.1 cdata) (by kernel_rfl) (congrArg (fun z => Value.slice Adata z cdata) hz38_data) ?_
              refine xSel [some 0, none, some 1] ?_
              have hc_cmpcp := hc_cmpcp.mono e40.r
              have fcmpcp_defs := fcmpcp_defs.mono e40.r
              have fcmpcp_conds := fcmpcp_conds.mono e40.r e40.b
              have hc_cmpc := hc_cmpc.mono e40.r
              obtain ⟨y45, hy45, hS⟩ := bindO_T hS
              refine xE (eC 2 (fun g' lr eb ln => cih g' (y38.1 : List Int) Adata cdata k38_data (s3.2.1 : Int) (y38.2.1 : Int) (t17.2 : Int) a_cmpc a_cmpcp cmpcp Acmpcp_defs ccmpcp_defs Acmpcp_conds ccmpcp_conds (by rw [eb]; exact h38_data) (hc_cmpcp.mono lr) (fcmpcp_defs.mono lr) (ArrM.lent fcmpcp_conds lr eb) (hc_cmpc.mono lr) hy45)) ?_
              rintro _ g46 _ e47 ⟨_, rfl, k45_data, rfl, rfl, h45_data⟩
              have nh45_data := h45_data.len
              have hz45_data : (y38.1).length = (y45).length := h45_data.leneq
              have hz45_data_1 : (data).length = (y45).length := hz38_data_1.trans hz45_data
              refine xRe ?_
              refine wpq_then ?_
              refine xSub [(0, Value.slice Adata ((y38.1).length) cdata), (2, vi s3.2.2.1), (3, vi t17.2), (4, Value.func (.func 42) #[] #[Value.pointer (some a_cmpc)]), (10, vb (decide ((IntKind.i64.wrap (y38.2.1 - s3.2.1)) ≥ ((IntKind.i64.wrap (s3.2.2.1 - s3.2.1)) / 8)))), (11, vb y38.2.2), (16, vi y38.2.1)] ?_
              refine xRg ?_
              have z175 := i64_in_ (y38.2.1 + 1)
              refine xB 3 [] [(0, Value.slice Adata ((y38.1).length) cdata), (1, vi (IntKind.i64.wrap (y38.2.1 + 1))), (2, vi s3.2.2.1), (3, vi t17.2), (4, Value.func (.func 42) #[] #[Value.pointer (some a_cmpc)]), (10, vb (decide ((IntKind.i64.wrap (y38.2.1 - s3.2.1)) ≥ ((IntKind.i64.wrap (s3.2.2.1 - s3.2.1)) / 8)))), (11, vb y38.2.2)] ?_
              refine xRe ?_
              refine wpq_re 0 (v := Value.slice Adata ((y38.1).length) cdata) (vs Adata y45 cdata) (by kernel_rfl) (congrArg (fun z => Value.slice Adata z cdata) hz45_data) ?_
              have h45_data := Buf.re h45_data hz45_data (rfl : y45 = _)
              refine xSel [none, some 0] ?_
              refine xSub [(0, vs Adata y45 cdata), (1, vi (IntKind.i64.wrap (y38.2.1 + 1))), (2, vi s3.2.2.1), (3, vi t17.2), (4, Value.func (.func 42) #[] #[Value.pointer (some a_cmpc)]), (10, vb (decide ((IntKind.i64.wrap (y38.2.1 - s3.2.1)) ≥ ((IntKind.i64.wrap (s3.2.2.1 - s3.2.1)) / 8)))), (11, vb y38.2.2)] ?_
              have eS := (Option.some.inj hS).symm
              exact hN41 _ eS _ _ _ e47 ⟨k45_data, by kernel_rfl, by kernel_rfl, h45_data, hz45_data_1⟩
             ·have hS := cond_F h44 hS
              have h44p := of_decide_eq_false h44
              refine xSq ?_
              refine xRg ?_
              refine xB 4 [] [(0, Value.slice Adata ((t28).length) cdata), (1, vi s3.2.1), (2, vi s3.2.2.1), (3, vi t17.2), (4, Value.func (.func 42) #[] #[Value.pointer (some a_cmpc)]), (10, vb (decide ((IntKind.i64.wrap (s3.2.2.1 - y38.2.1)) ≥ ((IntKind.i64.wrap (s3.2.2.1 - s3.2.1)) / 8)))), (11, vb y38.2.2), (16, vi y38.2.1)] ?_
              refine xRe ?_
              refine wpq_then ?_
              refine xSq ?_
              refine xRg ?_
              have z176 := i64_in_ (y38.2.1 + 1)
              refine xB 6 [] [(0, Value.slice Adata ((t28).length) cdata), (1, vi s3.2.1), (3, vi t17.2), (4, Value.func (.func 42) #[] #[Value.pointer (some a_cmpc)]), (10, vb (decide ((IntKind.i64.wrap (s3.2.2.1 - y38.2.1)) ≥ ((IntKind.i64.wrap (s3.2.2.1 - s3.2.1)) / 8)))), (11, vb y38.2.2), (16, vi y38.2.1), (140, Value.slice Adata ((t28).length) cdata), (142, vi (IntKind.i64.wrap (y38.2.1 + 1))), (143, vi s3.2.2.1), (144, vi t17.2), (145, Value.func (.func 42) #[] #[Value.pointer (some a_cmpc)])] ?_
              refine wpq_re 0 (v := Value.slice Adata ((t28).length) cdata) (vs Adata y38.1 cdata) (by kernel_rfl) (congrArg (fun z => Value.slice Adata z cdata) hz38_data) ?_
              have h38_data := Buf.re h38_data hz38_data (rfl : y38.1 = _)
              refine wpq_re 140 (v := Value.slice Adata ((t28).length) cdata) (vs Adata y38.1 cdata) (by kernel_rfl) (congrArg (fun z => Value.slice Adata z cdata) hz38_data) ?_
              refine xSel [some 0, none, some 1] ?_
              have hc_cmpcp := hc_cmpcp.mono e40.r
              have fcmpcp_defs := fcmpcp_defs.mono e40.r
              have fcmpcp_conds := fcmpcp_conds.mono e40.r e40.b
              have hc_cmpc := hc_cmpc.mono e40.r
              obtain ⟨y48, hy48, hS⟩ := bindO_T hS
              refine xE (eC 2 (fun g' lr eb ln => cih g' (y38.1 : List Int) Adata cdata k38_data ((IntKind.i64.wrap (y38.2.1 + 1)) : Int) (s3.2.2.1 : Int) (t17.2 : Int) a_cmpc a_cmpcp cmpcp Acmpcp_defs ccmpcp_defs Acmpcp_conds ccmpcp_conds (by rw [eb]; exact h38_data) (hc_cmpcp.mono lr) (fcmpcp_defs.mono lr) (ArrM.lent fcmpcp_conds lr eb) (hc_cmpc.mono lr) hy48)) ?_
              rintro _ g49 _ e50 ⟨_, rfl, k48_data, rfl, rfl, h48_data⟩
              have nh48_data := h48_data.len
              have hz48_data : (y38.1).length = (y48).length := h48_data.leneq
              have hz48_data_1 : (data).length = (y48).length := hz38_data_1.trans hz48_data
              refine xRe ?_
              refine wpq_then ?_
              refine xSub [(0, Value.slice Adata ((y38.1).length) cdata), (1, vi s3.2.1), (3, vi t17.2), (4, Value.func (.func 42) #[] #[Value.pointer (some a_cmpc)]), (10, vb (decide ((IntKind.i64.wrap (s3.2.2.1 - y38.2.1)) ≥ ((IntKind.i64.wrap (s3.2.2.1 - s3.2.1)) / 8)))), (11, vb y38.2.2), (16, vi y38.2.1)] ?_
              refine xRg ?_
              refine xB 2 [] [(0, Value.slice Adata ((y38.1).length) cdata), (1, vi s3.2.1), (2, vi y38.2.1), (3, vi t17.2), (4, Value.func (.func 42) #[] #[Value.pointer (some a_cmpc)]), (10, vb (decide ((IntKind.i64.wrap (s3.2.2.1 - y38.2.1)) ≥ ((IntKind.i64.wrap (s3.2.2.1 - s3.2.1)) / 8)))), (11, vb y38.2.2)] ?_
              refine xRe ?_
              refine wpq_re 0 (v := Value.slice Adata ((y38.1).length) cdata) (vs Adata y48 cdata) (by kernel_rfl) (congrArg (fun z => Value.slice Adata z cdata) hz48_data) ?_
              have h48_data := Buf.re h48_data hz48_data (rfl : y48 = _)
              refine xSel [none, some 0] ?_
              refine xSub [(0, vs Adata y48 cdata), (1, vi s3.2.1), (2, vi y38.2.1), (3, vi t17.2), (4, Value.func (.func 42) #[] #[Value.pointer (some a_cmpc)]), (10, vb (decide ((IntKind.i64.wrap (s3.2.2.1 - y38.2.1)) ≥ ((IntKind.i64.wrap (s3.2.2.1 - s3.2.1)) / 8)))), (11, vb y38.2.2)] ?_
              have eS := (Option.some.inj hS).symm
              exact hN41 _ eS _ _ _ e50 ⟨k48_data, by kernel_rfl, by kernel_rfl, h48_data, hz48_data_1⟩
          ·intro uu31 hS hN31
           refine wpq_split 83 (b := decide (s3.2.1 > 0)) (by kernel_rfl) (fun q51 => ?_) (fun q51 => ?_)
           ·have hS := cond_T q51 hS
            have q51p := of_decide_eq_true q51
            obtain ⟨q52, hS⟩ := grd_T hS
            have q52p := of_decide_eq_true q52
            refine xT 11 [3, 4, 5] [] [some 1] [(0, vs Adata t28 cdata), (1, vi s3.2.1), (2, vi s3.2.2.1), (3, vi t17.2), (4, Value.func (.func 42) #[] #[Value.pointer (some a_cmpc)]), (10, vb s3.2.2.2.2.1), (11, vb s3.2.2.2.2.2), (12, vi (IntKind.i64.wrap (s3.2.2.1 - s3.2.1))), (13, vi t23.2.1), (83, vb true), (84, Value.func (.func 42) #[] #[Value.pointer (some a_cmpc)]), (85, vs Adata t28 cdata), (86, vi s3.2.1)] RG (Psi.le.refl _) ?_
            refine xTp 6 RG (fun _ => (qSub .i64 (s3.2.1) (1) (wr64 (by omega)))) ?_
            obtain ⟨q54, hS⟩ := grd_T hS
            have q54p := of_decide_eq_true q54
            have i55 : ((s3.2.1 - 1)).toNat < (t28).length := by omega
            obtain ⟨kc53, cs53, hA53, hk53, hr53, hw53⟩ := h28_0.open_ i55 0
            obtain ⟨kb53, rfl⟩ : ∃ z, z = kc53 := ⟨_, rfl⟩
            subst hk53
            have hr53 : cs53 = [vi (List.getD t28 ((s3.2.1 - 1)).toNat 0)] := hr53
            subst hr53
            refine xTp 7 RG (fun _ => (qIxB ((s3.2.1 - 1)).toNat 1 kb53.g hA53 (show ((s3.2.1 - 1) : Int) = _ from by omega) i55)) ?_
            refine xTv 8 [some 1] RG (Psi.le.refl _) (qLdB ((s3.2.1 - 1)).toNat 1 0 0 hw53) ?_
            obtain ⟨q57, hS⟩ := grd_T hS
            have q57p := of_decide_eq_true q57
            have i58 : (t23.2.1).toNat < (t28).length := by omega
            obtain ⟨kc56, cs56, hA56, hk56, hr56, hw56⟩ := h28_0.open_ i58 0
            cases hk56
            have hr56 : cs56 = [vi (List.getD t28 (t23.2.1).toNat 0)] := hr56
            subst hr56
            refine xT 6 [9, 10] [] [some 1] [(0, vs Adata t28 cdata), (1, vi s3.2.1), (2, vi s3.2.2.1), (3, vi t17.2), (4, Value.func (.func 42) #[] #[Value.pointer (some a_cmpc)]), (10, vb s3.2.2.2.2.1), (11, vb s3.2.2.2.2.2), (12, vi (IntKind.i64.wrap (s3.2.2.1 - s3.2.1))), (13, vi t23.2.1), (83, vb true), (84, Value.func (.func 42) #[] #[Value.pointer (some a_cmpc)]), (89, vi (List.getD t28 ((s3.2.1 - 1)).toNat 0)), (90, vs Adata t28 cdata), (91, vi t23.2.1)] RG (Psi.le.refl _) ?_
            refine xTp 11 RG (fun _ => (qIxB (t23.2.1).toNat 1 kb53.g hA56 (show (t23.2.1 : Int) = _ from by omega) i58)) ?_
            refine xTv 12 [some 1] RG (Psi.le.refl _) (qLdB (t23.2.1).toNat 1 0 0 hw56) ?_
            have hc_cmpcp := hc_cmpcp.mono (e22.trans (e25.trans e30)).r
            have fcmpcp_defs := fcmpcp_defs.mono (e22.trans (e25.trans e30)).r
            have fcmpcp_conds := fcmpcp_conds.mono (e22.trans (e25.trans e30)).r (e22.trans (e25.trans e30)).b
            have hc_cmpc := hc_cmpc.mono (e22.trans (e25.trans e30)).r
            obtain ⟨y59, hy59, hS⟩ := bindO_T hS
            refine xO1 (lds := [8, 12]) 13 ?_
            refine xIe (lds := [8, 12]) (Psi.le.refl _) (eC 0 (fun g' lr eb ln => c42 g' ((List.getD t28 ((s3.2.1 - 1)).toNat 0) : Int) ((List.getD t28 (t23.2.1).toNat 0) : Int) a_cmpc a_cmpcp cmpcp Acmpcp_defs ccmpcp_defs Acmpcp_conds ccmpcp_conds (hc_cmpcp.mono lr) (fcmpcp_defs.mono lr) (ArrM.lent fcmpcp_conds lr eb) (hc_cmpc.mono lr) hy59)) ?_
            rintro _ g60 _ e61 ⟨_, rfl, rfl, rfl⟩
            refine kk [some 1] ?_
            refine xT 0 [14, 15, 16] [] [some 1] [(0, vs Adata t28 cdata), (1, vi s3.2.1), (2, vi s3.2.2.1), (3, vi t17.2), (4, Value.func (.func 42) #[] #[Value.pointer (some a_cmpc)]), (10, vb s3.2.2.2.2.1), (11, vb s3.2.2.2.2.2), (12, vi (IntKind.i64.wrap (s3.2.2.1 - s3.2.1))), (13, vi t23.2.1), (97, vb (!decide (y59 < 0)))] RG e61.r ?_
            refine xSel [none, some 1] ?_
            refine xSub [(0, vs Adata t28 cdata), (1, vi s3.2.1), (2, vi s3.2.2.1), (3, vi t17.2), (4, Value.func (.func 42) #[] #[Value.pointer (some a_cmpc)]), (10, vb s3.2.2.2.2.1), (11, vb s3.2.2.2.2.2), (12, vi (IntKind.i64.wrap (s3.2.2.1 - s3.2.1))), (13, vi t23.2.1), (97, vb (!decide (y59 < 0)))] ?_
            exact hN31 _ (Option.some.inj hS).symm _ _ _ e61 ⟨by kernel_rfl, by kernel_rfl⟩
           ·have hS := cond_F q51 hS
            have q51p := of_decide_eq_false q51
            refine xT 4 [3, 4, 5, 6, 7, 8, 9, 10, 11, 12] [] [some 1] [(0, vs Adata t28 cdata), (1, vi s3.2.1), (2, vi s3.2.2.1), (3, vi t17.2), (4, Value.func (.func 42) #[] #[Value.pointer (some a_cmpc)]), (10, vb s3.2.2.2.2.1), (11, vb s3.2.2.2.2.2), (12, vi (IntKind.i64.wrap (s3.2.2.1 - s3.2.1))), (13, vi t23.2.1), (83, vb false), (84, undef), (89, undef), (93, undef)] RG (Psi.le.refl _) ?_
            refine xO1 (lds := [8, 12]) 13 ?_
            refine xIb (lds := [8, 12]) [] ?_
            refine xT 0 [14, 15, 16] [] [some 1] [(0, vs Adata t28 cdata), (1, vi s3.2.1), (2, vi s3.2.2.1), (3, vi t17.2), (4, Value.func (.func 42) #[] #[Value.pointer (some a_cmpc)]), (10, vb s3.2.2.2.2.1), (11, vb s3.2.2.2.2.2), (12, vi (IntKind.i64.wrap (s3.2.2.1 - s3.2.1))), (13, vi t23.2.1), (97, vb false)] RG (Psi.le.refl _) ?_
            refine xSel [none, some 1] ?_
            refine xSub [(0, vs Adata t28 cdata), (1, vi s3.2.1), (2, vi s3.2.2.1), (3, vi t17.2), (4, Value.func (.func 42) #[] #[Value.pointer (some a_cmpc)]), (10, vb s3.2.2.2.2.1), (11, vb s3.2.2.2.2.2), (12, vi (IntKind.i64.wrap (s3.2.2.1 - s3.2.1))), (13, vi t23.2.1), (97, vb false)] ?_
            exact hN31 _ (Option.some.inj hS).symm _ _ _ (Gh.le.refl _) ⟨by kernel_rfl, by kernel_rfl⟩
         ·intro uu28 hS hN28 hD28
          refine xCd (((s3.2.2.2.2.1 && s3.2.2.2.2.2) && (t23.2.2 == 1))) (fun h62 => ?_) (fun h62 => ?_)
          ·have hS := cond_T h62 hS
           have h62l := (and_true_ h62).1
           have h62r := (and_true_ h62).2
           have h62ll := (and_true_ h62l).1
           have h62lr := (and_true_ h62l).2
           have h62rp : t23.2.2 = 1 := eq_of_beq h62r
           refine xSq ?_
           refine xRg ?_
           refine xB 4 [] [(0, vs Adata t23.1 cdata), (1, vi s3.2.1), (2, vi s3.2.2.1), (3, vi t17.2), (4, Value.func (.func 42) #[] #[Value.pointer (some a_cmpc)]), (10, vb s3.2.2.2.2.1), (11, vb s3.2.2.2.2.2), (12, vi (IntKind.i64.wrap (s3.2.2.1 - s3.2.1))), (13, vi t23.2.1), (76, vs Adata t23.1 cdata), (77, vi s3.2.1), (78, vi s3.2.2.1), (79, Value.func (.func 42) #[] #[Value.pointer (some a_cmpc)])] ?_
           refine xSel [some 1, none, some 0] ?_
           have hc_cmpcp := hc_cmpcp.mono (e22.trans e25).r
           have fcmpcp_defs := fcmpcp_defs.mono (e22.trans e25).r
           have fcmpcp_conds := fcmpcp_conds.mono (e22.trans e25).r (e22.trans e25).b
           have hc_cmpc := hc_cmpc.mono (e22.trans e25).r
           obtain ⟨y63, hy63, hS⟩ := bindO_T hS
           refine xE (eC 2 (fun g' lr eb ln => c71f42 g' (t23.1 : List Int) Adata cdata k23_0 (s3.2.1 : Int) (s3.2.2.1 : Int) a_cmpc a_cmpcp cmpcp Acmpcp_defs ccmpcp_defs Acmpcp_conds ccmpcp_conds (by rw [eb]; exact h23_0) (hc_cmpcp.mono lr) (fcmpcp_defs.mono lr) (ArrM.lent fcmpcp_conds lr eb) (hc_cmpc.mono lr) hy63)) ?_
           rintro _ g64 _ e65 ⟨_, rfl, k63_data, rfl, rfl, h63_data⟩
           have nh63_data := h63_data.len
           have hz63_data : (t23.1).length = (y63.1).length := h63_data.leneq
           have hz63_data_1 : (data).length = (y63.1).length := hz23_v0.trans hz63_data
           refine xRe ?_
           refine wpq_then ?_
           refine xSub [(0, Value.slice Adata ((t23.1).length) cdata), (1, vi s3.2.1), (2, vi s3.2.2.1), (3, vi t17.2), (4, Value.func (.func 42) #[] #[Value.pointer (some a_cmpc)]), (10, vb s3.2.2.2.2.1), (11, vb s3.2.2.2.2.2), (12, vi (IntKind.i64.wrap (s3.2.2.1 - s3.2.1))), (13, vi t23.2.1), (80, vb y63.2)] ?_
           refine xCd (y63.2) (fun h66 => ?_) (fun h66 => ?_)
           ·have hS := cond_T h66 hS
            refine wpq_re 0 (v := Value.slice Adata ((t23.1).length) cdata) (vs Adata y63.1 cdata) (by kernel_rfl) (congrArg (fun z => Value.slice Adata z cdata) hz63_data) ?_
            have h63_data := Buf.re h63_data hz63_data (rfl : y63.1 = _)
            have eS := (Option.some.inj hS).symm
            have eS := (hD28 _ eS).symm
            have eS := (hD6 _ eS).symm
            have eS := (hD3 _ eS).symm
            subst eS
            exact xRet [some 0] [] (e5.trans (e19.trans (e22.trans (e25.trans e65)))) ⟨k63_data, by kernel_rfl, by kernel_rfl, (Buf.re h63_data hz63_data_1.symm rfl)⟩ (fun _ _ h => h)
           ·have hS := cond_F h66 hS
            refine xSk ?_
            refine wpq_re 0 (v := Value.slice Adata ((t23.1).length) cdata) (vs Adata y63.1 cdata) (by kernel_rfl) (congrArg (fun z => Value.slice Adata z cdata) hz63_data) ?_
            have h63_data := Buf.re h63_data hz63_data (rfl : y63.1 = _)
            refine xSel [none, some 0] ?_
            refine xSub [(0, vs Adata y63.1 cdata), (1, vi s3.2.1), (2, vi s3.2.2.1), (3, vi t17.2), (4, Value.func (.func 42) #[] #[Value.pointer (some a_cmpc)]), (10, vb s3.2.2.2.2.1), (11, vb s3.2.2.2.2.2), (12, vi (IntKind.i64.wrap (s3.2.2.1 - s3.2.1))), (13, vi t23.2.1)] ?_
            have eS := (Option.some.inj hS).symm
            exact hN28 _ eS _ _ _ e65 ⟨k63_data, by kernel_rfl, by kernel_rfl, h63_data, hz63_data_1⟩
          ·have hS := cond_F h62 hS
           refine xSk ?_
           refine xSel [none, some 1] ?_
           refine xSub [(0, vs Adata t23.1 cdata), (1, vi s3.2.1), (2, vi s3.2.2.1), (3, vi t17.2), (4, Value.func (.func 42) #[] #[Value.pointer (some a_cmpc)]), (10, vb s3.2.2.2.2.1), (11, vb s3.2.2.2.2.2), (12, vi (IntKind.i64.wrap (s3.2.2.1 - s3.2.1))), (13, vi t23.2.1)] ?_
           have eS := (Option.some.inj hS).symm
           exact hN28 _ eS _ _ _ (Gh.le.refl _) ⟨k23_0, by kernel_rfl, by kernel_rfl, h23_0, hz23_v0⟩
      ·intro uu23 hS hN23
       refine xCd ((y20.2 == 2)) (fun h67 => ?_) (fun h67 => ?_)
       ·have hS := cond_T h67 hS
        have h67p : y20.2 = 2 := eq_of_beq h67
        refine xSq ?_
        refine xRg ?_
        refine xB 4 [] [(0, vs Adata t17.1 cdata), (1, vi s3.2.1), (2, vi s3.2.2.1), (3, vi t17.2), (4, Value.func (.func 42) #[] #[Value.pointer (some a_cmpc)]), (10, vb s3.2.2.2.2.1), (11, vb s3.2.2.2.2.2), (12, vi (IntKind.i64.wrap (s3.2.2.1 - s3.2.1))), (13, vi y20.1), (57, vs Adata t17.1 cdata), (58, vi s3.2.1), (59, vi s3.2.2.1), (60, Value.func (.func 42) #[] #[Value.pointer (some a_cmpc)])] ?_
        refine xSel [some 1, none, some 0] ?_
        have h17_0 := h17_0.mono e22.b
        have hc_cmpcp := hc_cmpcp.mono e22.r
        have fcmpcp_defs := fcmpcp_defs.mono e22.r
        have fcmpcp_conds := fcmpcp_conds.mono e22.r e22.b
        have hc_cmpc := hc_cmpc.mono e22.r
        obtain ⟨y68, hy68, hS⟩ := bindO_T hS
        refine xE (eC 2 (fun g' lr eb ln => c70f42 g' (t17.1 : List Int) Adata cdata k17_0 (s3.2.1 : Int) (s3.2.2.1 : Int) a_cmpc a_cmpcp cmpcp Acmpcp_defs ccmpcp_defs Acmpcp_conds ccmpcp_conds (by rw [eb]; exact h17_0) (hc_cmpcp.mono lr) (fcmpcp_defs.mono lr) (ArrM.lent fcmpcp_conds lr eb) (hc_cmpc.mono lr) hy68)) ?_
        rintro _ g69 _ e70 ⟨_, rfl, k68_data, rfl, rfl, h68_data⟩
        have nh68_data := h68_data.len
        have hz68_data : (t17.1).length = (y68).length := h68_data.leneq
        have hz68_data_1 : (data).length = (y68).length := hz17_v0.trans hz68_data
        refine xRe ?_
        refine wpq_then ?_
        refine xSub [(0, Value.slice Adata ((t17.1).length) cdata), (1, vi s3.2.1), (2, vi s3.2.2.1), (3, vi t17.2), (4, Value.func (.func 42) #[] #[Value.pointer (some a_cmpc)]), (10, vb s3.2.2.2.2.1), (11, vb s3.2.2.2.2.2), (12, vi (IntKind.i64.wrap (s3.2.2.1 - s3.2.1))), (13, vi y20.1)] ?_
        refine xSq ?_
        refine xRg ?_
        have z177 := i64_in_ (s3.2.2.1 - 1)
        have z178 := i64_in_ (y20.1 - s3.2.1)
        have z179 := i64_in_ ((IntKind.i64.wrap (s3.2.2.1 - 1)) - (IntKind.i64.wrap (y20.1 - s3.2.1)))
        refine xB 7 [] [(0, Value.slice Adata ((t17.1).length) cdata), (1, vi s3.2.1), (2, vi s3.2.2.1), (3, vi t17.2), (4, Value.func (.func 42) #[] #[Value.pointer (some a_cmpc)]), (10, vb s3.2.2.2.2.1), (11, vb s3.2.2.2.2.2), (12, vi (IntKind.i64.wrap (s3.2.2.1 - s3.2.1))), (13, vi (IntKind.i64.wrap ((IntKind.i64.wrap (s3.2.2.1 - 1)) - (IntKind.i64.wrap (y20.1 - s3.2.1)))))] ?_
        refine xRe ?_
        refine wpq_then ?_
        refine xRg ?_
        refine xB 1 [] [(0, Value.slice Adata ((t17.1).length) cdata), (1, vi s3.2.1), (2, vi s3.2.2.1), (3, vi t17.2), (4, Value.func (.func 42) #[] #[Value.pointer (some a_cmpc)]), (10, vb s3.2.2.2.2.1), (11, vb s3.2.2.2.2.2), (12, vi (IntKind.i64.wrap (s3.2.2.1 - s3.2.1))), (13, vi (IntKind.i64.wrap ((IntKind.i64.wrap (s3.2.2.1 - 1)) - (IntKind.i64.wrap (y20.1 - s3.2.1))))), (14, vi 1)] ?_
        refine xRe ?_
        refine wpq_re 0 (v := Value.slice Adata ((t17.1).length) cdata) (vs Adata y68 cdata) (by kernel_rfl) (congrArg (fun z => Value.slice Adata z cdata) hz68_data) ?_
        have h68_data := Buf.re h68_data hz68_data (rfl : y68 = _)
        refine xSel [none, some 0] ?_
        refine xSub [(0, vs Adata y68 cdata), (1, vi s3.2.1), (2, vi s3.2.2.1), (3, vi t17.2), (4, Value.func (.func 42) #[] #[Value.pointer (some a_cmpc)]), (10, vb s3.2.2.2.2.1), (11, vb s3.2.2.2.2.2), (12, vi (IntKind.i64.wrap (s3.2.2.1 - s3.2.1))), (13, vi (IntKind.i64.wrap ((IntKind.i64.wrap (s3.2.2.1 - 1)) - (IntKind.i64.wrap (y20.1 - s3.2.1))))), (14, vi 1)] ?_
        have eS := (Option.some.inj hS).symm
        exact hN23 _ eS _ _ _ e70 ⟨k68_data, by kernel_rfl, by kernel_rfl, h68_data, hz68_data_1⟩
       ·have hS := cond_F h67 hS
        have h67p : ¬ (y20.2 = 2) := ne_of_beq_false_ h67
        refine xSk ?_
        have h17_0 := h17_0.mono e22.b
        refine xSel [none, some 1] ?_
        refine xSub [(0, vs Adata t17.1 cdata), (1, vi s3.2.1), (2, vi s3.2.2.1), (3, vi t17.2), (4, Value.func (.func 42) #[] #[Value.pointer (some a_cmpc)]), (10, vb s3.2.2.2.2.1), (11, vb s3.2.2.2.2.2), (12, vi (IntKind.i64.wrap (s3.2.2.1 - s3.2.1))), (13, vi y20.1), (14, vi y20.2)] ?_
        have eS := (Option.some.inj hS).symm
        exact hN23 _ eS _ _ _ (Gh.le.refl _) ⟨k17_0, by kernel_rfl, by kernel_rfl, h17_0, hz17_v0⟩
     ·intro uu17 hS hN17
      refine xCd ((!s3.2.2.2.2.1)) (fun h71 => ?_) (fun h71 => ?_)
      ·have hS := cond_T h71 hS
       have h71n := not_eq_true_ h71
       refine xSq ?_
       refine xRg ?_
       refine xB 4 [] [(0, vs Adata s3.1 cdata), (1, vi s3.2.1), (2, vi s3.2.2.1), (3, vi s3.2.2.2.1), (4, Value.func (.func 42) #[] #[Value.pointer (some a_cmpc)]), (10, vb s3.2.2.2.2.1), (11, vb s3.2.2.2.2.2), (12, vi (IntKind.i64.wrap (s3.2.2.1 - s3.2.1))), (40, vs Adata s3.1 cdata), (41, vi s3.2.1), (42, vi s3.2.2.1), (43, Value.func (.func 42) #[] #[Value.pointer (some a_cmpc)])] ?_
       refine xSel [some 1, none, some 0] ?_
       have hc_cmpcp := hc_cmpcp.mono e5.r
       have fcmpcp_defs := fcmpcp_defs.mono e5.r
       have fcmpcp_conds := fcmpcp_conds.mono e5.r e5.b
       have hc_cmpc := hc_cmpc.mono e5.r
       obtain ⟨y72, hy72, hS⟩ := bindO_T hS
       refine xE (eC 2 (fun g' lr eb ln => c68f42 g' (s3.1 : List Int) Adata cdata k3_0 (s3.2.1 : Int) (s3.2.2.1 : Int) a_cmpc a_cmpcp cmpcp Acmpcp_defs ccmpcp_defs Acmpcp_conds ccmpcp_conds (by rw [eb]; exact h3_0) (hc_cmpcp.mono lr) (fcmpcp_defs.mono lr) (ArrM.lent fcmpcp_conds lr eb) (hc_cmpc.mono lr) hy72)) ?_
       rintro _ g73 _ e74 ⟨_, rfl, k72_data, rfl, rfl, h72_data⟩
       have nh72_data := h72_data.len
       have hz72_data : (s3.1).length = (y72).length := h72_data.leneq
       have hz72_data_1 : (data).length = (y72).length := hz3_v0.trans hz72_data
       refine xRe ?_
       refine wpq_then ?_
       refine xSub [(0, Value.slice Adata ((s3.1).length) cdata), (1, vi s3.2.1), (2, vi s3.2.2.1), (3, vi s3.2.2.2.1), (4, Value.func (.func 42) #[] #[Value.pointer (some a_cmpc)]), (10, vb s3.2.2.2.2.1), (11, vb s3.2.2.2.2.2), (12, vi (IntKind.i64.wrap (s3.2.2.1 - s3.2.1)))] ?_
       refine xRg ?_
       have z180 := i64_in_ (s3.2.2.2.1 - 1)
       refine xB 3 [] [(0, Value.slice Adata ((s3.1).length) cdata), (1, vi s3.2.1), (2, vi s3.2.2.1), (3, vi (IntKind.i64.wrap (s3.2.2.2.1 - 1))), (4, Value.func (.func 42) #[] #[Value.pointer (some a_cmpc)]), (10, vb s3.2.2.2.2.1), (11, vb s3.2.2.2.2.2), (12, vi (IntKind.i64.wrap (s3.2.2.1 - s3.2.1)))] ?_
       refine xRe ?_
       refine wpq_re 0 (v := Value.slice Adata ((s3.1).length) cdata) (vs Adata y72 cdata) (by kernel_rfl) (congrArg (fun z => Value.slice Adata z cdata) hz72_data) ?_
       have h72_data := Buf.re h72_data hz72_data (rfl : y72 = _)
       refine xSel [none, some 0] ?_
       refine xSub [(0, vs Adata y72 cdata), (1, vi s3.2.1), (2, vi s3.2.2.1), (3, vi (IntKind.i64.wrap (s3.2.2.2.1 - 1))), (4, Value.func (.func 42) #[] #[Value.pointer (some a_cmpc)]), (10, vb s3.2.2.2.2.1), (11, vb s3.2.2.2.2.2), (12, vi (IntKind.i64.wrap (s3.2.2.1 - s3.2.1)))] ?_
       have eS := (Option.some.inj hS).symm
       exact hN17 _ eS _ _ _ e74 ⟨k72_data, by kernel_rfl, by kernel_rfl, h72_data, hz72_data_1⟩
      ·have hS := cond_F h71 hS
       have h71n := not_eq_false_ h71
       refine xSk ?_
       refine xSel [none, some 1] ?_
       refine xSub [(0, vs Adata s3.1 cdata), (1, vi s3.2.1), (2, vi s3.2.2.1), (3, vi s3.2.2.2.1), (4, Value.func (.func 42) #[] #[Value.pointer (some a_cmpc)]), (10, vb s3.2.2.2.2.1), (11, vb s3.2.2.2.2.2), (12, vi (IntKind.i64.wrap (s3.2.2.1 - s3.2.1)))] ?_
       have eS := (Option.some.inj hS).symm
       exact hN17 _ eS _ _ _ (Gh.le.refl _) ⟨k3_0, by kernel_rfl, by kernel_rfl, h3_0, hz3_v0⟩

def o41f42 (x : List Int) (cmpcp : Board) : Option ((List Int)) :=
 (bindO (τ := Int) (o60 ((((x).length : Nat) : Int) : Int)) fun y1 => (bindO (τ := (List Int)) (o59f42 fuelN (x : List Int) (0 : Int) ((((x).length : Nat) : Int) : Int) (y1 : Int) cmpcp) fun y4 => (some ((y4 : List Int)))))
set_option maxRecDepth 100000 in
theorem c41f42 (g : Gh) (x : List Int) (Ax : Option Addr) (cx : Nat) (kx : Option Bk) (a_cmpc : Addr) (a_cmpcp : Addr) (cmpcp : Board) (Acmpcp_defs : Option Addr) (ccmpcp_defs : Nat) (Acmpcp_conds : Option Addr) (ccmpcp_conds : Nat) (hx : Buf g.b (tyI .i64) 3 (.slice Ax (x).length cx) kx x) (hc_cmpcp : Cells g.r a_cmpcp (cBoard cmpcp Acmpcp_defs ccmpcp_defs Acmpcp_conds ccmpcp_conds)) (fcmpcp_defs : Arr g.r tyAlertDef Acmpcp_defs ccmpcp_defs cmpcp.defs) (fcmpcp_conds : ArrM g.r g.b tyCnd Acmpcp_conds ccmpcp_conds cmpcp.conds) (hc_cmpc : Cells g.r a_cmpc [Value.pointer (some a_cmpcp)]) {r : (List Int)} (hS : o41f42 x cmpcp = some r) :
  Ctr Try.prog 41 [vs Ax x cx, Value.func (.func 42) #[] #[Value.pointer (some a_cmpc)]] g [kx, none] (fun v ψ o => ∃ (ko_x : Option Bk), v = Value.tuple #[] ∧ o = [ko_x] ∧ Buf ψ (tyI .i64) 3 (.slice Ax (x).length cx) ko_x r) := by
 unfold o41f42 at hS
 refine xFn Try.f41 (Try.f41.body.getD .skip) 14 ?_
 have nhx := hx.len
 have nfcmpcp_defs := fcmpcp_defs.len
 have nfcmpcp_conds := fcmpcp_conds.len
 refine xSq ?_
 refine xRg ?_
 refine xB 3 [] [(0, vs Ax x cx), (1, Value.func (.func 42) #[] #[Value.pointer (some a_cmpc)]), (4, vi (((x).length : Nat) : Int))] ?_
 refine xRe ?_
 refine wpq_then ?_
 refine xRg ?_
 refine xB 3 [] [(1, Value.func (.func 42) #[] #[Value.pointer (some a_cmpc)]), (7, vs Ax x cx), (8, vi (((x).length : Nat) : Int)), (9, vi (((x).length : Nat) : Int))] ?_
 refine xV (qConv .i64 .u64 ((((x).length : Nat) : Int)) ((((x).length : Nat) : Int)) (wr_u64 (by omega))) ?_
 obtain ⟨y1, hy1, hS⟩ := bindO_T hS
 refine xE (eC 0 (fun g' lr eb ln => c60 g' ((((x).length : Nat) : Int) : Int) hy1)) ?_
 rintro _ g2 _ e3 ⟨_, rfl, rfl, rfl⟩
 refine xB 1 [] [(7, vs Ax x cx), (8, vi (((x).length : Nat) : Int)), (11, vi y1), (12, Value.func (.func 42) #[] #[Value.pointer (some a_cmpc)])] ?_
 refine xSel [some 0, none, some 1] ?_
 have hx := hx.mono e3.b
 have hc_cmpcp := hc_cmpcp.mono e3.r
 have fcmpcp_defs := fcmpcp_defs.mono e3.r
 have fcmpcp_conds := fcmpcp_conds.mono e3.r e3.b
 have hc_cmpc := hc_cmpc.mono e3.r
 obtain ⟨y4, hy4, hS⟩ := bindO_T hS
 refine xE (eC 2 (fun g' lr eb ln => c59f42 fuelN g' (x : List Int) Ax cx kx (0 : Int) ((((x).length : Nat) : Int) : Int) (y1 : Int) a_cmpc a_cmpcp cmpcp Acmpcp_defs ccmpcp_defs Acmpcp_conds ccmpcp_conds (by rw [eb]; exact hx) (hc_cmpcp.mono lr) (fcmpcp_defs.mono lr) (ArrM.lent fcmpcp_conds lr eb) (hc_cmpc.mono lr) hy4)) ?_
 rintro _ g5 _ e6 ⟨_, rfl, k4_data, rfl, rfl, h4_data⟩
 have nh4_data := h4_data.len
 have hz4_data : (x).length = (y4).length := h4_data.leneq
 refine xRe ?_
 refine wpq_re 7 (v := Value.slice Ax ((x).length) cx) (vs Ax y4 cx) (by kernel_rfl) (congrArg (fun z => Value.slice Ax z cx) hz4_data) ?_
 have h4_data := Buf.re h4_data hz4_data (rfl : y4 = _)
 have eS := (Option.some.inj hS).symm
 subst eS
 exact xFin [some 0] [] (e3.trans e6) ⟨k4_data, by kernel_rfl, by kernel_rfl, (Buf.re h4_data hz4_data.symm rfl)⟩

def o19_L0 (b : Board) (s10 : (List Int) × Nat) : Option (Ctl ((List Int) × Nat) ((List Int))) :=
 (cond (decide (((s10.2 : Nat) : Int) < (((b.defs).length : Nat) : Int))) (bindO (τ := Bool) (o40 b (((s10.2 : Nat) : Int) : Int)) fun y14 => (bindO (τ := (List Int)) (cond (y14) (grd (decide (((s10.1).length + (([(((s10.2 : Nat) : Int) : Int)] : List Int)).length) * 8 ≤ 140737488355328)) (some (((s10.1 ++ ([(((s10.2 : Nat) : Int) : Int)] : List Int)) : List Int)))) (some ((s10.1 : List Int)))) fun t17 => (grd (decide (((s10.2 : Nat) : Int) + 1 ≤ 9223372036854775807)) (some (Ctl.go ((t17 : List Int), (s10.2 + 1))))))) (some (Ctl.done ((s10.1 : List Int)))))
def o19 (b : Board) : Option ((List Int)) :=
 (bindO (τ := (List Int)) (loopO (σ := (List Int) × Nat) (ρ := (List Int)) fuelN (o19_L0 b) (([] : List Int), 0)) fun t2 => (bindO (τ := (List Int)) (o41f42 (t2 : List Int) b) fun y5 => (some ((y5 : List Int)))))
set_option maxRecDepth 100000 in
theorem c19 (g : Gh) (a_b : Addr) (b : Board) (Ab_defs : Option Addr) (cb_defs : Nat) (Ab_conds : Option Addr) (cb_conds : Nat) (hc_b : Cells g.r a_b (cBoard b Ab_defs cb_defs Ab_conds cb_conds)) (fb_defs : Arr g.r tyAlertDef Ab_defs cb_defs b.defs) (fb_conds : ArrM g.r g.b tyCnd Ab_conds cb_conds b.conds) {r : (List Int)} (hS : o19 b = some r) :
  Ctr Try.prog 19 [Value.pointer (some a_b)] g [] (fun v ψ o => ∃ (Ar_0 : Option Addr) (cr_0 : Nat) (kr_0 : Option Bk), v = vs Ar_0 r cr_0 ∧ o = [kr_0] ∧ Buf ψ (tyI .i64) 3 (.slice Ar_0 (r).length cr_0) kr_0 r) := by
 unfold o19 at hS
 refine xFn Try.f19 (Try.f19.body.getD .skip) 27 ?_
 have nfb_defs := fb_defs.len
 have nfb_conds := fb_conds.len
 refine xSq ?_
 refine xRg ?_
 refine xE eB ?_
 rintro _ _ _ - ⟨b1, rfl, rfl, rfl⟩
 refine xB 1 [] [(1, vp b1 0)] ?_
 refine xRe ?_
 refine wpq_then ?_
 refine xSq ?_
 refine xSq ?_
 refine xRg ?_
 refine xB 2 [(0, 0)] [(1, vp b1 0), (6, vb false)] ?_
 refine xRe ?_
 refine wpq_then ?_
 refine xCf ?_
 refine xSk ?_
 refine wpq_then ?_
 refine xSub [(1, vp b1 0)] ?_
 refine xSq ?_
 refine xRg ?_
 refine xB 1 [] [(1, vp b1 0), (3, Value.slice none 0 0)] ?_
 refine xRe ?_
 refine wpq_then ?_
 refine xSq ?_
 refine xSq ?_
 refine xRg ?_
 refine xB 3 [(0, 0)] [(1, vp b1 0), (3, Value.slice none 0 0), (9, Value.pointer (some a_b))] ?_
 refine xV (qLdP a_b 0 hc_b) ?_
 refine xB 2 [] [(1, vp b1 0), (3, Value.slice none 0 0), (11, vi (((b.defs).length : Nat) : Int)), (12, vi 0)] ?_
 refine xRe ?_
 refine wpq_then ?_
 refine xBindO hS (fun g own sl t2 => ∃ (A2_0 : Option Addr) (c2_0 : Nat) (k2_0 : Option Bk), own = [some ⟨b1, 25, [Value.pointer (some a_b)]⟩, k2_0] ∧ sl = [(1, vp b1 0), (3, vs A2_0 t2 c2_0)] ∧ Buf g.b (tyI .i64) 3 (.slice A2_0 (t2).length c2_0) k2_0 t2) ?_ ?_
 ·rintro g3 _ _ t2 e4 ⟨A2_0, c2_0, k2_0, rfl, rfl, h2_0⟩ hS
  have nh2_0 := h2_0.len
  refine wpq_then ?_
  refine xSq ?_
  refine xRg ?_
  refine xB 2 [] [(3, vs A2_0 t2 c2_0), (23, vs A2_0 t2 c2_0), (24, Value.func (.func 42) #[] #[vp b1 0])] ?_
  refine xSel [some 1, none, some 0] ?_
  have hc_b := hc_b.mono e4.r
  have fb_defs := fb_defs.mono e4.r
  have fb_conds := fb_conds.mono e4.r e4.b
  obtain ⟨y5, hy5, hS⟩ := bindO_T hS
  refine xE (eC 2 (fun g' lr eb ln => c41f42 g' (t2 : List Int) A2_0 c2_0 k2_0 ⟨b1, 0, none⟩ a_b b Ab_defs cb_defs Ab_conds cb_conds (by rw [eb]; exact h2_0) (hc_b.mono lr) (fb_defs.mono lr) (ArrM.lent fb_conds lr eb) (cells_lent' 0 b1 0 [Value.pointer (some a_b)] ln) hy5)) ?_
  rintro _ g6 _ e7 ⟨_, rfl, k5_x, rfl, rfl, h5_x⟩
  have nh5_x := h5_x.len
  have hz5_x : (t2).length = (y5).length := h5_x.leneq
  refine xRe ?_
  refine wpq_then ?_
  refine xSub [(3, Value.slice A2_0 ((t2).length) c2_0)] ?_
  refine xSq ?_
  refine xRg ?_
  refine xB 2 [] [(2, Value.slice A2_0 ((t2).length) c2_0)] ?_
  refine xRe ?_
  refine wpq_then ?_
  refine wpq_re 2 (v := Value.slice A2_0 ((t2).length) c2_0) (vs A2_0 y5 c2_0) (by kernel_rfl) (congrArg (fun z => Value.slice A2_0 z c2_0) hz5_x) ?_
  have h5_x := Buf.re h5_x hz5_x (rfl : y5 = _)
  have eS := (Option.some.inj hS).symm
  subst eS
  exact xRet [some 0] [2] (e4.trans e7) ⟨A2_0, c2_0, k5_x, by kernel_rfl, by kernel_rfl, h5_x⟩ (fun _ _ h => h)
 ·intro uu2 hS hN2
  refine xBl 0 ?_
  refine xSel [some 0, none] ?_
  refine xSub [(1, vp b1 0), (3, Value.slice none 0 0), (11, vi (((b.defs).length : Nat) : Int)), (12, vi 0)] ?_
  refine xLo hS (fun g own sl s10 => ∃ (A10_0 : Option Addr) (c10_0 : Nat) (k10_0 : Option Bk), own = [some ⟨b1, 25, [Value.pointer (some a_b)]⟩, k10_0] ∧ sl = [(1, vp b1 0), (3, vs A10_0 s10.1 c10_0), (11, vi (((b.defs).length : Nat) : Int)), (12, vi ((s10.2 : Nat) : Int))] ∧ Buf g.b (tyI .i64) 3 (.slice A10_0 (s10.1).length c10_0) k10_0 s10.1) ⟨none, 0, none, by kernel_rfl, by kernel_rfl, Buf.nil⟩ ?_
  rintro g11 _ _ s10 uu10 e12 ⟨A10_0, c10_0, k10_0, rfl, rfl, h10_0⟩ hS Qr10 hN10 hD10
  have nh10_0 := h10_0.len
  unfold o19_L0 at hS
  refine xSq ?_
  refine xRg ?_
  refine xB 1 [] [(1, vp b1 0), (3, vs A10_0 s10.1 c10_0), (11, vi (((b.defs).length : Nat) : Int)), (12, vi ((s10.2 : Nat) : Int)), (13, vb (decide (((s10.2 : Nat) : Int) < (((b.defs).length : Nat) : Int))))] ?_
  refine xRe ?_
  refine wpq_then ?_
  refine xSq ?_
  refine xCd (decide (((s10.2 : Nat) : Int) < (((b.defs).length : Nat) : Int))) (fun h13 => ?_) (fun h13 => ?_)
  ·have hS := cond_T h13 hS
   have h13p := of_decide_eq_true h13
   refine xSk ?_
   refine wpq_then ?_
   refine xSub [(1, vp b1 0), (3, vs A10_0 s10.1 c10_0), (11, vi (((b.defs).length : Nat) : Int)), (12, vi ((s10.2 : Nat) : Int))] ?_
   refine xSq ?_
   refine xBl 1 ?_
   refine xSq ?_
   refine xRg ?_
   refine xB 2 [] [(1, vp b1 0), (3, vs A10_0 s10.1 c10_0), (4, vi ((s10.2 : Nat) : Int)), (11, vi (((b.defs).length : Nat) : Int)), (12, vi ((s10.2 : Nat) : Int))] ?_
   refine xRe ?_
   refine wpq_then ?_
   refine xSq ?_
   refine xRg ?_
   refine xB 2 [(0, 0)] [(1, vp b1 0), (3, vs A10_0 s10.1 c10_0), (4, vi ((s10.2 : Nat) : Int)), (11, vi (((b.defs).length : Nat) : Int)), (12, vi ((s10.2 : Nat) : Int)), (15, Value.pointer (some a_b)), (16, vi ((s10.2 : Nat) : Int))] ?_
   have hc_b := hc_b.mono e12.r
   have fb_defs := fb_defs.mono e12.r
   have fb_conds := fb_conds.mono e12.r e12.b
   obtain ⟨y14, hy14, hS⟩ := bindO_T hS
   refine xE (eC 0 (fun g' lr eb ln => c40 g' a_b b Ab_defs cb_defs Ab_conds cb_conds (((s10.2 : Nat) : Int) : Int) (hc_b.mono lr) (fb_defs.mono lr) (ArrM.lent fb_conds lr eb) hy14)) ?_
   rintro _ g15 _ e16 ⟨_, rfl, rfl, rfl⟩
   refine xRe ?_
   refine wpq_then ?_
   refine xSub [(1, vp b1 0), (3, vs A10_0 s10.1 c10_0), (4, vi ((s10.2 : Nat) : Int)), (11, vi (((b.defs).length : Nat) : Int)), (12, vi ((s10.2 : Nat) : Int)), (17, vb y14)] ?_
   refine xBindO hS (fun g own sl t17 => ∃ (A17_0 : Option Addr) (c17_0 : Nat) (k17_0 : Option Bk), own = [some ⟨b1, 25, [Value.pointer (some a_b)]⟩, k17_0] ∧ sl = [(1, vp b1 0), (3, vs A17_0 t17 c17_0), (11, vi (((b.defs).length : Nat) : Int)), (12, vi ((s10.2 : Nat) : Int))] ∧ Buf g.b (tyI .i64) 3 (.slice A17_0 (t17).length c17_0) k17_0 t17) ?_ ?_
   ·rintro g18 _ _ t17 e19 ⟨A17_0, c17_0, k17_0, rfl, rfl, h17_0⟩ hS
    have nh17_0 := h17_0.len
    refine wpq_blockN ?_
    refine wpq_then ?_
    refine xRg ?_
    obtain ⟨q20, hS⟩ := grd_T hS
    have q20p := of_decide_eq_true q20
    refine xV (qAdd .i64 (((s10.2 : Nat) : Int)) (1) (wr64 (by omega))) ?_
    refine xB 1 [] [(1, vp b1 0), (3, vs A17_0 t17 c17_0), (11, vi (((b.defs).length : Nat) : Int)), (12, vi (((s10.2 : Nat) : Int) + 1))] ?_
    refine xRe ?_
    refine wpq_thenN ?_
    refine xSub [(1, vp b1 0), (3, vs A17_0 t17 c17_0), (11, vi (((b.defs).length : Nat) : Int)), (12, vi (((s10.2 : Nat) : Int) + 1))] ?_
    have eS := (Option.some.inj hS).symm
    exact hN10 _ eS _ _ _ (e16.trans e19) ⟨A17_0, c17_0, k17_0, by kernel_rfl, by kernel_rfl, h17_0⟩
   ·intro uu17 hS hN17
    refine xCd (y14) (fun h21 => ?_) (fun h21 => ?_)
    ·have hS := cond_T h21 hS
     refine xRg ?_
     refine xB 2 [] [(1, vp b1 0), (3, vs A10_0 s10.1 c10_0), (11, vi (((b.defs).length : Nat) : Int)), (12, vi ((s10.2 : Nat) : Int)), (18, vs A10_0 s10.1 c10_0), (19, vi ((s10.2 : Nat) : Int))] ?_
     refine xE (eBs (T := (tyI .i64)) (p := g15.b) (et := 3) (xs := ([(((s10.2 : Nat) : Int) : Int)] : List Int)) (reps_cons (c := [vi ((s10.2 : Nat) : Int)]) (show (tyI .i64).rep _ _ _ from rfl) reps_nil) (by simp)) ?_
     rintro _ _ _ - ⟨A22, c22, k22, rfl, rfl, rfl, h22⟩
     have h10_0 := h10_0.mono e16.b
     obtain ⟨nw23, hp23, hs23⟩ := h22.srcO (g := g15)
     obtain ⟨q24, hS⟩ := grd_T hS
     have q24p := of_decide_eq_true q24
     refine xE (eApp (T := (tyI .i64)) (p := g15.b) (et := 3) (bytes := 8) (xs := (s10.1 : List Int)) (ys := (([(((s10.2 : Nat) : Int) : Int)] : List Int) : List Int)) 2 h10_0 rfl (fun w hs => hs23 0 w _ hs (by kernel_rfl)) hp23 (by first | omega | (simp only [List.length_cons, List.length_nil] at *; omega)) (by first | omega | (simp only [List.length_cons, List.length_nil] at *; omega))) ?_
     rintro _ _ _ - ⟨A23, c23, k23, rfl, rfl, rfl, h23⟩
     have nh23 := h23.len
     have hz23 : ((s10.1 ++ ([(((s10.2 : Nat) : Int) : Int)] : List Int)) : List Int).length = (s10.1).length + (([(((s10.2 : Nat) : Int) : Int)] : List Int)).length := List.length_append
     refine xB 1 [] [(1, vp b1 0), (3, vs A23 (s10.1 ++ ([(((s10.2 : Nat) : Int) : Int)] : List Int)) c23), (11, vi (((b.defs).length : Nat) : Int)), (12, vi ((s10.2 : Nat) : Int))] ?_
     refine xRe ?_
     refine xSel [some 1, some 2] ?_
     refine xSub [(1, vp b1 0), (3, vs A23 (s10.1 ++ ([(((s10.2 : Nat) : Int) : Int)] : List Int)) c23), (11, vi (((b.defs).length : Nat) : Int)), (12, vi ((s10.2 : Nat) : Int))] ?_
     have eS := (Option.some.inj hS).symm
     exact hN17 _ eS _ _ _ (Gh.le.refl _) ⟨A23, c23, k23, by kernel_rfl, by kernel_rfl, h23⟩
    ·have hS := cond_F h21 hS
     refine xSk ?_
     have h10_0 := h10_0.mono e16.b
     refine xSub [(1, vp b1 0), (3, vs A10_0 s10.1 c10_0), (11, vi (((b.defs).length : Nat) : Int)), (12, vi ((s10.2 : Nat) : Int))] ?_
     have eS := (Option.some.inj hS).symm
     exact hN17 _ eS _ _ _ (Gh.le.refl _) ⟨A10_0, c10_0, k10_0, by kernel_rfl, by kernel_rfl, h10_0⟩
  ·have hS := cond_F h13 hS
   have h13p := of_decide_eq_false h13
   refine xEx 0 ?_
   refine wpq_thenX ?_
   refine wpq_thenX ?_
   refine wpq_blockE ?_
   refine xSub [(1, vp b1 0), (3, vs A10_0 s10.1 c10_0)] ?_
   have eS := (Option.some.inj hS).symm
   have eS := (hD10 _ eS).symm
   exact hN2 _ eS _ _ _ e12 ⟨A10_0, c10_0, k10_0, by kernel_rfl, by kernel_rfl, h10_0⟩

def o21 (b : Board) : Option (Int) :=
 (bindO (τ := (List Int)) (o19 b) fun y1 => (cond (((((y1).length : Nat) : Int) == 0)) (some ((0 : Int))) (grd (decide (0 ≤ (List.getD y1 0 0) ∧ (List.getD y1 0 0) < (((b.defs).length : Nat) : Int))) (some (((List.getD b.defs ((List.getD y1 0 0)).toNat default).level : Int))))))
set_option maxRecDepth 100000 in
theorem c21 (g : Gh) (a_b : Addr) (b : Board) (Ab_defs : Option Addr) (cb_defs : Nat) (Ab_conds : Option Addr) (cb_conds : Nat) (hc_b : Cells g.r a_b (cBoard b Ab_defs cb_defs Ab_conds cb_conds)) (fb_defs : Arr g.r tyAlertDef Ab_defs cb_defs b.defs) (fb_conds : ArrM g.r g.b tyCnd Ab_conds cb_conds b.conds) {r : Int} (hS : o21 b = some r) :
  Ctr Try.prog 21 [Value.pointer (some a_b)] g [] (fun v ψ o => v = vy r ∧ o = []) := by
 unfold o21 at hS
 refine xFn Try.f21 (Try.f21.body.getD .skip) 19 ?_
 have nfb_defs := fb_defs.len
 have nfb_conds := fb_conds.len
 refine xSq ?_
 refine xRg ?_
 refine xB 1 [] [(0, Value.pointer (some a_b))] ?_
 refine xRe ?_
 refine wpq_then ?_
 refine xSq ?_
 refine xRg ?_
 refine xB 1 [] [(0, Value.pointer (some a_b)), (4, Value.pointer (some a_b))] ?_
 obtain ⟨y1, hy1, hS⟩ := bindO_T hS
 refine xE (eC 0 (fun g' lr eb ln => c19 g' a_b b Ab_defs cb_defs Ab_conds cb_conds (hc_b.mono lr) (fb_defs.mono lr) (ArrM.lent fb_conds lr eb) hy1)) ?_
 rintro _ g2 _ e3 ⟨_, rfl, A1_0, c1_0, k1_0, rfl, rfl, h1_0⟩
 have nh1_0 := h1_0.len
 refine xB 1 [] [(0, Value.pointer (some a_b)), (3, vs A1_0 y1 c1_0)] ?_
 refine xRe ?_
 refine wpq_then ?_
 refine xSq ?_
 refine xSq ?_
 refine xRg ?_
 refine xB 3 [] [(0, Value.pointer (some a_b)), (3, vs A1_0 y1 c1_0), (8, vb ((((y1).length : Nat) : Int) == 0))] ?_
 refine xRe ?_
 refine wpq_then ?_
 refine xCd (((((y1).length : Nat) : Int) == 0)) (fun h4 => ?_) (fun h4 => ?_)
 ·have hS := cond_T h4 hS
  have h4p : (((y1).length : Nat) : Int) = 0 := eq_of_beq h4
  refine xSq ?_
  refine xRg ?_
  refine xB 1 [] [(2, vy 0)] ?_
  refine xRe ?_
  refine wpq_then ?_
  have eS := (Option.some.inj hS).symm
  subst eS
  exact xRet [] [2] e3 ⟨by kernel_rfl, by kernel_rfl⟩ (fun _ _ h => h)
 ·have hS := cond_F h4 hS
  have h4p : ¬ ((((y1).length : Nat) : Int) = 0) := ne_of_beq_false_ h4
  refine xSk ?_
  refine wpq_then ?_
  refine xSub [(0, Value.pointer (some a_b)), (3, vs A1_0 y1 c1_0)] ?_
  refine xSq ?_
  refine xDr 0 [3, 6, 9] [10] [k1_0] 11 (fun RG => ?_) (fun _ _ _ _ _ h => h)
  have hc_b := hc_b.mono e3.r
  refine xT 8 [0, 1, 2] [] [some 0] [(3, vs A1_0 y1 c1_0), (11, Value.pointer (some a_b))] RG (Psi.le.refl _) ?_
  refine xTv 3 [some 0] RG (Psi.le.refl _) (qLdP a_b 0 hc_b) ?_
  have i6 : 0 < (y1).length := by omega
  obtain ⟨kc5, cs5, hA5, hk5, hr5, hw5⟩ := h1_0.open_ i6 0
  obtain ⟨kb5, rfl⟩ : ∃ z, z = kc5 := ⟨_, rfl⟩
  subst hk5
  have hr5 : cs5 = [vi (List.getD y1 0 0)] := hr5
  subst hr5
  refine xT 6 [4] [] [some 0] [(12, vs Ab_defs b.defs cb_defs), (13, vs A1_0 y1 c1_0)] RG (Psi.le.refl _) ?_
  refine xTp 5 RG (fun _ => (qIxB 0 1 kb5.g hA5 rfl i6)) ?_
  refine xTv 6 [some 0] RG (Psi.le.refl _) (qLdB 0 1 0 0 hw5) ?_
  have fb_defs := fb_defs.mono e3.r
  obtain ⟨q8, hS⟩ := grd_T hS
  have q8p := of_decide_eq_true q8
  have i9 : ((List.getD y1 0 0)).toNat < (b.defs).length := by omega
  obtain ⟨ad7, cs7, hA7, hr7, hc7⟩ := fb_defs.at_ (get_getD (d := default) i9)
  obtain ⟨rfl⟩ := hr7
  refine xTp 7 RG (fun _ => (qIx ((List.getD y1 0 0)).toNat 3 hA7 (show ((List.getD y1 0 0) : Int) = _ from by omega) i9)) ?_
  refine xT 2 [8] [] [some 0] [(17, Value.pointer (some (Addr.add (Addr.add ad7 (((List.getD y1 0 0)).toNat * 3)) 1)))] RG (Psi.le.refl _) ?_
  refine xTv 9 [some 0] RG (Psi.le.refl _) (qLdP (Addr.add ad7 (((List.getD y1 0 0)).toNat * 3)) 1 hc7) ?_
  refine xT 0 [10] [] [some 0] [(2, vy ((List.getD b.defs ((List.getD y1 0 0)).toNat default).level))] RG (Psi.le.refl _) ?_
  refine xAe (lds := [3, 6, 9]) ?_
  refine wpq_then ?_
  have eS := (Option.some.inj hS).symm
  subst eS
  exact xRet [] [2] e3 ⟨by kernel_rfl, by kernel_rfl⟩ (fun _ _ h => h)

def o18 (b : Board) (i : Int) : Option (Board × Int) :=
 (cond ((decide (i < 0) || decide (i ≥ (((b.defs).length : Nat) : Int)))) (some ((b, (2 : Int)))) (bindO (τ := Bool) (o40 b (i : Int)) fun y3 => (cond ((!y3)) (some ((b, (8 : Int)))) (grd (decide (0 ≤ i ∧ i < (((b.conds).length : Nat) : Int))) (some ((({ b with conds := (List.set b.conds (i).toNat ({ (List.getD b.conds (i).toNat default) with acked := true })) }), (0 : Int))))))))
set_option maxRecDepth 100000 in
theorem c18 (g : Gh) (b_b : Nat) (b : Board) (Ab_defs : Option Addr) (cb_defs : Nat) (Ab_conds : Option Addr) (cb_conds : Nat) (kb_conds : Option Bk) (i : Int) (fb_defs : Arr g.b tyAlertDef Ab_defs cb_defs b.defs) (hb_conds : Buf g.b tyCnd 79 (.slice Ab_conds (b.conds).length cb_conds) kb_conds b.conds) {r : Board × Int} (hS : o18 b i = some r) :
  Ctr Try.prog 18 [vp b_b 0, vi i] g [some ⟨b_b, 71, (cBoard b Ab_defs cb_defs Ab_conds cb_conds)⟩, kb_conds] (fun v ψ o => ∃ (Ao_b_defs : Option Addr) (co_b_defs : Nat) (Ao_b_conds : Option Addr) (co_b_conds : Nat) (ko_b_conds : Option Bk), v = vi r.2 ∧ o = [some ⟨b_b, 71, (cBoard r.1 Ao_b_defs co_b_defs Ao_b_conds co_b_conds)⟩, ko_b_conds] ∧ Arr ψ tyAlertDef Ao_b_defs co_b_defs r.1.defs ∧ Buf ψ tyCnd 79 (.slice Ao_b_conds (r.1.conds).length co_b_conds) ko_b_conds r.1.conds) := by
 unfold o18 at hS
 refine xFn Try.f18 (Try.f18.body.getD .skip) 29 ?_
 have nfb_defs := fb_defs.len
 have nhb_conds := hb_conds.len
 refine xSq ?_
 refine xRg ?_
 refine xB 1 [] [(0, vp b_b 0), (1, vi i)] ?_
 refine xRe ?_
 refine wpq_then ?_
 refine xSq ?_
 refine xSq ?_
 refine xRg ?_
 refine xB 2 [] [(0, vp b_b 0), (1, vi i), (6, vb false)] ?_
 refine xRe ?_
 refine wpq_then ?_
 refine xCf ?_
 refine xSk ?_
 refine wpq_then ?_
 refine xSub [(0, vp b_b 0), (1, vi i)] ?_
 refine xSq ?_
 refine xSq ?_
 refine xRg ?_
 refine xB 3 [] [(0, vp b_b 0), (1, vi i), (9, vb (decide (i < 0)))] ?_
 refine wpr_grp 11 [(0, vp b_b 0), (1, vi i), (17, vb (decide (i < 0) || decide (i ≥ (((b.defs).length : Nat) : Int))))] (fun hk2 => ?_) ?_
 ·refine wpq_split 9 (b := decide (i < 0)) (by kernel_rfl) (fun q1 => ?_) (fun q1 => ?_)
  ·have q1p := of_decide_eq_true q1
   refine xB 8 [] [(0, vp b_b 0), (1, vi i), (17, vb true)] ?_
   refine wpq_re 17 (v := vb true) (Value.bool ((decide (i < 0) || decide (i ≥ (((b.defs).length : Nat) : Int))))) (by kernel_rfl) (re_or1 q1) ?_
   exact wpq_sub _ (by kernel_rfl) hk2
  ·have q1p := of_decide_eq_false q1
   refine xB 8 [(7, 0)] [(0, vp b_b 0), (1, vi i), (17, vb (decide (i ≥ (((b.defs).length : Nat) : Int))))] ?_
   refine wpq_re 17 (v := vb (decide (i ≥ (((b.defs).length : Nat) : Int)))) (Value.bool ((decide (i < 0) || decide (i ≥ (((b.defs).length : Nat) : Int))))) (by kernel_rfl) (re_or0 q1) ?_
   exact wpq_sub _ (by kernel_rfl) hk2
 ·refine xRe ?_
  refine wpq_then ?_
  refine xCd ((decide (i < 0) || decide (i ≥ (((b.defs).length : Nat) : Int)))) (fun h2 => ?_) (fun h2 => ?_)
  ·have hS := cond_T h2 hS
   refine xSq ?_
   refine xRg ?_
   refine xB 1 [] [(4, vi 2)] ?_
   refine xRe ?_
   refine wpq_then ?_
   have eS := (Option.some.inj hS).symm
   subst eS
   exact xRet [some 0, some 1] [4] (Gh.le.refl _) ⟨Ab_defs, cb_defs, Ab_conds, cb_conds, kb_conds, by kernel_rfl, by kernel_rfl, fb_defs, hb_conds⟩ (fun _ _ h => h)
  ·have hS := cond_F h2 hS
   have h2l := (or_false_ h2).1
   have h2r := (or_false_ h2).2
   have h2lp := of_decide_eq_false h2l
   have h2rp := of_decide_eq_false h2r
   refine xSk ?_
   refine wpq_then ?_
   refine xSub [(0, vp b_b 0), (1, vi i)] ?_
   refine xSq ?_
   refine xSq ?_
   refine xRg ?_
   refine xB 2 [] [(0, vp b_b 0), (1, vi i), (18, vp b_b 0), (19, vi i)] ?_
   obtain ⟨y3, hy3, hS⟩ := bindO_T hS
   refine xE (eC 0 (fun g' lr eb ln => c40 g' ⟨b_b, 0, none⟩ b Ab_defs cb_defs Ab_conds cb_conds (i : Int) (cells_lent' 0 b_b 0 (cBoard b Ab_defs cb_defs Ab_conds cb_conds) ln) ((fb_defs.mono g.br).mono lr) (arrm_of_buf hb_conds eb (lentk 1 (by kernel_rfl) ln)) hy3)) ?_
   rintro _ g4 _ e5 ⟨_, rfl, rfl, rfl⟩
   refine xB 1 [] [(0, vp b_b 0), (1, vi i), (21, vb (!y3))] ?_
   refine xRe ?_
   refine wpq_then ?_
   refine xCd ((!y3)) (fun h6 => ?_) (fun h6 => ?_)
   ·have hS := cond_T h6 hS
    have h6n := not_eq_true_ h6
    refine xSq ?_
    refine xRg ?_
    refine xB 1 [] [(4, vi 8)] ?_
    refine xRe ?_
    refine wpq_then ?_
    have fb_defs := fb_defs.mono e5.b
    have hb_conds := hb_conds.mono e5.b
    have eS := (Option.some.inj hS).symm
    subst eS
    exact xRet [some 0, some 1] [4] e5 ⟨Ab_defs, cb_defs, Ab_conds, cb_conds, kb_conds, by kernel_rfl, by kernel_rfl, fb_defs, hb_conds⟩ (fun _ _ h => h)
   ·have hS := cond_F h6 hS
    have h6n := not_eq_false_ h6
    refine xSk ?_
    refine wpq_then ?_
    refine xSub [(0, vp b_b 0), (1, vi i)] ?_
    refine xSq ?_
    refine xRg ?_
    have hb_conds := hb_conds.mono e5.b
    obtain ⟨q8, hS⟩ := grd_T hS
    have q8p := of_decide_eq_true q8
    have i9 : (i).toNat < (b.conds).length := by omega
    obtain ⟨kc7, cs7, hA7, hk7, hr7, hw7⟩ := hb_conds.open_ i9 default
    obtain ⟨kb7, rfl⟩ : ∃ z, z = kc7 := ⟨_, rfl⟩
    subst hk7
    obtain ⟨rfl⟩ := hr7
    refine xB 5 [(3, 0)] [(25, vs Ab_conds b.conds cb_conds), (26, vi i)] ?_
    refine xV (qIxB (i).toNat 2 kb7.g hA7 (show (i : Int) = _ from by omega) i9) ?_
    refine xB 1 [] [(28, Value.pointer (some ⟨kb7.g, (i).toNat * 2 + 1, none⟩))] ?_
    refine xD (eStB (i).toNat 2 1 1 [vb true] hb_conds rfl hw7 (show tyCnd.rep _ _ ({ (List.getD b.conds (i).toNat default) with acked := true }) from rfl) i9) ?_
    rintro _ _ _ - ⟨k10, rfl, rfl, h10⟩
    have hz10 : (b.conds).length = ((List.set b.conds (i).toNat ({ (List.getD b.conds (i).toNat default) with acked := true }))).length := by simp
    refine xRe ?_
    refine wpq_then ?_
    refine xSub [] ?_
    refine xSq ?_
    refine xRg ?_
    refine xB 1 [] [(4, vi 0)] ?_
    refine xRe ?_
    refine wpq_then ?_
    refine xOwn [some ⟨b_b, 71, [vs Ab_defs b.defs cb_defs, vi b.steps, vy b.phase, Value.slice Ab_conds ((b.conds).length) cb_conds]⟩, k10] ?_
    have h10 := Buf.re h10 hz10 (rfl : (List.set b.conds (i).toNat ({ (List.getD b.conds (i).toNat default) with acked := true })) = _)
    refine wpq_own [some ⟨b_b, 71, (cBoard ({ b with conds := (List.set b.conds (i).toNat ({ (List.getD b.conds (i).toNat default) with acked := true })) }) Ab_defs cb_defs Ab_conds cb_conds)⟩, k10] (by rw [hz10]) ?_
    have fb_defs := fb_defs.mono e5.b
    have eS := (Option.some.inj hS).symm
    subst eS
    exact xRet [some 0, some 1] [4] e5 ⟨Ab_defs, cb_defs, Ab_conds, cb_conds, k10, by kernel_rfl, by kernel_rfl, fb_defs, h10⟩ (fun _ _ h => h)

end Go.Proofs.Ytfhchendnfpbkaa
