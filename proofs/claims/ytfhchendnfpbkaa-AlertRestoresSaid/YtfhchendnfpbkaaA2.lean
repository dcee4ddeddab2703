/-
Walks, printed by wip/gen, with half of their indentation. Conditions: each theorem's own.
-/
import Derived.Test.YtfhchendnfpbkaaA1
namespace Go.Proofs.Ytfhchendnfpbkaa
set_option linter.unusedVariables false
set_option linter.unusedSimpArgs false
open Go.RowKit
def o71f42_L1 (b : Int) (cmpcp : Board) (s46 : (List Int) × Int) : Option (Ctl ((List Int) × Int) ((List Int))) :=
 (cond (decide (s46.2 < b)) (grd (decide (0 ≤ s46.2 ∧ s46.2 < (((s46.1).length : Nat) : Int))) (grd (decide (0 ≤ (IntKind.i64.wrap (s46.2 - 1)) ∧ (IntKind.i64.wrap (s46.2 - 1)) < (((s46.1).length : Nat) : Int))) (bindO (τ := Int) (o42 ((List.getD s46.1 (s46.2).toNat 0) : Int) ((List.getD s46.1 ((IntKind.i64.wrap (s46.2 - 1))).toNat 0) : Int) cmpcp) fun y56 => (cond ((!decide (y56 < 0))) (some (Ctl.done ((s46.1 : List Int)))) (grd (decide (0 ≤ (IntKind.i64.wrap (s46.2 - 1)) ∧ (IntKind.i64.wrap (s46.2 - 1)) < (((s46.1).length : Nat) : Int))) (grd (decide (0 ≤ s46.2 ∧ s46.2 < (((s46.1).length : Nat) : Int))) (grd (decide (0 ≤ s46.2 ∧ s46.2 < (((s46.1).length : Nat) : Int))) (grd (decide (0 ≤ (IntKind.i64.wrap (s46.2 - 1)) ∧ (IntKind.i64.wrap (s46.2 - 1)) < ((((List.set s46.1 (s46.2).toNat ((List.getD s46.1 ((IntKind.i64.wrap (s46.2 - 1))).toNat 0) : Int))).length : Nat) : Int))) (some (Ctl.go (((List.set (List.set s46.1 (s46.2).toNat ((List.getD s46.1 ((IntKind.i64.wrap (s46.2 - 1))).toNat 0) : Int)) ((IntKind.i64.wrap (s46.2 - 1))).toNat ((List.getD s46.1 (s46.2).toNat 0) : Int)) : List Int), (IntKind.i64.wrap (s46.2 + 1))))))))))))) (some (Ctl.done ((s46.1 : List Int)))))
def o71f42_L2 (cmpcp : Board) (s81 : (List Int) × Int) : Option (Ctl ((List Int) × Int) ((List Int))) :=
 (cond (decide (s81.2 ≥ 1)) (grd (decide (0 ≤ s81.2 ∧ s81.2 < (((s81.1).length : Nat) : Int))) (grd (decide (-9223372036854775808 ≤ s81.2 - 1 ∧ s81.2 - 1 ≤ 9223372036854775807)) (grd (decide (0 ≤ (s81.2 - 1) ∧ (s81.2 - 1) < (((s81.1).length : Nat) : Int))) (bindO (τ := Int) (o42 ((List.getD s81.1 (s81.2).toNat 0) : Int) ((List.getD s81.1 ((s81.2 - 1)).toNat 0) : Int) cmpcp) fun y92 => (cond ((!decide (y92 < 0))) (some (Ctl.done ((s81.1 : List Int)))) (grd (decide (-9223372036854775808 ≤ s81.2 - 1 ∧ s81.2 - 1 ≤ 9223372036854775807)) (grd (decide (-9223372036854775808 ≤ s81.2 - 1 ∧ s81.2 - 1 ≤ 9223372036854775807)) (grd (decide (0 ≤ (s81.2 - 1) ∧ (s81.2 - 1) < (((s81.1).length : Nat) : Int))) (grd (decide (0 ≤ s81.2 ∧ s81.2 < (((s81.1).length : Nat) : Int))) (grd (decide (0 ≤ s81.2 ∧ s81.2 < (((s81.1).length : Nat) : Int))) (grd (decide (0 ≤ (s81.2 - 1) ∧ (s81.2 - 1) < ((((List.set s81.1 (s81.2).toNat ((List.getD s81.1 ((s81.2 - 1)).toNat 0) : Int))).length : Nat) : Int))) (grd (decide (-9223372036854775808 ≤ s81.2 - 1 ∧ s81.2 - 1 ≤ 9223372036854775807)) (some (Ctl.go (((List.set (List.set s81.1 (s81.2).toNat ((List.getD s81.1 ((s81.2 - 1)).toNat 0) : Int)) ((s81.2 - 1)).toNat ((List.getD s81.1 (s81.2).toNat 0) : Int)) : List Int), (s81.2 - 1)))))))))))))))) (some (Ctl.done ((s81.1 : List Int)))))
def o71f42_L3 (b : Int) (cmpcp : Board) (s6 : (List Int) × Int × Nat) (s116 : Int) : Option (Ctl (Int) (Int)) :=
 (bindO (τ := Bool) (cond (decide (s116 < b)) (grd (decide (0 ≤ s116 ∧ s116 < (((s6.1).length : Nat) : Int))) (grd (decide (0 ≤ (IntKind.i64.wrap (s116 - 1)) ∧ (IntKind.i64.wrap (s116 - 1)) < (((s6.1).length : Nat) : Int))) (bindO (τ := Int) (o42 ((List.getD s6.1 (s116).toNat 0) : Int) ((List.getD s6.1 ((IntKind.i64.wrap (s116 - 1))).toNat 0) : Int) cmpcp) fun y130 => (some (!decide (y130 < 0)))))) (some (false))) fun t119 => (cond (t119) (some (Ctl.go (IntKind.i64.wrap (s116 + 1)))) (some (Ctl.done (s116)))))
def o71f42_L0 (a : Int) (b : Int) (cmpcp : Board) (s6 : (List Int) × Int × Nat) : Option (Ctl ((List Int) × Int × Nat) (Ctl ((List Int)) ((List Int) × Bool))) :=
 (cond (decide (((s6.2.2 : Nat) : Int) < 5)) (joinO (τ := (List Int) × Int) (ρ := Ctl ((List Int) × Int × Nat) (Ctl ((List Int)) ((List Int) × Bool))) (bindO (τ := Int) (loopO (σ := Int) (ρ := Int) fuelN (o71f42_L3 b cmpcp s6) (s6.2.1)) fun t14 => (cond ((t14 == b)) (some (Ctl.done (Ctl.done (Ctl.done (((s6.1 : List Int), (true))))))) (cond (decide ((IntKind.i64.wrap (b - a)) < 50)) (some (Ctl.done (Ctl.done (Ctl.done (((s6.1 : List Int), (false))))))) (grd (decide (0 ≤ (IntKind.i64.wrap (t14 - 1)) ∧ (IntKind.i64.wrap (t14 - 1)) < (((s6.1).length : Nat) : Int))) (grd (decide (0 ≤ t14 ∧ t14 < (((s6.1).length : Nat) : Int))) (grd (decide (0 ≤ t14 ∧ t14 < (((s6.1).length : Nat) : Int))) (grd (decide (0 ≤ (IntKind.i64.wrap (t14 - 1)) ∧ (IntKind.i64.wrap (t14 - 1)) < ((((List.set s6.1 (t14).toNat ((List.getD s6.1 ((IntKind.i64.wrap (t14 - 1))).toNat 0) : Int))).length : Nat) : Int))) (bindO (τ := (List Int)) (cond (decide ((IntKind.i64.wrap (t14 - a)) ≥ 2)) (bindO (τ := (List Int)) (loopO (σ := (List Int) × Int) (ρ := (List Int)) fuelN (o71f42_L2 cmpcp) (((List.set (List.set s6.1 (t14).toNat ((List.getD s6.1 ((IntKind.i64.wrap (t14 - 1))).toNat 0) : Int)) ((IntKind.i64.wrap (t14 - 1))).toNat ((List.getD s6.1 (t14).toNat 0) : Int)) : List Int), (IntKind.i64.wrap (t14 - 1)))) fun t76 => (some ((t76 : List Int)))) (some (((List.set (List.set s6.1 (t14).toNat ((List.getD s6.1 ((IntKind.i64.wrap (t14 - 1))).toNat 0) : Int)) ((IntKind.i64.wrap (t14 - 1))).toNat ((List.getD s6.1 (t14).toNat 0) : Int)) : List Int)))) fun t34 => (bindO (τ := (List Int)) (cond (decide ((IntKind.i64.wrap (b - t14)) ≥ 2)) (bindO (τ := (List Int)) (loopO (σ := (List Int) × Int) (ρ := (List Int)) fuelN (o71f42_L1 b cmpcp) ((t34 : List Int), (IntKind.i64.wrap (t14 + 1)))) fun t41 => (some ((t41 : List Int)))) (some ((t34 : List Int)))) fun t37 => (some (Ctl.go ((t37 : List Int), t14)))))))))))) fun t10 => (grd (decide (((s6.2.2 : Nat) : Int) + 1 ≤ 9223372036854775807)) (some (Ctl.go ((t10.1 : List Int), t10.2, (s6.2.2 + 1)))))) (some (Ctl.done (Ctl.go (s6.1 : List Int)))))
def o71f42 (data : List Int) (a : Int) (b : Int) (cmpcp : Board) : Option ((List Int) × Bool) :=
 (joinO (τ := (List Int)) (ρ := (List Int) × Bool) (loopO (σ := (List Int) × Int × Nat) (ρ := Ctl ((List Int)) ((List Int) × Bool)) fuelN (o71f42_L0 a b cmpcp) ((data : List Int), (IntKind.i64.wrap (a + 1)), 0)) fun t1 => (some (((t1 : List Int), (false)))))
set_option maxRecDepth 100000 in
theorem c71f42 (g : Gh) (data : List Int) (Adata : Option Addr) (cdata : Nat) (kdata : Option Bk) (a : Int) (b : Int) (a_cmpc : Addr) (a_cmpcp : Addr) (cmpcp : Board) (Acmpcp_defs : Option Addr) (ccmpcp_defs : Nat) (Acmpcp_conds : Option Addr) (ccmpcp_conds : Nat) (hdata : Buf g.b (tyI .i64) 3 (.slice Adata (data).length cdata) kdata data) (hc_cmpcp : Cells g.r a_cmpcp (cBoard cmpcp Acmpcp_defs ccmpcp_defs Acmpcp_conds ccmpcp_conds)) (fcmpcp_defs : Arr g.r tyAlertDef Acmpcp_defs ccmpcp_defs cmpcp.defs) (fcmpcp_conds : ArrM g.r g.b tyCnd Acmpcp_conds ccmpcp_conds cmpcp.conds) (hc_cmpc : Cells g.r a_cmpc [Value.pointer (some a_cmpcp)]) {r : (List Int) × Bool} (hS : o71f42 data a b cmpcp = some r) :
  Ctr Try.prog 71 [vs Adata data cdata, vi a, vi b, Value.func (.func 42) #[] #[Value.pointer (some a_cmpc)]] g [kdata, none] (fun v ψ o => ∃ (ko_data : Option Bk), v = vb r.2 ∧ o = [ko_data] ∧ Buf ψ (tyI .i64) 3 (.slice Adata (data).length cdata) ko_data r.1) := by
 unfold o71f42 at hS
 refine xFn Try.f71 (Try.f71.body.getD .skip) 141 ?_
 have nhdata := hdata.len
 have nfcmpcp_defs := fcmpcp_defs.len
 have nfcmpcp_conds := fcmpcp_conds.len
 refine xSq ?_
 refine xRg ?_
 refine xB 1 [] [(0, vs Adata data cdata), (1, vi a), (2, vi b), (3, Value.func (.func 42) #[] #[Value.pointer (some a_cmpc)])] ?_
 refine xRe ?_
 refine wpq_then ?_
 refine xSq ?_
 refine xRg ?_
 have z1 := i64_in_ (a + 1)
 refine xB 3 [] [(0, vs Adata data cdata), (1, vi a), (2, vi b), (3, Value.func (.func 42) #[] #[Value.pointer (some a_cmpc)]), (9, vi (IntKind.i64.wrap (a + 1)))] ?_
 refine xRe ?_
 refine wpq_then ?_
 refine xSq ?_
 refine xSq ?_
 refine xRg ?_
 refine xB 1 [] [(0, vs Adata data cdata), (1, vi a), (2, vi b), (3, Value.func (.func 42) #[] #[Value.pointer (some a_cmpc)]), (9, vi (IntKind.i64.wrap (a + 1))), (10, vi 0)] ?_
 refine xRe ?_
 refine wpq_then ?_
 refine xJoinO hS (fun g own sl t1 => ∃ (k1_0 : Option Bk), own = [none, k1_0] ∧ sl = [] ∧ Buf g.b (tyI .i64) 3 (.slice Adata (t1).length cdata) k1_0 t1 ∧ (data).length = (t1).length) ?_ ?_
 ·rintro g2 _ _ t1 e3 ⟨k1_0, rfl, rfl, h1_0, hz1_v0⟩ hS
  have nh1_0 := h1_0.len
  refine wpq_then ?_
  refine xSq ?_
  refine xRg ?_
  refine xB 1 [] [(8, vb false)] ?_
  refine xRe ?_
  refine wpq_then ?_
  have eS := (Option.some.inj hS).symm
  subst eS
  exact xRet [some 1] [8] e3 ⟨k1_0, by kernel_rfl, by kernel_rfl, (Buf.re h1_0 hz1_v0.symm rfl)⟩ (fun _ _ h => h)
 ·intro uu1 hS hN1 hD1
  refine xBl 0 ?_
  refine xSel [none, some 0] ?_
  refine xSub [(0, vs Adata data cdata), (1, vi a), (2, vi b), (3, Value.func (.func 42) #[] #[Value.pointer (some a_cmpc)]), (9, vi (IntKind.i64.wrap (a + 1))), (10, vi 0)] ?_
  refine xLo hS (fun g own sl s6 => ∃ (k6_0 : Option Bk), own = [none, k6_0] ∧ sl = [(0, vs Adata s6.1 cdata), (1, vi a), (2, vi b), (3, Value.func (.func 42) #[] #[Value.pointer (some a_cmpc)]), (9, vi s6.2.1), (10, vi ((s6.2.2 : Nat) : Int))] ∧ Buf g.b (tyI .i64) 3 (.slice Adata (s6.1).length cdata) k6_0 s6.1 ∧ (data).length = (s6.1).length) ⟨kdata, by kernel_rfl, by kernel_rfl, hdata, rfl⟩ ?_
  rintro g7 _ _ s6 uu6 e8 ⟨k6_0, rfl, rfl, h6_0, hz6_v0⟩ hS Qr6 hN6 hD6
  have nh6_0 := h6_0.len
  unfold o71f42_L0 at hS
  refine xSq ?_
  refine xSq ?_
  refine xRg ?_
  refine xB 2 [] [(0, vs Adata s6.1 cdata), (1, vi a), (2, vi b), (3, Value.func (.func 42) #[] #[Value.pointer (some a_cmpc)]), (9, vi s6.2.1), (10, vi ((s6.2.2 : Nat) : Int)), (16, vb (decide (((s6.2.2 : Nat) : Int) < 5)))] ?_
  refine xRe ?_
  refine wpq_then ?_
  refine xCd (decide (((s6.2.2 : Nat) : Int) < 5)) (fun h9 => ?_) (fun h9 => ?_)
  ·have hS := cond_T h9 hS
   have h9p := of_decide_eq_true h9
   refine xSk ?_
   refine wpq_then ?_
   refine xSub [(0, vs Adata s6.1 cdata), (1, vi a), (2, vi b), (3, Value.func (.func 42) #[] #[Value.pointer (some a_cmpc)]), (9, vi s6.2.1), (10, vi ((s6.2.2 : Nat) : Int))] ?_
   refine xSq ?_
   refine xJoinO hS (fun g own sl t10 => ∃ (k10_0 : Option Bk), own = [none, k10_0] ∧ sl = [(0, vs Adata t10.1 cdata), (1, vi a), (2, vi b), (3, Value.func (.func 42) #[] #[Value.pointer (some a_cmpc)]), (9, vi t10.2), (10, vi ((s6.2.2 : Nat) : Int))] ∧ Buf g.b (tyI .i64) 3 (.slice Adata (t10.1).length cdata) k10_0 t10.1 ∧ (data).length = (t10.1).length) ?_ ?_
   ·rintro g11 _ _ t10 e12 ⟨k10_0, rfl, rfl, h10_0, hz10_v0⟩ hS
    have nh10_0 := h10_0.len
    refine wpq_then ?_
    refine xRg ?_
    obtain ⟨q13, hS⟩ := grd_T hS
    have q13p := of_decide_eq_true q13
    refine xB 1 [] [(0, vs Adata t10.1 cdata), (1, vi a), (2, vi b), (3, Value.func (.func 42) #[] #[Value.pointer (some a_cmpc)]), (9, vi t10.2), (10, vi ((s6.2.2 : Nat) : Int)), (17, vi ((s6.2.2 : Nat) : Int))] ?_
    refine xV (qAdd .i64 (((s6.2.2 : Nat) : Int)) (1) (wr64 (by omega))) ?_
    refine xB 1 [] [(0, vs Adata t10.1 cdata), (1, vi a), (2, vi b), (3, Value.func (.func 42) #[] #[Value.pointer (some a_cmpc)]), (9, vi t10.2), (10, vi (((s6.2.2 : Nat) : Int) + 1))] ?_
    refine xRe ?_
    refine wpq_thenN ?_
    refine xSel [none, some 1] ?_
    refine xSub [(0, vs Adata t10.1 cdata), (1, vi a), (2, vi b), (3, Value.func (.func 42) #[] #[Value.pointer (some a_cmpc)]), (9, vi t10.2), (10, vi (((s6.2.2 : Nat) : Int) + 1))] ?_
    have eS := (Option.some.inj hS).symm
    exact hN6 _ eS _ _ _ e12 ⟨k10_0, by kernel_rfl, by kernel_rfl, h10_0, hz10_v0⟩
   ·intro uu10 hS hN10 hD10
    refine xBl 1 ?_
    refine xSq ?_
    refine xBindO hS (fun g own sl t14 => own = [none, k6_0] ∧ sl = [(0, vs Adata s6.1 cdata), (1, vi a), (2, vi b), (3, Value.func (.func 42) #[] #[Value.pointer (some a_cmpc)]), (9, vi t14), (10, vi ((s6.2.2 : Nat) : Int))]) ?_ ?_
    ·rintro g15 _ _ t14 e16 ⟨rfl, rfl⟩ hS
     refine wpq_then ?_
     refine xSq ?_
     refine xSq ?_
     refine xRg ?_
     refine xB 3 [] [(0, vs Adata s6.1 cdata), (1, vi a), (2, vi b), (3, Value.func (.func 42) #[] #[Value.pointer (some a_cmpc)]), (9, vi t14), (10, vi ((s6.2.2 : Nat) : Int)), (41, vb (t14 == b))] ?_
     refine xRe ?_
     refine wpq_then ?_
     refine xCd ((t14 == b)) (fun h17 => ?_) (fun h17 => ?_)
     ·have hS := cond_T h17 hS
      have h17p : t14 = b := eq_of_beq h17
      refine xSq ?_
      refine xRg ?_
      refine xB 1 [] [(8, vb true)] ?_
      refine xRe ?_
      refine wpq_then ?_
      have h6_0 := h6_0.mono e16.b
      have eS := (Option.some.inj hS).symm
      have eS := (hD10 _ eS).symm
      have eS := (hD6 _ eS).symm
      have eS := (hD1 _ eS).symm
      subst eS
      exact xRet [some 1] [8] (e8.trans e16) ⟨k6_0, by kernel_rfl, by kernel_rfl, (Buf.re h6_0 hz6_v0.symm rfl)⟩ (fun _ _ h => h)
     ·have hS := cond_F h17 hS
      have h17p : ¬ (t14 = b) := ne_of_beq_false_ h17
      refine xSk ?_
      refine wpq_then ?_
      refine xSub [(0, vs Adata s6.1 cdata), (1, vi a), (2, vi b), (3, Value.func (.func 42) #[] #[Value.pointer (some a_cmpc)]), (9, vi t14), (10, vi ((s6.2.2 : Nat) : Int))] ?_
      refine xSq ?_
      refine xSq ?_
      refine xRg ?_
      have z1301 := i64_in_ (b - a)
      refine xB 4 [] [(0, vs Adata s6.1 cdata), (1, vi a), (2, vi b), (3, Value.func (.func 42) #[] #[Value.pointer (some a_cmpc)]), (9, vi t14), (10, vi ((s6.2.2 : Nat) : Int)), (45, vb (decide ((IntKind.i64.wrap (b - a)) < 50)))] ?_
      refine xRe ?_
      refine wpq_then ?_
      refine xCd (decide ((IntKind.i64.wrap (b - a)) < 50)) (fun h18 => ?_) (fun h18 => ?_)
      ·have hS := cond_T h18 hS
       have h18p := of_decide_eq_true h18
       refine xSq ?_
       refine xRg ?_
       refine xB 1 [] [(8, vb false)] ?_
       refine xRe ?_
       refine wpq_then ?_
       have h6_0 := h6_0.mono e16.b
       have eS := (Option.some.inj hS).symm
       have eS := (hD10 _ eS).symm
       have eS := (hD6 _ eS).symm
       have eS := (hD1 _ eS).symm
       subst eS
       exact xRet [some 1] [8] (e8.trans e16) ⟨k6_0, by kernel_rfl, by kernel_rfl, (Buf.re h6_0 hz6_v0.symm rfl)⟩ (fun _ _ h => h)
      ·have hS := cond_F h18 hS
       have h18p := of_decide_eq_false h18
       refine xSk ?_
       refine wpq_then ?_
       refine xSub [(0, vs Adata s6.1 cdata), (1, vi a), (2, vi b), (3, Value.func (.func 42) #[] #[Value.pointer (some a_cmpc)]), (9, vi t14), (10, vi ((s6.2.2 : Nat) : Int))] ?_
       refine xSq ?_
       refine xDr 0 [9, 13] [15, 17, 14, 16] [k6_0] 18 (fun RG => ?_) (fun _ _ _ _ _ h => h)
       have z1302 := i64_in_ (t14 - 1)
       have z1303 := i64_in_ (t14 - 1)
       have h6_0 := h6_0.mono e16.b
       obtain ⟨q20, hS⟩ := grd_T hS
       have q20p := of_decide_eq_true q20
       have i21 : ((IntKind.i64.wrap (t14 - 1))).toNat < (s6.1).length := by omega
       obtain ⟨kc19, cs19, hA19, hk19, hr19, hw19⟩ := h6_0.open_ i21 0
       obtain ⟨kb19, rfl⟩ : ∃ z, z = kc19 := ⟨_, rfl⟩
       subst hk19
       have hr19 : cs19 = [vi (List.getD s6.1 ((IntKind.i64.wrap (t14 - 1))).toNat 0)] := hr19
       subst hr19
       refine xT 10 [0, 1, 2, 3, 4, 5, 6, 7] [] [some 1] [(0, vs Adata s6.1 cdata), (1, vi a), (2, vi b), (3, Value.func (.func 42) #[] #[Value.pointer (some a_cmpc)]), (9, vi t14), (10, vi ((s6.2.2 : Nat) : Int)), (46, vs Adata s6.1 cdata), (47, vi t14), (48, vs Adata s6.1 cdata), (50, vi (IntKind.i64.wrap (t14 - 1))), (51, vs Adata s6.1 cdata), (53, vi (IntKind.i64.wrap (t14 - 1)))] RG (Psi.le.refl _) ?_
       refine xTp 8 RG (fun _ => (qIxB ((IntKind.i64.wrap (t14 - 1))).toNat 1 kb19.g hA19 (show ((IntKind.i64.wrap (t14 - 1)) : Int) = _ from by omega) i21)) ?_
       refine xTv 9 [some 1] RG (Psi.le.refl _) (qLdB ((IntKind.i64.wrap (t14 - 1))).toNat 1 0 0 hw19) ?_
       obtain ⟨q23, hS⟩ := grd_T hS
       have q23p := of_decide_eq_true q23
       have i24 : (t14).toNat < (s6.1).length := by omega
       obtain ⟨kc22, cs22, hA22, hk22, hr22, hw22⟩ := h6_0.open_ i24 0
       cases hk22
       have hr22 : cs22 = [vi (List.getD s6.1 (t14).toNat 0)] := hr22
       subst hr22
       refine xT 6 [10, 11] [] [some 1] [(0, vs Adata s6.1 cdata), (1, vi a), (2, vi b), (3, Value.func (.func 42) #[] #[Value.pointer (some a_cmpc)]), (9, vi t14), (10, vi ((s6.2.2 : Nat) : Int)), (46, vs Adata s6.1 cdata), (47, vi t14), (48, vs Adata s6.1 cdata), (50, vi (IntKind.i64.wrap (t14 - 1))), (55, vi (List.getD s6.1 ((IntKind.i64.wrap (t14 - 1))).toNat 0)), (56, vs Adata s6.1 cdata), (57, vi t14)] RG (Psi.le.refl _) ?_
       refine xTp 12 RG (fun _ => (qIxB (t14).toNat 1 kb19.g hA22 (show (t14 : Int) = _ from by omega) i24)) ?_
       refine xTv 13 [some 1] RG (Psi.le.refl _) (qLdB (t14).toNat 1 0 0 hw22) ?_
       obtain ⟨q26, hS⟩ := grd_T hS
       have q26p := of_decide_eq_true q26
       have i27 : (t14).toNat < (s6.1).length := by omega
       obtain ⟨kc25, cs25, hA25, hk25, hr25, hw25⟩ := h6_0.open_ i27 0
       cases hk25
       have hr25 : cs25 = [vi (List.getD s6.1 (t14).toNat 0)] := hr25
       subst hr25
       refine xTp 14 RG (fun _ => (qIxB (t14).toNat 1 kb19.g hA25 (show (t14 : Int) = _ from by omega) i27)) ?_
       refine xO1 (lds := [9, 13]) 15 ?_
       refine xId (lds := [9, 13]) (Psi.le.refl _) (eStB (t14).toNat 1 0 1 [vi (List.getD s6.1 ((IntKind.i64.wrap (t14 - 1))).toNat 0)] h6_0 rfl hw25 (show (tyI .i64).rep _ _ _ from rfl) i27) ?_
       rintro _ _ _ - ⟨k28, rfl, rfl, h28⟩
       refine kf ?_
       have hz28 : (s6.1).length = ((List.set s6.1 (t14).toNat ((List.getD s6.1 ((IntKind.i64.wrap (t14 - 1))).toNat 0) : Int))).length := by simp
       have hz28_1 : (data).length = ((List.set s6.1 (t14).toNat ((List.getD s6.1 ((IntKind.i64.wrap (t14 - 1))).toNat 0) : Int))).length := hz6_v0.trans hz28
       obtain ⟨q30, hS⟩ := grd_T hS
       have q30p := of_decide_eq_true q30
       have i31 : ((IntKind.i64.wrap (t14 - 1))).toNat < ((List.set s6.1 (t14).toNat ((List.getD s6.1 ((IntKind.i64.wrap (t14 - 1))).toNat 0) : Int))).length := by omega
       have i32 : ((IntKind.i64.wrap (t14 - 1))).toNat < (s6.1).length := by have := hz28; omega
       obtain ⟨kc29, cs29, hA29, hk29, hr29, hw29⟩ := h28.open_ i31 0
       obtain ⟨kb29, rfl⟩ : ∃ z, z = kc29 := ⟨_, rfl⟩
       subst hk29
       have hr29 : cs29 = [vi (List.getD (List.set s6.1 (t14).toNat ((List.getD s6.1 ((IntKind.i64.wrap (t14 - 1))).toNat 0) : Int)) ((IntKind.i64.wrap (t14 - 1))).toNat 0)] := hr29
       subst hr29
       refine xTp 16 RG (fun _ => (qIxB ((IntKind.i64.wrap (t14 - 1))).toNat 1 kb29.g hA29 (show ((IntKind.i64.wrap (t14 - 1)) : Int) = _ from by omega) i32)) ?_
       refine xO1 (lds := [9, 13]) 17 ?_
       refine xId (lds := [9, 13]) (Psi.le.refl _) (eStB ((IntKind.i64.wrap (t14 - 1))).toNat 1 0 1 [vi (List.getD s6.1 (t14).toNat 0)] h28 rfl hw29 (show (tyI .i64).rep _ _ _ from rfl) i31) ?_
       rintro _ _ _ - ⟨k33, rfl, rfl, h33⟩
       refine kf ?_
       have hz33 : (s6.1).length = ((List.set (List.set s6.1 (t14).toNat ((List.getD s6.1 ((IntKind.i64.wrap (t14 - 1))).toNat 0) : Int)) ((IntKind.i64.wrap (t14 - 1))).toNat ((List.getD s6.1 (t14).toNat 0) : Int))).length := hz28.trans (by simp)
       have hz33_1 : (data).length = ((List.set (List.set s6.1 (t14).toNat ((List.getD s6.1 ((IntKind.i64.wrap (t14 - 1))).toNat 0) : Int)) ((IntKind.i64.wrap (t14 - 1))).toNat ((List.getD s6.1 (t14).toNat 0) : Int))).length := hz28_1.trans (hz28.symm.trans hz33)
       refine xAe (lds := [9, 13]) ?_
       refine wpq_then ?_
       refine xSub [(0, Value.slice Adata ((s6.1).length) cdata), (1, vi a), (2, vi b), (3, Value.func (.func 42) #[] #[Value.pointer (some a_cmpc)]), (9, vi t14), (10, vi ((s6.2.2 : Nat) : Int))] ?_
       refine xSq ?_
       refine xSq ?_
       refine xRg ?_
       have z1304 := i64_in_ (t14 - a)
       refine xB 4 [] [(0, Value.slice Adata ((s6.1).length) cdata), (1, vi a), (2, vi b), (3, Value.func (.func 42) #[] #[Value.pointer (some a_cmpc)]), (9, vi t14), (10, vi ((s6.2.2 : Nat) : Int)), (65, vb (decide ((IntKind.i64.wrap (t14 - a)) ≥ 2)))] ?_
       refine xRe ?_
       refine wpq_then ?_
       refine xBindO hS (fun g own sl t34 => ∃ (k34_0 : Option Bk), own = [none, k34_0] ∧ sl = [(0, vs Adata t34 cdata), (1, vi a), (2, vi b), (3, Value.func (.func 42) #[] #[Value.pointer (some a_cmpc)]), (9, vi t14), (10, vi ((s6.2.2 : Nat) : Int))] ∧ Buf g.b (tyI .i64) 3 (.slice Adata (t34).length cdata) k34_0 t34 ∧ (data).length = (t34).length) ?_ ?_
       ·rintro g35 _ _ t34 e36 ⟨k34_0, rfl, rfl, h34_0, hz34_v0⟩ hS
        have nh34_0 := h34_0.len
        refine wpq_then ?_
        refine xSq ?_
        refine xRg ?_
        have z1306 := i64_in_ (b - t14)
        refine xB 4 [] [(0, vs Adata t34 cdata), (1, vi a), (2, vi b), (3, Value.func (.func 42) #[] #[Value.pointer (some a_cmpc)]), (9, vi t14), (10, vi ((s6.2.2 : Nat) : Int)), (104, vb (decide ((IntKind.i64.wrap (b - t14)) ≥ 2)))] ?_
        refine xRe ?_
        refine wpq_then ?_
        refine xBindO hS (fun g own sl t37 => ∃ (k37_0 : Option Bk), own = [none, k37_0] ∧ sl = [(0, vs Adata t37 cdata), (1, vi a), (2, vi b), (3, Value.func (.func 42) #[] #[Value.pointer (some a_cmpc)]), (9, vi t14), (10, vi ((s6.2.2 : Nat) : Int))] ∧ Buf g.b (tyI .i64) 3 (.slice Adata (t37).length cdata) k37_0 t37 ∧ (data).length = (t37).length) ?_ ?_
        ·rintro g38 _ _ t37 e39 ⟨k37_0, rfl, rfl, h37_0, hz37_v0⟩ hS
         have nh37_0 := h37_0.len
         refine wpq_blockN ?_
         refine xSel [none, some 1] ?_
         refine xSub [(0, vs Adata t37 cdata), (1, vi a), (2, vi b), (3, Value.func (.func 42) #[] #[Value.pointer (some a_cmpc)]), (9, vi t14), (10, vi ((s6.2.2 : Nat) : Int))] ?_
         have eS := (Option.some.inj hS).symm
         exact hN10 _ eS _ _ _ (e16.trans (e36.trans e39)) ⟨k37_0, by kernel_rfl, by kernel_rfl, h37_0, hz37_v0⟩
        ·intro uu37 hS hN37
         refine xCd (decide ((IntKind.i64.wrap (b - t14)) ≥ 2)) (fun h40 => ?_) (fun h40 => ?_)
         ·have hS := cond_T h40 hS
          have h40p := of_decide_eq_true h40
          refine xSq ?_
          refine xRg ?_
          have z1350 := i64_in_ (t14 + 1)
          refine xB 3 [] [(0, vs Adata t34 cdata), (1, vi a), (2, vi b), (3, Value.func (.func 42) #[] #[Value.pointer (some a_cmpc)]), (9, vi t14), (10, vi ((s6.2.2 : Nat) : Int)), (12, vi (IntKind.i64.wrap (t14 + 1)))] ?_
          refine xRe ?_
          refine wpq_then ?_
          refine xBindO hS (fun g own sl t41 => ∃ (k41_0 : Option Bk), own = [none, k41_0] ∧ sl = [(0, vs Adata t41 cdata), (1, vi a), (2, vi b), (3, Value.func (.func 42) #[] #[Value.pointer (some a_cmpc)]), (9, vi t14), (10, vi ((s6.2.2 : Nat) : Int))] ∧ Buf g.b (tyI .i64) 3 (.slice Adata (t41).length cdata) k41_0 t41 ∧ (data).length = (t41).length) ?_ ?_
          ·rintro g42 _ _ t41 e43 ⟨k41_0, rfl, rfl, h41_0, hz41_v0⟩ hS
           have nh41_0 := h41_0.len
           refine xSel [none, some 1] ?_
           refine xSub [(0, vs Adata t41 cdata), (1, vi a), (2, vi b), (3, Value.func (.func 42) #[] #[Value.pointer (some a_cmpc)]), (9, vi t14), (10, vi ((s6.2.2 : Nat) : Int))] ?_
           have eS := (Option.some.inj hS).symm
           exact hN37 _ eS _ _ _ e43 ⟨k41_0, by kernel_rfl, by kernel_rfl, h41_0, hz41_v0⟩
          ·intro uu41 hS hN41
           refine xBl 6 ?_
           refine xSel [none, some 1] ?_
           refine xSub [(0, vs Adata t34 cdata), (1, vi a), (2, vi b), (3, Value.func (.func 42) #[] #[Value.pointer (some a_cmpc)]), (9, vi t14), (10, vi ((s6.2.2 : Nat) : Int)), (12, vi (IntKind.i64.wrap (t14 + 1)))] ?_
           refine xLo hS (fun g own sl s46 => ∃ (k46_0 : Option Bk), own = [none, k46_0] ∧ sl = [(0, vs Adata s46.1 cdata), (1, vi a), (2, vi b), (3, Value.func (.func 42) #[] #[Value.pointer (some a_cmpc)]), (9, vi t14), (10, vi ((s6.2.2 : Nat) : Int)), (12, vi s46.2)] ∧ Buf g.b (tyI .i64) 3 (.slice Adata (s46.1).length cdata) k46_0 s46.1 ∧ (data).length = (s46.1).length) ⟨k34_0, by kernel_rfl, by kernel_rfl, h34_0, hz34_v0⟩ ?_
           rintro g47 _ _ s46 uu46 e48 ⟨k46_0, rfl, rfl, h46_0, hz46_v0⟩ hS Qr46 hN46 hD46
           have nh46_0 := h46_0.len
           unfold o71f42_L1 at hS
           refine xSq ?_
           refine xSq ?_
           refine xRg ?_
           refine xB 3 [] [(0, vs Adata s46.1 cdata), (1, vi a), (2, vi b), (3, Value.func (.func 42) #[] #[Value.pointer (some a_cmpc)]), (9, vi t14), (10, vi ((s6.2.2 : Nat) : Int)), (12, vi s46.2), (109, vb (decide (s46.2 < b)))] ?_
           refine xRe ?_
           refine wpq_then ?_
           refine xCd (decide (s46.2 < b)) (fun h49 => ?_) (fun h49 => ?_)
           ·have hS := cond_T h49 hS
            have h49p := of_decide_eq_true h49
            refine xSk ?_
            refine wpq_then ?_
            refine xSub [(0, vs Adata s46.1 cdata), (1, vi a), (2, vi b), (3, Value.func (.func 42) #[] #[Value.pointer (some a_cmpc)]), (9, vi t14), (10, vi ((s6.2.2 : Nat) : Int)), (12, vi s46.2)] ?_
            refine xSq ?_
            refine xBl 7 ?_
            refine xSq ?_
            refine xSq ?_
            refine xDr 0 [4, 9] [] [k46_0] 13 (fun RG => ?_) (fun _ _ _ _ _ h => h)
            obtain ⟨q51, hS⟩ := grd_T hS
            have q51p := of_decide_eq_true q51
            have i52 : (s46.2).toNat < (s46.1).length := by omega
            obtain ⟨kc50, cs50, hA50, hk50, hr50, hw50⟩ := h46_0.open_ i52 0
            obtain ⟨kb50, rfl⟩ : ∃ z, z = kc50 := ⟨_, rfl⟩
            subst hk50
            have hr50 : cs50 = [vi (List.getD s46.1 (s46.2).toNat 0)] := hr50
            subst hr50
            refine xT 10 [0, 1, 2] [] [some 1] [(0, vs Adata s46.1 cdata), (1, vi a), (2, vi b), (3, Value.func (.func 42) #[] #[Value.pointer (some a_cmpc)]), (9, vi t14), (10, vi ((s6.2.2 : Nat) : Int)), (12, vi s46.2), (112, Value.func (.func 42) #[] #[Value.pointer (some a_cmpc)]), (113, vs Adata s46.1 cdata), (114, vi s46.2)] RG (Psi.le.refl _) ?_
            refine xTp 3 RG (fun _ => (qIxB (s46.2).toNat 1 kb50.g hA50 (show (s46.2 : Int) = _ from by omega) i52)) ?_
            refine xTv 4 [some 1] RG (Psi.le.refl _) (qLdB (s46.2).toNat 1 0 0 hw50) ?_
            have z1389 := i64_in_ (s46.2 - 1)
            obtain ⟨q54, hS⟩ := grd_T hS
            have q54p := of_decide_eq_true q54
            have i55 : ((IntKind.i64.wrap (s46.2 - 1))).toNat < (s46.1).length := by omega
            obtain ⟨kc53, cs53, hA53, hk53, hr53, hw53⟩ := h46_0.open_ i55 0
            cases hk53
            have hr53 : cs53 = [vi (List.getD s46.1 ((IntKind.i64.wrap (s46.2 - 1))).toNat 0)] := hr53
            subst hr53
            refine xT 5 [5, 6, 7] [] [some 1] [(0, vs Adata s46.1 cdata), (1, vi a), (2, vi b), (3, Value.func (.func 42) #[] #[Value.pointer (some a_cmpc)]), (9, vi t14), (10, vi ((s6.2.2 : Nat) : Int)), (12, vi s46.2), (112, Value.func (.func 42) #[] #[Value.pointer (some a_cmpc)]), (116, vi (List.getD s46.1 (s46.2).toNat 0)), (117, vs Adata s46.1 cdata), (119, vi (IntKind.i64.wrap (s46.2 - 1)))] RG (Psi.le.refl _) ?_
            refine xTp 8 RG (fun _ => (qIxB ((IntKind.i64.wrap (s46.2 - 1))).toNat 1 kb50.g hA53 (show ((IntKind.i64.wrap (s46.2 - 1)) : Int) = _ from by omega) i55)) ?_
            refine xTv 9 [some 1] RG (Psi.le.refl _) (qLdB ((IntKind.i64.wrap (s46.2 - 1))).toNat 1 0 0 hw53) ?_
            have hc_cmpcp := hc_cmpcp.mono (e8.trans (e16.trans (e36.trans e48))).r
            have fcmpcp_defs := fcmpcp_defs.mono (e8.trans (e16.trans (e36.trans e48))).r
            have fcmpcp_conds := fcmpcp_conds.mono (e8.trans (e16.trans (e36.trans e48))).r (e8.trans (e16.trans (e36.trans e48))).b
            have hc_cmpc := hc_cmpc.mono (e8.trans (e16.trans (e36.trans e48))).r
            obtain ⟨y56, hy56, hS⟩ := bindO_T hS
            refine xO1 (lds := [4, 9]) 10 ?_
            refine xIe (lds := [4, 9]) (Psi.le.refl _) (eC 0 (fun g' lr eb ln => c42 g' ((List.getD s46.1 (s46.2).toNat 0) : Int) ((List.getD s46.1 ((IntKind.i64.wrap (s46.2 - 1))).toNat 0) : Int) a_cmpc a_cmpcp cmpcp Acmpcp_defs ccmpcp_defs Acmpcp_conds ccmpcp_conds (hc_cmpcp.mono lr) (fcmpcp_defs.mono lr) (ArrM.lent fcmpcp_conds lr eb) (hc_cmpc.mono lr) hy56)) ?_
            rintro _ g57 _ e58 ⟨_, rfl, rfl, rfl⟩
            refine kk [some 1] ?_
            refine xT 0 [11, 12] [] [some 1] [(0, vs Adata s46.1 cdata), (1, vi a), (2, vi b), (3, Value.func (.func 42) #[] #[Value.pointer (some a_cmpc)]), (9, vi t14), (10, vi ((s6.2.2 : Nat) : Int)), (12, vi s46.2), (124, vb (!decide (y56 < 0)))] RG e58.r ?_
            refine xAe (lds := [4, 9]) ?_
            refine wpq_then ?_
            refine xCd ((!decide (y56 < 0))) (fun h59 => ?_) (fun h59 => ?_)
            ·have hS := cond_T h59 hS
             have h59n := not_eq_true_ h59
             have h59np := of_decide_eq_false h59n
             refine xEx 6 ?_
             refine wpq_thenX ?_
             refine wpq_blockX (by kernel_rfl) ?_
             refine wpq_thenX ?_
             refine wpq_thenX ?_
             refine wpq_blockE ?_
             have h46_0 := h46_0.mono e58.b
             refine xSel [none, some 1] ?_
             refine xSub [(0, vs Adata s46.1 cdata), (1, vi a), (2, vi b), (3, Value.func (.func 42) #[] #[Value.pointer (some a_cmpc)]), (9, vi t14), (10, vi ((s6.2.2 : Nat) : Int))] ?_
             have eS := (Option.some.inj hS).symm
             have eS := (hD46 _ eS).symm
             exact hN41 _ eS _ _ _ (e48.trans e58) ⟨(some kb50), by kernel_rfl, by kernel_rfl, h46_0, hz46_v0⟩
            ·have hS := cond_F h59 hS
             have h59n := not_eq_false_ h59
             have h59np := of_decide_eq_true h59n
             refine xSk ?_
             refine wpq_then ?_
             refine xSub [(0, vs Adata s46.1 cdata), (1, vi a), (2, vi b), (3, Value.func (.func 42) #[] #[Value.pointer (some a_cmpc)]), (9, vi t14), (10, vi ((s6.2.2 : Nat) : Int)), (12, vi s46.2)] ?_
             refine xDr 0 [9, 13] [15, 17, 14, 16] [(some kb50)] 18 (fun RG => ?_) (fun _ _ _ _ _ h => h)
             have z1390 := i64_in_ (s46.2 - 1)
             have z1391 := i64_in_ (s46.2 - 1)
             have h46_0 := h46_0.mono e58.b
             obtain ⟨q61, hS⟩ := grd_T hS
             have q61p := of_decide_eq_true q61
             have i62 : ((IntKind.i64.wrap (s46.2 - 1))).toNat < (s46.1).length := by omega
             obtain ⟨kc60, cs60, hA60, hk60, hr60, hw60⟩ := h46_0.open_ i62 0
             cases hk60
             have hr60 : cs60 = [vi (List.getD s46.1 ((IntKind.i64.wrap (s46.2 - 1))).toNat 0)] := hr60
             subst hr60
             refine xT 10 [0, 1, 2, 3, 4, 5, 6, 7] [] [some 1] [(0, vs Adata s46.1 cdata), (1, vi a), (2, vi b), (3, Value.func (.func 42) #[] #[Value.pointer (some a_cmpc)]), (9, vi t14), (10, vi ((s6.2.2 : Nat) : Int)), (12, vi s46.2), (125, vs Adata s46.1 cdata), (126, vi s46.2), (127, vs Adata s46.1 cdata), (129, vi (IntKind.i64.wrap (s46.2 - 1))), (130, vs Adata s46.1 cdata), (132, vi (IntKind.i64.wrap (s46.2 - 1)))] RG (Psi.le.refl _) ?_
             refine xTp 8 RG (fun _ => (qIxB ((IntKind.i64.wrap (s46.2 - 1))).toNat 1 kb50.g hA60 (show ((IntKind.i64.wrap (s46.2 - 1)) : Int) = _ from by omega) i62)) ?_
             refine xTv 9 [some 1] RG (Psi.le.refl _) (qLdB ((IntKind.i64.wrap (s46.2 - 1))).toNat 1 0 0 hw60) ?_
             obtain ⟨q64, hS⟩ := grd_T hS
             have q64p := of_decide_eq_true q64
             have i65 : (s46.2).toNat < (s46.1).length := by omega
             obtain ⟨kc63, cs63, hA63, hk63, hr63, hw63⟩ := h46_0.open_ i65 0
             cases hk63
             have hr63 : cs63 = [vi (List.getD s46.1 (s46.2).toNat 0)] := hr63
             subst hr63
             refine xT 6 [10, 11] [] [some 1] [(0, vs Adata s46.1 cdata), (1, vi a), (2, vi b), (3, Value.func (.func 42) #[] #[Value.pointer (some a_cmpc)]), (9, vi t14), (10, vi ((s6.2.2 : Nat) : Int)), (12, vi s46.2), (125, vs Adata s46.1 cdata), (126, vi s46.2), (127, vs Adata s46.1 cdata), (129, vi (IntKind.i64.wrap (s46.2 - 1))), (134, vi (List.getD s46.1 ((IntKind.i64.wrap (s46.2 - 1))).toNat 0)), (135, vs Adata s46.1 cdata), (136, vi s46.2)] RG (Psi.le.refl _) ?_
             refine xTp 12 RG (fun _ => (qIxB (s46.2).toNat 1 kb50.g hA63 (show (s46.2 : Int) = _ from by omega) i65)) ?_
             refine xTv 13 [some 1] RG (Psi.le.refl _) (qLdB (s46.2).toNat 1 0 0 hw63) ?_
             obtain ⟨q67, hS⟩ := grd_T hS
             have q67p := of_decide_eq_true q67
             have i68 : (s46.2).toNat < (s46.1).length := by omega
             obtain ⟨kc66, cs66, hA66, hk66, hr66, hw66⟩ := h46_0.open_ i68 0
             cases hk66
             have hr66 : cs66 = [vi (List.getD s46.1 (s46.2).toNat 0)] := hr66
             subst hr66
             refine xTp 14 RG (fun _ => (qIxB (s46.2).toNat 1 kb50.g hA66 (show (s46.2 : Int) = _ from by omega) i68)) ?_
             refine xO1 (lds := [9, 13]) 15 ?_
             refine xId (lds := [9, 13]) (Psi.le.refl _) (eStB (s46.2).toNat 1 0 1 [vi (List.getD s46.1 ((IntKind.i64.wrap (s46.2 - 1))).toNat 0)] h46_0 rfl hw66 (show (tyI .i64).rep _ _ _ from rfl) i68) ?_
             rintro _ _ _ - ⟨k69, rfl, rfl, h69⟩
             refine kf ?_
             have hz69 : (s46.1).length = ((List.set s46.1 (s46.2).toNat ((List.getD s46.1 ((IntKind.i64.wrap (s46.2 - 1))).toNat 0) : Int))).length := by simp
             have hz69_1 : (data).length = ((List.set s46.1 (s46.2).toNat ((List.getD s46.1 ((IntKind.i64.wrap (s46.2 - 1))).toNat 0) : Int))).length := hz46_v0.trans hz69
             obtain ⟨q71, hS⟩ := grd_T hS
             have q71p := of_decide_eq_true q71
             have i72 : ((IntKind.i64.wrap (s46.2 - 1))).toNat < ((List.set s46.1 (s46.2).toNat ((List.getD s46.1 ((IntKind.i64.wrap (s46.2 - 1))).toNat 0) : Int))).length := by omega
             have i73 : ((IntKind.i64.wrap (s46.2 - 1))).toNat < (s46.1).length := by have := hz69; omega
             obtain ⟨kc70, cs70, hA70, hk70, hr70, hw70⟩ := h69.open_ i72 0
             obtain ⟨kb70, rfl⟩ : ∃ z, z = kc70 := ⟨_, rfl⟩
             subst hk70
             have hr70 : cs70 = [vi (List.getD (List.set s46.1 (s46.2).toNat ((List.getD s46.1 ((IntKind.i64.wrap (s46.2 - 1))).toNat 0) : Int)) ((IntKind.i64.wrap (s46.2 - 1))).toNat 0)] := hr70
             subst hr70
             refine xTp 16 RG (fun _ => (qIxB ((IntKind.i64.wrap (s46.2 - 1))).toNat 1 kb70.g hA70 (show ((IntKind.i64.wrap (s46.2 - 1)) : Int) = _ from by omega) i73)) ?_
             refine xO1 (lds := [9, 13]) 17 ?_
             refine xId (lds := [9, 13]) (Psi.le.refl _) (eStB ((IntKind.i64.wrap (s46.2 - 1))).toNat 1 0 1 [vi (List.getD s46.1 (s46.2).toNat 0)] h69 rfl hw70 (show (tyI .i64).rep _ _ _ from rfl) i72) ?_
             rintro _ _ _ - ⟨k74, rfl, rfl, h74⟩
             refine kf ?_
             have hz74 : (s46.1).length = ((List.set (List.set s46.1 (s46.2).toNat ((List.getD s46.1 ((IntKind.i64.wrap (s46.2 - 1))).toNat 0) : Int)) ((IntKind.i64.wrap (s46.2 - 1))).toNat ((List.getD s46.1 (s46.2).toNat 0) : Int))).length := hz69.trans (by simp)
             have hz74_1 : (data).length = ((List.set (List.set s46.1 (s46.2).toNat ((List.getD s46.1 ((IntKind.i64.wrap (s46.2 - 1))).toNat 0) : Int)) ((IntKind.i64.wrap (s46.2 - 1))).toNat ((List.getD s46.1 (s46.2).toNat 0) : Int))).length := hz69_1.trans (hz69.symm.trans hz74)
             refine xAe (lds := [9, 13]) ?_
             refine wpq_blockN ?_
             refine wpq_then ?_
             refine xSub [(0, Value.slice Adata ((s46.1).length) cdata), (1, vi a), (2, vi b), (3, Value.func (.func 42) #[] #[Value.pointer (some a_cmpc)]), (9, vi t14), (10, vi ((s6.2.2 : Nat) : Int)), (12, vi s46.2)] ?_
             refine xRg ?_
             have z1392 := i64_in_ (s46.2 + 1)
             refine xB 3 [] [(0, Value.slice Adata ((s46.1).length) cdata), (1, vi a), (2, vi b), (3, Value.func (.func 42) #[] #[Value.pointer (some a_cmpc)]), (9, vi t14), (10, vi ((s6.2.2 : Nat) : Int)), (12, vi (IntKind.i64.wrap (s46.2 + 1)))] ?_
             refine xRe ?_
             refine wpq_thenN ?_
             refine wpq_re 0 (v := Value.slice Adata ((s46.1).length) cdata) (vs Adata (List.set (List.set s46.1 (s46.2).toNat ((List.getD s46.1 ((IntKind.i64.wrap (s46.2 - 1))).toNat 0) : Int)) ((IntKind.i64.wrap (s46.2 - 1))).toNat ((List.getD s46.1 (s46.2).toNat 0) : Int)) cdata) (by kernel_rfl) (congrArg (fun z => Value.slice Adata z cdata) hz74) ?_
             have h74 := Buf.re h74 hz74 (rfl : (List.set (List.set s46.1 (s46.2).toNat ((List.getD s46.1 ((IntKind.i64.wrap (s46.2 - 1))).toNat 0) : Int)) ((IntKind.i64.wrap (s46.2 - 1))).toNat ((List.getD s46.1 (s46.2).toNat 0) : Int)) = _)
             refine xSel [none, some 1] ?_
             refine xSub [(0, vs Adata (List.set (List.set s46.1 (s46.2).toNat ((List.getD s46.1 ((IntKind.i64.wrap (s46.2 - 1))).toNat 0) : Int)) ((IntKind.i64.wrap (s46.2 - 1))).toNat ((List.getD s46.1 (s46.2).toNat 0) : Int)) cdata), (1, vi a), (2, vi b), (3, Value.func (.func 42) #[] #[Value.pointer (some a_cmpc)]), (9, vi t14), (10, vi ((s6.2.2 : Nat) : Int)), (12, vi (IntKind.i64.wrap (s46.2 + 1)))] ?_
             have eS := (Option.some.inj hS).symm
             exact hN46 _ eS _ _ _ e58 ⟨k74, by kernel_rfl, by kernel_rfl, h74, hz74_1⟩
           ·have hS := cond_F h49 hS
            have h49p := of_decide_eq_false h49
            refine xEx 6 ?_
            refine wpq_thenX ?_
            refine wpq_thenX ?_
            refine wpq_blockE ?_
            refine xSel [none, some 1] ?_
            refine xSub [(0, vs Adata s46.1 cdata), (1, vi a), (2, vi b), (3, Value.func (.func 42) #[] #[Value.pointer (some a_cmpc)]), (9, vi t14), (10, vi ((s6.2.2 : Nat) : Int))] ?_
            have eS := (Option.some.inj hS).symm
            have eS := (hD46 _ eS).symm
            exact hN41 _ eS _ _ _ e48 ⟨k46_0, by kernel_rfl, by kernel_rfl, h46_0, hz46_v0⟩
         ·have hS := cond_F h40 hS
          have h40p := of_decide_eq_false h40
          refine xSk ?_
          refine xSel [none, some 1] ?_
          refine xSub [(0, vs Adata t34 cdata), (1, vi a), (2, vi b), (3, Value.func (.func 42) #[] #[Value.pointer (some a_cmpc)]), (9, vi t14), (10, vi ((s6.2.2 : Nat) : Int))] ?_
          have eS := (Option.some.inj hS).symm
          exact hN37 _ eS _ _ _ (Gh.le.refl _) ⟨k34_0, by kernel_rfl, by kernel_rfl, h34_0, hz34_v0⟩
       ·intro uu34 hS hN34
        refine xCd (decide ((IntKind.i64.wrap (t14 - a)) ≥ 2)) (fun h75 => ?_) (fun h75 => ?_)
        ·have hS := cond_T h75 hS
         have h75p := of_decide_eq_true h75
         refine xSq ?_
         refine xRg ?_
         have z1393 := i64_in_ (t14 - 1)
         refine xB 3 [] [(0, Value.slice Adata ((s6.1).length) cdata), (1, vi a), (2, vi b), (3, Value.func (.func 42) #[] #[Value.pointer (some a_cmpc)]), (9, vi t14), (10, vi ((s6.2.2 : Nat) : Int)), (11, vi (IntKind.i64.wrap (t14 - 1)))] ?_
         refine xRe ?_
         refine wpq_then ?_
         refine xBindO hS (fun g own sl t76 => ∃ (k76_0 : Option Bk), own = [none, k76_0] ∧ sl = [(0, vs Adata t76 cdata), (1, vi a), (2, vi b), (3, Value.func (.func 42) #[] #[Value.pointer (some a_cmpc)]), (9, vi t14), (10, vi ((s6.2.2 : Nat) : Int))] ∧ Buf g.b (tyI .i64) 3 (.slice Adata (t76).length cdata) k76_0 t76 ∧ (data).length = (t76).length) ?_ ?_
         ·rintro g77 _ _ t76 e78 ⟨k76_0, rfl, rfl, h76_0, hz76_v0⟩ hS
          have nh76_0 := h76_0.len
          refine xSel [none, some 1] ?_
          refine xSub [(0, vs Adata t76 cdata), (1, vi a), (2, vi b), (3, Value.func (.func 42) #[] #[Value.pointer (some a_cmpc)]), (9, vi t14), (10, vi ((s6.2.2 : Nat) : Int))] ?_
          have eS := (Option.some.inj hS).symm
          exact hN34 _ eS _ _ _ e78 ⟨k76_0, by kernel_rfl, by kernel_rfl, h76_0, hz76_v0⟩
         ·intro uu76 hS hN76
          refine xBl 4 ?_
          refine wpq_re 0 (v := Value.slice Adata ((s6.1).length) cdata) (vs Adata (List.set (List.set s6.1 (t14).toNat ((List.getD s6.1 ((IntKind.i64.wrap (t14 - 1))).toNat 0) : Int)) ((IntKind.i64.wrap (t14 - 1))).toNat ((List.getD s6.1 (t14).toNat 0) : Int)) cdata) (by kernel_rfl) (congrArg (fun z => Value.slice Adata z cdata) hz33) ?_
          have h33 := Buf.re h33 hz33 (rfl : (List.set (List.set s6.1 (t14).toNat ((List.getD s6.1 ((IntKind.i64.wrap (t14 - 1))).toNat 0) : Int)) ((IntKind.i64.wrap (t14 - 1))).toNat ((List.getD s6.1 (t14).toNat 0) : Int)) = _)
          refine xSel [none, some 1] ?_
          refine xSub [(0, vs Adata (List.set (List.set s6.1 (t14).toNat ((List.getD s6.1 ((IntKind.i64.wrap (t14 - 1))).toNat 0) : Int)) ((IntKind.i64.wrap (t14 - 1))).toNat ((List.getD s6.1 (t14).toNat 0) : Int)) cdata), (1, vi a), (2, vi b), (3, Value.func (.func 42) #[] #[Value.pointer (some a_cmpc)]), (9, vi t14), (10, vi ((s6.2.2 : Nat) : Int)), (11, vi (IntKind.i64.wrap (t14 - 1)))] ?_
          refine xLo hS (fun g own sl s81 => ∃ (k81_0 : Option Bk), own = [none, k81_0] ∧ sl = [(0, vs Adata s81.1 cdata), (1, vi a), (2, vi b), (3, Value.func (.func 42) #[] #[Value.pointer (some a_cmpc)]), (9, vi t14), (10, vi ((s6.2.2 : Nat) : Int)), (11, vi s81.2)] ∧ Buf g.b (tyI .i64) 3 (.slice Adata (s81.1).length cdata) k81_0 s81.1 ∧ (data).length = (s81.1).length) ⟨k33, by kernel_rfl, by kernel_rfl, h33, hz33_1⟩ ?_
          rintro g82 _ _ s81 uu81 e83 ⟨k81_0, rfl, rfl, h81_0, hz81_v0⟩ hS Qr81 hN81 hD81
          have nh81_0 := h81_0.len
          unfold o71f42_L2 at hS
          refine xSq ?_
          refine xSq ?_
          refine xRg ?_
          refine xB 2 [] [(0, vs Adata s81.1 cdata), (1, vi a), (2, vi b), (3, Value.func (.func 42) #[] #[Value.pointer (some a_cmpc)]), (9, vi t14), (10, vi ((s6.2.2 : Nat) : Int)), (11, vi s81.2), (69, vb (decide (s81.2 ≥ 1)))] ?_
          refine xRe ?_
          refine wpq_then ?_
          refine xCd (decide (s81.2 ≥ 1)) (fun h84 => ?_) (fun h84 => ?_)
          ·have hS := cond_T h84 hS
           have h84p := of_decide_eq_true h84
           refine xSk ?_
           refine wpq_then ?_
           refine xSub [(0, vs Adata s81.1 cdata), (1, vi a), (2, vi b), (3, Value.func (.func 42) #[] #[Value.pointer (some a_cmpc)]), (9, vi t14), (10, vi ((s6.2.2 : Nat) : Int)), (11, vi s81.2)] ?_
           refine xSq ?_
           refine xBl 5 ?_
           refine xSq ?_
           refine xSq ?_
           refine xDr 0 [4, 9] [] [k81_0] 13 (fun RG => ?_) (fun _ _ _ _ _ h => h)
           obtain ⟨q86, hS⟩ := grd_T hS
           have q86p := of_decide_eq_true q86
           have i87 : (s81.2).toNat < (s81.1).length := by omega
           obtain ⟨kc85, cs85, hA85, hk85, hr85, hw85⟩ := h81_0.open_ i87 0
           obtain ⟨kb85, rfl⟩ : ∃ z, z = kc85 := ⟨_, rfl⟩
           subst hk85
           have hr85 : cs85 = [vi (List.getD s81.1 (s81.2).toNat 0)] := hr85
           subst hr85
           refine xT 10 [0, 1, 2] [] [some 1] [(0, vs Adata s81.1 cdata), (1, vi a), (2, vi b), (3, Value.func (.func 42) #[] #[Value.pointer (some a_cmpc)]), (9, vi t14), (10, vi ((s6.2.2 : Nat) : Int)), (11, vi s81.2), (72, Value.func (.func 42) #[] #[Value.pointer (some a_cmpc)]), (73, vs Adata s81.1 cdata), (74, vi s81.2)] RG (Psi.le.refl _) ?_
           refine xTp 3 RG (fun _ => (qIxB (s81.2).toNat 1 kb85.g hA85 (show (s81.2 : Int) = _ from by omega) i87)) ?_
           refine xTv 4 [some 1] RG (Psi.le.refl _) (qLdB (s81.2).toNat 1 0 0 hw85) ?_
           obtain ⟨q88, hS⟩ := grd_T hS
           have q88p := of_decide_eq_true q88
           refine xT 6 [5, 6] [] [some 1] [(0, vs Adata s81.1 cdata), (1, vi a), (2, vi b), (3, Value.func (.func 42) #[] #[Value.pointer (some a_cmpc)]), (9, vi t14), (10, vi ((s6.2.2 : Nat) : Int)), (11, vi s81.2), (72, Value.func (.func 42) #[] #[Value.pointer (some a_cmpc)]), (76, vi (List.getD s81.1 (s81.2).toNat 0)), (77, vs Adata s81.1 cdata), (78, vi s81.2)] RG (Psi.le.refl _) ?_
           refine xTp 7 RG (fun _ => (qSub .i64 (s81.2) (1) (wr64 (by omega)))) ?_
           obtain ⟨q90, hS⟩ := grd_T hS
           have q90p := of_decide_eq_true q90
           have i91 : ((s81.2 - 1)).toNat < (s81.1).length := by omega
           obtain ⟨kc89, cs89, hA89, hk89, hr89, hw89⟩ := h81_0.open_ i91 0
           cases hk89
           have hr89 : cs89 = [vi (List.getD s81.1 ((s81.2 - 1)).toNat 0)] := hr89
           subst hr89
           refine xTp 8 RG (fun _ => (qIxB ((s81.2 - 1)).toNat 1 kb85.g hA89 (show ((s81.2 - 1) : Int) = _ from by omega) i91)) ?_
           refine xTv 9 [some 1] RG (Psi.le.refl _) (qLdB ((s81.2 - 1)).toNat 1 0 0 hw89) ?_
           have hc_cmpcp := hc_cmpcp.mono (e8.trans (e16.trans e83)).r
           have fcmpcp_defs := fcmpcp_defs.mono (e8.trans (e16.trans e83)).r
           have fcmpcp_conds := fcmpcp_conds.mono (e8.trans (e16.trans e83)).r (e8.trans (e16.trans e83)).b
           have hc_cmpc := hc_cmpc.mono (e8.trans (e16.trans e83)).r
           obtain ⟨y92, hy92, hS⟩ := bindO_T hS
           refine xO1 (lds := [4, 9]) 10 ?_
           refine xIe (lds := [4, 9]) (Psi.le.refl _) (eC 0 (fun g' lr eb ln => c42 g' ((List.getD s81.1 (s81.2).toNat 0) : Int) ((List.getD s81.1 ((s81.2 - 1)).toNat 0) : Int) a_cmpc a_cmpcp cmpcp Acmpcp_defs ccmpcp_defs Acmpcp_conds ccmpcp_conds (hc_cmpcp.mono lr) (fcmpcp_defs.mono lr) (ArrM.lent fcmpcp_conds lr eb) (hc_cmpc.mono lr) hy92)) ?_
           rintro _ g93 _ e94 ⟨_, rfl, rfl, rfl⟩
           refine kk [some 1] ?_
           refine xT 0 [11, 12] [] [some 1] [(0, vs Adata s81.1 cdata), (1, vi a), (2, vi b), (3, Value.func (.func 42) #[] #[Value.pointer (some a_cmpc)]), (9, vi t14), (10, vi ((s6.2.2 : Nat) : Int)), (11, vi s81.2), (84, vb (!decide (y92 < 0)))] RG e94.r ?_
           refine xAe (lds := [4, 9]) ?_
           refine wpq_then ?_
           refine xCd ((!decide (y92 < 0))) (fun h95 => ?_) (fun h95 => ?_)
           ·have hS := cond_T h95 hS
            have h95n := not_eq_true_ h95
            have h95np := of_decide_eq_false h95n
            refine xEx 4 ?_
            refine wpq_thenX ?_
            refine wpq_blockX (by kernel_rfl) ?_
            refine wpq_thenX ?_
            refine wpq_thenX ?_
            refine wpq_blockE ?_
            have h81_0 := h81_0.mono e94.b
            refine xSel [none, some 1] ?_
            refine xSub [(0, vs Adata s81.1 cdata), (1, vi a), (2, vi b), (3, Value.func (.func 42) #[] #[Value.pointer (some a_cmpc)]), (9, vi t14), (10, vi ((s6.2.2 : Nat) : Int))] ?_
            have eS := (Option.some.inj hS).symm
            have eS := (hD81 _ eS).symm
            exact hN76 _ eS _ _ _ (e83.trans e94) ⟨(some kb85), by kernel_rfl, by kernel_rfl, h81_0, hz81_v0⟩
           ·have hS := cond_F h95 hS
            have h95n := not_eq_false_ h95
            have h95np := of_decide_eq_true h95n
            refine xSk ?_
            refine wpq_then ?_
            refine xSub [(0, vs Adata s81.1 cdata), (1, vi a), (2, vi b), (3, Value.func (.func 42) #[] #[Value.pointer (some a_cmpc)]), (9, vi t14), (10, vi ((s6.2.2 : Nat) : Int)), (11, vi s81.2)] ?_
            refine xDr 0 [9, 13] [15, 17, 14, 16] [(some kb85)] 18 (fun RG => ?_) (fun _ _ _ _ _ h => h)
            obtain ⟨q96, hS⟩ := grd_T hS
            have q96p := of_decide_eq_true q96
            refine xT 14 [0, 1, 2, 3] [] [some 1] [(0, vs Adata s81.1 cdata), (1, vi a), (2, vi b), (3, Value.func (.func 42) #[] #[Value.pointer (some a_cmpc)]), (9, vi t14), (10, vi ((s6.2.2 : Nat) : Int)), (11, vi s81.2), (85, vs Adata s81.1 cdata), (86, vi s81.2), (87, vs Adata s81.1 cdata), (88, vi s81.2)] RG (Psi.le.refl _) ?_
            refine xTp 4 RG (fun _ => (qSub .i64 (s81.2) (1) (wr64 (by omega)))) ?_
            obtain ⟨q97, hS⟩ := grd_T hS
            have q97p := of_decide_eq_true q97
            refine xT 11 [5, 6] [] [some 1] [(0, vs Adata s81.1 cdata), (1, vi a), (2, vi b), (3, Value.func (.func 42) #[] #[Value.pointer (some a_cmpc)]), (9, vi t14), (10, vi ((s6.2.2 : Nat) : Int)), (11, vi s81.2), (85, vs Adata s81.1 cdata), (86, vi s81.2), (87, vs Adata s81.1 cdata), (89, vi (s81.2 - 1)), (90, vs Adata s81.1 cdata), (91, vi s81.2)] RG (Psi.le.refl _) ?_
            refine xTp 7 RG (fun _ => (qSub .i64 (s81.2) (1) (wr64 (by omega)))) ?_
            have h81_0 := h81_0.mono e94.b
            obtain ⟨q99, hS⟩ := grd_T hS
            have q99p := of_decide_eq_true q99
            have i100 : ((s81.2 - 1)).toNat < (s81.1).length := by omega
            obtain ⟨kc98, cs98, hA98, hk98, hr98, hw98⟩ := h81_0.open_ i100 0
            cases hk98
            have hr98 : cs98 = [vi (List.getD s81.1 ((s81.2 - 1)).toNat 0)] := hr98
            subst hr98
            refine xTp 8 RG (fun _ => (qIxB ((s81.2 - 1)).toNat 1 kb85.g hA98 (show ((s81.2 - 1) : Int) = _ from by omega) i100)) ?_
            refine xTv 9 [some 1] RG (Psi.le.refl _) (qLdB ((s81.2 - 1)).toNat 1 0 0 hw98) ?_
            obtain ⟨q102, hS⟩ := grd_T hS
            have q102p := of_decide_eq_true q102
            have i103 : (s81.2).toNat < (s81.1).length := by omega
            obtain ⟨kc101, cs101, hA101, hk101, hr101, hw101⟩ := h81_0.open_ i103 0
            cases hk101
            have hr101 : cs101 = [vi (List.getD s81.1 (s81.2).toNat 0)] := hr101
            subst hr101
            refine xT 6 [10, 11] [] [some 1] [(0, vs Adata s81.1 cdata), (1, vi a), (2, vi b), (3, Value.func (.func 42) #[] #[Value.pointer (some a_cmpc)]), (9, vi t14), (10, vi ((s6.2.2 : Nat) : Int)), (11, vi s81.2), (85, vs Adata s81.1 cdata), (86, vi s81.2), (87, vs Adata s81.1 cdata), (89, vi (s81.2 - 1)), (94, vi (List.getD s81.1 ((s81.2 - 1)).toNat 0)), (95, vs Adata s81.1 cdata), (96, vi s81.2)] RG (Psi.le.refl _) ?_
            refine xTp 12 RG (fun _ => (qIxB (s81.2).toNat 1 kb85.g hA101 (show (s81.2 : Int) = _ from by omega) i103)) ?_
            refine xTv 13 [some 1] RG (Psi.le.refl _) (qLdB (s81.2).toNat 1 0 0 hw101) ?_
            obtain ⟨q105, hS⟩ := grd_T hS
            have q105p := of_decide_eq_true q105
            have i106 : (s81.2).toNat < (s81.1).length := by omega
            obtain ⟨kc104, cs104, hA104, hk104, hr104, hw104⟩ := h81_0.open_ i106 0
            cases hk104
            have hr104 : cs104 = [vi (List.getD s81.1 (s81.2).toNat 0)] := hr104
            subst hr104
            refine xTp 14 RG (fun _ => (qIxB (s81.2).toNat 1 kb85.g hA104 (show (s81.2 : Int) = _ from by omega) i106)) ?_
            refine xO1 (lds := [9, 13]) 15 ?_
            refine xId (lds := [9, 13]) (Psi.le.refl _) (eStB (s81.2).toNat 1 0 1 [vi (List.getD s81.1 ((s81.2 - 1)).toNat 0)] h81_0 rfl hw104 (show (tyI .i64).rep _ _ _ from rfl) i106) ?_
            rintro _ _ _ - ⟨k107, rfl, rfl, h107⟩
            refine kf ?_
            have hz107 : (s81.1).length = ((List.set s81.1 (s81.2).toNat ((List.getD s81.1 ((s81.2 - 1)).toNat 0) : Int))).length := by simp
            have hz107_1 : (data).length = ((List.set s81.1 (s81.2).toNat ((List.getD s81.1 ((s81.2 - 1)).toNat 0) : Int))).length := hz81_v0.trans hz107
            obtain ⟨q109, hS⟩ := grd_T hS
            have q109p := of_decide_eq_true q109
            have i110 : ((s81.2 - 1)).toNat < ((List.set s81.1 (s81.2).toNat ((List.getD s81.1 ((s81.2 - 1)).toNat 0) : Int))).length := by omega
            have i111 : ((s81.2 - 1)).toNat < (s81.1).length := by have := hz107; omega
            obtain ⟨kc108, cs108, hA108, hk108, hr108, hw108⟩ := h107.open_ i110 0
            obtain ⟨kb108, rfl⟩ : ∃ z, z = kc108 := ⟨_, rfl⟩
            subst hk108
            have hr108 : cs108 = [vi (List.getD (List.set s81.1 (s81.2).toNat ((List.getD s81.1 ((s81.2 - 1)).toNat 0) : Int)) ((s81.2 - 1)).toNat 0)] := hr108
            subst hr108
            refine xTp 16 RG (fun _ => (qIxB ((s81.2 - 1)).toNat 1 kb108.g hA108 (show ((s81.2 - 1) : Int) = _ from by omega) i111)) ?_
            refine xO1 (lds := [9, 13]) 17 ?_
            refine xId (lds := [9, 13]) (Psi.le.refl _) (eStB ((s81.2 - 1)).toNat 1 0 1 [vi (List.getD s81.1 (s81.2).toNat 0)] h107 rfl hw108 (show (tyI .i64).rep _ _ _ from rfl) i110) ?_
            rintro _ _ _ - ⟨k112, rfl, rfl, h112⟩
            refine kf ?_
            have hz112 : (s81.1).length = ((List.set (List.set s81.1 (s81.2).toNat ((List.getD s81.1 ((s81.2 - 1)).toNat 0) : Int)) ((s81.2 - 1)).toNat ((List.getD s81.1 (s81.2).toNat 0) : Int))).length := hz107.trans (by simp)
            have hz112_1 : (data).length = ((List.set (List.set s81.1 (s81.2).toNat ((List.getD s81.1 ((s81.2 - 1)).toNat 0) : Int)) ((s81.2 - 1)).toNat ((List.getD s81.1 (s81.2).toNat 0) : Int))).length := hz107_1.trans (hz107.symm.trans hz112)
            refine xAe (lds := [9, 13]) ?_
            refine wpq_blockN ?_
            refine wpq_then ?_
            refine xSub [(0, Value.slice Adata ((s81.1).length) cdata), (1, vi a), (2, vi b), (3, Value.func (.func 42) #[] #[Value.pointer (some a_cmpc)]), (9, vi t14), (10, vi ((s6.2.2 : Nat) : Int)), (11, vi s81.2)] ?_
            refine xRg ?_
            obtain ⟨q113, hS⟩ := grd_T hS
            have q113p := of_decide_eq_true q113
            refine xB 1 [] [(0, Value.slice Adata ((s81.1).length) cdata), (1, vi a), (2, vi b), (3, Value.func (.func 42) #[] #[Value.pointer (some a_cmpc)]), (9, vi t14), (10, vi ((s6.2.2 : Nat) : Int)), (11, vi s81.2), (70, vi s81.2)] ?_
            refine xV (qSub .i64 (s81.2) (1) (wr64 (by omega))) ?_
            refine xB 1 [] [(0, Value.slice Adata ((s81.1).length) cdata), (1, vi a), (2, vi b), (3, Value.func (.func 42) #[] #[Value.pointer (some a_cmpc)]), (9, vi t14), (10, vi ((s6.2.2 : Nat) : Int)), (11, vi (s81.2 - 1))] ?_
            refine xRe ?_
            refine wpq_thenN ?_
            refine wpq_re 0 (v := Value.slice Adata ((s81.1).length) cdata) (vs Adata (List.set (List.set s81.1 (s81.2).toNat ((List.getD s81.1 ((s81.2 - 1)).toNat 0) : Int)) ((s81.2 - 1)).toNat ((List.getD s81.1 (s81.2).toNat 0) : Int)) cdata) (by kernel_rfl) (congrArg (fun z => Value.slice Adata z cdata) hz112) ?_
            have h112 := Buf.re h112 hz112 (rfl : (List.set (List.set s81.1 (s81.2).toNat ((List.getD s81.1 ((s81.2 - 1)).toNat 0) : Int)) ((s81.2 - 1)).toNat ((List.getD s81.1 (s81.2).toNat 0) : Int)) = _)
            refine xSel [none, some 1] ?_
            refine xSub [(0, vs Adata (List.set (List.set s81.1 (s81.2).toNat ((List.getD s81.1 ((s81.2 - 1)).toNat 0) : Int)) ((s81.2 - 1)).toNat ((List.getD s81.1 (s81.2).toNat 0) : Int)) cdata), (1, vi a), (2, vi b), (3, Value.func (.func 42) #[] #[Value.pointer (some a_cmpc)]), (9, vi t14), (10, vi ((s6.2.2 : Nat) : Int)), (11, vi (s81.2 - 1))] ?_
            have eS := (Option.some.inj hS).symm
            exact hN81 _ eS _ _ _ e94 ⟨k112, by kernel_rfl, by kernel_rfl, h112, hz112_1⟩
          ·have hS := cond_F h84 hS
           have h84p := of_decide_eq_false h84
           refine xEx 4 ?_
           refine wpq_thenX ?_
           refine wpq_thenX ?_
           refine wpq_blockE ?_
           refine xSel [none, some 1] ?_
           refine xSub [(0, vs Adata s81.1 cdata), (1, vi a), (2, vi b), (3, Value.func (.func 42) #[] #[Value.pointer (some a_cmpc)]), (9, vi t14), (10, vi ((s6.2.2 : Nat) : Int))] ?_
           have eS := (Option.some.inj hS).symm
           have eS := (hD81 _ eS).symm
           exact hN76 _ eS _ _ _ e83 ⟨k81_0, by kernel_rfl, by kernel_rfl, h81_0, hz81_v0⟩
        ·have hS := cond_F h75 hS
         have h75p := of_decide_eq_false h75
         refine xSk ?_
         refine wpq_re 0 (v := Value.slice Adata ((s6.1).length) cdata) (vs Adata (List.set (List.set s6.1 (t14).toNat ((List.getD s6.1 ((IntKind.i64.wrap (t14 - 1))).toNat 0) : Int)) ((IntKind.i64.wrap (t14 - 1))).toNat ((List.getD s6.1 (t14).toNat 0) : Int)) cdata) (by kernel_rfl) (congrArg (fun z => Value.slice Adata z cdata) hz33) ?_
         have h33 := Buf.re h33 hz33 (rfl : (List.set (List.set s6.1 (t14).toNat ((List.getD s6.1 ((IntKind.i64.wrap (t14 - 1))).toNat 0) : Int)) ((IntKind.i64.wrap (t14 - 1))).toNat ((List.getD s6.1 (t14).toNat 0) : Int)) = _)
         refine xSel [none, some 1] ?_
         refine xSub [(0, vs Adata (List.set (List.set s6.1 (t14).toNat ((List.getD s6.1 ((IntKind.i64.wrap (t14 - 1))).toNat 0) : Int)) ((IntKind.i64.wrap (t14 - 1))).toNat ((List.getD s6.1 (t14).toNat 0) : Int)) cdata), (1, vi a), (2, vi b), (3, Value.func (.func 42) #[] #[Value.pointer (some a_cmpc)]), (9, vi t14), (10, vi ((s6.2.2 : Nat) : Int))] ?_
         have eS := (Option.some.inj hS).symm
         exact hN34 _ eS _ _ _ (Gh.le.refl _) ⟨k33, by kernel_rfl, by kernel_rfl, h33, hz33_1⟩
    ·intro uu14 hS hN14
     refine xBl 2 ?_
     refine xSel [none, some 1] ?_
     refine xSub [(0, vs Adata s6.1 cdata), (1, vi a), (2, vi b), (3, Value.func (.func 42) #[] #[Value.pointer (some a_cmpc)]), (9, vi s6.2.1), (10, vi ((s6.2.2 : Nat) : Int))] ?_
     refine xLo hS (fun g own sl s116 => own = [none, k6_0] ∧ sl = [(0, vs Adata s6.1 cdata), (1, vi a), (2, vi b), (3, Value.func (.func 42) #[] #[Value.pointer (some a_cmpc)]), (9, vi s116), (10, vi ((s6.2.2 : Nat) : Int))]) ⟨by kernel_rfl, by kernel_rfl⟩ ?_
     rintro g117 _ _ s116 uu116 e118 ⟨rfl, rfl⟩ hS Qr116 hN116 hD116
     unfold o71f42_L3 at hS
     refine xSq ?_
     refine xSq ?_
     refine xDr 0 [8, 13] [] [k6_0] 18 (fun RG => ?_) (fun _ _ _ _ _ h => h)
     refine xT 14 [0, 1, 2, 3] [] [some 1] [(0, vs Adata s6.1 cdata), (1, vi a), (2, vi b), (3, Value.func (.func 42) #[] #[Value.pointer (some a_cmpc)]), (9, vi s116), (10, vi ((s6.2.2 : Nat) : Int)), (22, vb (decide (s116 < b)))] RG (Psi.le.refl _) ?_
     refine xGJoA hS 0 [true, true, true, true, true, true, true, true, true, true, true, true, true, true, true, true, true, true] (fun g own sl t119 => own = [none, k6_0] ∧ sl = [(0, vs Adata s6.1 cdata), (1, vi a), (2, vi b), (3, Value.func (.func 42) #[] #[Value.pointer (some a_cmpc)]), (9, vi s116), (10, vi ((s6.2.2 : Nat) : Int)), (36, vb t119)]) ?_ ?_
     ·rintro g120 _ _ t119 e121 ⟨rfl, rfl⟩ hS
      refine xAe (lds := [8, 13]) ?_
      refine wpq_then ?_
      refine xCd (t119) (fun h122 => ?_) (fun h122 => ?_)
      ·have hS := cond_T h122 hS
       refine xSk ?_
       refine wpq_then ?_
       refine xSub [(0, vs Adata s6.1 cdata), (1, vi a), (2, vi b), (3, Value.func (.func 42) #[] #[Value.pointer (some a_cmpc)]), (9, vi s116), (10, vi ((s6.2.2 : Nat) : Int))] ?_
       refine xBl 3 ?_
       refine xRg ?_
       have z1404 := i64_in_ (s116 + 1)
       refine xB 3 [] [(0, vs Adata s6.1 cdata), (1, vi a), (2, vi b), (3, Value.func (.func 42) #[] #[Value.pointer (some a_cmpc)]), (9, vi (IntKind.i64.wrap (s116 + 1))), (10, vi ((s6.2.2 : Nat) : Int))] ?_
       refine xRe ?_
       refine wpq_blockN ?_
       refine wpq_thenN ?_
       refine xSel [none, some 1] ?_
       refine xSub [(0, vs Adata s6.1 cdata), (1, vi a), (2, vi b), (3, Value.func (.func 42) #[] #[Value.pointer (some a_cmpc)]), (9, vi (IntKind.i64.wrap (s116 + 1))), (10, vi ((s6.2.2 : Nat) : Int))] ?_
       have eS := (Option.some.inj hS).symm
       exact hN116 _ eS _ _ _ e121 ⟨by kernel_rfl, by kernel_rfl⟩
      ·have hS := cond_F h122 hS
       refine xEx 2 ?_
       refine wpq_thenX ?_
       refine wpq_thenX ?_
       refine wpq_blockE ?_
       refine xSel [none, some 1] ?_
       refine xSub [(0, vs Adata s6.1 cdata), (1, vi a), (2, vi b), (3, Value.func (.func 42) #[] #[Value.pointer (some a_cmpc)]), (9, vi s116), (10, vi ((s6.2.2 : Nat) : Int))] ?_
       have eS := (Option.some.inj hS).symm
       have eS := (hD116 _ eS).symm
       exact hN14 _ eS _ _ _ (e118.trans e121) ⟨by kernel_rfl, by kernel_rfl⟩
     ·intro uu119 hS hN119
      refine wpq_split 22 (b := decide (s116 < b)) (by kernel_rfl) (fun q123 => ?_) (fun q123 => ?_)
      ·have hS := cond_T q123 hS
       have q123p := of_decide_eq_true q123
       have h6_0 := h6_0.mono e118.b
       obtain ⟨q125, hS⟩ := grd_T hS
       have q125p := of_decide_eq_true q125
       have i126 : (s116).toNat < (s6.1).length := by omega
       obtain ⟨kc124, cs124, hA124, hk124, hr124, hw124⟩ := h6_0.open_ i126 0
       obtain ⟨kb124, rfl⟩ : ∃ z, z = kc124 := ⟨_, rfl⟩
       subst hk124
       have hr124 : cs124 = [vi (List.getD s6.1 (s116).toNat 0)] := hr124
       subst hr124
       refine xT 11 [4, 5, 6] [] [some 1] [(0, vs Adata s6.1 cdata), (1, vi a), (2, vi b), (3, Value.func (.func 42) #[] #[Value.pointer (some a_cmpc)]), (9, vi s116), (10, vi ((s6.2.2 : Nat) : Int)), (22, vb true), (23, Value.func (.func 42) #[] #[Value.pointer (some a_cmpc)]), (24, vs Adata s6.1 cdata), (25, vi s116)] RG (Psi.le.refl _) ?_
       refine xTp 7 RG (fun _ => (qIxB (s116).toNat 1 kb124.g hA124 (show (s116 : Int) = _ from by omega) i126)) ?_
       refine xTv 8 [some 1] RG (Psi.le.refl _) (qLdB (s116).toNat 1 0 0 hw124) ?_
       have z1405 := i64_in_ (s116 - 1)
       obtain ⟨q128, hS⟩ := grd_T hS
       have q128p := of_decide_eq_true q128
       have i129 : ((IntKind.i64.wrap (s116 - 1))).toNat < (s6.1).length := by omega
       obtain ⟨kc127, cs127, hA127, hk127, hr127, hw127⟩ := h6_0.open_ i129 0
       cases hk127
       have hr127 : cs127 = [vi (List.getD s6.1 ((IntKind.i64.wrap (s116 - 1))).toNat 0)] := hr127
       subst hr127
       refine xT 6 [9, 10, 11] [] [some 1] [(0, vs Adata s6.1 cdata), (1, vi a), (2, vi b), (3, Value.func (.func 42) #[] #[Value.pointer (some a_cmpc)]), (9, vi s116), (10, vi ((s6.2.2 : Nat) : Int)), (22, vb true), (23, Value.func (.func 42) #[] #[Value.pointer (some a_cmpc)]), (27, vi (List.getD s6.1 (s116).toNat 0)), (28, vs Adata s6.1 cdata), (30, vi (IntKind.i64.wrap (s116 - 1)))] RG (Psi.le.refl _) ?_
       refine xTp 12 RG (fun _ => (qIxB ((IntKind.i64.wrap (s116 - 1))).toNat 1 kb124.g hA127 (show ((IntKind.i64.wrap (s116 - 1)) : Int) = _ from by omega) i129)) ?_
       refine xTv 13 [some 1] RG (Psi.le.refl _) (qLdB ((IntKind.i64.wrap (s116 - 1))).toNat 1 0 0 hw127) ?_
       have hc_cmpcp := hc_cmpcp.mono (e8.trans e118).r
       have fcmpcp_defs := fcmpcp_defs.mono (e8.trans e118).r
       have fcmpcp_conds := fcmpcp_conds.mono (e8.trans e118).r (e8.trans e118).b
       have hc_cmpc := hc_cmpc.mono (e8.trans e118).r
       obtain ⟨y130, hy130, hS⟩ := bindO_T hS
       refine xO1 (lds := [8, 13]) 14 ?_
       refine xIe (lds := [8, 13]) (Psi.le.refl _) (eC 0 (fun g' lr eb ln => c42 g' ((List.getD s6.1 (s116).toNat 0) : Int) ((List.getD s6.1 ((IntKind.i64.wrap (s116 - 1))).toNat 0) : Int) a_cmpc a_cmpcp cmpcp Acmpcp_defs ccmpcp_defs Acmpcp_conds ccmpcp_conds (hc_cmpcp.mono lr) (fcmpcp_defs.mono lr) (ArrM.lent fcmpcp_conds lr eb) (hc_cmpc.mono lr) hy130)) ?_
       rintro _ g131 _ e132 ⟨_, rfl, rfl, rfl⟩
       refine kk [some 1] ?_
       refine xT 0 [15, 16, 17] [] [some 1] [(0, vs Adata s6.1 cdata), (1, vi a), (2, vi b), (3, Value.func (.func 42) #[] #[Value.pointer (some a_cmpc)]), (9, vi s116), (10, vi ((s6.2.2 : Nat) : Int)), (36, vb (!decide (y130 < 0)))] RG e132.r ?_
       refine xSel [none, some 1] ?_
       refine xSub [(0, vs Adata s6.1 cdata), (1, vi a), (2, vi b), (3, Value.func (.func 42) #[] #[Value.pointer (some a_cmpc)]), (9, vi s116), (10, vi ((s6.2.2 : Nat) : Int)), (36, vb (!decide (y130 < 0)))] ?_
       exact hN119 _ (Option.some.inj hS).symm _ _ _ e132 ⟨by kernel_rfl, by kernel_rfl⟩
      ·have hS := cond_F q123 hS
       have q123p := of_decide_eq_false q123
       refine xT 4 [4, 5, 6, 7, 8, 9, 10, 11, 12, 13] [] [some 1] [(0, vs Adata s6.1 cdata), (1, vi a), (2, vi b), (3, Value.func (.func 42) #[] #[Value.pointer (some a_cmpc)]), (9, vi s116), (10, vi ((s6.2.2 : Nat) : Int)), (22, vb false), (23, undef), (27, undef), (32, undef)] RG (Psi.le.refl _) ?_
       refine xO1 (lds := [8, 13]) 14 ?_
       refine xIb (lds := [8, 13]) [] ?_
       refine xT 0 [15, 16, 17] [] [some 1] [(0, vs Adata s6.1 cdata), (1, vi a), (2, vi b), (3, Value.func (.func 42) #[] #[Value.pointer (some a_cmpc)]), (9, vi s116), (10, vi ((s6.2.2 : Nat) : Int)), (36, vb false)] RG (Psi.le.refl _) ?_
       refine xSel [none, some 1] ?_
       refine xSub [(0, vs Adata s6.1 cdata), (1, vi a), (2, vi b), (3, Value.func (.func 42) #[] #[Value.pointer (some a_cmpc)]), (9, vi s116), (10, vi ((s6.2.2 : Nat) : Int)), (36, vb false)] ?_
       exact hN119 _ (Option.some.inj hS).symm _ _ _ (Gh.le.refl _) ⟨by kernel_rfl, by kernel_rfl⟩
  ·have hS := cond_F h9 hS
   have h9p := of_decide_eq_false h9
   refine xEx 0 ?_
   refine wpq_thenX ?_
   refine wpq_thenX ?_
   refine wpq_blockE ?_
   refine xSel [none, some 1] ?_
   refine xSub [] ?_
   have eS := (Option.some.inj hS).symm
   have eS := (hD6 _ eS).symm
   exact hN1 _ eS _ _ _ e8 ⟨k6_0, by kernel_rfl, by kernel_rfl, h6_0, hz6_v0⟩

def o72f42_L1 (a : Int) (cmpcp : Board) (s21 : (List Int) × Int × Int) (t27 : Int) (s51 : Int) : Option (Ctl (Int) (Int)) :=
 (bindO (τ := Bool) (cond (decide (t27 ≤ s51)) (grd (decide (0 ≤ a ∧ a < (((s21.1).length : Nat) : Int))) (grd (decide (0 ≤ s51 ∧ s51 < (((s21.1).length : Nat) : Int))) (bindO (τ := Int) (o42 ((List.getD s21.1 (a).toNat 0) : Int) ((List.getD s21.1 (s51).toNat 0) : Int) cmpcp) fun y65 => (some (decide (y65 < 0)))))) (some (false))) fun t54 => (cond (t54) (some (Ctl.go (IntKind.i64.wrap (s51 - 1)))) (some (Ctl.done (s51)))))
def o72f42_L2 (a : Int) (cmpcp : Board) (s21 : (List Int) × Int × Int) (s70 : Int) : Option (Ctl (Int) (Int)) :=
 (bindO (τ := Bool) (cond (decide (s70 ≤ s21.2.2)) (grd (decide (0 ≤ a ∧ a < (((s21.1).length : Nat) : Int))) (grd (decide (0 ≤ s70 ∧ s70 < (((s21.1).length : Nat) : Int))) (bindO (τ := Int) (o42 ((List.getD s21.1 (a).toNat 0) : Int) ((List.getD s21.1 (s70).toNat 0) : Int) cmpcp) fun y84 => (some (!decide (y84 < 0)))))) (some (false))) fun t73 => (cond (t73) (some (Ctl.go (IntKind.i64.wrap (s70 + 1)))) (some (Ctl.done (s70)))))
def o72f42_L0 (a : Int) (cmpcp : Board) (s21 : (List Int) × Int × Int) : Option (Ctl ((List Int) × Int × Int) (Int × (List Int))) :=
 (joinO (τ := (List Int) × Int × Int) (ρ := Ctl ((List Int) × Int × Int) (Int × (List Int))) (bindO (τ := Int) (loopO (σ := Int) (ρ := Int) fuelN (o72f42_L2 a cmpcp s21) (s21.2.1)) fun t27 => (bindO (τ := Int) (loopO (σ := Int) (ρ := Int) fuelN (o72f42_L1 a cmpcp s21 t27) (s21.2.2)) fun t30 => (cond (decide (t27 > t30)) (some (Ctl.done (Ctl.done ((t27, (s21.1 : List Int)))))) (grd (decide (0 ≤ t30 ∧ t30 < (((s21.1).length : Nat) : Int))) (grd (decide (0 ≤ t27 ∧ t27 < (((s21.1).length : Nat) : Int))) (grd (decide (0 ≤ t27 ∧ t27 < (((s21.1).length : Nat) : Int))) (grd (decide (0 ≤ t30 ∧ t30 < ((((List.set s21.1 (t27).toNat ((List.getD s21.1 (t30).toNat 0) : Int))).length : Nat) : Int))) (some (Ctl.go (((List.set (List.set s21.1 (t27).toNat ((List.getD s21.1 (t30).toNat 0) : Int)) (t30).toNat ((List.getD s21.1 (t27).toNat 0) : Int)) : List Int), (IntKind.i64.wrap (t27 + 1)), (IntKind.i64.wrap (t30 - 1)))))))))))) fun t24 => (some (Ctl.go ((t24.1 : List Int), t24.2.1, t24.2.2))))
def o72f42 (data : List Int) (a : Int) (b : Int) (pivot : Int) (cmpcp : Board) : Option ((List Int) × Int) :=
 (grd (decide (0 ≤ pivot ∧ pivot < (((data).length : Nat) : Int))) (grd (decide (0 ≤ a ∧ a < (((data).length : Nat) : Int))) (grd (decide (0 ≤ a ∧ a < (((data).length : Nat) : Int))) (grd (decide (0 ≤ pivot ∧ pivot < ((((List.set data (a).toNat ((List.getD data (pivot).toNat 0) : Int))).length : Nat) : Int))) (bindO (τ := Int × (List Int)) (loopO (σ := (List Int) × Int × Int) (ρ := Int × (List Int)) fuelN (o72f42_L0 a cmpcp) (((List.set (List.set data (a).toNat ((List.getD data (pivot).toNat 0) : Int)) (pivot).toNat ((List.getD data (a).toNat 0) : Int)) : List Int), (IntKind.i64.wrap (a + 1)), (IntKind.i64.wrap (b - 1)))) fun t16 => (some (((t16.2 : List Int), (t16.1 : Int)))))))))
set_option maxRecDepth 100000 in
theorem c72f42 (g : Gh) (data : List Int) (Adata : Option Addr) (cdata : Nat) (kdata : Option Bk) (a : Int) (b : Int) (pivot : Int) (a_cmpc : Addr) (a_cmpcp : Addr) (cmpcp : Board) (Acmpcp_defs : Option Addr) (ccmpcp_defs : Nat) (Acmpcp_conds : Option Addr) (ccmpcp_conds : Nat) (hdata : Buf g.b (tyI .i64) 3 (.slice Adata (data).length cdata) kdata data) (hc_cmpcp : Cells g.r a_cmpcp (cBoard cmpcp Acmpcp_defs ccmpcp_defs Acmpcp_conds ccmpcp_conds)) (fcmpcp_defs : Arr g.r tyAlertDef Acmpcp_defs ccmpcp_defs cmpcp.defs) (fcmpcp_conds : ArrM g.r g.b tyCnd Acmpcp_conds ccmpcp_conds cmpcp.conds) (hc_cmpc : Cells g.r a_cmpc [Value.pointer (some a_cmpcp)]) {r : (List Int) × Int} (hS : o72f42 data a b pivot cmpcp = some r) :
  Ctr Try.prog 72 [vs Adata data cdata, vi a, vi b, vi pivot, Value.func (.func 42) #[] #[Value.pointer (some a_cmpc)]] g [kdata, none] (fun v ψ o => ∃ (ko_data : Option Bk), v = vi r.2 ∧ o = [ko_data] ∧ Buf ψ (tyI .i64) 3 (.slice Adata (data).length cdata) ko_data r.1) := by
 unfold o72f42 at hS
 refine xFn Try.f72 (Try.f72.body.getD .skip) 90 ?_
 have nhdata := hdata.len
 have nfcmpcp_defs := fcmpcp_defs.len
 have nfcmpcp_conds := fcmpcp_conds.len
 refine xSq ?_
 refine xRg ?_
 refine xB 1 [] [(0, vs Adata data cdata), (1, vi a), (2, vi b), (3, vi pivot), (4, Value.func (.func 42) #[] #[Value.pointer (some a_cmpc)])] ?_
 refine xRe ?_
 refine wpq_then ?_
 refine xSq ?_
 refine xDr 0 [7, 11] [13, 15, 12, 14] [kdata] 16 (fun RG => ?_) (fun _ _ _ _ _ h => h)
 obtain ⟨q2, hS⟩ := grd_T hS
 have q2p := of_decide_eq_true q2
 have i3 : (pivot).toNat < (data).length := by omega
 obtain ⟨kc1, cs1, hA1, hk1, hr1, hw1⟩ := hdata.open_ i3 0
 obtain ⟨kb1, rfl⟩ : ∃ z, z = kc1 := ⟨_, rfl⟩
 subst hk1
 have hr1 : cs1 = [vi (List.getD data (pivot).toNat 0)] := hr1
 subst hr1
 refine xT 10 [0, 1, 2, 3, 4, 5] [] [some 0] [(0, vs Adata data cdata), (1, vi a), (2, vi b), (4, Value.func (.func 42) #[] #[Value.pointer (some a_cmpc)]), (13, vs Adata data cdata), (14, vi a), (15, vs Adata data cdata), (16, vi pivot), (17, vs Adata data cdata), (18, vi pivot)] RG (Psi.le.refl _) ?_
 refine xTp 6 RG (fun _ => (qIxB (pivot).toNat 1 kb1.g hA1 (show (pivot : Int) = _ from by omega) i3)) ?_
 refine xTv 7 [some 0] RG (Psi.le.refl _) (qLdB (pivot).toNat 1 0 0 hw1) ?_
 obtain ⟨q5, hS⟩ := grd_T hS
 have q5p := of_decide_eq_true q5
 have i6 : (a).toNat < (data).length := by omega
 obtain ⟨kc4, cs4, hA4, hk4, hr4, hw4⟩ := hdata.open_ i6 0
 cases hk4
 have hr4 : cs4 = [vi (List.getD data (a).toNat 0)] := hr4
 subst hr4
 refine xT 6 [8, 9] [] [some 0] [(0, vs Adata data cdata), (1, vi a), (2, vi b), (4, Value.func (.func 42) #[] #[Value.pointer (some a_cmpc)]), (13, vs Adata data cdata), (14, vi a), (15, vs Adata data cdata), (16, vi pivot), (20, vi (List.getD data (pivot).toNat 0)), (21, vs Adata data cdata), (22, vi a)] RG (Psi.le.refl _) ?_
 refine xTp 10 RG (fun _ => (qIxB (a).toNat 1 kb1.g hA4 (show (a : Int) = _ from by omega) i6)) ?_
 refine xTv 11 [some 0] RG (Psi.le.refl _) (qLdB (a).toNat 1 0 0 hw4) ?_
 obtain ⟨q8, hS⟩ := grd_T hS
 have q8p := of_decide_eq_true q8
 have i9 : (a).toNat < (data).length := by omega
 obtain ⟨kc7, cs7, hA7, hk7, hr7, hw7⟩ := hdata.open_ i9 0
 cases hk7
 have hr7 : cs7 = [vi (List.getD data (a).toNat 0)] := hr7
 subst hr7
 refine xTp 12 RG (fun _ => (qIxB (a).toNat 1 kb1.g hA7 (show (a : Int) = _ from by omega) i9)) ?_
 refine xO1 (lds := [7, 11]) 13 ?_
 refine xId (lds := [7, 11]) (Psi.le.refl _) (eStB (a).toNat 1 0 0 [vi (List.getD data (pivot).toNat 0)] hdata rfl hw7 (show (tyI .i64).rep _ _ _ from rfl) i9) ?_
 rintro _ _ _ - ⟨k10, rfl, rfl, h10⟩
 refine kf ?_
 have hz10 : (data).length = ((List.set data (a).toNat ((List.getD data (pivot).toNat 0) : Int))).length := by simp
 obtain ⟨q12, hS⟩ := grd_T hS
 have q12p := of_decide_eq_true q12
 have i13 : (pivot).toNat < ((List.set data (a).toNat ((List.getD data (pivot).toNat 0) : Int))).length := by omega
 have i14 : (pivot).toNat < (data).length := by have := hz10; omega
 obtain ⟨kc11, cs11, hA11, hk11, hr11, hw11⟩ := h10.open_ i13 0
 obtain ⟨kb11, rfl⟩ : ∃ z, z = kc11 := ⟨_, rfl⟩
 subst hk11
 have hr11 : cs11 = [vi (List.getD (List.set data (a).toNat ((List.getD data (pivot).toNat 0) : Int)) (pivot).toNat 0)] := hr11
 subst hr11
 refine xTp 14 RG (fun _ => (qIxB (pivot).toNat 1 kb11.g hA11 (show (pivot : Int) = _ from by omega) i14)) ?_
 refine xO1 (lds := [7, 11]) 15 ?_
 refine xId (lds := [7, 11]) (Psi.le.refl _) (eStB (pivot).toNat 1 0 0 [vi (List.getD data (a).toNat 0)] h10 rfl hw11 (show (tyI .i64).rep _ _ _ from rfl) i13) ?_
 rintro _ _ _ - ⟨k15, rfl, rfl, h15⟩
 refine kf ?_
 have hz15 : (data).length = ((List.set (List.set data (a).toNat ((List.getD data (pivot).toNat 0) : Int)) (pivot).toNat ((List.getD data (a).toNat 0) : Int))).length := hz10.trans (by simp)
 refine xAe (lds := [7, 11]) ?_
 refine wpq_then ?_
 refine xSub [(0, Value.slice Adata ((data).length) cdata), (1, vi a), (2, vi b), (4, Value.func (.func 42) #[] #[Value.pointer (some a_cmpc)])] ?_
 refine xSq ?_
 refine xRg ?_
 have z1 := i64_in_ (a + 1)
 have z2 := i64_in_ (b - 1)
 refine xB 6 [] [(0, Value.slice Adata ((data).length) cdata), (1, vi a), (4, Value.func (.func 42) #[] #[Value.pointer (some a_cmpc)]), (11, vi (IntKind.i64.wrap (a + 1))), (12, vi (IntKind.i64.wrap (b - 1)))] ?_
 refine xRe ?_
 refine wpq_then ?_
 refine xSq ?_
 refine xBindO hS (fun g own sl t16 => ∃ (k16_1 : Option Bk), own = [none, k16_1] ∧ sl = [(11, vi t16.1)] ∧ Buf g.b (tyI .i64) 3 (.slice Adata (t16.2).length cdata) k16_1 t16.2 ∧ (data).length = (t16.2).length) ?_ ?_
 ·rintro g17 _ _ t16 e18 ⟨k16_1, rfl, rfl, h16_1, hz16_v0⟩ hS
  have nh16_1 := h16_1.len
  refine wpq_then ?_
  refine xSq ?_
  refine xRg ?_
  refine xB 2 [] [(10, vi t16.1)] ?_
  refine xRe ?_
  refine wpq_then ?_
  have eS := (Option.some.inj hS).symm
  subst eS
  exact xRet [some 1] [10] e18 ⟨k16_1, by kernel_rfl, by kernel_rfl, (Buf.re h16_1 hz16_v0.symm rfl)⟩ (fun _ _ h => h)
 ·intro uu16 hS hN16
  refine xBl 0 ?_
  refine wpq_re 0 (v := Value.slice Adata ((data).length) cdata) (vs Adata (List.set (List.set data (a).toNat ((List.getD data (pivot).toNat 0) : Int)) (pivot).toNat ((List.getD data (a).toNat 0) : Int)) cdata) (by kernel_rfl) (congrArg (fun z => Value.slice Adata z cdata) hz15) ?_
  have h15 := Buf.re h15 hz15 (rfl : (List.set (List.set data (a).toNat ((List.getD data (pivot).toNat 0) : Int)) (pivot).toNat ((List.getD data (a).toNat 0) : Int)) = _)
  refine xSel [none, some 0] ?_
  refine xSub [(0, vs Adata (List.set (List.set data (a).toNat ((List.getD data (pivot).toNat 0) : Int)) (pivot).toNat ((List.getD data (a).toNat 0) : Int)) cdata), (1, vi a), (4, Value.func (.func 42) #[] #[Value.pointer (some a_cmpc)]), (11, vi (IntKind.i64.wrap (a + 1))), (12, vi (IntKind.i64.wrap (b - 1)))] ?_
  refine xLo hS (fun g own sl s21 => ∃ (k21_0 : Option Bk), own = [none, k21_0] ∧ sl = [(0, vs Adata s21.1 cdata), (1, vi a), (4, Value.func (.func 42) #[] #[Value.pointer (some a_cmpc)]), (11, vi s21.2.1), (12, vi s21.2.2)] ∧ Buf g.b (tyI .i64) 3 (.slice Adata (s21.1).length cdata) k21_0 s21.1 ∧ (data).length = (s21.1).length) ⟨k15, by kernel_rfl, by kernel_rfl, h15, hz15⟩ ?_
  rintro g22 _ _ s21 uu21 e23 ⟨k21_0, rfl, rfl, h21_0, hz21_v0⟩ hS Qr21 hN21 hD21
  have nh21_0 := h21_0.len
  unfold o72f42_L0 at hS
  refine xJoinO hS (fun g own sl t24 => ∃ (k24_0 : Option Bk), own = [none, k24_0] ∧ sl = [(0, vs Adata t24.1 cdata), (1, vi a), (4, Value.func (.func 42) #[] #[Value.pointer (some a_cmpc)]), (11, vi t24.2.1), (12, vi t24.2.2)] ∧ Buf g.b (tyI .i64) 3 (.slice Adata (t24.1).length cdata) k24_0 t24.1 ∧ (data).length = (t24.1).length) ?_ ?_
  ·rintro g25 _ _ t24 e26 ⟨k24_0, rfl, rfl, h24_0, hz24_v0⟩ hS
   have nh24_0 := h24_0.len
   refine wpq_thenN ?_
   refine xSel [none, some 1] ?_
   refine xSub [(0, vs Adata t24.1 cdata), (1, vi a), (4, Value.func (.func 42) #[] #[Value.pointer (some a_cmpc)]), (11, vi t24.2.1), (12, vi t24.2.2)] ?_
   have eS := (Option.some.inj hS).symm
   exact hN21 _ eS _ _ _ e26 ⟨k24_0, by kernel_rfl, by kernel_rfl, h24_0, hz24_v0⟩
  ·intro uu24 hS hN24 hD24
   refine xBl 1 ?_
   refine xSq ?_
   refine xBindO hS (fun g own sl t27 => own = [none, k21_0] ∧ sl = [(0, vs Adata s21.1 cdata), (1, vi a), (4, Value.func (.func 42) #[] #[Value.pointer (some a_cmpc)]), (11, vi t27), (12, vi s21.2.2)]) ?_ ?_
   ·rintro g28 _ _ t27 e29 ⟨rfl, rfl⟩ hS
    refine wpq_then ?_
    refine xSq ?_
    refine xBindO hS (fun g own sl t30 => own = [none, k21_0] ∧ sl = [(0, vs Adata s21.1 cdata), (1, vi a), (4, Value.func (.func 42) #[] #[Value.pointer (some a_cmpc)]), (11, vi t27), (12, vi t30)]) ?_ ?_
    ·rintro g31 _ _ t30 e32 ⟨rfl, rfl⟩ hS
     refine wpq_then ?_
     refine xSq ?_
     refine xSq ?_
     refine xRg ?_
     refine xB 3 [] [(0, vs Adata s21.1 cdata), (1, vi a), (4, Value.func (.func 42) #[] #[Value.pointer (some a_cmpc)]), (11, vi t27), (12, vi t30), (70, vb (decide (t27 > t30)))] ?_
     refine xRe ?_
     refine wpq_then ?_
     refine xCd (decide (t27 > t30)) (fun h33 => ?_) (fun h33 => ?_)
     ·have hS := cond_T h33 hS
      have h33p := of_decide_eq_true h33
      refine xEx 0 ?_
      refine wpq_thenX ?_
      refine wpq_blockX (by kernel_rfl) ?_
      refine wpq_thenX ?_
      refine wpq_blockE ?_
      have h21_0 := h21_0.mono (e29.trans e32).b
      refine xSel [none, some 1] ?_
      refine xSub [(11, vi t27)] ?_
      have eS := (Option.some.inj hS).symm
      have eS := (hD24 _ eS).symm
      have eS := (hD21 _ eS).symm
      exact hN16 _ eS _ _ _ (e23.trans (e29.trans e32)) ⟨k21_0, by kernel_rfl, by kernel_rfl, h21_0, hz21_v0⟩
     ·have hS := cond_F h33 hS
      have h33p := of_decide_eq_false h33
      refine xSk ?_
      refine wpq_then ?_
      refine xSub [(0, vs Adata s21.1 cdata), (1, vi a), (4, Value.func (.func 42) #[] #[Value.pointer (some a_cmpc)]), (11, vi t27), (12, vi t30)] ?_
      refine xSq ?_
      refine xDr 0 [7, 11] [13, 15, 12, 14] [k21_0] 16 (fun RG => ?_) (fun _ _ _ _ _ h => h)
      have h21_0 := h21_0.mono (e29.trans e32).b
      obtain ⟨q35, hS⟩ := grd_T hS
      have q35p := of_decide_eq_true q35
      have i36 : (t30).toNat < (s21.1).length := by omega
      obtain ⟨kc34, cs34, hA34, hk34, hr34, hw34⟩ := h21_0.open_ i36 0
      obtain ⟨kb34, rfl⟩ : ∃ z, z = kc34 := ⟨_, rfl⟩
      subst hk34
      have hr34 : cs34 = [vi (List.getD s21.1 (t30).toNat 0)] := hr34
      subst hr34
      refine xT 10 [0, 1, 2, 3, 4, 5] [] [some 1] [(0, vs Adata s21.1 cdata), (1, vi a), (4, Value.func (.func 42) #[] #[Value.pointer (some a_cmpc)]), (11, vi t27), (12, vi t30), (71, vs Adata s21.1 cdata), (72, vi t27), (73, vs Adata s21.1 cdata), (74, vi t30), (75, vs Adata s21.1 cdata), (76, vi t30)] RG (Psi.le.refl _) ?_
      refine xTp 6 RG (fun _ => (qIxB (t30).toNat 1 kb34.g hA34 (show (t30 : Int) = _ from by omega) i36)) ?_
      refine xTv 7 [some 1] RG (Psi.le.refl _) (qLdB (t30).toNat 1 0 0 hw34) ?_
      obtain ⟨q38, hS⟩ := grd_T hS
      have q38p := of_decide_eq_true q38
      have i39 : (t27).toNat < (s21.1).length := by omega
      obtain ⟨kc37, cs37, hA37, hk37, hr37, hw37⟩ := h21_0.open_ i39 0
      cases hk37
      have hr37 : cs37 = [vi (List.getD s21.1 (t27).toNat 0)] := hr37
      subst hr37
      refine xT 6 [8, 9] [] [some 1] [(0, vs Adata s21.1 cdata), (1, vi a), (4, Value.func (.func 42) #[] #[Value.pointer (some a_cmpc)]), (11, vi t27), (12, vi t30), (71, vs Adata s21.1 cdata), (72, vi t27), (73, vs Adata s21.1 cdata), (74, vi t30), (78, vi (List.getD s21.1 (t30).toNat 0)), (79, vs Adata s21.1 cdata), (80, vi t27)] RG (Psi.le.refl _) ?_
      refine xTp 10 RG (fun _ => (qIxB (t27).toNat 1 kb34.g hA37 (show (t27 : Int) = _ from by omega) i39)) ?_
      refine xTv 11 [some 1] RG (Psi.le.refl _) (qLdB (t27).toNat 1 0 0 hw37) ?_
      obtain ⟨q41, hS⟩ := grd_T hS
      have q41p := of_decide_eq_true q41
      have i42 : (t27).toNat < (s21.1).length := by omega
      obtain ⟨kc40, cs40, hA40, hk40, hr40, hw40⟩ := h21_0.open_ i42 0
      cases hk40
      have hr40 : cs40 = [vi (List.getD s21.1 (t27).toNat 0)] := hr40
      subst hr40
      refine xTp 12 RG (fun _ => (qIxB (t27).toNat 1 kb34.g hA40 (show (t27 : Int) = _ from by omega) i42)) ?_
      refine xO1 (lds := [7, 11]) 13 ?_
      refine xId (lds := [7, 11]) (Psi.le.refl _) (eStB (t27).toNat 1 0 1 [vi (List.getD s21.1 (t30).toNat 0)] h21_0 rfl hw40 (show (tyI .i64).rep _ _ _ from rfl) i42) ?_
      rintro _ _ _ - ⟨k43, rfl, rfl, h43⟩
      refine kf ?_
      have hz43 : (s21.1).length = ((List.set s21.1 (t27).toNat ((List.getD s21.1 (t30).toNat 0) : Int))).length := by simp
      have hz43_1 : (data).length = ((List.set s21.1 (t27).toNat ((List.getD s21.1 (t30).toNat 0) : Int))).length := hz21_v0.trans hz43
      obtain ⟨q45, hS⟩ := grd_T hS
      have q45p := of_decide_eq_true q45
      have i46 : (t30).toNat < ((List.set s21.1 (t27).toNat ((List.getD s21.1 (t30).toNat 0) : Int))).length := by omega
      have i47 : (t30).toNat < (s21.1).length := by have := hz43; omega
      obtain ⟨kc44, cs44, hA44, hk44, hr44, hw44⟩ := h43.open_ i46 0
      obtain ⟨kb44, rfl⟩ : ∃ z, z = kc44 := ⟨_, rfl⟩
      subst hk44
      have hr44 : cs44 = [vi (List.getD (List.set s21.1 (t27).toNat ((List.getD s21.1 (t30).toNat 0) : Int)) (t30).toNat 0)] := hr44
      subst hr44
      refine xTp 14 RG (fun _ => (qIxB (t30).toNat 1 kb44.g hA44 (show (t30 : Int) = _ from by omega) i47)) ?_
      refine xO1 (lds := [7, 11]) 15 ?_
      refine xId (lds := [7, 11]) (Psi.le.refl _) (eStB (t30).toNat 1 0 1 [vi (List.getD s21.1 (t27).toNat 0)] h43 rfl hw44 (show (tyI .i64).rep _ _ _ from rfl) i46) ?_
      rintro _ _ _ - ⟨k48, rfl, rfl, h48⟩
      refine kf ?_
      have hz48 : (s21.1).length = ((List.set (List.set s21.1 (t27).toNat ((List.getD s21.1 (t30).toNat 0) : Int)) (t30).toNat ((List.getD s21.1 (t27).toNat 0) : Int))).length := hz43.trans (by simp)
      have hz48_1 : (data).length = ((List.set (List.set s21.1 (t27).toNat ((List.getD s21.1 (t30).toNat 0) : Int)) (t30).toNat ((List.getD s21.1 (t27).toNat 0) : Int))).length := hz43_1.trans (hz43.symm.trans hz48)
      refine xAe (lds := [7, 11]) ?_
      refine wpq_then ?_
      refine xSub [(0, Value.slice Adata ((s21.1).length) cdata), (1, vi a), (4, Value.func (.func 42) #[] #[Value.pointer (some a_cmpc)]), (11, vi t27), (12, vi t30)] ?_
      refine xSq ?_
      refine xRg ?_
      have z301 := i64_in_ (t27 + 1)
      refine xB 3 [] [(0, Value.slice Adata ((s21.1).length) cdata), (1, vi a), (4, Value.func (.func 42) #[] #[Value.pointer (some a_cmpc)]), (11, vi (IntKind.i64.wrap (t27 + 1))), (12, vi t30)] ?_
      refine xRe ?_
      refine wpq_then ?_
      refine xRg ?_
      have z302 := i64_in_ (t30 - 1)
      refine xB 3 [] [(0, Value.slice Adata ((s21.1).length) cdata), (1, vi a), (4, Value.func (.func 42) #[] #[Value.pointer (some a_cmpc)]), (11, vi (IntKind.i64.wrap (t27 + 1))), (12, vi (IntKind.i64.wrap (t30 - 1)))] ?_
      refine xRe ?_
      refine wpq_blockN ?_
      refine wpq_re 0 (v := Value.slice Adata ((s21.1).length) cdata) (vs Adata (List.set (List.set s21.1 (t27).toNat ((List.getD s21.1 (t30).toNat 0) : Int)) (t30).toNat ((List.getD s21.1 (t27).toNat 0) : Int)) cdata) (by kernel_rfl) (congrArg (fun z => Value.slice Adata z cdata) hz48) ?_
      have h48 := Buf.re h48 hz48 (rfl : (List.set (List.set s21.1 (t27).toNat ((List.getD s21.1 (t30).toNat 0) : Int)) (t30).toNat ((List.getD s21.1 (t27).toNat 0) : Int)) = _)
      refine xSel [none, some 1] ?_
      refine xSub [(0, vs Adata (List.set (List.set s21.1 (t27).toNat ((List.getD s21.1 (t30).toNat 0) : Int)) (t30).toNat ((List.getD s21.1 (t27).toNat 0) : Int)) cdata), (1, vi a), (4, Value.func (.func 42) #[] #[Value.pointer (some a_cmpc)]), (11, vi (IntKind.i64.wrap (t27 + 1))), (12, vi (IntKind.i64.wrap (t30 - 1)))] ?_
      have eS := (Option.some.inj hS).symm
      exact hN24 _ eS _ _ _ (e29.trans e32) ⟨k48, by kernel_rfl, by kernel_rfl, h48, hz48_1⟩
    ·intro uu30 hS hN30
     refine xBl 4 ?_
     refine xSel [none, some 1] ?_
     refine xSub [(0, vs Adata s21.1 cdata), (1, vi a), (4, Value.func (.func 42) #[] #[Value.pointer (some a_cmpc)]), (11, vi t27), (12, vi s21.2.2)] ?_
     refine xLo hS (fun g own sl s51 => own = [none, k21_0] ∧ sl = [(0, vs Adata s21.1 cdata), (1, vi a), (4, Value.func (.func 42) #[] #[Value.pointer (some a_cmpc)]), (11, vi t27), (12, vi s51)]) ⟨by kernel_rfl, by kernel_rfl⟩ ?_
     rintro g52 _ _ s51 uu51 e53 ⟨rfl, rfl⟩ hS Qr51 hN51 hD51
     unfold o72f42_L1 at hS
     refine xSq ?_
     refine xSq ?_
     refine xDr 0 [8, 12] [] [k21_0] 16 (fun RG => ?_) (fun _ _ _ _ _ h => h)
     refine xT 12 [0, 1, 2, 3] [] [some 1] [(0, vs Adata s21.1 cdata), (1, vi a), (4, Value.func (.func 42) #[] #[Value.pointer (some a_cmpc)]), (11, vi t27), (12, vi s51), (53, vb (decide (t27 ≤ s51)))] RG (Psi.le.refl _) ?_
     refine xGJoA hS 0 [true, true, true, true, true, true, true, true, true, true, true, true, true, true, true, true] (fun g own sl t54 => own = [none, k21_0] ∧ sl = [(0, vs Adata s21.1 cdata), (1, vi a), (4, Value.func (.func 42) #[] #[Value.pointer (some a_cmpc)]), (11, vi t27), (12, vi s51), (65, vb t54)]) ?_ ?_
     ·rintro g55 _ _ t54 e56 ⟨rfl, rfl⟩ hS
      refine xAe (lds := [8, 12]) ?_
      refine wpq_then ?_
      refine xCd (t54) (fun h57 => ?_) (fun h57 => ?_)
      ·have hS := cond_T h57 hS
       refine xSk ?_
       refine wpq_then ?_
       refine xSub [(0, vs Adata s21.1 cdata), (1, vi a), (4, Value.func (.func 42) #[] #[Value.pointer (some a_cmpc)]), (11, vi t27), (12, vi s51)] ?_
       refine xBl 5 ?_
       refine xRg ?_
       have z308 := i64_in_ (s51 - 1)
       refine xB 3 [] [(0, vs Adata s21.1 cdata), (1, vi a), (4, Value.func (.func 42) #[] #[Value.pointer (some a_cmpc)]), (11, vi t27), (12, vi (IntKind.i64.wrap (s51 - 1)))] ?_
       refine xRe ?_
       refine wpq_blockN ?_
       refine wpq_thenN ?_
       refine xSel [none, some 1] ?_
       refine xSub [(0, vs Adata s21.1 cdata), (1, vi a), (4, Value.func (.func 42) #[] #[Value.pointer (some a_cmpc)]), (11, vi t27), (12, vi (IntKind.i64.wrap (s51 - 1)))] ?_
       have eS := (Option.some.inj hS).symm
       exact hN51 _ eS _ _ _ e56 ⟨by kernel_rfl, by kernel_rfl⟩
      ·have hS := cond_F h57 hS
       refine xEx 4 ?_
       refine wpq_thenX ?_
       refine wpq_thenX ?_
       refine wpq_blockE ?_
       refine xSel [none, some 1] ?_
       refine xSub [(0, vs Adata s21.1 cdata), (1, vi a), (4, Value.func (.func 42) #[] #[Value.pointer (some a_cmpc)]), (11, vi t27), (12, vi s51)] ?_
       have eS := (Option.some.inj hS).symm
       have eS := (hD51 _ eS).symm
       exact hN30 _ eS _ _ _ (e53.trans e56) ⟨by kernel_rfl, by kernel_rfl⟩
     ·intro uu54 hS hN54
      refine wpq_split 53 (b := decide (t27 ≤ s51)) (by kernel_rfl) (fun q58 => ?_) (fun q58 => ?_)
      ·have hS := cond_T q58 hS
       have q58p := of_decide_eq_true q58
       have h21_0 := h21_0.mono (e29.trans e53).b
       obtain ⟨q60, hS⟩ := grd_T hS
       have q60p := of_decide_eq_true q60
       have i61 : (a).toNat < (s21.1).length := by omega
       obtain ⟨kc59, cs59, hA59, hk59, hr59, hw59⟩ := h21_0.open_ i61 0
       obtain ⟨kb59, rfl⟩ : ∃ z, z = kc59 := ⟨_, rfl⟩
       subst hk59
       have hr59 : cs59 = [vi (List.getD s21.1 (a).toNat 0)] := hr59
       subst hr59
       refine xT 9 [4, 5, 6] [] [some 1] [(0, vs Adata s21.1 cdata), (1, vi a), (4, Value.func (.func 42) #[] #[Value.pointer (some a_cmpc)]), (11, vi t27), (12, vi s51), (53, vb true), (54, Value.func (.func 42) #[] #[Value.pointer (some a_cmpc)]), (55, vs Adata s21.1 cdata), (56, vi a)] RG (Psi.le.refl _) ?_
       refine xTp 7 RG (fun _ => (qIxB (a).toNat 1 kb59.g hA59 (show (a : Int) = _ from by omega) i61)) ?_
       refine xTv 8 [some 1] RG (Psi.le.refl _) (qLdB (a).toNat 1 0 0 hw59) ?_
       obtain ⟨q63, hS⟩ := grd_T hS
       have q63p := of_decide_eq_true q63
       have i64 : (s51).toNat < (s21.1).length := by omega
       obtain ⟨kc62, cs62, hA62, hk62, hr62, hw62⟩ := h21_0.open_ i64 0
       cases hk62
       have hr62 : cs62 = [vi (List.getD s21.1 (s51).toNat 0)] := hr62
       subst hr62
       refine xT 5 [9, 10] [] [some 1] [(0, vs Adata s21.1 cdata), (1, vi a), (4, Value.func (.func 42) #[] #[Value.pointer (some a_cmpc)]), (11, vi t27), (12, vi s51), (53, vb true), (54, Value.func (.func 42) #[] #[Value.pointer (some a_cmpc)]), (58, vi (List.getD s21.1 (a).toNat 0)), (59, vs Adata s21.1 cdata), (60, vi s51)] RG (Psi.le.refl _) ?_
       refine xTp 11 RG (fun _ => (qIxB (s51).toNat 1 kb59.g hA62 (show (s51 : Int) = _ from by omega) i64)) ?_
       refine xTv 12 [some 1] RG (Psi.le.refl _) (qLdB (s51).toNat 1 0 0 hw62) ?_
       have hc_cmpcp := hc_cmpcp.mono (e23.trans (e29.trans e53)).r
       have fcmpcp_defs := fcmpcp_defs.mono (e23.trans (e29.trans e53)).r
       have fcmpcp_conds := fcmpcp_conds.mono (e23.trans (e29.trans e53)).r (e23.trans (e29.trans e53)).b
       have hc_cmpc := hc_cmpc.mono (e23.trans (e29.trans e53)).r
       obtain ⟨y65, hy65, hS⟩ := bindO_T hS
       refine xO1 (lds := [8, 12]) 13 ?_
       refine xIe (lds := [8, 12]) (Psi.le.refl _) (eC 0 (fun g' lr eb ln => c42 g' ((List.getD s21.1 (a).toNat 0) : Int) ((List.getD s21.1 (s51).toNat 0) : Int) a_cmpc a_cmpcp cmpcp Acmpcp_defs ccmpcp_defs Acmpcp_conds ccmpcp_conds (hc_cmpcp.mono lr) (fcmpcp_defs.mono lr) (ArrM.lent fcmpcp_conds lr eb) (hc_cmpc.mono lr) hy65)) ?_
       rintro _ g66 _ e67 ⟨_, rfl, rfl, rfl⟩
       refine kk [some 1] ?_
       refine xT 0 [14, 15] [] [some 1] [(0, vs Adata s21.1 cdata), (1, vi a), (4, Value.func (.func 42) #[] #[Value.pointer (some a_cmpc)]), (11, vi t27), (12, vi s51), (65, vb (decide (y65 < 0)))] RG e67.r ?_
       refine xSel [none, some 1] ?_
       refine xSub [(0, vs Adata s21.1 cdata), (1, vi a), (4, Value.func (.func 42) #[] #[Value.pointer (some a_cmpc)]), (11, vi t27), (12, vi s51), (65, vb (decide (y65 < 0)))] ?_
       exact hN54 _ (Option.some.inj hS).symm _ _ _ e67 ⟨by kernel_rfl, by kernel_rfl⟩
      ·have hS := cond_F q58 hS
       have q58p := of_decide_eq_false q58
       refine xT 3 [4, 5, 6, 7, 8, 9, 10, 11, 12] [] [some 1] [(0, vs Adata s21.1 cdata), (1, vi a), (4, Value.func (.func 42) #[] #[Value.pointer (some a_cmpc)]), (11, vi t27), (12, vi s51), (53, vb false), (54, undef), (58, undef), (62, undef)] RG (Psi.le.refl _) ?_
       refine xO1 (lds := [8, 12]) 13 ?_
       refine xIb (lds := [8, 12]) [] ?_
       refine xT 0 [14, 15] [] [some 1] [(0, vs Adata s21.1 cdata), (1, vi a), (4, Value.func (.func 42) #[] #[Value.pointer (some a_cmpc)]), (11, vi t27), (12, vi s51), (65, vb false)] RG (Psi.le.refl _) ?_
       refine xSel [none, some 1] ?_
       refine xSub [(0, vs Adata s21.1 cdata), (1, vi a), (4, Value.func (.func 42) #[] #[Value.pointer (some a_cmpc)]), (11, vi t27), (12, vi s51), (65, vb false)] ?_
       exact hN54 _ (Option.some.inj hS).symm _ _ _ (Gh.le.refl _) ⟨by kernel_rfl, by kernel_rfl⟩
   ·intro uu27 hS hN27
    refine xBl 2 ?_
    refine xSel [none, some 1] ?_
    refine xSub [(0, vs Adata s21.1 cdata), (1, vi a), (4, Value.func (.func 42) #[] #[Value.pointer (some a_cmpc)]), (11, vi s21.2.1), (12, vi s21.2.2)] ?_
    refine xLo hS (fun g own sl s70 => own = [none, k21_0] ∧ sl = [(0, vs Adata s21.1 cdata), (1, vi a), (4, Value.func (.func 42) #[] #[Value.pointer (some a_cmpc)]), (11, vi s70), (12, vi s21.2.2)]) ⟨by kernel_rfl, by kernel_rfl⟩ ?_
    rintro g71 _ _ s70 uu70 e72 ⟨rfl, rfl⟩ hS Qr70 hN70 hD70
    unfold o72f42_L2 at hS
    refine xSq ?_
    refine xSq ?_
    refine xDr 0 [8, 12] [] [k21_0] 17 (fun RG => ?_) (fun _ _ _ _ _ h => h)
    refine xT 13 [0, 1, 2, 3] [] [some 1] [(0, vs Adata s21.1 cdata), (1, vi a), (4, Value.func (.func 42) #[] #[Value.pointer (some a_cmpc)]), (11, vi s70), (12, vi s21.2.2), (34, vb (decide (s70 ≤ s21.2.2)))] RG (Psi.le.refl _) ?_
    refine xGJoA hS 0 [true, true, true, true, true, true, true, true, true, true, true, true, true, true, true, true, true] (fun g own sl t73 => own = [none, k21_0] ∧ sl = [(0, vs Adata s21.1 cdata), (1, vi a), (4, Value.func (.func 42) #[] #[Value.pointer (some a_cmpc)]), (11, vi s70), (12, vi s21.2.2), (47, vb t73)]) ?_ ?_
    ·rintro g74 _ _ t73 e75 ⟨rfl, rfl⟩ hS
     refine xAe (lds := [8, 12]) ?_
     refine wpq_then ?_
     refine xCd (t73) (fun h76 => ?_) (fun h76 => ?_)
     ·have hS := cond_T h76 hS
      refine xSk ?_
      refine wpq_then ?_
      refine xSub [(0, vs Adata s21.1 cdata), (1, vi a), (4, Value.func (.func 42) #[] #[Value.pointer (some a_cmpc)]), (11, vi s70), (12, vi s21.2.2)] ?_
      refine xBl 3 ?_
      refine xRg ?_
      have z314 := i64_in_ (s70 + 1)
      refine xB 3 [] [(0, vs Adata s21.1 cdata), (1, vi a), (4, Value.func (.func 42) #[] #[Value.pointer (some a_cmpc)]), (11, vi (IntKind.i64.wrap (s70 + 1))), (12, vi s21.2.2)] ?_
      refine xRe ?_
      refine wpq_blockN ?_
      refine wpq_thenN ?_
      refine xSel [none, some 1] ?_
      refine xSub [(0, vs Adata s21.1 cdata), (1, vi a), (4, Value.func (.func 42) #[] #[Value.pointer (some a_cmpc)]), (11, vi (IntKind.i64.wrap (s70 + 1))), (12, vi s21.2.2)] ?_
      have eS := (Option.some.inj hS).symm
      exact hN70 _ eS _ _ _ e75 ⟨by kernel_rfl, by kernel_rfl⟩
     ·have hS := cond_F h76 hS
      refine xEx 2 ?_
      refine wpq_thenX ?_
      refine wpq_thenX ?_
      refine wpq_blockE ?_
      refine xSel [none, some 1] ?_
      refine xSub [(0, vs Adata s21.1 cdata), (1, vi a), (4, Value.func (.func 42) #[] #[Value.pointer (some a_cmpc)]), (11, vi s70), (12, vi s21.2.2)] ?_
      have eS := (Option.some.inj hS).symm
      have eS := (hD70 _ eS).symm
      exact hN27 _ eS _ _ _ (e72.trans e75) ⟨by kernel_rfl, by kernel_rfl⟩
    ·intro uu73 hS hN73
     refine wpq_split 34 (b := decide (s70 ≤ s21.2.2)) (by kernel_rfl) (fun q77 => ?_) (fun q77 => ?_)
     ·have hS := cond_T q77 hS
      have q77p := of_decide_eq_true q77
      have h21_0 := h21_0.mono e72.b
      obtain ⟨q79, hS⟩ := grd_T hS
      have q79p := of_decide_eq_true q79
      have i80 : (a).toNat < (s21.1).length := by omega
      obtain ⟨kc78, cs78, hA78, hk78, hr78, hw78⟩ := h21_0.open_ i80 0
      obtain ⟨kb78, rfl⟩ : ∃ z, z = kc78 := ⟨_, rfl⟩
      subst hk78
      have hr78 : cs78 = [vi (List.getD s21.1 (a).toNat 0)] := hr78
      subst hr78
      refine xT 10 [4, 5, 6] [] [some 1] [(0, vs Adata s21.1 cdata), (1, vi a), (4, Value.func (.func 42) #[] #[Value.pointer (some a_cmpc)]), (11, vi s70), (12, vi s21.2.2), (34, vb true), (35, Value.func (.func 42) #[] #[Value.pointer (some a_cmpc)]), (36, vs Adata s21.1 cdata), (37, vi a)] RG (Psi.le.refl _) ?_
      refine xTp 7 RG (fun _ => (qIxB (a).toNat 1 kb78.g hA78 (show (a : Int) = _ from by omega) i80)) ?_
      refine xTv 8 [some 1] RG (Psi.le.refl _) (qLdB (a).toNat 1 0 0 hw78) ?_
      obtain ⟨q82, hS⟩ := grd_T hS
      have q82p := of_decide_eq_true q82
      have i83 : (s70).toNat < (s21.1).length := by omega
      obtain ⟨kc81, cs81, hA81, hk81, hr81, hw81⟩ := h21_0.open_ i83 0
      cases hk81
      have hr81 : cs81 = [vi (List.getD s21.1 (s70).toNat 0)] := hr81
      subst hr81
      refine xT 6 [9, 10] [] [some 1] [(0, vs Adata s21.1 cdata), (1, vi a), (4, Value.func (.func 42) #[] #[Value.pointer (some a_cmpc)]), (11, vi s70), (12, vi s21.2.2), (34, vb true), (35, Value.func (.func 42) #[] #[Value.pointer (some a_cmpc)]), (39, vi (List.getD s21.1 (a).toNat 0)), (40, vs Adata s21.1 cdata), (41, vi s70)] RG (Psi.le.refl _) ?_
      refine xTp 11 RG (fun _ => (qIxB (s70).toNat 1 kb78.g hA81 (show (s70 : Int) = _ from by omega) i83)) ?_
      refine xTv 12 [some 1] RG (Psi.le.refl _) (qLdB (s70).toNat 1 0 0 hw81) ?_
      have hc_cmpcp := hc_cmpcp.mono (e23.trans e72).r
      have fcmpcp_defs := fcmpcp_defs.mono (e23.trans e72).r
      have fcmpcp_conds := fcmpcp_conds.mono (e23.trans e72).r (e23.trans e72).b
      have hc_cmpc := hc_cmpc.mono (e23.trans e72).r
      obtain ⟨y84, hy84, hS⟩ := bindO_T hS
      refine xO1 (lds := [8, 12]) 13 ?_
      refine xIe (lds := [8, 12]) (Psi.le.refl _) (eC 0 (fun g' lr eb ln => c42 g' ((List.getD s21.1 (a).toNat 0) : Int) ((List.getD s21.1 (s70).toNat 0) : Int) a_cmpc a_cmpcp cmpcp Acmpcp_defs ccmpcp_defs Acmpcp_conds ccmpcp_conds (hc_cmpcp.mono lr) (fcmpcp_defs.mono lr) (ArrM.lent fcmpcp_conds lr eb) (hc_cmpc.mono lr) hy84)) ?_
      rintro _ g85 _ e86 ⟨_, rfl, rfl, rfl⟩
      refine kk [some 1] ?_
      refine xT 0 [14, 15, 16] [] [some 1] [(0, vs Adata s21.1 cdata), (1, vi a), (4, Value.func (.func 42) #[] #[Value.pointer (some a_cmpc)]), (11, vi s70), (12, vi s21.2.2), (47, vb (!decide (y84 < 0)))] RG e86.r ?_
      refine xSel [none, some 1] ?_
      refine xSub [(0, vs Adata s21.1 cdata), (1, vi a), (4, Value.func (.func 42) #[] #[Value.pointer (some a_cmpc)]), (11, vi s70), (12, vi s21.2.2), (47, vb (!decide (y84 < 0)))] ?_
      exact hN73 _ (Option.some.inj hS).symm _ _ _ e86 ⟨by kernel_rfl, by kernel_rfl⟩
     ·have hS := cond_F q77 hS
      have q77p := of_decide_eq_false q77
      refine xT 4 [4, 5, 6, 7, 8, 9, 10, 11, 12] [] [some 1] [(0, vs Adata s21.1 cdata), (1, vi a), (4, Value.func (.func 42) #[] #[Value.pointer (some a_cmpc)]), (11, vi s70), (12, vi s21.2.2), (34, vb false), (35, undef), (39, undef), (43, undef)] RG (Psi.le.refl _) ?_
      refine xO1 (lds := [8, 12]) 13 ?_
      refine xIb (lds := [8, 12]) [] ?_
      refine xT 0 [14, 15, 16] [] [some 1] [(0, vs Adata s21.1 cdata), (1, vi a), (4, Value.func (.func 42) #[] #[Value.pointer (some a_cmpc)]), (11, vi s70), (12, vi s21.2.2), (47, vb false)] RG (Psi.le.refl _) ?_
      refine xSel [none, some 1] ?_
      refine xSub [(0, vs Adata s21.1 cdata), (1, vi a), (4, Value.func (.func 42) #[] #[Value.pointer (some a_cmpc)]), (11, vi s70), (12, vi s21.2.2), (47, vb false)] ?_
      exact hN73 _ (Option.some.inj hS).symm _ _ _ (Gh.le.refl _) ⟨by kernel_rfl, by kernel_rfl⟩

end Go.Proofs.Ytfhchendnfpbkaa
