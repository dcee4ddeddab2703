/-
Walks, printed by wip/gen. Conditions: each theorem's own.
-/
import Derived.Test.YtfhchendnfpbkaaA1
namespace Go.Proofs.Ytfhchendnfpbkaa
set_option linter.unusedVariables false
set_option linter.unusedSimpArgs false
open Go.RowKit
def o71f42_L1 (b : Int) (cmpcp : Board) (s46 : (List Int) × Int) : Option (Ctl ((List Int) × Int) ((List Int))) :=
  (cond (decide (s46.2 < b)) (grd (decide (0 ≤ s46.2 ∧ s46.2 < (((s46.1).length : Nat) : Int))) (grd (decide (0 ≤ (IntKind.i64.wrap (s46.2 - 1)) ∧ (IntKind.i64.wrap (s46.2 - 1)) < (((s46.1).length : Nat) : Int))) (bindO (τ := Int) (o42 ((List.getD s46.1 (s46.2).toNat 0) : Int) ((List.getD s46.1 ((IntKind.i64.wrap (s46.2 - 1))).toNat 0) : Int) cmpcp) fun y56 => (cond ((!decide (y56 < 0))) (some (Ctl.done ((s46.1 : List Int)))) (grd (decide (0 ≤ (IntKind.i64.wrap (s46.2 - 1)) ∧ (IntKind.i64.wrap (s46.2 - 1)) < (((s46.1).length : Nat) : Int))) (grd (decide (0 ≤ s46.2 ∧ s46.2 < (((s46.1).length : Nat) : Int))) (grd (decide (0 ≤ s46.2 ∧ s46.2 < (((s46.1).length : Nat) : Int))) (grd (decide (0 ≤ (IntKind.i64.wrap (s46.2 - 1)) ∧ (IntKind.i64.wrap (s46.2 - 1)) < ((((List.set s46.1 (s46.2).toNat ((List.getD s46.1 ((IntKind.i64.wrap (s46.2 - 1))).toNat 0) : Int))).length : Nat) : Int))) (some (Ctl.go (((List.set (List.set s46.1 (s46.2).toNat ((List.getD s46.1 ((IntKind.i64.wrap (s46.2 - 1))).toNat 0) : Int)) ((IntKind.i64.wrap (s46.2 - 1))).toNat ((List.getD s46.1 (s46.2).toNat 0) : Int)) : List Int), (IntKind.i64.wrap (s46.2 + 1))))))))))))) (some (Ctl.done ((s46.1 : List Int)))))
def o71f42_L2 (cmpcp : Board) (s81 : (List Int) × Int) : Option (Ctl ((List Int) × Int) ((List Int))) :=
  (cond (decide (s81.2 ≥ 1)) (grd (decide (0 ≤ s81.2 ∧ s81.2 < (((s81.1).length : Nat) : Int))) (grd (decide (-9223372036854775808 ≤ s81.2 - 1 ∧ s81.2 - 1 ≤ 9223372036854775807)) (grd (decide (0 ≤ (s81.2 - 1) ∧ (s81.2 - 1) < (((s81.1).length : Nat) : Int))) (bindO (τ := Int) (o42 ((List.getD s81.1 (s81.2).toNat 0) : Int) ((List.getD s81.1 ((s81.2 - 1)).toNat 0) : Int) cmpcp) fun y92 => (cond ((!decide (y92 < 0))) (some (Ctl.done ((s81.1 : List Int)))) (grd (decide (-9223372036854775808 ≤ s81.2 - 1 ∧ s81.2 - 1 ≤ 9223372036854775807)) (grd (decide (-9223372036854775808 ≤ s81.2 - 1 ∧ s81.2 - 1 ≤ 9223372036854775807)) (grd (decide (0 ≤ (s81.2 - 1) ∧ (s81.2 - 1) < (((s81.1).length : Nat) : Int))) (grd (decide (0 ≤ s81.2 ∧ s81.2 < (((s81.1).length : Nat) : Int))) (grd (decide (0 ≤ s81.2 ∧ s81.2 < (((s81.1).length : Nat) : Int))) (grd (decide (0 ≤ (s81.2 - 1) ∧ (s81.2 - 1) < ((((List.set s81.1 (s81.2).toNat ((List.getD s81.1 ((s81.2 - 1)).toNat 0) : Int))).length : Nat) : Int))) (grd (decide (-9223372036854775808 ≤ s81.2 - 1 ∧ s81.2 - 1 ≤ 9223372036854775807)) (some (Ctl.go (((List.set (List.set s81.1 (s81.2).toNat ((List.getD s81.1 ((s81.2 - 1)).toNat 0) : Int)) ((s81.2 - 1)).toNat ((List.getD s81.1 (s81.2).toNat 0) : Int)) : List Int), (s81.2 - 1)))))))))))))))) (some (Ctl.done ((s81.1 : List Int)))))
def o71f42_L3 (b : Int) (cmpcp : Board) (s6 : (List Int) × Int × Nat) (s116 : Int) : Option (Ctl (Int) (Int)) :=
  (bindO (τ := Bool) (cond (decide (s116 < b)) (grd (decide (0 ≤ s116 ∧ s116 < (((s6.1).length : Nat) : Int))) (grd (decide (0 ≤ (IntKind.i64.wrap (s116 - 1)) ∧ (IntKind.i64.wrap (s116 - 1)) < (((s6.1).length : Nat) : Int))) (bindO (τ := Int) (o42 ((List.getD s6.1 (s116).toNat 0) : Int) ((List.getD s6.1 ((IntKind.i64.wrap (s116 - 1))).toNat 0) : Int) cmpcp) fun y130 => (some (!decide (y130 < 0)))))) (some (false))) fun t119 => (cond (t119) (some (Ctl.go (IntKind.i64.wrap (s116 + 1)))) (some (Ctl.done (s116)))))
def o71f42_L0 (a : Int) (b : Int) (cmpcp : Board) (s6 : (List Int) × Int × Nat) : Option (Ctl ((List Int) × Int × Nat) (Ctl ((List Int)) ((List Int) × Bool))) :=
  (cond (decide (((s6.2.2 : Nat) : Int) < 5)) (joinO (τ := (List Int) × Int) (ρ := Ctl ((List Int) × Int × Nat) (Ctl ((List Int)) ((List Int) × Bool))) (bindO (τ := Int) (loopO (σ := Int) (ρ := Int) fuelN (o71f42_L3 b cmpcp s6) (s6.2.1)) fun t14 => (cond ((t14 == b)) (some (Ctl.done (Ctl.done (Ctl.done (((s6.1 : List Int), (true))))))) (cond (decide ((IntKind.i64.wrap (b - a)) < 50)) (some (Ctl.done (Ctl.done (Ctl.done (((s6.1 : List Int), (false))))))) (grd (decide (0 ≤ (IntKind.i64.wrap (t14 - 1)) ∧ (IntKind.i64.wrap (t14 - 1)) < (((s6.1).length : Nat) : Int))) (grd (decide (0 ≤ t14 ∧ t14 < (((s6.1).length : Nat) : Int))) (grd (decide (0 ≤ t14 ∧ t14 < (((s6.1).length : Nat) : Int))) (grd (decide (0 ≤ (IntKind.i64.wrap (t14 - 1)) ∧ (IntKind.i64.wrap (t14 - 1)) < ((((List.set s6.1 (t14).toNat ((List.getD s6.1 ((IntKind.i64.wrap (t14 - 1))).toNat 0) : Int))).length : Nat) : Int))) (bindO (τ := (List Int)) (cond (decide ((IntKind.i64.wrap (t14 - a)) ≥ 2)) (bindO (τ := (List Int)) (loopO (σ := (List Int) × Int) (ρ := (List Int)) fuelN (o71f42_L2 cmpcp) (((List.set (List.set s6.1 (t14).toNat ((List.getD s6.1 ((IntKind.i64.wrap (t14 - 1))).toNat 0) : Int)) ((IntKind.i64.wrap (t14 - 1))).toNat ((List.getD s6.1 (t14).toNat 0) : Int)) : List Int), (IntKind.i64.wrap (t14 - 1)))) fun t76 => (some ((t76 : List Int)))) (some (((List.set (List.set s6.1 (t14).toNat ((List.getD s6.1 ((IntKind.i64.wrap (t14 - 1))).toNat 0) : Int)) ((IntKind.i64.wrap (t14 - 1))).toNat ((List.getD s6.1 (t14).toNat 0) : Int)) : List Int)))) fun t34 => (bindO (τ := (List Int)) (cond (decide ((IntKind.i64.wrap (b - t14)) ≥ 2)) (bindO (τ := (List Int)) (loopO (σ := (List Int) × Int) (ρ := (List Int)) fuelN (o71f42_L1 b cmpcp) ((t34 : List Int), (IntKind.i64.wrap (t14 + 1)))) fun t41 => (some ((t41 : List Int)))) (some ((t34 : List Int)))) fun t37 => (some (Ctl.go ((t37 : List Int), t14)))))))))))) fun t10 => (grd (decide (((s6.2.2 : Nat) : Int) + 1 ≤ 9223372036854775807)) (some (Ctl.go ((t10.1 : List Int), t10.2, (s6.2.2 + 1)))))) (some (Ctl.done (Ctl.go (s6.1 : List Int)))))
def o71f42 (data : List Int) (a : Int) (b : Int) (cmpcp : Board) : Option ((List Int) × Bool) :=
  (joinO (τ := (List Int)) (ρ := (List Int) × Bool) (loopO (σ := (List Int) × Int × Nat) (ρ := Ctl ((List Int)) ((List Int) × Bool)) fuelN (o71f42_L0 a b cmpcp) ((data : List Int), (IntKind.i64.wrap (a + 1)), 0)) fun t1 => (some (((t1 : List Int), (false)))))
set_option maxRecDepth 100000 in
theorem c71f42 (g : Gh) (data : List Int) (Adata : Option Addr) (cdata : Nat) (kdata : Option Bk) (a : Int) (b : Int) (a_cmpc : Addr) (a_cmpcp : Addr) (cmpcp : Board) (Acmpcp_defs : Option Addr) (ccmpcp_defs : Nat) (Acmpcp_conds : Option Addr) (ccmpcp_conds : Nat) (hdata : Buf g.b (tyI .i64) 3 (.slice Adata (data).length cdata) kdata data) (hc_cmpcp : Cells g.r a_cmpcp (cBoard cmpcp Acmpcp_defs ccmpcp_defs Acmpcp_conds ccmpcp_conds)) (fcmpcp_defs : Arr g.r tyAlertDef Acmpcp_defs ccmpcp_defs cmpcp.defs) (fcmpcp_conds : ArrM g.r g.b tyCnd Acmpcp_conds ccmpcp_conds cmpcp.conds) (hc_cmpc : Cells g.r a_cmpc [Value.pointer (some a_cmpcp)]) {r : (List Int) × Bool} (hS : o71f42 data a b cmpcp = some r) :
    Ctr Try.prog 71 [vs Adata data cdata, vi a, vi b, Value.func (.func 42) #[] #[Value.pointer (some a_cmpc)]] g [kdata, none] (fun v ψ o => ∃ (ko_data : Option Bk), v = vb r.2 ∧ o = [ko_data] ∧ Buf ψ (tyI .i64) 3 (.slice Adata (data).length cdata) ko_data r.1) := by
  unfold o71f42 at hS
  refine xFn Try.f71 (Try.f71.body.getD .skip) 141 ?_
  have nhdata := hdata.len
  have nfcmpcp_defs := fcmpcp_defs.len
  have nfcmpcp_conds := fcmpcp_conds.len
  refine xSq ?_
  refine xRg ?_
  refine xB 1 [] [(0, vs Adata data cdata), (1, vi a), (2, vi b), (3, Value.func (.func 42) #[] #[Value.pointer (some a_cmpc)])] ?_
  refine xRe ?_
  refine wpq_then ?_
  refine xSq ?_
  refine xRg ?_
  have z1 := i64_in_ (a + 1)
  refine xB 3 [] [(0, vs Adata data cdata), (1, vi a), (2, vi b), (3, Value.func (.func 42) #[] #[Value.pointer (some a_cmpc)]), (9, vi (IntKind.i64.wrap (a + 1)))] ?_
  refine xRe ?_
  refine wpq_then ?_
  refine xSq ?_
  refine xSq ?_
  refine xRg ?_
  refine xB 1 [] [(0, vs Adata data cdata), (1, vi a), (2, vi b), (3, Value.func (.func 42) #[] #[Value.pointer (some a_cmpc)]), (9, vi (IntKind.i64.wrap (a + 1))), (10, vi 0)] ?_
  refine xRe ?_
  refine wpq_then ?_
  refine xJoinO hS (fun g own sl t1 => ∃ (k1_0 : Option Bk), own = [none, k1_0] ∧ sl = [] ∧ Buf g.b (tyI .i64) 3 (.slice Adata (t1).length cdata) k1_0 t1 ∧ (data).length = (t1).length) ?_ ?_
  · rintro g2 _ _ t1 e3 ⟨k1_0, rfl, rfl, h1_0, hz1_v0⟩ hS
    have nh1_0 := h1_0.len
    refine wpq_then ?_
    refine xSq ?_
    refine xRg ?_
    refine xB 1 [] [(8, vb false)] ?_
    refine xRe ?_
    refine wpq_then ?_
    have eS := (Option.some.inj hS).symm
    subst eS
    exact xRet [some 1] [8] e3 ⟨k1_0, by kernel_rfl, by kernel_rfl, (Buf.re h1_0 hz1_v0.symm rfl)⟩ (fun _ _ h => h)
  · intro uu1 hS hN1 hD1
    refine xBl 0 ?_
    refine xSel [none, some 0] ?_
    refine xSub [(0, vs Adata data cdata), (1, vi a), (2, vi b), (3, Value.func (.func 42) #[] #[Value.pointer (some a_cmpc)]), (9, vi (IntKind.i64.wrap (a + 1))), (10, vi 0)] ?_
    refine xLo hS (fun g own sl s6 => ∃ (k6_0 : Option Bk), own = [none, k6_0] ∧ sl = [(0, vs Adata s6.1 cdata), (1, vi a), (2, vi b), (3, Value.func (.func 42) #[] #[Value.pointer (some a_cmpc)]), (9, vi s6.2.1), (10, vi ((s6.2.2 : Nat) : Int))] ∧ Buf g.b (tyI .i64) 3 (.slice Adata (s6.1).length cdata) k6_0 s6.1 ∧ (data).length = (s6.1).length) ⟨kdata, by kernel_rfl, by kernel_rfl, hdata, rfl⟩ ?_
    rintro g7 _ _ s6 uu6 e8 ⟨k6_0, rfl, rfl, h6_0, hz6_v0⟩ hS Qr6 hN6 hD6
    have nh6_0 := h6_0.len
    unfold o71f42_L0 at hS
    refine xSq ?_
    refine xSq ?_
    refine xRg ?_
    refine xB 2 [] [(0, vs Adata s6.1 cdata), (1, vi a), (2, vi b), (3, Value.func (.func 42) #[] #[Value.pointer (some a_cmpc)]), (9, vi s6.2.1), (10, vi ((s6.2.2 : Nat) : Int)), (16, vb (decide (((s6.2.2 : Nat) : Int) < 5)))] ?_
    refine xRe ?_
    refine wpq_then ?_
    refine xCd (decide (((s6.2.2 : Nat) : Int) < 5)) (fun h9 => ?_) (fun h9 => ?_)
    · have hS := cond_T h9 hS
      have h9p := of_decide_eq_true h9
      refine xSk ?_
      refine wpq_then ?_
      refine xSub [(0, vs Adata s6.1 cdata), (1, vi a), (2, vi b), (3, Value.func (.func 42) #[] #[Value.pointer (some a_cmpc)]), (9, vi s6.2.1), (10, vi ((s6.2.2 : Nat) : Int))] ?_
      refine xSq ?_
      refine xJoinO hS (fun g own sl t10 => ∃ (k10_0 : Option Bk), own = [none, k10_0] ∧ sl = [(0, vs Adata t10.1 cdata), (1, vi a), (2, vi b), (3, Value.func (.func 42) #[] #[Value.pointer (some a_cmpc)]), (9, vi t10.2), (10, vi ((s6.2.2 : Nat) : Int))] ∧ Buf g.b (tyI .i64) 3 (.slice Adata (t10.1).length cdata) k10_0 t10.1 ∧ (data).length = (t10.1).length) ?_ ?_
      · rintro g11 _ _ t10 e12 ⟨k10_0, rfl, rfl, h10_0, hz10_v0⟩ hS
        have nh10_0 := h10_0.len
        refine wpq_then ?_
        refine xRg ?_
        obtain ⟨q13, hS⟩ := grd_T hS
        have q13p := of_decide_eq_true q13
        refine xB 1 [] [(0, vs Adata t10.1 cdata), (1, vi a), (2, vi b), (3, Value.func (.func 42) #[] #[Value.pointer (some a_cmpc)]), (9, vi t10.2), (10, vi ((s6.2.2 : Nat) : Int)), (17, vi ((s6.2.2 : Nat) : Int))] ?_
        refine xV (qAdd .i64 (((s6.2.2 : Nat) : Int)) (1) (wr64 (by omega))) ?_
        refine xB 1 [] [(0, vs Adata t10.1 cdata), (1, vi a), (2, vi b), (3, Value.func (.func 42) #[] #[Value.pointer (some a_cmpc)]), (9, vi t10.2), (10, vi (((s6.2.2 : Nat) : Int) + 1))] ?_
        refine xRe ?_
        refine wpq_thenN ?_
        refine xSel [none, some 1] ?_
        refine xSub [(0, vs Adata t10.1 cdata), (1, vi a), (2, vi b), (3, Value.func (.func 42) #[] #[Value.pointer (some a_cmpc)]), (9, vi t10.2), (10, vi (((s6.2.2 : Nat) : Int) + 1))] ?_
        have eS := (Option.some.inj hS).symm
        exact hN6 _ eS _ _ _ e12 ⟨k10_0, by kernel_rfl, by kernel_rfl, h10_0, hz10_v0⟩
      · intro uu10 hS hN10 hD10
        refine xBl 1 ?_
        refine xSq ?_
        refine xBindO hS (fun g own sl t14 => own = [none, k6_0] ∧ sl = [(0, vs Adata s6.1 cdata), (1, vi a), (2, vi b), (3, Value.func (.func 42) #[] #[Value.pointer (some a_cmpc)]), (9, vi t14), (10, vi ((s6.2.2 : Nat) : Int))]) ?_ ?_
        · rintro g15 _ _ t14 e16 ⟨rfl, rfl⟩ hS
          refine wpq_then ?_
          refine xSq ?_
          refine xSq ?_
          refine xRg ?_
          refine xB 3 [] [(0, vs Adata s6.1 cdata), (1, vi a), (2, vi b), (3, Value.func (.func 42) #[] #[Value.pointer (some a_cmpc)]), (9, vi t14), (10, vi ((s6.2.2 : Nat) : Int)), (41, vb (t14 == b))] ?_
          refine xRe ?_
          refine wpq_then ?_
          refine xCd ((t14 == b)) (fun h17 => ?_) (fun h17 => ?_)
          · have hS := cond_T h17 hS
            have h17p : t14 = b := eq_of_beq h17
            refine xSq ?_
            refine xRg ?_
            refine xB 1 [] [(8, vb true)] ?_
            refine xRe ?_
            refine wpq_then ?_
            have h6_0 := h6_0.mono e16.b
            have eS := (Option.some.inj hS).symm
            have eS := (hD10 _ eS).symm
            have eS := (hD6 _ eS).symm
            have eS := (hD1 _ eS).symm
            subst eS
            exact xRet [some 1] [8] (e8.trans e16) ⟨k6_0, by kernel_rfl, by kernel_rfl, (Buf.re h6_0 hz6_v0.symm rfl)⟩ (fun _ _ h => h)
          · have hS := cond_F h17 hS
            have h17p : ¬ (t14 = b) := ne_of_beq_false_ h17
            refine xSk ?_
            refine wpq_then ?_
            refine xSub [(0, vs Adata s6.1 cdata), (1, vi a), (2, vi b), (3, Value.func (.func 42) #[] #[Value.pointer (some a_cmpc)]), (9, vi t14), (10, vi ((s6.2.2 : Nat) : Int))] ?_
            refine xSq ?_
            refine xSq ?_
            refine xRg ?_
            have z1301 := i64_in_ (b - a)
            refine xB 4 [] [(0, vs Adata s6.1 cdata), (1, vi a), (2, vi b), (3, Value.func (.func 42) #[] #[Value.pointer (some a_cmpc)]), (9, vi t14), (10, vi ((s6.2.2 : Nat) : Int)), (45, vb (decide ((IntKind.i64.wrap (b - a)) < 50)))] ?_
            refine xRe ?_
            refine wpq_then ?_
            refine xCd (decide ((IntKind.i64.wrap (b - a)) < 50)) (fun h18 => ?_) (fun h18 => ?_)
            · have hS := cond_T h18 hS
              have h18p := of_decide_eq_true h18
              refine xSq ?_
              refine xRg ?_
              refine xB 1 [] [(8, vb false)] ?_
              refine xRe ?_
              refine wpq_then ?_
              have h6_0 := h6_0.mono e16.b
              have eS := (Option.some.inj hS).symm
              have eS := (hD10 _ eS).symm
              have eS := (hD6 _ eS).symm
              have eS := (hD1 _ eS).symm
              subst eS
              exact xRet [some 1] [8] (e8.trans e16) ⟨k6_0, by kernel_rfl, by kernel_rfl, (Buf.re h6_0 hz6_v0.symm rfl)⟩ (fun _ _ h => h)
            · have hS := cond_F h18 hS
              have h18p := of_decide_eq_false h18
              refine xSk ?_
              refine wpq_then ?_
              refine xSub [(0, vs Adata s6.1 cdata), (1, vi a), (2, vi b), (3, Value.func (.func 42) #[] #[Value.pointer (some a_cmpc)]), (9, vi t14), (10, vi ((s6.2.2 : Nat) : Int))] ?_
              refine xSq ?_
              refine xDr 0 [9, 13] [15, 17, 14, 16] [k6_0] 18 (fun RG => ?_) (fun _ _ _ _ _ h => h)
              have z1302 := i64_in_ (t14 - 1)
              have z1303 := i64_in_ (t14 - 1)
              have h6_0 := h6_0.mono e16.b
              obtain ⟨q20, hS⟩ := grd_T hS
              have q20p := of_decide_eq_true q20
              have i21 : ((IntKind.i64.wrap (t14 - 1))).toNat < (s6.1).length := by omega
              obtain ⟨kc19, cs19, hA19, hk19, hr19, hw19⟩ := h6_0.open_ i21 0
              obtain ⟨kb19, rfl⟩ : ∃ z, z = kc19 := ⟨_, rfl⟩
              subst hk19
              have hr19 : cs19 = [vi (List.getD s6.1 ((IntKind.i64.wrap (t14 - 1))).toNat 0)] := hr19
              subst hr19
              refine xT 10 [0, 1, 2, 3, 4, 5, 6, 7] [] [some 1] [(0, vs Adata s6.1 cdata), (1, vi a), (2, vi b), (3, Value.func (.func 42) #[] #[Value.pointer (some a_cmpc)]), (9, vi t14), (10, vi ((s6.2.2 : Nat) : Int)), (46, vs Adata s6.1 cdata), (47, vi t14), (48, vs Adata s6.1 cdata), (50, vi (IntKind.i64.wrap (t14 - 1))), (51, vs Adata s6.1 cdata), (53, vi (IntKind.i64.wrap (t14 - 1)))] RG (Psi.le.refl _) ?_
              refine xTp 8 RG (fun _ => (qIxB ((IntKind.i64.wrap (t14 - 1))).toNat 1 kb19.g hA19 (show ((IntKind.i64.wrap (t14 - 1)) : Int) = _ from by omega) i21)) ?_
              refine xTv 9 [some 1] RG (Psi.le.refl _) (qLdB ((IntKind.i64.wrap (t14 - 1))).toNat 1 0 0 hw19) ?_
              obtain ⟨q23, hS⟩ := grd_T hS
              have q23p := of_decide_eq_true q23
              have i24 : (t14).toNat < (s6.1).length := by omega
              obtain ⟨kc22, cs22, hA22, hk22, hr22, hw22⟩ := h6_0.open_ i24 0
              cases hk22
              have hr22 : cs22 = [vi (List.getD s6.1 (t14).toNat 0)] := hr22
              subst hr22
              refine xT 6 [10, 11] [] [some 1] [(0, vs Adata s6.1 cdata), (1, vi a), (2, vi b), (3, Value.func (.func 42) #[] #[Value.pointer (some a_cmpc)]), (9, vi t14), (10, vi ((s6.2.2 : Nat) : Int)), (46, vs Adata s6.1 cdata), (47, vi t14), (48, vs Adata s6.1 cdata), (50, vi (IntKind.i64.wrap (t14 - 1))), (55, vi (List.getD s6.1 ((IntKind.i64.wrap (t14 - 1))).toNat 0)), (56, vs Adata s6.1 cdata), (57, vi t14)] RG (Psi.le.refl _) ?_
              refine xTp 12 RG (fun _ => (qIxB (t14).toNat 1 kb19.g hA22 (show (t14 : Int) = _ from by omega) i24)) ?_
              refine xTv 13 [some 1] RG (Psi.le.refl _) (qLdB (t14).toNat 1 0 0 hw22) ?_
              obtain ⟨q26, hS⟩ := grd_T hS
              have q26p := of_decide_eq_true q26
              have i27 : (t14).toNat < (s6.1).length := by omega
              obtain ⟨kc25, cs25, hA25, hk25, hr25, hw25⟩ := h6_0.open_ i27 0
              cases hk25
              have hr25 : cs25 = [vi (List.getD s6.1 (t14).toNat 0)] := hr25
              subst hr25
              refine xTp 14 RG (fun _ => (qIxB (t14).toNat 1 kb19.g hA25 (show (t14 : Int) = _ from by omega) i27)) ?_
              refine xO1 (lds := [9, 13]) 15 ?_
              refine xId (lds := [9, 13]) (Psi.le.refl _) (eStB (t14).toNat 1 0 1 [vi (List.getD s6.1 ((IntKind.i64.wrap (t14 - 1))).toNat 0)] h6_0 rfl hw25 (show (tyI .i64).rep _ _ _ from rfl) i27) ?_
              rintro _ _ _ - ⟨k28, rfl, rfl, h28⟩
              refine kf ?_
              have hz28 : (s6.1).length = ((List.set s6.1 (t14).toNat ((List.getD s6.1 ((IntKind.i64.wrap (t14 - 1))).toNat 0) : Int))).length := by simp
              have hz28_1 : (data).length = ((List.set s6.1 (t14).toNat ((List.getD s6.1 ((IntKind.i64.wrap (t14 - 1))).toNat 0) : Int))).length := hz6_v0.trans hz28
              obtain ⟨q30, hS⟩ := grd_T hS
              have q30p := of_decide_eq_true q30
              have i31 : ((IntKind.i64.wrap (t14 - 1))).toNat < ((List.set s6.1 (t14).toNat ((List.getD s6.1 ((IntKind.i64.wrap (t14 - 1))).toNat 0) : Int))).length := by omega
              have i32 : ((IntKind.i64.wrap (t14 - 1))).toNat < (s6.1).length := by have := hz28; omega
              obtain ⟨kc29, cs29, hA29, hk29, hr29, hw29⟩ := h28.open_ i31 0
              obtain ⟨kb29, rfl⟩ : ∃ z, z = kc29 := ⟨_, rfl⟩
              subst hk29
              have hr29 : cs29 = [vi (List.getD (List.set s6.1 (t14).toNat ((List.getD s6.1 ((IntKind.i64.wrap (t14 - 1))).toNat 0) : Int)) ((IntKind.i64.wrap (t14 - 1))).toNat 0)] := hr29
              subst hr29
              refine xTp 16 RG (fun _ => (qIxB ((IntKind.i64.wrap (t14 - 1))).toNat 1 kb29.g hA29 (show ((IntKind.i64.wrap (t14 - 1)) : Int) = _ from by omega) i32)) ?_
              refine xO1 (lds := [9, 13]) 17 ?_
              refine xId (lds := [9, 13]) (Psi.le.refl _) (eStB ((IntKind.i64.wrap (t14 - 1))).toNat 1 0 1 [vi (List.getD s6.1 (t14).toNat 0)] h28 rfl hw29 (show (tyI .i64).rep _ _ _ from rfl) i31) ?_
              rintro _ _ _ - ⟨k33, rfl, rfl, h33⟩
              refine kf ?_
              have hz33 : (s6.1).length = ((List.set (List.set s6.1 (t14).toNat ((List.getD s6.1 ((IntKind.i64.wrap (t14 - 1))).toNat 0) : Int)) ((IntKind.i64.wrap (t14 - 1))).toNat ((List.getD s6.1 (t14).toNat 0) : Int))).length := hz28.trans (by simp)
              have hz33_1 : (data).length = ((List.set (List.set s6.1 (t14).toNat ((List.getD s6.1 ((IntKind.i64.wrap (t14 - 1))).toNat 0) : Int)) ((IntKind.i64.wrap (t14 - 1))).toNat ((List.getD s6.1 (t14).toNat 0) : Int))).length := hz28_1.trans (hz28.symm.trans hz33)
              refine xAe (lds := [9, 13]) ?_
              refine wpq_then ?_
              refine xSub [(0, Value.slice Adata ((s6.1).length) cdata), (1, vi a), (2, vi b), (3, Value.func (.func 42) #[] #[Value.pointer (some a_cmpc)]), (9, vi t14), (10, vi ((s6.2.2 : Nat) : Int))] ?_
              refine xSq ?_
              refine xSq ?_
              refine xRg ?_
              have z1304 := i64_in_ (t14 - a)
              refine xB 4 [] [(0, Value.slice Adata ((s6.1).length) cdata), (1, vi a), (2, vi b), (3, Value.func (.func 42) #[] #[Value.pointer (some a_cmpc)]), (9, vi t14), (10, vi ((s6.2.2 : Nat) : Int)), (65, vb (decide ((IntKind.i64.wrap (t14 - a)) ≥ 2)))] ?_
              refine xRe ?_
              refine wpq_then ?_
              refine xBindO hS (fun g own sl t34 => ∃ (k34_0 : Option Bk), own = [none, k34_0] ∧ sl = [(0, vs Adata t34 cdata), (1, vi a), (2, vi b), (3, Value.func (.func 42) #[] #[Value.pointer (some a_cmpc)]), (9, vi t14), (10, vi ((s6.2.2 : Nat) : Int))] ∧ Buf g.b (tyI .i64) 3 (.slice Adata (t34).length cdata) k34_0 t34 ∧ (data).length = (t34).length) ?_ ?_
              · rintro g35 _ _ t34 e36 ⟨k34_0, rfl, rfl, h34_0, hz34_v0⟩ hS
                have nh34_0 := h34_0.len
                refine wpq_then ?_
                refine xSq ?_
                refine xRg ?_
                have z1306 := i64_in_ (b - t14)
                refine xB 4 [] [(0, vs Adata t34 cdata), (1, vi a), (2, vi b), (3, Value.func (.func 42) #[] #[Value.pointer (some a_cmpc)]), (9, vi t14), (10, vi ((s6.2.2 : Nat) : Int)), (104, vb (decide ((IntKind.i64.wrap (b - t14)) ≥ 2)))] ?_
                refine xRe ?_
                refine wpq_then ?_
                refine xBindO hS (fun g own sl t37 => ∃ (k37_0 : Option Bk), own = [none, k37_0] ∧ sl = [(0, vs Adata t37 cdata), (1, vi a), (2, vi b), (3, Value.func (.func 42) #[] #[Value.pointer (some a_cmpc)]), (9, vi t14), (10, vi ((s6.2.2 : Nat) : Int))] ∧ Buf g.b (tyI .i64) 3 (.slice Adata (t37).length cdata) k37_0 t37 ∧ (data).length = (t37).length) ?_ ?_
                · rintro g38 _ _ t37 e39 ⟨k37_0, rfl, rfl, h37_0, hz37_v0⟩ hS
                  have nh37_0 := h37_0.len
                  refine wpq_blockN ?_
                  refine xSel [none, some 1] ?_
                  refine xSub [(0, vs Adata t37 cdata), (1, vi a), (2, vi b), (3, Value.func (.func 42) #[] #[Value.pointer (some a_cmpc)]), (9, vi t14), (10, vi ((s6.2.2 : Nat) : Int))] ?_
                  have eS := (Option.some.inj hS).symm
                  exact hN10 _ eS _ _ _ (e16.trans (e36.trans e39)) ⟨k37_0, by kernel_rfl, by kernel_rfl, h37_0, hz37_v0⟩
                · intro uu37 hS hN37
                  refine xCd (decide ((IntKind.i64.wrap (b - t14)) ≥ 2)) (fun h40 => ?_) (fun h40 => ?_)
                  · have hS := cond_T h40 hS
                    have h40p := of_decide_eq_true h40
                    refine xSq ?_
                    refine xRg ?_
                    have z1350 := i64_in_ (t14 + 1)
                    refine xB 3 [] [(0, vs Adata t34 cdata), (1, vi a), (2, vi b), (3, Value.func (.func 42) #[] #[Value.pointer (some a_cmpc)]), (9, vi t14), (10, vi ((s6.2.2 : Nat) : Int)), (12, vi (IntKind.i64.wrap (t14 + 1)))] ?_
                    refine xRe ?_
                    refine wpq_then ?_
                    refine xBindO hS (fun g own sl t41 => ∃ (k41_0 : Option Bk), own = [none, k41_0] ∧ sl = [(0, vs Adata t41 cdata), (1, vi a), (2, vi b), (3, Value.func (.func 42) #[] #[Value.pointer (some a_cmpc)]), (9, vi t14), (10, vi ((s6.2.2 : Nat) : Int))] ∧ Buf g.b (tyI .i64) 3 (.slice Adata (t41).length cdata) k41_0 t41 ∧ (data).length = (t41).length) ?_ ?_
                    · rintro g42 _ _ t41 e43 ⟨k41_0, rfl, rfl, h41_0, hz41_v0⟩ hS
                      have nh41_0 := h41_0.len
                      refine xSel [none, some 1] ?_
                      refine xSub [(0, vs Adata t41 cdata), (1, vi a), (2, vi b), (3, Value.func (.func 42) #[] #[Value.pointer (some a_cmpc)]), (9, vi t14), (10, vi ((s6.2.2 : Nat) : Int))] ?_
                      have eS := (Option.some.inj hS).symm
                      exact hN37 _ eS _ _ _ e43 ⟨k41_0, by kernel_rfl, by kernel_rfl, h41_0, hz41_v0⟩
                    · intro uu41 hS hN41
                      refine xBl 6 ?_
                      refine xSel [none, some 1] ?_
                      refine xSub [(0, vs Adata t34 cdata), (1, vi a), (2, vi b), (3, Value.func (.func 42) #[] #[Value.pointer (some a_cmpc)]), (9, vi t14), (10, vi ((s6.2.2 : Nat) : Int)), (12, vi (IntKind.i64.wrap (t14 + 1)))] ?_
                      refine xLo hS (fun g own sl s46 => ∃ (k46_0 : Option Bk), own = [none, k46_0] ∧ sl = [(0, vs Adata s46.1 cdata), (1, vi a), (2, vi b), (3, Value.func (.func 42) #[] #[Value.pointer (some a_cmpc)]), (9, vi t14), (10, vi ((s6.2.2 : Nat) : Int)), (12, vi s46.2)] ∧ Buf g.b (tyI .i64) 3 (.slice Adata (s46.1).length cdata) k46_0 s46.1 ∧ (data).length = (s46.1).length) ⟨k34_0, by kernel_rfl, by kernel_rfl, h34_0, hz34_v0⟩ ?_
                      rintro g47 _ _ s46 uu46 e48 ⟨k46_0, rfl, rfl, h46_0, hz46_v0⟩ hS Qr46 hN46 hD46
                      have nh46_0 := h46_0.len
                      unfold o71f42_L1 at hS
                      refine xSq ?_
                      refine xSq ?_
                      refine xRg ?_
                      refine xB 3 [] [(0, vs Adata s46.1 cdata), (1, vi a), (2, vi b), (3, Value.func (.func 42) #[] #[Value.pointer (some a_cmpc)]), (9, vi t14), (10, vi ((s6.2.2 : Nat) : Int)), (12, vi s46.2), (109, vb (decide (s46.2 < b)))] ?_
                      refine xRe ?_
                      refine wpq_then ?_
                      refine xCd (decide (s46.2 < b)) (fun h49 => ?_) (fun h49 => ?_)
                      · have hS := cond_T h49 hS
                        have h49p := of_decide_eq_true h49
                        refine xSk ?_
                        refine wpq_then ?_
                        refine xSub [(0, vs Adata s46.1 cdata), (1, vi a), (2, vi b), (3, Value.func (.func 42) #[] #[Value.pointer (some a_cmpc)]), (9, vi t14), (10, vi ((s6.2.2 : Nat) : Int)), (12, vi s46.2)] ?_
                        refine xSq ?_
                        refine xBl 7 ?_
                        refine xSq ?_
                        refine xSq ?_
                        refine xDr 0 [4, 9] [] [k46_0] 13 (fun RG => ?_) (fun _ _ _ _ _ h => h)
                        obtain ⟨q51, hS⟩ := grd_T hS
                        have q51p := of_decide_eq_true q51
                        have i52 : (s46.2).toNat < (s46.1).length := by omega
                        obtain ⟨kc50, cs50, hA50, hk50, hr50, hw50⟩ := h46_0.open_ i52 0
                        obtain ⟨kb50, rfl⟩ : ∃ z, z = kc50 := ⟨_, rfl⟩
                        subst hk50
                        have hr50 : cs50 = [vi (List.getD s46.1 (s46.2).toNat 0)] := hr50
                        subst hr50
                        refine xT 10 [0, 1, 2] [] [some 1] [(0, vs Adata s46.1 cdata), (1, vi a), (2, vi b), (3, Value.func (.func 42) #[] #[Value.pointer (some a_cmpc)]), (9, vi t14), (10, vi ((s6.2.2 : Nat) : Int)), (12, vi s46.2), (112, Value.func (.func 42) #[] #[Value.pointer (some a_cmpc)]), (113, vs Adata s46.1 cdata), (114, vi s46.2)] RG (Psi.le.refl _) ?_
                        refine xTp 3 RG (fun _ => (qIxB (s46.2).toNat 1 kb50.g hA50 (show (s46.2 : Int) = _ from by omega) i52)) ?_
                        refine xTv 4 [some 1] RG (Psi.le.refl _) (qLdB (s46.2).toNat 1 0 0 hw50) ?_
                        have z1389 := i64_in_ (s46.2 - 1)
                        obtain ⟨q54, hS⟩ := grd_T hS
                        have q54p := of_decide_eq_true q54
                        have i55 : ((IntKind.i64.wrap (s46.2 - 1))).toNat < (s46.1).length := by omega
                        obtain ⟨kc53, cs53, hA53, hk53, hr53, hw53⟩ := h46_0.open_ i55 0
                        cases hk53
                        have hr53 : cs53 = [vi (List.getD s46.1 ((IntKind.i64.wrap (s46.2 - 1))).toNat 0)] := hr53
                        subst hr53
                        refine xT 5 [5, 6, 7] [] [some 1] [(0, vs Adata s46.1 cdata), (1, vi a), (2, vi b), (3, Value.func (.func 42) #[] #[Value.pointer (some a_cmpc)]), (9, vi t14), (10, vi ((s6.2.2 : Nat) : Int)), (12, vi s46.2), (112, Value.func (.func 42) #[] #[Value.pointer (some a_cmpc)]), (116, vi (List.getD s46.1 (s46.2).toNat 0)), (117, vs Adata s46.1 cdata), (119, vi (IntKind.i64.wrap (s46.2 - 1)))] RG (Psi.le.refl _) ?_
                        refine xTp 8 RG (fun _ => (qIxB ((IntKind.i64.wrap (s46.2 - 1))).toNat 1 kb50.g hA53 (show ((IntKind.i64.wrap (s46.2 - 1)) : Int) = _ from by omega) i55)) ?_
                        refine xTv 9 [some 1] RG (Psi.le.refl _) (qLdB ((IntKind.i64.wrap (s46.2 - 1))).toNat 1 0 0 hw53) ?_
                        have hc_cmpcp := hc_cmpcp.mono (e8.trans (e16.trans (e36.trans e48))).r
                        have fcmpcp_defs := fcmpcp_defs.mono (e8.trans (e16.trans (e36.trans e48))).r
                        have fcmpcp_conds := fcmpcp_conds.mono (e8.trans (e16.trans (e36.trans e48))).r (e8.trans (e16.trans (e36.trans e48))).b
                        have hc_cmpc := hc_cmpc.mono (e8.trans (e16.trans (e36.trans e48))).r
                        obtain ⟨y56, hy56, hS⟩ := bindO_T hS
                        refine xO1 (lds := [4, 9]) 10 ?_
                        refine xIe (lds := [4, 9]) (Psi.le.refl _) (eC 0 (fun g' lr eb ln => c42 g' ((List.getD s46.1 (s46.2).toNat 0) : Int) ((List.getD s46.1 ((IntKind.i64.wrap (s46.2 - 1))).toNat 0) : Int) a_cmpc a_cmpcp cmpcp Acmpcp_defs ccmpcp_defs Acmpcp_conds ccmpcp_conds (hc_cmpcp.mono lr) (fcmpcp_defs.mono lr) (ArrM.lent fcmpcp_conds lr eb) (hc_cmpc.mono lr) hy56)) ?_
                        rintro _ g57 _ e58 ⟨_, rfl, rfl, rfl⟩
                        refine kk [some 1] ?_
                        refine xT 0 [11, 12] [] [some 1] [(0, vs Adata s46.1 cdata), (1, vi a), (2, vi b), (3, Value.func (.func 42) #[] #[Value.pointer (some a_cmpc)]), (9, vi t14), (10, vi ((s6.2.2 : Nat) : Int)), (12, vi s46.2), (124, vb (!decide (y56 < 0)))] RG e58.r ?_
                        refine xAe (lds := [4, 9]) ?_
                        refine wpq_then ?_
                        refine xCd ((!decide (y56 < 0))) (fun h59 => ?_) (fun h59 => ?_)
                        · have hS := cond_T h59 hS
                          have h59n := not_eq_true_ h59
                          have h59np := of_decide_eq_false h59n
                          refine xEx 6 ?_
                          refine wpq_thenX ?_
                          refine wpq_blockX (by kernel_rfl) ?_
                          refine wpq_thenX ?_
                          refine wpq_thenX ?_
                          refine wpq_blockE ?_
                          have h46_0 := h46_0.mono e58.b
                          refine xSel [none, some 1] ?_
                          refine xSub [(0, vs Adata s46.1 cdata), (1, vi a), (2, vi b), (3, Value.func (.func 42) #[] #[Value.pointer (some a_cmpc)]), (9, vi t14), (10, vi ((s6.2.2 : Nat) : Int))] ?_
                          have eS := (Option.some.inj hS).symm
                          have eS := (hD46 _ eS).symm
                          exact hN41 _ eS _ _ _ (e48.trans e58) ⟨(some kb50), by kernel_rfl, by kernel_rfl, h46_0, hz46_v0⟩
                        · have hS := cond_F h59 hS
                          have h59n := not_eq_false_ h59
                          have h59np := of_decide_eq_true h59n
                          refine xSk ?_
                          refine wpq_then ?_
                          refine xSub [(0, vs Adata s46.1 cdata), (1, vi a), (2, vi b), (3, Value.func (.func 42) #[] #[Value.pointer (some a_cmpc)]), (9, vi t14), (10, vi ((s6.2.2 : Nat) : Int)), (12, vi s46.2)] ?_
                          refine xDr 0 [9, 13] [15, 17, 14, 16] [(some kb50)] 18 (fun RG => ?_) (fun _ _ _ _ _ h => h)
                          have z1390 := i64_in_ (s46.2 - 1)
                          have z1391 := i64_in_ (s46.2 - 1)
                          have h46_0 := h46_0.mono e58.b
                          obtain ⟨q61, hS⟩ := grd_T hS
                          have q61p := of_decide_eq_true q61
                          have i62 : ((IntKind.i64.wrap (s46.2 - 1))).toNat < (s46.1).length := by omega
                          obtain ⟨kc60, cs60, hA60, hk60, hr60, hw60⟩ := h46_0.open_ i62 0
                          cases hk60
                          have hr60 : cs60 = [vi (List.getD s46.1 ((IntKind.i64.wrap (s46.2 - 1))).toNat 0)] := hr60
                          subst hr60
                          refine xT 10 [0, 1, 2, 3, 4, 5, 6, 7] [] [some 1] [(0, vs Adata s46.1 cdata), (1, vi a), (2, vi b), (3, Value.func (.func 42) #[] #[Value.pointer (some a_cmpc)]), (9, vi t14), (10, vi ((s6.2.2 : Nat) : Int)), (12, vi s46.2), (125, vs Adata s46.1 cdata), (126, vi s46.2), (127, vs Adata s46.1 cdata), (129, vi (IntKind.i64.wrap (s46.2 - 1))), (130, vs Adata s46.1 cdata), (132, vi (IntKind.i64.wrap (s46.2 - 1)))] RG (Psi.le.refl _) ?_
                          refine xTp 8 RG (fun _ => (qIxB ((IntKind.i64.wrap (s46.2 - 1))).toNat 1 kb50.g hA60 (show ((IntKind.i64.wrap (s46.2 - 1)) : Int) = _ from by omega) i62)) ?_
                          refine xTv 9 [some 1] RG (Psi.le.refl _) (qLdB ((IntKind.i64.wrap (s46.2 - 1))).toNat 1 0 0 hw60) ?_
                          obtain ⟨q64, hS⟩ := grd_T hS
                          have q64p := of_decide_eq_true q64
                          have i65 : (s46.2).toNat < (s46.1).length := by omega
                          obtain ⟨kc63, cs63, hA63, hk63, hr63, hw63⟩ := h46_0.open_ i65 0
                          cases hk63
                          have hr63 : cs63 = [vi (List.getD s46.1 (s46.2).toNat 0)] := hr63
                          subst hr63
                          refine xT 6 [10, 11] [] [some 1] [(0, vs Adata s46.1 cdata), (1, vi a), (2, vi b), (3, Value.func (.func 42) #[] #[Value.pointer (some a_cmpc)]), (9, vi t14), (10, vi ((s6.2.2 : Nat) : Int)), (12, vi s46.2), (125, vs Adata s46.1 cdata), (126, vi s46.2), (127, vs Adata s46.1 cdata), (129, vi (IntKind.i64.wrap (s46.2 - 1))), (134, vi (List.getD s46.1 ((IntKind.i64.wrap (s46.2 - 1))).toNat 0)), (135, vs Adata s46.1 cdata), (136, vi s46.2)] RG (Psi.le.refl _) ?_
                          refine xTp 12 RG (fun _ => (qIxB (s46.2).toNat 1 kb50.g hA63 (show (s46.2 : Int) = _ from by omega) i65)) ?_
                          refine xTv 13 [some 1] RG (Psi.le.refl _) (qLdB (s46.2).toNat 1 0 0 hw63) ?_
                          obtain ⟨q67, hS⟩ := grd_T hS
                          have q67p := of_decide_eq_true q67
                          have i68 : (s46.2).toNat < (s46.1).length := by omega
                          obtain ⟨kc66, cs66, hA66, hk66, hr66, hw66⟩ := h46_0.open_ i68 0
                          cases hk66
                          have hr66 : cs66 = [vi (List.getD s46.1 (s46.2).toNat 0)] := hr66
                          subst hr66
                          refine xTp 14 RG (fun _ => (qIxB (s46.2).toNat 1 kb50.g hA66 (show (s46.2 : Int) = _ from by omega) i68)) ?_
                          refine xO1 (lds := [9, 13]) 15 ?_
                          refine xId (lds := [9, 13]) (Psi.le.refl _) (eStB (s46.2).toNat 1 0 1 [vi (List.getD s46.1 ((IntKind.i64.wrap (s46.2 - 1))).toNat 0)] h46_0 rfl hw66 (show (tyI .i64).rep _ _ _ from rfl) i68) ?_
                          rintro _ _ _ - ⟨k69, rfl, rfl, h69⟩
                          refine kf ?_
                          have hz69 : (s46.1).length = ((List.set s46.1 (s46.2).toNat ((List.getD s46.1 ((IntKind.i64.wrap (s46.2 - 1))).toNat 0) : Int))).length := by simp
                          have hz69_1 : (data).length = ((List.set s46.1 (s46.2).toNat ((List.getD s46.1 ((IntKind.i64.wrap (s46.2 - 1))).toNat 0) : Int))).length := hz46_v0.trans hz69
                          obtain ⟨q71, hS⟩ := grd_T hS
                          have q71p := of_decide_eq_true q71
                          have i72 : ((IntKind.i64.wrap (s46.2 - 1))).toNat < ((List.set s46.1 (s46.2).toNat ((List.getD s46.1 ((IntKind.i64.wrap (s46.2 - 1))).toNat 0) : Int))).length := by omega
                          have i73 : ((IntKind.i64.wrap (s46.2 - 1))).toNat < (s46.1).length := by have := hz69; omega
                          obtain ⟨kc70, cs70, hA70, hk70, hr70, hw70⟩ := h69.open_ i72 0
                          obtain ⟨kb70, rfl⟩ : ∃ z, z = kc70 := ⟨_, rfl⟩
                          subst hk70
                          have hr70 : cs70 = [vi (List.getD (List.set s46.1 (s46.2).toNat ((List.getD s46.1 ((IntKind.i64.wrap (s46.2 - 1))).toNat 0) : Int)) ((IntKind.i64.wrap (s46.2 - 1))).toNat 0)] := hr70
                          subst hr70
                          refine xTp 16 RG (fun _ => (qIxB ((IntKind.i64.wrap (s46.2 - 1))).toNat 1 kb70.g hA70 (show ((IntKind.i64.wrap (s46.2 - 1)) : Int) = _ from by omega) i73)) ?_
                          refine xO1 (lds := [9, 13]) 17 ?_
                          refine xId (lds := [9, 13]) (Psi.le.refl _) (eStB ((IntKind.i64.wrap (s46.2 - 1))).toNat 1 0 1 [vi (List.getD s46.1 (s46.2).toNat 0)] h69 rfl hw70 (show (tyI .i64).rep _ _ _ from rfl) i72) ?_
                          rintro _ _ _ - ⟨k74, rfl, rfl, h74⟩
                          refine kf ?_
                          have hz74 : (s46.1).length = ((List.set (List.set s46.1 (s46.2).toNat ((List.getD s46.1 ((IntKind.i64.wrap (s46.2 - 1))).toNat 0) : Int)) ((IntKind.i64.wrap (s46.2 - 1))).toNat ((List.getD s46.1 (s46.2).toNat 0) : Int))).length := hz69.trans (by simp)
                          have hz74_1 : (data).length = ((List.set (List.set s46.1 (s46.2).toNat ((List.getD s46.1 ((IntKind.i64.wrap (s46.2 - 1))).toNat 0) : Int)) ((IntKind.i64.wrap (s46.2 - 1))).toNat ((List.getD s46.1 (s46.2).toNat 0) : Int))).length := hz69_1.trans (hz69.symm.trans hz74)
                          refine xAe (lds := [9, 13]) ?_
                          refine wpq_blockN ?_
                          refine wpq_then ?_
                          refine xSub [(0, Value.slice Adata ((s46.1).length) cdata), (1, vi a), (2, vi b), (3, Value.func (.func 42) #[] #[Value.pointer (some a_cmpc)]), (9, vi t14), (10, vi ((s6.2.2 : Nat) : Int)), (12, vi s46.2)] ?_
                          refine xRg ?_
                          have z1392 := i64_in_ (s46.2 + 1)
                          refine xB 3 [] [(0, Value.slice Adata ((s46.1).length) cdata), (1, vi a), (2, vi b), (3, Value.func (.func 42) #[] #[Value.pointer (some a_cmpc)]), (9, vi t14), (10, vi ((s6.2.2 : Nat) : Int)), (12, vi (IntKind.i64.wrap (s46.2 + 1)))] ?_
                          refine xRe ?_
                          refine wpq_thenN ?_
                          refine wpq_re 0 (v := Value.slice Adata ((s46.1).length) cdata) (vs Adata (List.set (List.set s46.1 (s46.2).toNat ((List.getD s46.1 ((IntKind.i64.wrap (s46.2 - 1))).toNat 0) : Int)) ((IntKind.i64.wrap (s46.2 - 1))).toNat ((List.getD s46.1 (s46.2).toNat 0) : Int)) cdata) (by kernel_rfl) (congrArg (fun z => Value.slice Adata z cdata) hz74) ?_
                          have h74 := Buf.re h74 hz74 (rfl : (List.set (List.set s46.1 (s46.2).toNat ((List.getD s46.1 ((IntKind.i64.wrap (s46.2 - 1))).toNat 0) : Int)) ((IntKind.i64.wrap (s46.2 - 1))).toNat ((List.getD s46.1 (s46.2).toNat 0) : Int)) = _)
                          refine xSel [none, some 1] ?_
                          refine xSub [(0, vs Adata (List.set (List.set s46.1 (s46.2).toNat ((List.getD s46.1 ((IntKind.i64.wrap (s46.2 - 1))).toNat 0) : Int)) ((IntKind.i64.wrap (s46.2 - 1))).toNat ((List.getD s46.1 (s46.2).toNat 0) : Int)) cdata), (1, vi a), (2, vi b), (3, Value.func (.func 42) #[] #[Value.pointer (some a_cmpc)]), (9, vi t14), (10, vi ((s6.2.2 : Nat) : Int)), (12, vi (IntKind.i64.wrap (s46.2 + 1)))] ?_
                          have eS := (Option.some.inj hS).symm
                          exact hN46 _ eS _ _ _ e58 ⟨k74, by kernel_rfl, by kernel_rfl, h74, hz74_1⟩
                      · have hS := cond_F h49 hS
                        have h49p := of_decide_eq_false h49
                        refine xEx 6 ?_
                        refine wpq_thenX ?_
                        refine wpq_thenX ?_
                        refine wpq_blockE ?_
                        refine xSel [none, some 1] ?_
                        refine xSub [(0, vs Adata s46.1 cdata), (1, vi a), (2, vi b), (3, Value.func (.func 42) #[] #[Value.pointer (some a_cmpc)]), (9, vi t14), (10, vi ((s6.2.2 : Nat) : Int))] ?_
                        have eS := (Option.some.inj hS).symm
                        have eS := (hD46 _ eS).symm
                        exact hN41 _ eS _ _ _ e48 ⟨k46_0, by kernel_rfl, by kernel_rfl, h46_0, hz46_v0⟩
                  · have hS := cond_F h40 hS
                    have h40p := of_decide_eq_false h40
                    refine xSk ?_
                    refine xSel [none, some 1] ?_
                    refine xSub [(0, vs Adata t34 cdata), (1, vi a), (2, vi b), (3, Value.func (.func 42) #[] #[Value.pointer (some a_cmpc)]), (9, vi t14), (10, vi ((s6.2.2 : Nat) : Int))] ?_
                    have eS := (Option.some.inj hS).symm
                    exact hN37 _ eS _ _ _ (Gh.le.refl _) ⟨k34_0, by kernel_rfl, by kernel_rfl, h34_0, hz34_v0⟩
              · intro uu34 hS hN34
                refine xCd (decide ((IntKind.i64.wrap (t14 - a)) ≥ 2)) (fun h75 => ?_) (fun h75 => ?_)
                · have hS := cond_T h75 hS
                  have h75p := of_decide_eq_true h75
                  refine xSq ?_
                  refine xRg ?_
                  have z1393 := i64_in_ (t14 - 1)
                  refine xB 3 [] [(0, Value.slice Adata ((s6.1).length) cdata), (1, vi a), (2, vi b), (3, Value.func (.func 42) #[] #[Value.pointer (some a_cmpc)]), (9, vi t14), (10, vi ((s6.2.2 : Nat) : Int)), (11, vi (IntKind.i64.wrap (t14 - 1)))] ?_
                  refine xRe ?_
                  refine wpq_then ?_
                  refine xBindO hS (fun g own sl t76 => ∃ (k76_0 : Option Bk), own = [none, k76_0] ∧ sl = [(0, vs Adata t76 cdata), (1, vi a), (2, vi b), (3, Value.func (.func 42) #[] #[Value.pointer (some a_cmpc)]), (9, vi t14), (10, vi ((s6.2.2 : Nat) : Int))] ∧ Buf g.b (tyI .i64) 3 (.slice Adata (t76).length cdata) k76_0 t76 ∧ (data).length = (t76).length) ?_ ?_
                  · rintro g77 _ _ t76 e78 ⟨k76_0, rfl, rfl, h76_0, hz76_v0⟩ hS
                    have nh76_0 := h76_0.len
                    refine xSel [none, some 1] ?_
                    refine xSub [(0, vs Adata t76 cdata), (1, vi a), (2, vi b), (3, Value.func (.func 42) #[] #[Value.pointer (some a_cmpc)]), (9, vi t14), (10, vi ((s6.2.2 : Nat) : Int))] ?_
                    have eS := (Option.some.inj hS).symm
                    exact hN34 _ eS _ _ _ e78 ⟨k76_0, by kernel_rfl, by kernel_rfl, h76_0, hz76_v0⟩
                  · intro uu76 hS hN76
                    refine xBl 4 ?_
                    refine wpq_re 0 (v := Value.slice Adata ((s6.1).length) cdata) (vs Adata (List.set (List.set s6.1 (t14).toNat ((List.getD s6.1 ((IntKind.i64.wrap (t14 - 1))).toNat 0) : Int)) ((IntKind.i64.wrap (t14 - 1))).toNat ((List.getD s6.1 (t14).toNat 0) : Int)) cdata) (by kernel_rfl) (congrArg (fun z => Value.slice Adata z cdata) hz33) ?_
                    have h33 := Buf.re h33 hz33 (rfl : (List.set (List.set s6.1 (t14).toNat ((List.getD s6.1 ((IntKind.i64.wrap (t14 - 1))).toNat 0) : Int)) ((IntKind.i64.wrap (t14 - 1))).toNat ((List.getD s6.1 (t14).toNat 0) : Int)) = _)
                    refine xSel [none, some 1] ?_
                    refine xSub [(0, vs Adata (List.set (List.set s6.1 (t14).toNat ((List.getD s6.1 ((IntKind.i64.wrap (t14 - 1))).toNat 0) : Int)) ((IntKind.i64.wrap (t14 - 1))).toNat ((List.getD s6.1 (t14).toNat 0) : Int)) cdata), (1, vi a), (2, vi b), (3, Value.func (.func 42) #[] #[Value.pointer (some a_cmpc)]), (9, vi t14), (10, vi ((s6.2.2 : Nat) : Int)), (11, vi (IntKind.i64.wrap (t14 - 1)))] ?_
                    refine xLo hS (fun g own sl s81 => ∃ (k81_0 : Option Bk), own = [none, k81_0] ∧ sl = [(0, vs Adata s81.1 cdata), (1, vi a), (2, vi b), (3, Value.func (.func 42) #[] #[Value.pointer (some a_cmpc)]), (9, vi t14), (10, vi ((s6.2.2 : Nat) : Int)), (11, vi s81.2)] ∧ Buf g.b (tyI .i64) 3 (.slice Adata (s81.1).length cdata) k81_0 s81.1 ∧ (data).length = (s81.1).length) ⟨k33, by kernel_rfl, by kernel_rfl, h33, hz33_1⟩ ?_
                    rintro g82 _ _ s81 uu81 e83 ⟨k81_0, rfl, rfl, h81_0, hz81_v0⟩ hS Qr81 hN81 hD81
                    have nh81_0 := h81_0.len
                    unfold o71f42_L2 at hS
                    refine xSq ?_
                    refine xSq ?_
                    refine xRg ?_
                    refine xB 2 [] [(0, vs Adata s81.1 cdata), (1, vi a), (2, vi b), (3, Value.func (.func 42) #[] #[Value.pointer (some a_cmpc)]), (9, vi t14), (10, vi ((s6.2.2 : Nat) : Int)), (11, vi s81.2), (69, vb (decide (s81.2 ≥ 1)))] ?_
                    refine xRe ?_
                    refine wpq_then ?_
                    refine xCd (decide (s81.2 ≥ 1)) (fun h84 => ?_) (fun h84 => ?_)
                    · have hS := cond_T h84 hS
                      have h84p := of_decide_eq_true h84
                      refine xSk ?_
                      refine wpq_then ?_
                      refine xSub [(0, vs Adata s81.1 cdata), (1, vi a), (2, vi b), (3, Value.func (.func 42) #[] #[Value.pointer (some a_cmpc)]), (9, vi t14), (10, vi ((s6.2.2 : Nat) : Int)), (11, vi s81.2)] ?_
                      refine xSq ?_
                      refine xBl 5 ?_
                      refine xSq ?_
                      refine xSq ?_
                      refine xDr 0 [4, 9] [] [k81_0] 13 (fun RG => ?_) (fun _ _ _ _ _ h => h)
                      obtain ⟨q86, hS⟩ := grd_T hS
                      have q86p := of_decide_eq_true q86
                      have i87 : (s81.2).toNat < (s81.1).length := by omega
                      obtain ⟨kc85, cs85, hA85, hk85, hr85, hw85⟩ := h81_0.open_ i87 0
                      obtain ⟨kb85, rfl⟩ : ∃ z, z = kc85 := ⟨_, rfl⟩
                      subst hk85
                      have hr85 : cs85 = [vi (List.getD s81.1 (s81.2).toNat 0)] := hr85
                      subst hr85
                      refine xT 10 [0, 1, 2] [] [some 1] [(0, vs Adata s81.1 cdata), (1, vi a), (2, vi b), (3, Value.func (.func 42) #[] #[Value.pointer (some a_cmpc)]), (9, vi t14), (10, vi ((s6.2.2 : Nat) : Int)), (11, vi s81.2), (72, Value.func (.func 42) #[] #[Value.pointer (some a_cmpc)]), (73, vs Adata s81.1 cdata), (74, vi s81.2)] RG (Psi.le.refl _) ?_
                      refine xTp 3 RG (fun _ => (qIxB (s81.2).toNat 1 kb85.g hA85 (show (s81.2 : Int) = _ from by omega) i87)) ?_
                      refine xTv 4 [some 1] RG (Psi.le.refl _) (qLdB (s81.2).toNat 1 0 0 hw85) ?_
                      obtain ⟨q88, hS⟩ := grd_T hS
                      have q88p := of_decide_eq_true q88
                      refine xT 6 [5, 6] [] [some 1] [(0, vs Adata s81.1 cdata), (1, vi a), (2, vi b), (3, Value.func (.func 42) #[] #[Value.pointer (some a_cmpc)]), (9, vi t14), (10, vi ((s6.2.2 : Nat) : Int)), (11, vi s81.2), (72, Value.func (.func 42) #[] #[Value.pointer (some a_cmpc)]), (76, vi (List.getD s81.1 (s81.2).toNat 0)), (77, vs Adata s81.1 cdata), (78, vi s81.2)] RG (Psi.le.refl _) ?_
                      refine xTp 7 RG (fun _ => (qSub .i64 (s81.2) (1) (wr64 (by omega)))) ?_
                      obtain ⟨q90, hS⟩ := grd_T hS
                      have q90p := of_decide_eq_true q90
                      have i91 : ((s81.2 - 1)).toNat < (s81.1).length := by omega
                      obtain ⟨kc89, cs89, hA89, hk89, hr89, hw89⟩ := h81_0.open_ i91 0
                      cases hk89
                      have hr89 : cs89 = [vi (List.getD s81.1 ((s81.2 - 1)).toNat 0)] := hr89
                      subst hr89
                      refine xTp 8 RG (fun _ => (qIxB ((s81.2 - 1)).toNat 1 kb85.g hA89 (show ((s81.2 - 1) : Int) = _ from by omega) i91)) ?_
                      refine xTv 9 [some 1] RG (Psi.le.refl _) (qLdB ((s81.2 - 1)).toNat 1 0 0 hw89) ?_
                      have hc_cmpcp := hc_cmpcp.mono (e8.trans (e16.trans e83)).r
                      have fcmpcp_defs := fcmpcp_defs.mono (e8.trans (e16.trans e83)).r
                      have fcmpcp_conds := fcmpcp_conds.mono (e8.trans (e16.trans e83)).r (e8.trans (e16.trans e83)).b
                      have hc_cmpc := hc_cmpc.mono (e8.trans (e16.trans e83)).r
                      obtain ⟨y92, hy92, hS⟩ := bindO_T hS
                      refine xO1 (lds := [4, 9]) 10 ?_
                      refine xIe (lds := [4, 9]) (Psi.le.refl _) (eC 0 (fun g' lr eb ln => c42 g' ((List.getD s81.1 (s81.2).toNat 0) : Int) ((List.getD s81.1 ((s81.2 - 1)).toNat 0) : Int) a_cmpc a_cmpcp cmpcp Acmpcp_defs ccmpcp_defs Acmpcp_conds ccmpcp_conds (hc_cmpcp.mono lr) (fcmpcp_defs.mono lr) (ArrM.lent fcmpcp_conds lr eb) (hc_cmpc.mono lr) hy92)) ?_
                      rintro _ g93 _ e94 ⟨_, rfl, rfl, rfl⟩
                      refine kk [some 1] ?_
                      refine xT 0 [11, 12] [] [some 1] [(0, vs Adata s81.1 cdata), (1, vi a), (2, vi b), (3, Value.func (.func 42) #[] #[Value.pointer (some a_cmpc)]), (9, vi t14), (10, vi ((s6.2.2 : Nat) : Int)), (11, vi s81.2), (84, vb (!decide (y92 < 0)))] RG e94.r ?_
                      refine xAe (lds := [4, 9]) ?_
                      refine wpq_then ?_
                      refine xCd ((!decide (y92 < 0))) (fun h95 => ?_) (fun h95 => ?_)
                      · have hS := cond_T h95 hS
                        have h95n := not_eq_true_ h95
                        have h95np := of_decide_eq_false h95n
                        refine xEx 4 ?_
                        refine wpq_thenX ?_
                        refine wpq_blockX (by kernel_rfl) ?_
                        refine wpq_thenX ?_
                        refine wpq_thenX ?_
                        refine wpq_blockE ?_
                        have h81_0 := h81_0.mono e94.b
                        refine xSel [none, some 1] ?_
                        refine xSub [(0, vs Adata s81.1 cdata), (1, vi a), (2, vi b), (3, Value.func (.func 42) #[] #[Value.pointer (some a_cmpc)]), (9, vi t14), (10, vi ((s6.2.2 : Nat) : Int))] ?_
                        have eS := (Option.some.inj hS).symm
                        have eS := (hD81 _ eS).symm
                        exact hN76 _ eS _ _ _ (e83.trans e94) ⟨(some kb85), by kernel_rfl, by kernel_rfl, h81_0, hz81_v0⟩
                      · have hS := cond_F h95 hS
                        have h95n := not_eq_false_ h95
                        have h95np := of_decide_eq_true h95n
                        refine xSk ?_
                        refine wpq_then ?_
                        refine xSub [(0, vs Adata s81.1 cdata), (1, vi a), (2, vi b), (3, Value.func (.func 42) #[] #[Value.pointer (some a_cmpc)]), (9, vi t14), (10, vi ((s6.2.2 : Nat) : Int)), (11, vi s81.2)] ?_
                        refine xDr 0 [9, 13] [15, 17, 14, 16] [(some kb85)] 18 (fun RG => ?_) (fun _ _ _ _ _ h => h)
                        obtain ⟨q96, hS⟩ := grd_T hS
                        have q96p := of_decide_eq_true q96
                        refine xT 14 [0, 1, 2, 3] [] [some 1] [(0, vs Adata s81.1 cdata), (1, vi a), (2, vi b), (3, Value.func (.func 42) #[] #[Value.pointer (some a_cmpc)]), (9, vi t14), (10, vi ((s6.2.2 : Nat) : Int)), (11, vi s81.2), (85, vs Adata s81.1 cdata), (86, vi s81.2), (87, vs Adata s81.1 cdata), (88, vi s81.2)] RG (Psi.le.refl _) ?_
                        refine xTp 4 RG (fun _ => (qSub .i64 (s81.2) (1) (wr64 (by omega)))) ?_
                        obtain ⟨q97, hS⟩ := grd_T hS
                        have q97p := of_decide_eq_true q97
                        refine xT 11 [5, 6] [] [some 1] [(0, vs Adata s81.1 cdata), (1, vi a), (2, vi b), (3, Value.func (.func 42) #[] #[Value.pointer (some a_cmpc)]), (9, vi t14), (10, vi ((s6.2.2 : Nat) : Int)), (11, vi s81.2), (85, vs Adata s81.1 cdata), (86, vi s81.2), (87, vs Adata s81.1 cdata), (89, vi (s81.2 - 1)), (90, vs Adata s81.1 cdata), (91, vi s81.2)] RG (Psi.le.refl _) ?_
                        refine xTp 7 RG (fun _ => (qSub .i64 (s81.2) (1) (wr64 (by omega)))) ?_
                        have h81_0 := h81_0.mono e94.b
                        obtain ⟨q99, hS⟩ := grd_T hS
                        have q99p := of_decide_eq_true q99
                        have i100 : ((s81.2 - 1)).toNat < (s81.1).length := by omega
                        obtain ⟨kc98, cs98, hA98, hk98, hr98, hw98⟩ := h81_0.open_ i100 0
                        cases hk98
                        have hr98 : cs98 = [vi (List.getD s81.1 ((s81.2 - 1)).toNat 0)] := hr98
                        subst hr98
                        refine xTp 8 RG (fun _ => (qIxB ((s81.2 - 1)).toNat 1 kb85.g hA98 (show ((s81.2 - 1) : Int) = _ from by omega) i100)) ?_
                        refine xTv 9 [some 1] RG (Psi.le.refl _) (qLdB ((s81.2 - 1)).toNat 1 0 0 hw98) ?_
                        obtain ⟨q102, hS⟩ := grd_T hS
                        have q102p := of_decide_eq_true q102
                        have i103 : (s81.2).toNat < (s81.1).length := by omega
                        obtain ⟨kc101, cs101, hA101, hk101, hr101, hw101⟩ := h81_0.open_ i103 0
                        cases hk101
                        have hr101 : cs101 = [vi (List.getD s81.1 (s81.2).toNat 0)] := hr101
                        subst hr101
                        refine xT 6 [10, 11] [] [some 1] [(0, vs Adata s81.1 cdata), (1, vi a), (2, vi b), (3, Value.func (.func 42) #[] #[Value.pointer (some a_cmpc)]), (9, vi t14), (10, vi ((s6.2.2 : Nat) : Int)), (11, vi s81.2), (85, vs Adata s81.1 cdata), (86, vi s81.2), (87, vs Adata s81.1 cdata), (89, vi (s81.2 - 1)), (94, vi (List.getD s81.1 ((s81.2 - 1)).toNat 0)), (95, vs Adata s81.1 cdata), (96, vi s81.2)] RG (Psi.le.refl _) ?_
                        refine xTp 12 RG (fun _ => (qIxB (s81.2).toNat 1 kb85.g hA101 (show (s81.2 : Int) = _ from by omega) i103)) ?_
                        refine xTv 13 [some 1] RG (Psi.le.refl _) (qLdB (s81.2).toNat 1 0 0 hw101) ?_
                        obtain ⟨q105, hS⟩ := grd_T hS
                        have q105p := of_decide_eq_true q105
                        have i106 : (s81.2).toNat < (s81.1).length := by omega
                        obtain ⟨kc104, cs104, hA104, hk104, hr104, hw104⟩ := h81_0.open_ i106 0
                        cases hk104
                        have hr104 : cs104 = [vi (List.getD s81.1 (s81.2).toNat 0)] := hr104
                        subst hr104
                        refine xTp 14 RG (fun _ => (qIxB (s81.2).toNat 1 kb85.g hA104 (show (s81.2 : Int) = _ from by omega) i106)) ?_
                        refine xO1 (lds := [9, 13]) 15 ?_
                        refine xId (lds := [9, 13]) (Psi.le.refl _) (eStB (s81.2).toNat 1 0 1 [vi (List.getD s81.1 ((s81.2 - 1)).toNat 0)] h81_0 rfl hw104 (show (tyI .i64).rep _ _ _ from rfl) i106) ?_
                        rintro _ _ _ - ⟨k107, rfl, rfl, h107⟩
                        refine kf ?_
                        have hz107 : (s81.1).length = ((List.set s81.1 (s81.2).toNat ((List.getD s81.1 ((s81.2 - 1)).toNat 0) : Int))).length := by simp
                        have hz107_1 : (data).length = ((List.set s81.1 (s81.2).toNat ((List.getD s81.1 ((s81.2 - 1)).toNat 0) : Int))).length := hz81_v0.trans hz107
                        obtain ⟨q109, hS⟩ := grd_T hS
                        have q109p := of_decide_eq_true q109
                        have i110 : ((s81.2 - 1)).toNat < ((List.set s81.1 (s81.2).toNat ((List.getD s81.1 ((s81.2 - 1)).toNat 0) : Int))).length := by omega
                        have i111 : ((s81.2 - 1)).toNat < (s81.1).length := by have := hz107; omega
                        obtain ⟨kc108, cs108, hA108, hk108, hr108, hw108⟩ := h107.open_ i110 0
                        obtain ⟨kb108, rfl⟩ : ∃ z, z = kc108 := ⟨_, rfl⟩
                        subst hk108
                        have hr108 : cs108 = [vi (List.getD (List.set s81.1 (s81.2).toNat ((List.getD s81.1 ((s81.2 - 1)).toNat 0) : Int)) ((s81.2 - 1)).toNat 0)] := hr108
                        subst hr108
                        refine xTp 16 RG (fun _ => (qIxB ((s81.2 - 1)).toNat 1 kb108.g hA108 (show ((s81.2 - 1) : Int) = _ from by omega) i111)) ?_
                        refine xO1 (lds := [9, 13]) 17 ?_
                        refine xId (lds := [9, 13]) (Psi.le.refl _) (eStB ((s81.2 - 1)).toNat 1 0 1 [vi (List.getD s81.1 (s81.2).toNat 0)] h107 rfl hw108 (show (tyI .i64).rep _ _ _ from rfl) i110) ?_
                        rintro _ _ _ - ⟨k112, rfl, rfl, h112⟩
                        refine kf ?_
                        have hz112 : (s81.1).length = ((List.set (List.set s81.1 (s81.2).toNat ((List.getD s81.1 ((s81.2 - 1)).toNat 0) : Int)) ((s81.2 - 1)).toNat ((List.getD s81.1 (s81.2).toNat 0) : Int))).length := hz107.trans (by simp)
                        have hz112_1 : (data).length = ((List.set (List.set s81.1 (s81.2).toNat ((List.getD s81.1 ((s81.2 - 1)).toNat 0) : Int)) ((s81.2 - 1)).toNat ((List.getD s81.1 (s81.2).toNat 0) : Int))).length := hz107_1.trans (hz107.symm.trans hz112)
                        refine xAe (lds := [9, 13]) ?_
                        refine wpq_blockN ?_
                        refine wpq_then ?_
                        refine xSub [(0, Value.slice Adata ((s81.1).length) cdata), (1, vi a), (2, vi b), (3, Value.func (.func 42) #[] #[Value.pointer (some a_cmpc)]), (9, vi t14), (10, vi ((s6.2.2 : Nat) : Int)), (11, vi s81.2)] ?_
                        refine xRg ?_
                        obtain ⟨q113, hS⟩ := grd_T hS
                        have q113p := of_decide_eq_true q113
                        refine xB 1 [] [(0, Value.slice Adata ((s81.1).length) cdata), (1, vi a), (2, vi b), (3, Value.func (.func 42) #[] #[Value.pointer (some a_cmpc)]), (9, vi t14), (10, vi ((s6.2.2 : Nat) : Int)), (11, vi s81.2), (70, vi s81.2)] ?_
                        refine xV (qSub .i64 (s81.2) (1) (wr64 (by omega))) ?_
                        refine xB 1 [] [(0, Value.slice Adata ((s81.1).length) cdata), (1, vi a), (2, vi b), (3, Value.func (.func 42) #[] #[Value.pointer (some a_cmpc)]), (9, vi t14), (10, vi ((s6.2.2 : Nat) : Int)), (11, vi (s81.2 - 1))] ?_
                        refine xRe ?_
                        refine wpq_thenN ?_
                        refine wpq_re 0 (v := Value.slice Adata ((s81.1).length) cdata) (vs Adata (List.set (List.set s81.1 (s81.2).toNat ((List.getD s81.1 ((s81.2 - 1)).toNat 0) : Int)) ((s81.2 - 1)).toNat ((List.getD s81.1 (s81.2).toNat 0) : Int)) cdata) (by kernel_rfl) (congrArg (fun z => Value.slice Adata z cdata) hz112) ?_
                        have h112 := Buf.re h112 hz112 (rfl : (List.set (List.set s81.1 (s81.2).toNat ((List.getD s81.1 ((s81.2 - 1)).toNat 0) : Int)) ((s81.2 - 1)).toNat ((List.getD s81.1 (s81.2).toNat 0) : Int)) = _)
                        refine xSel [none, some 1] ?_
                        refine xSub [(0, vs Adata (List.set (List.set s81.1 (s81.2).toNat ((List.getD s81.1 ((s81.2 - 1)).toNat 0) : Int)) ((s81.2 - 1)).toNat ((List.getD s81.1 (s81.2).toNat 0) : Int)) cdata), (1, vi a), (2, vi b), (3, Value.func (.func 42) #[] #[Value.pointer (some a_cmpc)]), (9, vi t14), (10, vi ((s6.2.2 : Nat) : Int)), (11, vi (s81.2 - 1))] ?_
                        have eS := (Option.some.inj hS).symm
                        exact hN81 _ eS _ _ _ e94 ⟨k112, by kernel_rfl, by kernel_rfl, h112, hz112_1⟩
                    · have hS := cond_F h84 hS
                      have h84p := of_decide_eq_false h84
                      refine xEx 4 ?_
                      refine wpq_thenX ?_
                      refine wpq_thenX ?_
                      refine wpq_blockE ?_
                      refine xSel [none, some 1] ?_
                      refine xSub [(0, vs Adata s81.1 cdata), (1, vi a), (2, vi b), (3, Value.func (.func 42) #[] #[Value.pointer (some a_cmpc)]), (9, vi t14), (10, vi ((s6.2.2 : Nat) : Int))] ?_
                      have eS := (Option.some.inj hS).symm
                      have eS := (hD81 _ eS).symm
                      exact hN76 _ eS _ _ _ e83 ⟨k81_0, by kernel_rfl, by kernel_rfl, h81_0, hz81_v0⟩
                · have hS := cond_F h75 hS
                  have h75p := of_decide_eq_false h75
                  refine xSk ?_
                  refine wpq_re 0 (v := Value.slice Adata ((s6.1).length) cdata) (vs Adata (List.set (List.set s6.1 (t14).toNat ((List.getD s6.1 ((IntKind.i64.wrap (t14 - 1))).toNat 0) : Int)) ((IntKind.i64.wrap (t14 - 1))).toNat ((List.getD s6.1 (t14).toNat 0) : Int)) cdata) (by kernel_rfl) (congrArg (fun z => Value.slice Adata z cdata) hz33) ?_
                  have h33 := Buf.re h33 hz33 (rfl : (List.set (List.set s6.1 (t14).toNat ((List.getD s6.1 ((IntKind.i64.wrap (t14 - 1))).toNat 0) : Int)) ((IntKind.i64.wrap (t14 - 1))).toNat ((List.getD s6.1 (t14).toNat 0) : Int)) = _)
                  refine xSel [none, some 1] ?_
                  refine xSub [(0, vs Adata (List.set (List.set s6.1 (t14).toNat ((List.getD s6.1 ((IntKind.i64.wrap (t14 - 1))).toNat 0) : Int)) ((IntKind.i64.wrap (t14 - 1))).toNat ((List.getD s6.1 (t14).toNat 0) : Int)) cdata), (1, vi a), (2, vi b), (3, Value.func (.func 42) #[] #[Value.pointer (some a_cmpc)]), (9, vi t14), (10, vi ((s6.2.2 : Nat) : Int))] ?_
                  have eS := (Option.some.inj hS).symm
                  exact hN34 _ eS _ _ _ (Gh.le.refl _) ⟨k33, by kernel_rfl, by kernel_rfl, h33, hz33_1⟩
        · intro uu14 hS hN14
          refine xBl 2 ?_
          refine xSel [none, some 1] ?_
          refine xSub [(0, vs Adata s6.1 cdata), (1, vi a), (2, vi b), (3, Value.func (.func 42) #[] #[Value.pointer (some a_cmpc)]), (9, vi s6.2.1), (10, vi ((s6.2.2 : Nat) : Int))] ?_
          refine xLo hS (fun g own sl s116 => own = [none, k6_0] ∧ sl = [(0, vs Adata s6.1 cdata), (1, vi a), (2, vi b), (3, Value.func (.func 42) #[] #[Value.pointer (some a_cmpc)]), (9, vi s116), (10, vi ((s6.2.2 : Nat) : Int))]) ⟨by kernel_rfl, by kernel_rfl⟩ ?_
          rintro g117 _ _ s116 uu116 e118 ⟨rfl, rfl⟩ hS Qr116 hN116 hD116
          unfold o71f42_L3 at hS
          refine xSq ?_
          refine xSq ?_
          refine xDr 0 [8, 13] [] [k6_0] 18 (fun RG => ?_) (fun _ _ _ _ _ h => h)
          refine xT 14 [0, 1, 2, 3] [] [some 1] [(0, vs Adata s6.1 cdata), (1, vi a), (2, vi b), (3, Value.func (.func 42) #[] #[Value.pointer (some a_cmpc)]), (9, vi s116), (10, vi ((s6.2.2 : Nat) : Int)), (22, vb (decide (s116 < b)))] RG (Psi.le.refl _) ?_
          refine xGJoA hS 0 [true, true, true, true, true, true, true, true, true, true, true, true, true, true, true, true, true, true] (fun g own sl t119 => own = [none, k6_0] ∧ sl = [(0, vs Adata s6.1 cdata), (1, vi a), (2, vi b), (3, Value.func (.func 42) #[] #[Value.pointer (some a_cmpc)]), (9, vi s116), (10, vi ((s6.2.2 : Nat) : Int)), (36, vb t119)]) ?_ ?_
          · rintro g120 _ _ t119 e121 ⟨rfl, rfl⟩ hS
            refine xAe (lds := [8, 13]) ?_
            refine wpq_then ?_
            refine xCd (t119) (fun h122 => ?_) (fun h122 => ?_)
            · have hS := cond_T h122 hS
              refine xSk ?_
              refine wpq_then ?_
              refine xSub [(0, vs Adata s6.1 cdata), (1, vi a), (2, vi b), (3, Value.func (.func 42) #[] #[Value.pointer (some a_cmpc)]), (9, vi s116), (10, vi ((s6.2.2 : Nat) : Int))] ?_
              refine xBl 3 ?_
              refine xRg ?_
              have z1404 := i64_in_ (s116 + 1)
              refine xB 3 [] [(0, vs Adata s6.1 cdata), (1, vi a), (2, vi b), (3, Value.func (.func 42) #[] #[Value.pointer (some a_cmpc)]), (9, vi (IntKind.i64.wrap (s116 + 1))), (10, vi ((s6.2.2 : Nat) : Int))] ?_
              refine xRe ?_
              refine wpq_blockN ?_
              refine wpq_thenN ?_
              refine xSel [none, some 1] ?_
              refine xSub [(0, vs Adata s6.1 cdata), (1, vi a), (2, vi b), (3, Value.func (.func 42) #[] #[Value.pointer (some a_cmpc)]), (9, vi (IntKind.i64.wrap (s116 + 1))), (10, vi ((s6.2.2 : Nat) : Int))] ?_
              have eS := (Option.some.inj hS).symm
              exact hN116 _ eS _ _ _ e121 ⟨by kernel_rfl, by kernel_rfl⟩
            · have hS := cond_F h122 hS
              refine xEx 2 ?_
              refine wpq_thenX ?_
              refine wpq_thenX ?_
              refine wpq_blockE ?_
              refine xSel [none, some 1] ?_
              refine xSub [(0, vs Adata s6.1 cdata), (1, vi a), (2, vi b), (3, Value.func (.func 42) #[] #[Value.pointer (some a_cmpc)]), (9, vi s116), (10, vi ((s6.2.2 : Nat) : Int))] ?_
              have eS := (Option.some.inj hS).symm
              have eS := (hD116 _ eS).symm
              exact hN14 _ eS _ _ _ (e118.trans e121) ⟨by kernel_rfl, by kernel_rfl⟩
          · intro uu119 hS hN119
            refine wpq_split 22 (b := decide (s116 < b)) (by kernel_rfl) (fun q123 => ?_) (fun q123 => ?_)
            · have hS := cond_T q123 hS
              have q123p := of_decide_eq_true q123
              have h6_0 := h6_0.mono e118.b
              obtain ⟨q125, hS⟩ := grd_T hS
              have q125p := of_decide_eq_true q125
              have i126 : (s116).toNat < (s6.1).length := by omega
              obtain ⟨kc124, cs124, hA124, hk124, hr124, hw124⟩ := h6_0.open_ i126 0
              obtain ⟨kb124, rfl⟩ : ∃ z, z = kc124 := ⟨_, rfl⟩
              subst hk124
              have hr124 : cs124 = [vi (List.getD s6.1 (s116).toNat 0)] := hr124
              subst hr124
              refine xT 11 [4, 5, 6] [] [some 1] [(0, vs Adata s6.1 cdata), (1, vi a), (2, vi b), (3, Value.func (.func 42) #[] #[Value.pointer (some a_cmpc)]), (9, vi s116), (10, vi ((s6.2.2 : Nat) : Int)), (22, vb true), (23, Value.func (.func 42) #[] #[Value.pointer (some a_cmpc)]), (24, vs Adata s6.1 cdata), (25, vi s116)] RG (Psi.le.refl _) ?_
              refine xTp 7 RG (fun _ => (qIxB (s116).toNat 1 kb124.g hA124 (show (s116 : Int) = _ from by omega) i126)) ?_
              refine xTv 8 [some 1] RG (Psi.le.refl _) (qLdB (s116).toNat 1 0 0 hw124) ?_
              have z1405 := i64_in_ (s116 - 1)
              obtain ⟨q128, hS⟩ := grd_T hS
              have q128p := of_decide_eq_true q128
              have i129 : ((IntKind.i64.wrap (s116 - 1))).toNat < (s6.1).length := by omega
              obtain ⟨kc127, cs127, hA127, hk127, hr127, hw127⟩ := h6_0.open_ i129 0
              cases hk127
              have hr127 : cs127 = [vi (List.getD s6.1 ((IntKind.i64.wrap (s116 - 1))).toNat 0)] := hr127
              subst hr127
              refine xT 6 [9, 10, 11] [] [some 1] [(0, vs Adata s6.1 cdata), (1, vi a), (2, vi b), (3, Value.func (.func 42) #[] #[Value.pointer (some a_cmpc)]), (9, vi s116), (10, vi ((s6.2.2 : Nat) : Int)), (22, vb true), (23, Value.func (.func 42) #[] #[Value.pointer (some a_cmpc)]), (27, vi (List.getD s6.1 (s116).toNat 0)), (28, vs Adata s6.1 cdata), (30, vi (IntKind.i64.wrap (s116 - 1)))] RG (Psi.le.refl _) ?_
              refine xTp 12 RG (fun _ => (qIxB ((IntKind.i64.wrap (s116 - 1))).toNat 1 kb124.g hA127 (show ((IntKind.i64.wrap (s116 - 1)) : Int) = _ from by omega) i129)) ?_
              refine xTv 13 [some 1] RG (Psi.le.refl _) (qLdB ((IntKind.i64.wrap (s116 - 1))).toNat 1 0 0 hw127) ?_
              have hc_cmpcp := hc_cmpcp.mono (e8.trans e118).r
              have fcmpcp_defs := fcmpcp_defs.mono (e8.trans e118).r
              have fcmpcp_conds := fcmpcp_conds.mono (e8.trans e118).r (e8.trans e118).b
              have hc_cmpc := hc_cmpc.mono (e8.trans e118).r
              obtain ⟨y130, hy130, hS⟩ := bindO_T hS
              refine xO1 (lds := [8, 13]) 14 ?_
              refine xIe (lds := [8, 13]) (Psi.le.refl _) (eC 0 (fun g' lr eb ln => c42 g' ((List.getD s6.1 (s116).toNat 0) : Int) ((List.getD s6.1 ((IntKind.i64.wrap (s116 - 1))).toNat 0) : Int) a_cmpc a_cmpcp cmpcp Acmpcp_defs ccmpcp_defs Acmpcp_conds ccmpcp_conds (hc_cmpcp.mono lr) (fcmpcp_defs.mono lr) (ArrM.lent fcmpcp_conds lr eb) (hc_cmpc.mono lr) hy130)) ?_
              rintro _ g131 _ e132 ⟨_, rfl, rfl, rfl⟩
              refine kk [some 1] ?_
              refine xT 0 [15, 16, 17] [] [some 1] [(0, vs Adata s6.1 cdata), (1, vi a), (2, vi b), (3, Value.func (.func 42) #[] #[Value.pointer (some a_cmpc)]), (9, vi s116), (10, vi ((s6.2.2 : Nat) : Int)), (36, vb (!decide (y130 < 0)))] RG e132.r ?_
              refine xSel [none, some 1] ?_
              refine xSub [(0, vs Adata s6.1 cdata), (1, vi a), (2, vi b), (3, Value.func (.func 42) #[] #[Value.pointer (some a_cmpc)]), (9, vi s116), (10, vi ((s6.2.2 : Nat) : Int)), (36, vb (!decide (y130 < 0)))] ?_
              exact hN119 _ (Option.some.inj hS).symm _ _ _ e132 ⟨by kernel_rfl, by kernel_rfl⟩
            · have hS := cond_F q123 hS
              have q123p := of_decide_eq_false q123
              refine xT 4 [4, 5, 6, 7, 8, 9, 10, 11, 12, 13] [] [some 1] [(0, vs Adata s6.1 cdata), (1, vi a), (2, vi b), (3, Value.func (.func 42) #[] #[Value.pointer (some a_cmpc)]), (9, vi s116), (10, vi ((s6.2.2 : Nat) : Int)), (22, vb false), (23, undef), (27, undef), (32, undef)] RG (Psi.le.refl _) ?_
              refine xO1 (lds := [8, 13]) 14 ?_
              refine xIb (lds := [8, 13]) [] ?_
              refine xT 0 [15, 16, 17] [] [some 1] [(0, vs Adata s6.1 cdata), (1, vi a), (2, vi b), (3, Value.func (.func 42) #[] #[Value.pointer (some a_cmpc)]), (9, vi s116), (10, vi ((s6.2.2 : Nat) : Int)), (36, vb false)] RG (Psi.le.refl _) ?_
              refine xSel [none, some 1] ?_
              refine xSub [(0, vs Adata s6.1 cdata), (1, vi a), (2, vi b), (3, Value.func (.func 42) #[] #[Value.pointer (some a_cmpc)]), (9, vi s116), (10, vi ((s6.2.2 : Nat) : Int)), (36, vb false)] ?_
              exact hN119 _ (Option.some.inj hS).symm _ _ _ (Gh.le.refl _) ⟨by kernel_rfl, by kernel_rfl⟩
    · have hS := cond_F h9 hS
      have h9p := of_decide_eq_false h9
      refine xEx 0 ?_
      refine wpq_thenX ?_
      refine wpq_thenX ?_
      refine wpq_blockE ?_
      refine xSel [none, some 1] ?_
      refine xSub [] ?_
      have eS := (Option.some.inj hS).symm
      have eS := (hD6 _ eS).symm
      exact hN1 _ eS _ _ _ e8 ⟨k6_0, by kernel_rfl, by kernel_rfl, h6_0, hz6_v0⟩

def o72f42_L1 (a : Int) (cmpcp : Board) (s21 : (List Int) × Int × Int) (t27 : Int) (s51 : Int) : Option (Ctl (Int) (Int)) :=
  (bindO (τ := Bool) (cond (decide (t27 ≤ s51)) (grd (decide (0 ≤ a ∧ a < (((s21.1).length : Nat) : Int))) (grd (decide (0 ≤ s51 ∧ s51 < (((s21.1).length : Nat) : Int))) (bindO (τ := Int) (o42 ((List.getD s21.1 (a).toNat 0) : Int) ((List.getD s21.1 (s51).toNat 0) : Int) cmpcp) fun y65 => (some (decide (y65 < 0)))))) (some (false))) fun t54 => (cond (t54) (some (Ctl.go (IntKind.i64.wrap (s51 - 1)))) (some (Ctl.done (s51)))))
def o72f42_L2 (a : Int) (cmpcp : Board) (s21 : (List Int) × Int × Int) (s70 : Int) : Option (Ctl (Int) (Int)) :=
  (bindO (τ := Bool) (cond (decide (s70 ≤ s21.2.2)) (grd (decide (0 ≤ a ∧ a < (((s21.1).length : Nat) : Int))) (grd (decide (0 ≤ s70 ∧ s70 < (((s21.1).length : Nat) : Int))) (bindO (τ := Int) (o42 ((List.getD s21.1 (a).toNat 0) : Int) ((List.getD s21.1 (s70).toNat 0) : Int) cmpcp) fun y84 => (some (!decide (y84 < 0)))))) (some (false))) fun t73 => (cond (t73) (some (Ctl.go (IntKind.i64.wrap (s70 + 1)))) (some (Ctl.done (s70)))))
def o72f42_L0 (a : Int) (cmpcp : Board) (s21 : (List Int) × Int × Int) : Option (Ctl ((List Int) × Int × Int) (Int × (List Int))) :=
  (joinO (τ := (List Int) × Int × Int) (ρ := Ctl ((List Int) × Int × Int) (Int × (List Int))) (bindO (τ := Int) (loopO (σ := Int) (ρ := Int) fuelN (o72f42_L2 a cmpcp s21) (s21.2.1)) fun t27 => (bindO (τ := Int) (loopO (σ := Int) (ρ := Int) fuelN (o72f42_L1 a cmpcp s21 t27) (s21.2.2)) fun t30 => (cond (decide (t27 > t30)) (some (Ctl.done (Ctl.done ((t27, (s21.1 : List Int)))))) (grd (decide (0 ≤ t30 ∧ t30 < (((s21.1).length : Nat) : Int))) (grd (decide (0 ≤ t27 ∧ t27 < (((s21.1).length : Nat) : Int))) (grd (decide (0 ≤ t27 ∧ t27 < (((s21.1).length : Nat) : Int))) (grd (decide (0 ≤ t30 ∧ t30 < ((((List.set s21.1 (t27).toNat ((List.getD s21.1 (t30).toNat 0) : Int))).length : Nat) : Int))) (some (Ctl.go (((List.set (List.set s21.1 (t27).toNat ((List.getD s21.1 (t30).toNat 0) : Int)) (t30).toNat ((List.getD s21.1 (t27).toNat 0) : Int)) : List Int), (IntKind.i64.wrap (t27 + 1)), (IntKind.i64.wrap (t30 - 1)))))))))))) fun t24 => (some (Ctl.go ((t24.1 : List Int), t24.2.1, t24.2.2))))
def o72f42 (data : List Int) (a : Int) (b : Int) (pivot : Int) (cmpcp : Board) : Option ((List Int) × Int) :=
  (grd (decide (0 ≤ pivot ∧ pivot < (((data).length : Nat) : Int))) (grd (decide (0 ≤ a ∧ a < (((data).length : Nat) : Int))) (grd (decide (0 ≤ a ∧ a < (((data).length : Nat) : Int))) (grd (decide (0 ≤ pivot ∧ pivot < ((((List.set data (a).toNat ((List.getD data (pivot).toNat 0) : Int))).length : Nat) : Int))) (bindO (τ := Int × (List Int)) (loopO (σ := (List Int) × Int × Int) (ρ := Int × (List Int)) fuelN (o72f42_L0 a cmpcp) (((List.set (List.set data (a).toNat ((List.getD data (pivot).toNat 0) : Int)) (pivot).toNat ((List.getD data (a).toNat 0) : Int)) : List Int), (IntKind.i64.wrap (a + 1)), (IntKind.i64.wrap (b - 1)))) fun t16 => (some (((t16.2 : List Int), (t16.1 : Int)))))))))
set_option maxRecDepth 100000 in
theorem c72f42 (g : Gh) (data : List Int) (Adata : Option Addr) (cdata : Nat) (kdata : Option Bk) (a : Int) (b : Int) (pivot : Int) (a_cmpc : Addr) (a_cmpcp : Addr) (cmpcp : Board) (Acmpcp_defs : Option Addr) (ccmpcp_defs : Nat) (Acmpcp_conds : Option Addr) (ccmpcp_conds : Nat) (hdata : Buf g.b (tyI .i64) 3 (.slice Adata (data).length cdata) kdata data) (hc_cmpcp : Cells g.r a_cmpcp (cBoard cmpcp Acmpcp_defs ccmpcp_defs Acmpcp_conds ccmpcp_conds)) (fcmpcp_defs : Arr g.r tyAlertDef Acmpcp_defs ccmpcp_defs cmpcp.defs) (fcmpcp_conds : ArrM g.r g.b tyCnd Acmpcp_conds ccmpcp_conds cmpcp.conds) (hc_cmpc : Cells g.r a_cmpc [Value.pointer (some a_cmpcp)]) {r : (List Int) × Int} (hS : o72f42 data a b pivot cmpcp = some r) :
    Ctr Try.prog 72 [vs Adata data cdata, vi a, vi b, vi pivot, Value.func (.func 42) #[] #[Value.pointer (some a_cmpc)]] g [kdata, none] (fun v ψ o => ∃ (ko_data : Option Bk), v = vi r.2 ∧ o = [ko_data] ∧ Buf ψ (tyI .i64) 3 (.slice Adata (data).length cdata) ko_data r.1) := by
  unfold o72f42 at hS
  refine xFn Try.f72 (Try.f72.body.getD .skip) 90 ?_
  have nhdata := hdata.len
  have nfcmpcp_defs := fcmpcp_defs.len
  have nfcmpcp_conds := fcmpcp_conds.len
  refine xSq ?_
  refine xRg ?_
  refine xB 1 [] [(0, vs Adata data cdata), (1, vi a), (2, vi b), (3, vi pivot), (4, Value.func (.func 42) #[] #[Value.pointer (some a_cmpc)])] ?_
  refine xRe ?_
  refine wpq_then ?_
  refine xSq ?_
  refine xDr 0 [7, 11] [13, 15, 12, 14] [kdata] 16 (fun RG => ?_) (fun _ _ _ _ _ h => h)
  obtain ⟨q2, hS⟩ := grd_T hS
  have q2p := of_decide_eq_true q2
  have i3 : (pivot).toNat < (data).length := by omega
  obtain ⟨kc1, cs1, hA1, hk1, hr1, hw1⟩ := hdata.open_ i3 0
  obtain ⟨kb1, rfl⟩ : ∃ z, z = kc1 := ⟨_, rfl⟩
  subst hk1
  have hr1 : cs1 = [vi (List.getD data (pivot).toNat 0)] := hr1
  subst hr1
  refine xT 10 [0, 1, 2, 3, 4, 5] [] [some 0] [(0, vs Adata data cdata), (1, vi a), (2, vi b), (4, Value.func (.func 42) #[] #[Value.pointer (some a_cmpc)]), (13, vs Adata data cdata), (14, vi a), (15, vs Adata data cdata), (16, vi pivot), (17, vs Adata data cdata), (18, vi pivot)] RG (Psi.le.refl _) ?_
  refine xTp 6 RG (fun _ => (qIxB (pivot).toNat 1 kb1.g hA1 (show (pivot : Int) = _ from by omega) i3)) ?_
  refine xTv 7 [some 0] RG (Psi.le.refl _) (qLdB (pivot).toNat 1 0 0 hw1) ?_
  obtain ⟨q5, hS⟩ := grd_T hS
  have q5p := of_decide_eq_true q5
  have i6 : (a).toNat < (data).length := by omega
  obtain ⟨kc4, cs4, hA4, hk4, hr4, hw4⟩ := hdata.open_ i6 0
  cases hk4
  have hr4 : cs4 = [vi (List.getD data (a).toNat 0)] := hr4
  subst hr4
  refine xT 6 [8, 9] [] [some 0] [(0, vs Adata data cdata), (1, vi a), (2, vi b), (4, Value.func (.func 42) #[] #[Value.pointer (some a_cmpc)]), (13, vs Adata data cdata), (14, vi a), (15, vs Adata data cdata), (16, vi pivot), (20, vi (List.getD data (pivot).toNat 0)), (21, vs Adata data cdata), (22, vi a)] RG (Psi.le.refl _) ?_
  refine xTp 10 RG (fun _ => (qIxB (a).toNat 1 kb1.g hA4 (show (a : Int) = _ from by omega) i6)) ?_
  refine xTv 11 [some 0] RG (Psi.le.refl _) (qLdB (a).toNat 1 0 0 hw4) ?_
  obtain ⟨q8, hS⟩ := grd_T hS
  have q8p := of_decide_eq_true q8
  have i9 : (a).toNat < (data).length := by omega
  obtain ⟨kc7, cs7, hA7, hk7, hr7, hw7⟩ := hdata.open_ i9 0
  cases hk7
  have hr7 : cs7 = [vi (List.getD data (a).toNat 0)] := hr7
  subst hr7
  refine xTp 12 RG (fun _ => (qIxB (a).toNat 1 kb1.g hA7 (show (a : Int) = _ from by omega) i9)) ?_
  refine xO1 (lds := [7, 11]) 13 ?_
  refine xId (lds := [7, 11]) (Psi.le.refl _) (eStB (a).toNat 1 0 0 [vi (List.getD data (pivot).toNat 0)] hdata rfl hw7 (show (tyI .i64).rep _ _ _ from rfl) i9) ?_
  rintro _ _ _ - ⟨k10, rfl, rfl, h10⟩
  refine kf ?_
  have hz10 : (data).length = ((List.set data (a).toNat ((List.getD data (pivot).toNat 0) : Int))).length := by simp
  obtain ⟨q12, hS⟩ := grd_T hS
  have q12p := of_decide_eq_true q12
  have i13 : (pivot).toNat < ((List.set data (a).toNat ((List.getD data (pivot).toNat 0) : Int))).length := by omega
  have i14 : (pivot).toNat < (data).length := by have := hz10; omega
  obtain ⟨kc11, cs11, hA11, hk11, hr11, hw11⟩ := h10.open_ i13 0
  obtain ⟨kb11, rfl⟩ : ∃ z, z = kc11 := ⟨_, rfl⟩
  subst hk11
  have hr11 : cs11 = [vi (List.getD (List.set data (a).toNat ((List.getD data (pivot).toNat 0) : Int)) (pivot).toNat 0)] := hr11
  subst hr11
  refine xTp 14 RG (fun _ => (qIxB (pivot).toNat 1 kb11.g hA11 (show (pivot : Int) = _ from by omega) i14)) ?_
  refine xO1 (lds := [7, 11]) 15 ?_
  refine xId (lds := [7, 11]) (Psi.le.refl _) (eStB (pivot).toNat 1 0 0 [vi (List.getD data (a).toNat 0)] h10 rfl hw11 (show (tyI .i64).rep _ _ _ from rfl) i13) ?_
  rintro _ _ _ - ⟨k15, rfl, rfl, h15⟩
  refine kf ?_
  have hz15 : (data).length = ((List.set (List.set data (a).toNat ((List.getD data (pivot).toNat 0) : Int)) (pivot).toNat ((List.getD data (a).toNat 0) : Int))).length := hz10.trans (by simp)
  refine xAe (lds := [7, 11]) ?_
  refine wpq_then ?_
  refine xSub [(0, Value.slice Adata ((data).length) cdata), (1, vi a), (2, vi b), (4, Value.func (.func 42) #[] #[Value.pointer (some a_cmpc)])] ?_
  refine xSq ?_
  refine xRg ?_
  have z1 := i64_in_ (a + 1)
  have z2 := i64_in_ (b - 1)
  refine xB 6 [] [(0, Value.slice Adata ((data).length) cdata), (1, vi a), (4, Value.func (.func 42) #[] #[Value.pointer (some a_cmpc)]), (11, vi (IntKind.i64.wrap (a + 1))), (12, vi (IntKind.i64.wrap (b - 1)))] ?_
  refine xRe ?_
  refine wpq_then ?_
  refine xSq ?_
  refine xBindO hS (fun g own sl t16 => ∃ (k16_1 : Option Bk), own = [none, k16_1] ∧ sl = [(11, vi t16.1)] ∧ Buf g.b (tyI .i64) 3 (.slice Adata (t16.2).length cdata) k16_1 t16.2 ∧ (data).length = (t16.2).length) ?_ ?_
  · rintro g17 _ _ t16 e18 ⟨k16_1, rfl, rfl, h16_1, hz16_v0⟩ hS
    have nh16_1 := h16_1.len
    refine wpq_then ?_
    refine xSq ?_
    refine xRg ?_
    refine xB 2 [] [(10, vi t16.1)] ?_
    refine xRe ?_
    refine wpq_then ?_
    have eS := (Option.some.inj hS).symm
    subst eS
    exact xRet [some 1] [10] e18 ⟨k16_1, by kernel_rfl, by kernel_rfl, (Buf.re h16_1 hz16_v0.symm rfl)⟩ (fun _ _ h => h)
  · intro uu16 hS hN16
    refine xBl 0 ?_
    refine wpq_re 0 (v := Value.slice Adata ((data).length) cdata) (vs Adata (List.set (List.set data (a).toNat ((List.getD data (pivot).toNat 0) : Int)) (pivot).toNat ((List.getD data (a).toNat 0) : Int)) cdata) (by kernel_rfl) (congrArg (fun z => Value.slice Adata z cdata) hz15) ?_
    have h15 := Buf.re h15 hz15 (rfl : (List.set (List.set data (a).toNat ((List.getD data (pivot).toNat 0) : Int)) (pivot).toNat ((List.getD data (a).toNat 0) : Int)) = _)
    refine xSel [none, some 0] ?_
    refine xSub [(0, vs Adata (List.set (List.set data (a).toNat ((List.getD data (pivot).toNat 0) : Int)) (pivot).toNat ((List.getD data (a).toNat 0) : Int)) cdata), (1, vi a), (4, Value.func (.func 42) #[] #[Value.pointer (some a_cmpc)]), (11, vi (IntKind.i64.wrap (a + 1))), (12, vi (IntKind.i64.wrap (b - 1)))] ?_
    refine xLo hS (fun g own sl s21 => ∃ (k21_0 : Option Bk), own = [none, k21_0] ∧ sl = [(0, vs Adata s21.1 cdata), (1, vi a), (4, Value.func (.func 42) #[] #[Value.pointer (some a_cmpc)]), (11, vi s21.2.1), (12, vi s21.2.2)] ∧ Buf g.b (tyI .i64) 3 (.slice Adata (s21.1).length cdata) k21_0 s21.1 ∧ (data).length = (s21.1).length) ⟨k15, by kernel_rfl, by kernel_rfl, h15, hz15⟩ ?_
    rintro g22 _ _ s21 uu21 e23 ⟨k21_0, rfl, rfl, h21_0, hz21_v0⟩ hS Qr21 hN21 hD21
    have nh21_0 := h21_0.len
    unfold o72f42_L0 at hS
    refine xJoinO hS (fun g own sl t24 => ∃ (k24_0 : Option Bk), own = [none, k24_0] ∧ sl = [(0, vs Adata t24.1 cdata), (1, vi a), (4, Value.func (.func 42) #[] #[Value.pointer (some a_cmpc)]), (11, vi t24.2.1), (12, vi t24.2.2)] ∧ Buf g.b (tyI .i64) 3 (.slice Adata (t24.1).length cdata) k24_0 t24.1 ∧ (data).length = (t24.1).length) ?_ ?_
    · rintro g25 _ _ t24 e26 ⟨k24_0, rfl, rfl, h24_0, hz24_v0⟩ hS
      have nh24_0 := h24_0.len
      refine wpq_thenN ?_
      refine xSel [none, some 1] ?_
      refine xSub [(0, vs Adata t24.1 cdata), (1, vi a), (4, Value.func (.func 42) #[] #[Value.pointer (some a_cmpc)]), (11, vi t24.2.1), (12, vi t24.2.2)] ?_
      have eS := (Option.some.inj hS).symm
      exact hN21 _ eS _ _ _ e26 ⟨k24_0, by kernel_rfl, by kernel_rfl, h24_0, hz24_v0⟩
    · intro uu24 hS hN24 hD24
      refine xBl 1 ?_
      refine xSq ?_
      refine xBindO hS (fun g own sl t27 => own = [none, k21_0] ∧ sl = [(0, vs Adata s21.1 cdata), (1, vi a), (4, Value.func (.func 42) #[] #[Value.pointer (some a_cmpc)]), (11, vi t27), (12, vi s21.2.2)]) ?_ ?_
      · rintro g28 _ _ t27 e29 ⟨rfl, rfl⟩ hS
        refine wpq_then ?_
        refine xSq ?_
        refine xBindO hS (fun g own sl t30 => own = [none, k21_0] ∧ sl = [(0, vs Adata s21.1 cdata), (1, vi a), (4, Value.func (.func 42) #[] #[Value.pointer (some a_cmpc)]), (11, vi t27), (12, vi t30)]) ?_ ?_
        · rintro g31 _ _ t30 e32 ⟨rfl, rfl⟩ hS
          refine wpq_then ?_
          refine xSq ?_
          refine xSq ?_
          refine xRg ?_
          refine xB 3 [] [(0, vs Adata s21.1 cdata), (1, vi a), (4, Value.func (.func 42) #[] #[Value.pointer (some a_cmpc)]), (11, vi t27), (12, vi t30), (70, vb (decide (t27 > t30)))] ?_
          refine xRe ?_
          refine wpq_then ?_
          refine xCd (decide (t27 > t30)) (fun h33 => ?_) (fun h33 => ?_)
          · have hS := cond_T h33 hS
            have h33p := of_decide_eq_true h33
            refine xEx 0 ?_
            refine wpq_thenX ?_
            refine wpq_blockX (by kernel_rfl) ?_
            refine wpq_thenX ?_
            refine wpq_blockE ?_
            have h21_0 := h21_0.mono (e29.trans e32).b
            refine xSel [none, some 1] ?_
            refine xSub [(11, vi t27)] ?_
            have eS := (Option.some.inj hS).symm
            have eS := (hD24 _ eS).symm
            have eS := (hD21 _ eS).symm
            exact hN16 _ eS _ _ _ (e23.trans (e29.trans e32)) ⟨k21_0, by kernel_rfl, by kernel_rfl, h21_0, hz21_v0⟩
          · have hS := cond_F h33 hS
            have h33p := of_decide_eq_false h33
            refine xSk ?_
            refine wpq_then ?_
            refine xSub [(0, vs Adata s21.1 cdata), (1, vi a), (4, Value.func (.func 42) #[] #[Value.pointer (some a_cmpc)]), (11, vi t27), (12, vi t30)] ?_
            refine xSq ?_
            refine xDr 0 [7, 11] [13, 15, 12, 14] [k21_0] 16 (fun RG => ?_) (fun _ _ _ _ _ h => h)
            have h21_0 := h21_0.mono (e29.trans e32).b
            obtain ⟨q35, hS⟩ := grd_T hS
            have q35p := of_decide_eq_true q35
            have i36 : (t30).toNat < (s21.1).length := by omega
            obtain ⟨kc34, cs34, hA34, hk34, hr34, hw34⟩ := h21_0.open_ i36 0
            obtain ⟨kb34, rfl⟩ : ∃ z, z = kc34 := ⟨_, rfl⟩
            subst hk34
            have hr34 : cs34 = [vi (List.getD s21.1 (t30).toNat 0)] := hr34
            subst hr34
            refine xT 10 [0, 1, 2, 3, 4, 5] [] [some 1] [(0, vs Adata s21.1 cdata), (1, vi a), (4, Value.func (.func 42) #[] #[Value.pointer (some a_cmpc)]), (11, vi t27), (12, vi t30), (71, vs Adata s21.1 cdata), (72, vi t27), (73, vs Adata s21.1 cdata), (74, vi t30), (75, vs Adata s21.1 cdata), (76, vi t30)] RG (Psi.le.refl _) ?_
            refine xTp 6 RG (fun _ => (qIxB (t30).toNat 1 kb34.g hA34 (show (t30 : Int) = _ from by omega) i36)) ?_
            refine xTv 7 [some 1] RG (Psi.le.refl _) (qLdB (t30).toNat 1 0 0 hw34) ?_
            obtain ⟨q38, hS⟩ := grd_T hS
            have q38p := of_decide_eq_true q38
            have i39 : (t27).toNat < (s21.1).length := by omega
            obtain ⟨kc37, cs37, hA37, hk37, hr37, hw37⟩ := h21_0.open_ i39 0
            cases hk37
            have hr37 : cs37 = [vi (List.getD s21.1 (t27).toNat 0)] := hr37
            subst hr37
            refine xT 6 [8, 9] [] [some 1] [(0, vs Adata s21.1 cdata), (1, vi a), (4, Value.func (.func 42) #[] #[Value.pointer (some a_cmpc)]), (11, vi t27), (12, vi t30), (71, vs Adata s21.1 cdata), (72, vi t27), (73, vs Adata s21.1 cdata), (74, vi t30), (78, vi (List.getD s21.1 (t30).toNat 0)), (79, vs Adata s21.1 cdata), (80, vi t27)] RG (Psi.le.refl _) ?_
            refine xTp 10 RG (fun _ => (qIxB (t27).toNat 1 kb34.g hA37 (show (t27 : Int) = _ from by omega) i39)) ?_
            refine xTv 11 [some 1] RG (Psi.le.refl _) (qLdB (t27).toNat 1 0 0 hw37) ?_
            obtain ⟨q41, hS⟩ := grd_T hS
            have q41p := of_decide_eq_true q41
            have i42 : (t27).toNat < (s21.1).length := by omega
            obtain ⟨kc40, cs40, hA40, hk40, hr40, hw40⟩ := h21_0.open_ i42 0
            cases hk40
            have hr40 : cs40 = [vi (List.getD s21.1 (t27).toNat 0)] := hr40
            subst hr40
            refine xTp 12 RG (fun _ => (qIxB (t27).toNat 1 kb34.g hA40 (show (t27 : Int) = _ from by omega) i42)) ?_
            refine xO1 (lds := [7, 11]) 13 ?_
            refine xId (lds := [7, 11]) (Psi.le.refl _) (eStB (t27).toNat 1 0 1 [vi (List.getD s21.1 (t30).toNat 0)] h21_0 rfl hw40 (show (tyI .i64).rep _ _ _ from rfl) i42) ?_
            rintro _ _ _ - ⟨k43, rfl, rfl, h43⟩
            refine kf ?_
            have hz43 : (s21.1).length = ((List.set s21.1 (t27).toNat ((List.getD s21.1 (t30).toNat 0) : Int))).length := by simp
            have hz43_1 : (data).length = ((List.set s21.1 (t27).toNat ((List.getD s21.1 (t30).toNat 0) : Int))).length := hz21_v0.trans hz43
            obtain ⟨q45, hS⟩ := grd_T hS
            have q45p := of_decide_eq_true q45
            have i46 : (t30).toNat < ((List.set s21.1 (t27).toNat ((List.getD s21.1 (t30).toNat 0) : Int))).length := by omega
            have i47 : (t30).toNat < (s21.1).length := by have := hz43; omega
            obtain ⟨kc44, cs44, hA44, hk44, hr44, hw44⟩ := h43.open_ i46 0
            obtain ⟨kb44, rfl⟩ : ∃ z, z = kc44 := ⟨_, rfl⟩
            subst hk44
            have hr44 : cs44 = [vi (List.getD (List.set s21.1 (t27).toNat ((List.getD s21.1 (t30).toNat 0) : Int)) (t30).toNat 0)] := hr44
            subst hr44
            refine xTp 14 RG (fun _ => (qIxB (t30).toNat 1 kb44.g hA44 (show (t30 : Int) = _ from by omega) i47)) ?_
            refine xO1 (lds := [7, 11]) 15 ?_
            refine xId (lds := [7, 11]) (Psi.le.refl _) (eStB (t30).toNat 1 0 1 [vi (List.getD s21.1 (t27).toNat 0)] h43 rfl hw44 (show (tyI .i64).rep _ _ _ from rfl) i46) ?_
            rintro _ _ _ - ⟨k48, rfl, rfl, h48⟩
            refine kf ?_
            have hz48 : (s21.1).length = ((List.set (List.set s21.1 (t27).toNat ((List.getD s21.1 (t30).toNat 0) : Int)) (t30).toNat ((List.getD s21.1 (t27).toNat 0) : Int))).length := hz43.trans (by simp)
            have hz48_1 : (data).length = ((List.set (List.set s21.1 (t27).toNat ((List.getD s21.1 (t30).toNat 0) : Int)) (t30).toNat ((List.getD s21.1 (t27).toNat 0) : Int))).length := hz43_1.trans (hz43.symm.trans hz48)
            refine xAe (lds := [7, 11]) ?_
            refine wpq_then ?_
            refine xSub [(0, Value.slice Adata ((s21.1).length) cdata), (1, vi a), (4, Value.func (.func 42) #[] #[Value.pointer (some a_cmpc)]), (11, vi t27), (12, vi t30)] ?_
            refine xSq ?_
            refine xRg ?_
            have z301 := i64_in_ (t27 + 1)
            refine xB 3 [] [(0, Value.slice Adata ((s21.1).length) cdata), (1, vi a), (4, Value.func (.func 42) #[] #[Value.pointer (some a_cmpc)]), (11, vi (IntKind.i64.wrap (t27 + 1))), (12, vi t30)] ?_
            refine xRe ?_
            refine wpq_then ?_
            refine xRg ?_
            have z302 := i64_in_ (t30 - 1)
            refine xB 3 [] [(0, Value.slice Adata ((s21.1).length) cdata), (1, vi a), (4, Value.func (.func 42) #[] #[Value.pointer (some a_cmpc)]), (11, vi (IntKind.i64.wrap (t27 + 1))), (12, vi (IntKind.i64.wrap (t30 - 1)))] ?_
            refine xRe ?_
            refine wpq_blockN ?_
            refine wpq_re 0 (v := Value.slice Adata ((s21.1).length) cdata) (vs Adata (List.set (List.set s21.1 (t27).toNat ((List.getD s21.1 (t30).toNat 0) : Int)) (t30).toNat ((List.getD s21.1 (t27).toNat 0) : Int)) cdata) (by kernel_rfl) (congrArg (fun z => Value.slice Adata z cdata) hz48) ?_
            have h48 := Buf.re h48 hz48 (rfl : (List.set (List.set s21.1 (t27).toNat ((List.getD s21.1 (t30).toNat 0) : Int)) (t30).toNat ((List.getD s21.1 (t27).toNat 0) : Int)) = _)
            refine xSel [none, some 1] ?_
            refine xSub [(0, vs Adata (List.set (List.set s21.1 (t27).toNat ((List.getD s21.1 (t30).toNat 0) : Int)) (t30).toNat ((List.getD s21.1 (t27).toNat 0) : Int)) cdata), (1, vi a), (4, Value.func (.func 42) #[] #[Value.pointer (some a_cmpc)]), (11, vi (IntKind.i64.wrap (t27 + 1))), (12, vi (IntKind.i64.wrap (t30 - 1)))] ?_
            have eS := (Option.some.inj hS).symm
            exact hN24 _ eS _ _ _ (e29.trans e32) ⟨k48, by kernel_rfl, by kernel_rfl, h48, hz48_1⟩
        · intro uu30 hS hN30
          refine xBl 4 ?_
          refine xSel [none, some 1] ?_
          refine xSub [(0, vs Adata s21.1 cdata), (1, vi a), (4, Value.func (.func 42) #[] #[Value.pointer (some a_cmpc)]), (11, vi t27), (12, vi s21.2.2)] ?_
          refine xLo hS (fun g own sl s51 => own = [none, k21_0] ∧ sl = [(0, vs Adata s21.1 cdata), (1, vi a), (4, Value.func (.func 42) #[] #[Value.pointer (some a_cmpc)]), (11, vi t27), (12, vi s51)]) ⟨by kernel_rfl, by kernel_rfl⟩ ?_
          rintro g52 _ _ s51 uu51 e53 ⟨rfl, rfl⟩ hS Qr51 hN51 hD51
          unfold o72f42_L1 at hS
          refine xSq ?_
          refine xSq ?_
          refine xDr 0 [8, 12] [] [k21_0] 16 (fun RG => ?_) (fun _ _ _ _ _ h => h)
          refine xT 12 [0, 1, 2, 3] [] [some 1] [(0, vs Adata s21.1 cdata), (1, vi a), (4, Value.func (.func 42) #[] #[Value.pointer (some a_cmpc)]), (11, vi t27), (12, vi s51), (53, vb (decide (t27 ≤ s51)))] RG (Psi.le.refl _) ?_
          refine xGJoA hS 0 [true, true, true, true, true, true, true, true, true, true, true, true, true, true, true, true] (fun g own sl t54 => own = [none, k21_0] ∧ sl = [(0, vs Adata s21.1 cdata), (1, vi a), (4, Value.func (.func 42) #[] #[Value.pointer (some a_cmpc)]), (11, vi t27), (12, vi s51), (65, vb t54)]) ?_ ?_
          · rintro g55 _ _ t54 e56 ⟨rfl, rfl⟩ hS
            refine xAe (lds := [8, 12]) ?_
            refine wpq_then ?_
            refine xCd (t54) (fun h57 => ?_) (fun h57 => ?_)
            · have hS := cond_T h57 hS
              refine xSk ?_
              refine wpq_then ?_
              refine xSub [(0, vs Adata s21.1 cdata), (1, vi a), (4, Value.func (.func 42) #[] #[Value.pointer (some a_cmpc)]), (11, vi t27), (12, vi s51)] ?_
              refine xBl 5 ?_
              refine xRg ?_
              have z308 := i64_in_ (s51 - 1)
              refine xB 3 [] [(0, vs Adata s21.1 cdata), (1, vi a), (4, Value.func (.func 42) #[] #[Value.pointer (some a_cmpc)]), (11, vi t27), (12, vi (IntKind.i64.wrap (s51 - 1)))] ?_
              refine xRe ?_
              refine wpq_blockN ?_
              refine wpq_thenN ?_
              refine xSel [none, some 1] ?_
              refine xSub [(0, vs Adata s21.1 cdata), (1, vi a), (4, Value.func (.func 42) #[] #[Value.pointer (some a_cmpc)]), (11, vi t27), (12, vi (IntKind.i64.wrap (s51 - 1)))] ?_
              have eS := (Option.some.inj hS).symm
              exact hN51 _ eS _ _ _ e56 ⟨by kernel_rfl, by kernel_rfl⟩
            · have hS := cond_F h57 hS
              refine xEx 4 ?_
              refine wpq_thenX ?_
              refine wpq_thenX ?_
              refine wpq_blockE ?_
              refine xSel [none, some 1] ?_
              refine xSub [(0, vs Adata s21.1 cdata), (1, vi a), (4, Value.func (.func 42) #[] #[Value.pointer (some a_cmpc)]), (11, vi t27), (12, vi s51)] ?_
              have eS := (Option.some.inj hS).symm
              have eS := (hD51 _ eS).symm
              exact hN30 _ eS _ _ _ (e53.trans e56) ⟨by kernel_rfl, by kernel_rfl⟩
          · intro uu54 hS hN54
            refine wpq_split 53 (b := decide (t27 ≤ s51)) (by kernel_rfl) (fun q58 => ?_) (fun q58 => ?_)
            · have hS := cond_T q58 hS
              have q58p := of_decide_eq_true q58
              have h21_0 := h21_0.mono (e29.trans e53).b
              obtain ⟨q60, hS⟩ := grd_T hS
              have q60p := of_decide_eq_true q60
              have i61 : (a).toNat < (s21.1).length := by omega
              obtain ⟨kc59, cs59, hA59, hk59, hr59, hw59⟩ := h21_0.open_ i61 0
              obtain ⟨kb59, rfl⟩ : ∃ z, z = kc59 := ⟨_, rfl⟩
              subst hk59
              have hr59 : cs59 = [vi (List.getD s21.1 (a).toNat 0)] := hr59
              subst hr59
              refine xT 9 [4, 5, 6] [] [some 1] [(0, vs Adata s21.1 cdata), (1, vi a), (4, Value.func (.func 42) #[] #[Value.pointer (some a_cmpc)]), (11, vi t27), (12, vi s51), (53, vb true), (54, Value.func (.func 42) #[] #[Value.pointer (some a_cmpc)]), (55, vs Adata s21.1 cdata), (56, vi a)] RG (Psi.le.refl _) ?_
              refine xTp 7 RG (fun _ => (qIxB (a).toNat 1 kb59.g hA59 (show (a : Int) = _ from by omega) i61)) ?_
              refine xTv 8 [some 1] RG (Psi.le.refl _) (qLdB (a).toNat 1 0 0 hw59) ?_
              obtain ⟨q63, hS⟩ := grd_T hS
              have q63p := of_decide_eq_true q63
              have i64 : (s51).toNat < (s21.1).length := by omega
              obtain ⟨kc62, cs62, hA62, hk62, hr62, hw62⟩ := h21_0.open_ i64 0
              cases hk62
              have hr62 : cs62 = [vi (List.getD s21.1 (s51).toNat 0)] := hr62
              subst hr62
              refine xT 5 [9, 10] [] [some 1] [(0, vs Adata s21.1 cdata), (1, vi a), (4, Value.func (.func 42) #[] #[Value.pointer (some a_cmpc)]), (11, vi t27), (12, vi s51), (53, vb true), (54, Value.func (.func 42) #[] #[Value.pointer (some a_cmpc)]), (58, vi (List.getD s21.1 (a).toNat 0)), (59, vs Adata s21.1 cdata), (60, vi s51)] RG (Psi.le.refl _) ?_
              refine xTp 11 RG (fun _ => (qIxB (s51).toNat 1 kb59.g hA62 (show (s51 : Int) = _ from by omega) i64)) ?_
              refine xTv 12 [some 1] RG (Psi.le.refl _) (qLdB (s51).toNat 1 0 0 hw62) ?_
              have hc_cmpcp := hc_cmpcp.mono (e23.trans (e29.trans e53)).r
              have fcmpcp_defs := fcmpcp_defs.mono (e23.trans (e29.trans e53)).r
              have fcmpcp_conds := fcmpcp_conds.mono (e23.trans (e29.trans e53)).r (e23.trans (e29.trans e53)).b
              have hc_cmpc := hc_cmpc.mono (e23.trans (e29.trans e53)).r
              obtain ⟨y65, hy65, hS⟩ := bindO_T hS
              refine xO1 (lds := [8, 12]) 13 ?_
              refine xIe (lds := [8, 12]) (Psi.le.refl _) (eC 0 (fun g' lr eb ln => c42 g' ((List.getD s21.1 (a).toNat 0) : Int) ((List.getD s21.1 (s51).toNat 0) : Int) a_cmpc a_cmpcp cmpcp Acmpcp_defs ccmpcp_defs Acmpcp_conds ccmpcp_conds (hc_cmpcp.mono lr) (fcmpcp_defs.mono lr) (ArrM.lent fcmpcp_conds lr eb) (hc_cmpc.mono lr) hy65)) ?_
              rintro _ g66 _ e67 ⟨_, rfl, rfl, rfl⟩
              refine kk [some 1] ?_
              refine xT 0 [14, 15] [] [some 1] [(0, vs Adata s21.1 cdata), (1, vi a), (4, Value.func (.func 42) #[] #[Value.pointer (some a_cmpc)]), (11, vi t27), (12, vi s51), (65, vb (decide (y65 < 0)))] RG e67.r ?_
              refine xSel [none, some 1] ?_
              refine xSub [(0, vs Adata s21.1 cdata), (1, vi a), (4, Value.func (.func 42) #[] #[Value.pointer (some a_cmpc)]), (11, vi t27), (12, vi s51), (65, vb (decide (y65 < 0)))] ?_
              exact hN54 _ (Option.some.inj hS).symm _ _ _ e67 ⟨by kernel_rfl, by kernel_rfl⟩
            · have hS := cond_F q58 hS
              have q58p := of_decide_eq_false q58
              refine xT 3 [4, 5, 6, 7, 8, 9, 10, 11, 12] [] [some 1] [(0, vs Adata s21.1 cdata), (1, vi a), (4, Value.func (.func 42) #[] #[Value.pointer (some a_cmpc)]), (11, vi t27), (12, vi s51), (53, vb false), (54, undef), (58, undef), (62, undef)] RG (Psi.le.refl _) ?_
              refine xO1 (lds := [8, 12]) 13 ?_
              refine xIb (lds := [8, 12]) [] ?_
              refine xT 0 [14, 15] [] [some 1] [(0, vs Adata s21.1 cdata), (1, vi a), (4, Value.func (.func 42) #[] #[Value.pointer (some a_cmpc)]), (11, vi t27), (12, vi s51), (65, vb false)] RG (Psi.le.refl _) ?_
              refine xSel [none, some 1] ?_
              refine xSub [(0, vs Adata s21.1 cdata), (1, vi a), (4, Value.func (.func 42) #[] #[Value.pointer (some a_cmpc)]), (11, vi t27), (12, vi s51), (65, vb false)] ?_
              exact hN54 _ (Option.some.inj hS).symm _ _ _ (Gh.le.refl _) ⟨by kernel_rfl, by kernel_rfl⟩
      · intro uu27 hS hN27
        refine xBl 2 ?_
        refine xSel [none, some 1] ?_
        refine xSub [(0, vs Adata s21.1 cdata), (1, vi a), (4, Value.func (.func 42) #[] #[Value.pointer (some a_cmpc)]), (11, vi s21.2.1), (12, vi s21.2.2)] ?_
        refine xLo hS (fun g own sl s70 => own = [none, k21_0] ∧ sl = [(0, vs Adata s21.1 cdata), (1, vi a), (4, Value.func (.func 42) #[] #[Value.pointer (some a_cmpc)]), (11, vi s70), (12, vi s21.2.2)]) ⟨by kernel_rfl, by kernel_rfl⟩ ?_
        rintro g71 _ _ s70 uu70 e72 ⟨rfl, rfl⟩ hS Qr70 hN70 hD70
        unfold o72f42_L2 at hS
        refine xSq ?_
        refine xSq ?_
        refine xDr 0 [8, 12] [] [k21_0] 17 (fun RG => ?_) (fun _ _ _ _ _ h => h)
        refine xT 13 [0, 1, 2, 3] [] [some 1] [(0, vs Adata s21.1 cdata), (1, vi a), (4, Value.func (.func 42) #[] #[Value.pointer (some a_cmpc)]), (11, vi s70), (12, vi s21.2.2), (34, vb (decide (s70 ≤ s21.2.2)))] RG (Psi.le.refl _) ?_
        refine xGJoA hS 0 [true, true, true, true, true, true, true, true, true, true, true, true, true, true, true, true, true] (fun g own sl t73 => own = [none, k21_0] ∧ sl = [(0, vs Adata s21.1 cdata), (1, vi a), (4, Value.func (.func 42) #[] #[Value.pointer (some a_cmpc)]), (11, vi s70), (12, vi s21.2.2), (47, vb t73)]) ?_ ?_
        · rintro g74 _ _ t73 e75 ⟨rfl, rfl⟩ hS
          refine xAe (lds := [8, 12]) ?_
          refine wpq_then ?_
          refine xCd (t73) (fun h76 => ?_) (fun h76 => ?_)
          · have hS := cond_T h76 hS
            refine xSk ?_
            refine wpq_then ?_
            refine xSub [(0, vs Adata s21.1 cdata), (1, vi a), (4, Value.func (.func 42) #[] #[Value.pointer (some a_cmpc)]), (11, vi s70), (12, vi s21.2.2)] ?_
            refine xBl 3 ?_
            refine xRg ?_
            have z314 := i64_in_ (s70 + 1)
            refine xB 3 [] [(0, vs Adata s21.1 cdata), (1, vi a), (4, Value.func (.func 42) #[] #[Value.pointer (some a_cmpc)]), (11, vi (IntKind.i64.wrap (s70 + 1))), (12, vi s21.2.2)] ?_
            refine xRe ?_
            refine wpq_blockN ?_
            refine wpq_thenN ?_
            refine xSel [none, some 1] ?_
            refine xSub [(0, vs Adata s21.1 cdata), (1, vi a), (4, Value.func (.func 42) #[] #[Value.pointer (some a_cmpc)]), (11, vi (IntKind.i64.wrap (s70 + 1))), (12, vi s21.2.2)] ?_
            have eS := (Option.some.inj hS).symm
            exact hN70 _ eS _ _ _ e75 ⟨by kernel_rfl, by kernel_rfl⟩
          · have hS := cond_F h76 hS
            refine xEx 2 ?_
            refine wpq_thenX ?_
            refine wpq_thenX ?_
            refine wpq_blockE ?_
            refine xSel [none, some 1] ?_
            refine xSub [(0, vs Adata s21.1 cdata), (1, vi a), (4, Value.func (.func 42) #[] #[Value.pointer (some a_cmpc)]), (11, vi s70), (12, vi s21.2.2)] ?_
            have eS := (Option.some.inj hS).symm
            have eS := (hD70 _ eS).symm
            exact hN27 _ eS _ _ _ (e72.trans e75) ⟨by kernel_rfl, by kernel_rfl⟩
        · intro uu73 hS hN73
          refine wpq_split 34 (b := decide (s70 ≤ s21.2.2)) (by kernel_rfl) (fun q77 => ?_) (fun q77 => ?_)
          · have hS := cond_T q77 hS
            have q77p := of_decide_eq_true q77
            have h21_0 := h21_0.mono e72.b
            obtain ⟨q79, hS⟩ := grd_T hS
            have q79p := of_decide_eq_true q79
            have i80 : (a).toNat < (s21.1).length := by omega
            obtain ⟨kc78, cs78, hA78, hk78, hr78, hw78⟩ := h21_0.open_ i80 0
            obtain ⟨kb78, rfl⟩ : ∃ z, z = kc78 := ⟨_, rfl⟩
            subst hk78
            have hr78 : cs78 = [vi (List.getD s21.1 (a).toNat 0)] := hr78
            subst hr78
            refine xT 10 [4, 5, 6] [] [some 1] [(0, vs Adata s21.1 cdata), (1, vi a), (4, Value.func (.func 42) #[] #[Value.pointer (some a_cmpc)]), (11, vi s70), (12, vi s21.2.2), (34, vb true), (35, Value.func (.func 42) #[] #[Value.pointer (some a_cmpc)]), (36, vs Adata s21.1 cdata), (37, vi a)] RG (Psi.le.refl _) ?_
            refine xTp 7 RG (fun _ => (qIxB (a).toNat 1 kb78.g hA78 (show (a : Int) = _ from by omega) i80)) ?_
            refine xTv 8 [some 1] RG (Psi.le.refl _) (qLdB (a).toNat 1 0 0 hw78) ?_
            obtain ⟨q82, hS⟩ := grd_T hS
            have q82p := of_decide_eq_true q82
            have i83 : (s70).toNat < (s21.1).length := by omega
            obtain ⟨kc81, cs81, hA81, hk81, hr81, hw81⟩ := h21_0.open_ i83 0
            cases hk81
            have hr81 : cs81 = [vi (List.getD s21.1 (s70).toNat 0)] := hr81
            subst hr81
            refine xT 6 [9, 10] [] [some 1] [(0, vs Adata s21.1 cdata), (1, vi a), (4, Value.func (.func 42) #[] #[Value.pointer (some a_cmpc)]), (11, vi s70), (12, vi s21.2.2), (34, vb true), (35, Value.func (.func 42) #[] #[Value.pointer (some a_cmpc)]), (39, vi (List.getD s21.1 (a).toNat 0)), (40, vs Adata s21.1 cdata), (41, vi s70)] RG (Psi.le.refl _) ?_
            refine xTp 11 RG (fun _ => (qIxB (s70).toNat 1 kb78.g hA81 (show (s70 : Int) = _ from by omega) i83)) ?_
            refine xTv 12 [some 1] RG (Psi.le.refl _) (qLdB (s70).toNat 1 0 0 hw81) ?_
            have hc_cmpcp := hc_cmpcp.mono (e23.trans e72).r
            have fcmpcp_defs := fcmpcp_defs.mono (e23.trans e72).r
            have fcmpcp_conds := fcmpcp_conds.mono (e23.trans e72).r (e23.trans e72).b
            have hc_cmpc := hc_cmpc.mono (e23.trans e72).r
            obtain ⟨y84, hy84, hS⟩ := bindO_T hS
            refine xO1 (lds := [8, 12]) 13 ?_
            refine xIe (lds := [8, 12]) (Psi.le.refl _) (eC 0 (fun g' lr eb ln => c42 g' ((List.getD s21.1 (a).toNat 0) : Int) ((List.getD s21.1 (s70).toNat 0) : Int) a_cmpc a_cmpcp cmpcp Acmpcp_defs ccmpcp_defs Acmpcp_conds ccmpcp_conds (hc_cmpcp.mono lr) (fcmpcp_defs.mono lr) (ArrM.lent fcmpcp_conds lr eb) (hc_cmpc.mono lr) hy84)) ?_
            rintro _ g85 _ e86 ⟨_, rfl, rfl, rfl⟩
            refine kk [some 1] ?_
            refine xT 0 [14, 15, 16] [] [some 1] [(0, vs Adata s21.1 cdata), (1, vi a), (4, Value.func (.func 42) #[] #[Value.pointer (some a_cmpc)]), (11, vi s70), (12, vi s21.2.2), (47, vb (!decide (y84 < 0)))] RG e86.r ?_
            refine xSel [none, some 1] ?_
            refine xSub [(0, vs Adata s21.1 cdata), (1, vi a), (4, Value.func (.func 42) #[] #[Value.pointer (some a_cmpc)]), (11, vi s70), (12, vi s21.2.2), (47, vb (!decide (y84 < 0)))] ?_
            exact hN73 _ (Option.some.inj hS).symm _ _ _ e86 ⟨by kernel_rfl, by kernel_rfl⟩
          · have hS := cond_F q77 hS
            have q77p := of_decide_eq_false q77
            refine xT 4 [4, 5, 6, 7, 8, 9, 10, 11, 12] [] [some 1] [(0, vs Adata s21.1 cdata), (1, vi a), (4, Value.func (.func 42) #[] #[Value.pointer (some a_cmpc)]), (11, vi s70), (12, vi s21.2.2), (34, vb false), (35, undef), (39, undef), (43, undef)] RG (Psi.le.refl _) ?_
            refine xO1 (lds := [8, 12]) 13 ?_
            refine xIb (lds := [8, 12]) [] ?_
            refine xT 0 [14, 15, 16] [] [some 1] [(0, vs Adata s21.1 cdata), (1, vi a), (4, Value.func (.func 42) #[] #[Value.pointer (some a_cmpc)]), (11, vi s70), (12, vi s21.2.2), (47, vb false)] RG (Psi.le.refl _) ?_
            refine xSel [none, some 1] ?_
            refine xSub [(0, vs Adata s21.1 cdata), (1, vi a), (4, Value.func (.func 42) #[] #[Value.pointer (some a_cmpc)]), (11, vi s70), (12, vi s21.2.2), (47, vb false)] ?_
            exact hN73 _ (Option.some.inj hS).symm _ _ _ (Gh.le.refl _) ⟨by kernel_rfl, by kernel_rfl⟩

def o73f42_L1 (a : Int) (cmpcp : Board) (s73 : (List Int) × Int × Int) (t79 : Int) (s103 : Int) : Option (Ctl (Int) (Int)) :=
  (bindO (τ := Bool) (cond (decide (t79 ≤ s103)) (grd (decide (0 ≤ s103 ∧ s103 < (((s73.1).length : Nat) : Int))) (grd (decide (0 ≤ a ∧ a < (((s73.1).length : Nat) : Int))) (bindO (τ := Int) (o42 ((List.getD s73.1 (s103).toNat 0) : Int) ((List.getD s73.1 (a).toNat 0) : Int) cmpcp) fun y117 => (some (!decide (y117 < 0)))))) (some (false))) fun t106 => (cond (t106) (some (Ctl.go (IntKind.i64.wrap (s103 - 1)))) (some (Ctl.done (s103)))))
def o73f42_L2 (a : Int) (cmpcp : Board) (s73 : (List Int) × Int × Int) (s122 : Int) : Option (Ctl (Int) (Int)) :=
  (bindO (τ := Bool) (cond (decide (s122 ≤ s73.2.2)) (grd (decide (0 ≤ s122 ∧ s122 < (((s73.1).length : Nat) : Int))) (grd (decide (0 ≤ a ∧ a < (((s73.1).length : Nat) : Int))) (bindO (τ := Int) (o42 ((List.getD s73.1 (s122).toNat 0) : Int) ((List.getD s73.1 (a).toNat 0) : Int) cmpcp) fun y136 => (some (decide (y136 < 0)))))) (some (false))) fun t125 => (cond (t125) (some (Ctl.go (IntKind.i64.wrap (s122 + 1)))) (some (Ctl.done (s122)))))
def o73f42_L0 (a : Int) (cmpcp : Board) (s73 : (List Int) × Int × Int) : Option (Ctl ((List Int) × Int × Int) ((List Int) × Int)) :=
  (joinO (τ := (List Int) × Int × Int) (ρ := Ctl ((List Int) × Int × Int) ((List Int) × Int)) (bindO (τ := Int) (loopO (σ := Int) (ρ := Int) fuelN (o73f42_L2 a cmpcp s73) (s73.2.1)) fun t79 => (bindO (τ := Int) (loopO (σ := Int) (ρ := Int) fuelN (o73f42_L1 a cmpcp s73 t79) (s73.2.2)) fun t82 => (cond (decide (t79 > t82)) (some (Ctl.done (Ctl.done (((s73.1 : List Int), t82))))) (grd (decide (0 ≤ t82 ∧ t82 < (((s73.1).length : Nat) : Int))) (grd (decide (0 ≤ t79 ∧ t79 < (((s73.1).length : Nat) : Int))) (grd (decide (0 ≤ t79 ∧ t79 < (((s73.1).length : Nat) : Int))) (grd (decide (0 ≤ t82 ∧ t82 < ((((List.set s73.1 (t79).toNat ((List.getD s73.1 (t82).toNat 0) : Int))).length : Nat) : Int))) (some (Ctl.go (((List.set (List.set s73.1 (t79).toNat ((List.getD s73.1 (t82).toNat 0) : Int)) (t82).toNat ((List.getD s73.1 (t79).toNat 0) : Int)) : List Int), (IntKind.i64.wrap (t79 + 1)), (IntKind.i64.wrap (t82 - 1)))))))))))) fun t76 => (some (Ctl.go ((t76.1 : List Int), t76.2.1, t76.2.2))))
def o73f42_L3 (data : List Int) (a : Int) (pivot : Int) (cmpcp : Board) (t16 : Int) (s141 : Int) : Option (Ctl (Int) (Int)) :=
  (bindO (τ := Bool) (cond (decide (t16 ≤ s141)) (grd (decide (0 ≤ s141 ∧ s141 < ((((List.set (List.set data (a).toNat ((List.getD data (pivot).toNat 0) : Int)) (pivot).toNat ((List.getD data (a).toNat 0) : Int))).length : Nat) : Int))) (grd (decide (0 ≤ a ∧ a < ((((List.set (List.set data (a).toNat ((List.getD data (pivot).toNat 0) : Int)) (pivot).toNat ((List.getD data (a).toNat 0) : Int))).length : Nat) : Int))) (bindO (τ := Int) (o42 ((List.getD (List.set (List.set data (a).toNat ((List.getD data (pivot).toNat 0) : Int)) (pivot).toNat ((List.getD data (a).toNat 0) : Int)) (s141).toNat 0) : Int) ((List.getD (List.set (List.set data (a).toNat ((List.getD data (pivot).toNat 0) : Int)) (pivot).toNat ((List.getD data (a).toNat 0) : Int)) (a).toNat 0) : Int) cmpcp) fun y155 => (some (!decide (y155 < 0)))))) (some (false))) fun t144 => (cond (t144) (some (Ctl.go (IntKind.i64.wrap (s141 - 1)))) (some (Ctl.done (s141)))))
def o73f42_L4 (data : List Int) (a : Int) (b : Int) (pivot : Int) (cmpcp : Board) (s160 : Int) : Option (Ctl (Int) (Int)) :=
  (bindO (τ := Bool) (cond (decide (s160 ≤ (IntKind.i64.wrap (b - 1)))) (grd (decide (0 ≤ s160 ∧ s160 < ((((List.set (List.set data (a).toNat ((List.getD data (pivot).toNat 0) : Int)) (pivot).toNat ((List.getD data (a).toNat 0) : Int))).length : Nat) : Int))) (grd (decide (0 ≤ a ∧ a < ((((List.set (List.set data (a).toNat ((List.getD data (pivot).toNat 0) : Int)) (pivot).toNat ((List.getD data (a).toNat 0) : Int))).length : Nat) : Int))) (bindO (τ := Int) (o42 ((List.getD (List.set (List.set data (a).toNat ((List.getD data (pivot).toNat 0) : Int)) (pivot).toNat ((List.getD data (a).toNat 0) : Int)) (s160).toNat 0) : Int) ((List.getD (List.set (List.set data (a).toNat ((List.getD data (pivot).toNat 0) : Int)) (pivot).toNat ((List.getD data (a).toNat 0) : Int)) (a).toNat 0) : Int) cmpcp) fun y174 => (some (decide (y174 < 0)))))) (some (false))) fun t163 => (cond (t163) (some (Ctl.go (IntKind.i64.wrap (s160 + 1)))) (some (Ctl.done (s160)))))
def o73f42 (data : List Int) (a : Int) (b : Int) (pivot : Int) (cmpcp : Board) : Option ((List Int) × Int × Bool) :=
  (grd (decide (0 ≤ pivot ∧ pivot < (((data).length : Nat) : Int))) (grd (decide (0 ≤ a ∧ a < (((data).length : Nat) : Int))) (grd (decide (0 ≤ a ∧ a < (((data).length : Nat) : Int))) (grd (decide (0 ≤ pivot ∧ pivot < ((((List.set data (a).toNat ((List.getD data (pivot).toNat 0) : Int))).length : Nat) : Int))) (bindO (τ := Int) (loopO (σ := Int) (ρ := Int) fuelN (o73f42_L4 data a b pivot cmpcp) (IntKind.i64.wrap (a + 1))) fun t16 => (bindO (τ := Int) (loopO (σ := Int) (ρ := Int) fuelN (o73f42_L3 data a pivot cmpcp t16) (IntKind.i64.wrap (b - 1))) fun t19 => (cond (decide (t16 > t19)) (grd (decide (0 ≤ a ∧ a < ((((List.set (List.set data (a).toNat ((List.getD data (pivot).toNat 0) : Int)) (pivot).toNat ((List.getD data (a).toNat 0) : Int))).length : Nat) : Int))) (grd (decide (0 ≤ t19 ∧ t19 < ((((List.set (List.set data (a).toNat ((List.getD data (pivot).toNat 0) : Int)) (pivot).toNat ((List.getD data (a).toNat 0) : Int))).length : Nat) : Int))) (grd (decide (0 ≤ t19 ∧ t19 < ((((List.set (List.set data (a).toNat ((List.getD data (pivot).toNat 0) : Int)) (pivot).toNat ((List.getD data (a).toNat 0) : Int))).length : Nat) : Int))) (grd (decide (0 ≤ a ∧ a < ((((List.set (List.set (List.set data (a).toNat ((List.getD data (pivot).toNat 0) : Int)) (pivot).toNat ((List.getD data (a).toNat 0) : Int)) (t19).toNat ((List.getD (List.set (List.set data (a).toNat ((List.getD data (pivot).toNat 0) : Int)) (pivot).toNat ((List.getD data (a).toNat 0) : Int)) (a).toNat 0) : Int))).length : Nat) : Int))) (some ((((List.set (List.set (List.set (List.set data (a).toNat ((List.getD data (pivot).toNat 0) : Int)) (pivot).toNat ((List.getD data (a).toNat 0) : Int)) (t19).toNat ((List.getD (List.set (List.set data (a).toNat ((List.getD data (pivot).toNat 0) : Int)) (pivot).toNat ((List.getD data (a).toNat 0) : Int)) (a).toNat 0) : Int)) (a).toNat ((List.getD (List.set (List.set data (a).toNat ((List.getD data (pivot).toNat 0) : Int)) (pivot).toNat ((List.getD data (a).toNat 0) : Int)) (t19).toNat 0) : Int)) : List Int), (t19 : Int), (true)))))))) (grd (decide (0 ≤ t19 ∧ t19 < ((((List.set (List.set data (a).toNat ((List.getD data (pivot).toNat 0) : Int)) (pivot).toNat ((List.getD data (a).toNat 0) : Int))).length : Nat) : Int))) (grd (decide (0 ≤ t16 ∧ t16 < ((((List.set (List.set data (a).toNat ((List.getD data (pivot).toNat 0) : Int)) (pivot).toNat ((List.getD data (a).toNat 0) : Int))).length : Nat) : Int))) (grd (decide (0 ≤ t16 ∧ t16 < ((((List.set (List.set data (a).toNat ((List.getD data (pivot).toNat 0) : Int)) (pivot).toNat ((List.getD data (a).toNat 0) : Int))).length : Nat) : Int))) (grd (decide (0 ≤ t19 ∧ t19 < ((((List.set (List.set (List.set data (a).toNat ((List.getD data (pivot).toNat 0) : Int)) (pivot).toNat ((List.getD data (a).toNat 0) : Int)) (t16).toNat ((List.getD (List.set (List.set data (a).toNat ((List.getD data (pivot).toNat 0) : Int)) (pivot).toNat ((List.getD data (a).toNat 0) : Int)) (t19).toNat 0) : Int))).length : Nat) : Int))) (bindO (τ := (List Int) × Int) (loopO (σ := (List Int) × Int × Int) (ρ := (List Int) × Int) fuelN (o73f42_L0 a cmpcp) (((List.set (List.set (List.set (List.set data (a).toNat ((List.getD data (pivot).toNat 0) : Int)) (pivot).toNat ((List.getD data (a).toNat 0) : Int)) (t16).toNat ((List.getD (List.set (List.set data (a).toNat ((List.getD data (pivot).toNat 0) : Int)) (pivot).toNat ((List.getD data (a).toNat 0) : Int)) (t19).toNat 0) : Int)) (t19).toNat ((List.getD (List.set (List.set data (a).toNat ((List.getD data (pivot).toNat 0) : Int)) (pivot).toNat ((List.getD data (a).toNat 0) : Int)) (t16).toNat 0) : Int)) : List Int), (IntKind.i64.wrap (t16 + 1)), (IntKind.i64.wrap (t19 - 1)))) fun t53 => (grd (decide (0 ≤ a ∧ a < (((t53.1).length : Nat) : Int))) (grd (decide (0 ≤ t53.2 ∧ t53.2 < (((t53.1).length : Nat) : Int))) (grd (decide (0 ≤ t53.2 ∧ t53.2 < (((t53.1).length : Nat) : Int))) (grd (decide (0 ≤ a ∧ a < ((((List.set t53.1 (t53.2).toNat ((List.getD t53.1 (a).toNat 0) : Int))).length : Nat) : Int))) (some ((((List.set (List.set t53.1 (t53.2).toNat ((List.getD t53.1 (a).toNat 0) : Int)) (a).toNat ((List.getD t53.1 (t53.2).toNat 0) : Int)) : List Int), (t53.2 : Int), (false))))))))))))))))))))
set_option maxRecDepth 100000 in
theorem c73f42 (g : Gh) (data : List Int) (Adata : Option Addr) (cdata : Nat) (kdata : Option Bk) (a : Int) (b : Int) (pivot : Int) (a_cmpc : Addr) (a_cmpcp : Addr) (cmpcp : Board) (Acmpcp_defs : Option Addr) (ccmpcp_defs : Nat) (Acmpcp_conds : Option Addr) (ccmpcp_conds : Nat) (hdata : Buf g.b (tyI .i64) 3 (.slice Adata (data).length cdata) kdata data) (hc_cmpcp : Cells g.r a_cmpcp (cBoard cmpcp Acmpcp_defs ccmpcp_defs Acmpcp_conds ccmpcp_conds)) (fcmpcp_defs : Arr g.r tyAlertDef Acmpcp_defs ccmpcp_defs cmpcp.defs) (fcmpcp_conds : ArrM g.r g.b tyCnd Acmpcp_conds ccmpcp_conds cmpcp.conds) (hc_cmpc : Cells g.r a_cmpc [Value.pointer (some a_cmpcp)]) {r : (List Int) × Int × Bool} (hS : o73f42 data a b pivot cmpcp = some r) :
    Ctr Try.prog 73 [vs Adata data cdata, vi a, vi b, vi pivot, Value.func (.func 42) #[] #[Value.pointer (some a_cmpc)]] g [kdata, none] (fun v ψ o => ∃ (ko_data : Option Bk), v = Value.tuple #[vi r.2.1, vb r.2.2] ∧ o = [ko_data] ∧ Buf ψ (tyI .i64) 3 (.slice Adata (data).length cdata) ko_data r.1) := by
  unfold o73f42 at hS
  refine xFn Try.f73 (Try.f73.body.getD .skip) 178 ?_
  have nhdata := hdata.len
  have nfcmpcp_defs := fcmpcp_defs.len
  have nfcmpcp_conds := fcmpcp_conds.len
  refine xSq ?_
  refine xRg ?_
  refine xB 2 [] [(0, vs Adata data cdata), (1, vi a), (2, vi b), (3, vi pivot), (4, Value.func (.func 42) #[] #[Value.pointer (some a_cmpc)])] ?_
  refine xRe ?_
  refine wpq_then ?_
  refine xSq ?_
  refine xDr 0 [7, 11] [13, 15, 12, 14] [kdata] 16 (fun RG => ?_) (fun _ _ _ _ _ h => h)
  obtain ⟨q2, hS⟩ := grd_T hS
  have q2p := of_decide_eq_true q2
  have i3 : (pivot).toNat < (data).length := by omega
  obtain ⟨kc1, cs1, hA1, hk1, hr1, hw1⟩ := hdata.open_ i3 0
  obtain ⟨kb1, rfl⟩ : ∃ z, z = kc1 := ⟨_, rfl⟩
  subst hk1
  have hr1 : cs1 = [vi (List.getD data (pivot).toNat 0)] := hr1
  subst hr1
  refine xT 10 [0, 1, 2, 3, 4, 5] [] [some 0] [(0, vs Adata data cdata), (1, vi a), (2, vi b), (4, Value.func (.func 42) #[] #[Value.pointer (some a_cmpc)]), (14, vs Adata data cdata), (15, vi a), (16, vs Adata data cdata), (17, vi pivot), (18, vs Adata data cdata), (19, vi pivot)] RG (Psi.le.refl _) ?_
  refine xTp 6 RG (fun _ => (qIxB (pivot).toNat 1 kb1.g hA1 (show (pivot : Int) = _ from by omega) i3)) ?_
  refine xTv 7 [some 0] RG (Psi.le.refl _) (qLdB (pivot).toNat 1 0 0 hw1) ?_
  obtain ⟨q5, hS⟩ := grd_T hS
  have q5p := of_decide_eq_true q5
  have i6 : (a).toNat < (data).length := by omega
  obtain ⟨kc4, cs4, hA4, hk4, hr4, hw4⟩ := hdata.open_ i6 0
  cases hk4
  have hr4 : cs4 = [vi (List.getD data (a).toNat 0)] := hr4
  subst hr4
  refine xT 6 [8, 9] [] [some 0] [(0, vs Adata data cdata), (1, vi a), (2, vi b), (4, Value.func (.func 42) #[] #[Value.pointer (some a_cmpc)]), (14, vs Adata data cdata), (15, vi a), (16, vs Adata data cdata), (17, vi pivot), (21, vi (List.getD data (pivot).toNat 0)), (22, vs Adata data cdata), (23, vi a)] RG (Psi.le.refl _) ?_
  refine xTp 10 RG (fun _ => (qIxB (a).toNat 1 kb1.g hA4 (show (a : Int) = _ from by omega) i6)) ?_
  refine xTv 11 [some 0] RG (Psi.le.refl _) (qLdB (a).toNat 1 0 0 hw4) ?_
  obtain ⟨q8, hS⟩ := grd_T hS
  have q8p := of_decide_eq_true q8
  have i9 : (a).toNat < (data).length := by omega
  obtain ⟨kc7, cs7, hA7, hk7, hr7, hw7⟩ := hdata.open_ i9 0
  cases hk7
  have hr7 : cs7 = [vi (List.getD data (a).toNat 0)] := hr7
  subst hr7
  refine xTp 12 RG (fun _ => (qIxB (a).toNat 1 kb1.g hA7 (show (a : Int) = _ from by omega) i9)) ?_
  refine xO1 (lds := [7, 11]) 13 ?_
  refine xId (lds := [7, 11]) (Psi.le.refl _) (eStB (a).toNat 1 0 0 [vi (List.getD data (pivot).toNat 0)] hdata rfl hw7 (show (tyI .i64).rep _ _ _ from rfl) i9) ?_
  rintro _ _ _ - ⟨k10, rfl, rfl, h10⟩
  refine kf ?_
  have hz10 : (data).length = ((List.set data (a).toNat ((List.getD data (pivot).toNat 0) : Int))).length := by simp
  obtain ⟨q12, hS⟩ := grd_T hS
  have q12p := of_decide_eq_true q12
  have i13 : (pivot).toNat < ((List.set data (a).toNat ((List.getD data (pivot).toNat 0) : Int))).length := by omega
  have i14 : (pivot).toNat < (data).length := by have := hz10; omega
  obtain ⟨kc11, cs11, hA11, hk11, hr11, hw11⟩ := h10.open_ i13 0
  obtain ⟨kb11, rfl⟩ : ∃ z, z = kc11 := ⟨_, rfl⟩
  subst hk11
  have hr11 : cs11 = [vi (List.getD (List.set data (a).toNat ((List.getD data (pivot).toNat 0) : Int)) (pivot).toNat 0)] := hr11
  subst hr11
  refine xTp 14 RG (fun _ => (qIxB (pivot).toNat 1 kb11.g hA11 (show (pivot : Int) = _ from by omega) i14)) ?_
  refine xO1 (lds := [7, 11]) 15 ?_
  refine xId (lds := [7, 11]) (Psi.le.refl _) (eStB (pivot).toNat 1 0 0 [vi (List.getD data (a).toNat 0)] h10 rfl hw11 (show (tyI .i64).rep _ _ _ from rfl) i13) ?_
  rintro _ _ _ - ⟨k15, rfl, rfl, h15⟩
  refine kf ?_
  have hz15 : (data).length = ((List.set (List.set data (a).toNat ((List.getD data (pivot).toNat 0) : Int)) (pivot).toNat ((List.getD data (a).toNat 0) : Int))).length := hz10.trans (by simp)
  refine xAe (lds := [7, 11]) ?_
  refine wpq_then ?_
  refine xSub [(0, Value.slice Adata ((data).length) cdata), (1, vi a), (2, vi b), (4, Value.func (.func 42) #[] #[Value.pointer (some a_cmpc)])] ?_
  refine xSq ?_
  refine xRg ?_
  have z1 := i64_in_ (a + 1)
  have z2 := i64_in_ (b - 1)
  refine xB 6 [] [(0, Value.slice Adata ((data).length) cdata), (1, vi a), (4, Value.func (.func 42) #[] #[Value.pointer (some a_cmpc)]), (12, vi (IntKind.i64.wrap (a + 1))), (13, vi (IntKind.i64.wrap (b - 1)))] ?_
  refine xRe ?_
  refine wpq_then ?_
  refine xSq ?_
  refine xBindO hS (fun g own sl t16 => own = [none, k15] ∧ sl = [(0, vs Adata (List.set (List.set data (a).toNat ((List.getD data (pivot).toNat 0) : Int)) (pivot).toNat ((List.getD data (a).toNat 0) : Int)) cdata), (1, vi a), (4, Value.func (.func 42) #[] #[Value.pointer (some a_cmpc)]), (12, vi t16), (13, vi (IntKind.i64.wrap (b - 1)))]) ?_ ?_
  · rintro g17 _ _ t16 e18 ⟨rfl, rfl⟩ hS
    refine wpq_then ?_
    refine xSq ?_
    refine xBindO hS (fun g own sl t19 => own = [none, k15] ∧ sl = [(0, vs Adata (List.set (List.set data (a).toNat ((List.getD data (pivot).toNat 0) : Int)) (pivot).toNat ((List.getD data (a).toNat 0) : Int)) cdata), (1, vi a), (4, Value.func (.func 42) #[] #[Value.pointer (some a_cmpc)]), (12, vi t16), (13, vi t19)]) ?_ ?_
    · rintro g20 _ _ t19 e21 ⟨rfl, rfl⟩ hS
      refine wpq_then ?_
      refine xSq ?_
      refine xSq ?_
      refine xRg ?_
      refine xB 3 [] [(0, vs Adata (List.set (List.set data (a).toNat ((List.getD data (pivot).toNat 0) : Int)) (pivot).toNat ((List.getD data (a).toNat 0) : Int)) cdata), (1, vi a), (4, Value.func (.func 42) #[] #[Value.pointer (some a_cmpc)]), (12, vi t16), (13, vi t19), (71, vb (decide (t16 > t19)))] ?_
      refine xRe ?_
      refine wpq_then ?_
      refine xCd (decide (t16 > t19)) (fun h22 => ?_) (fun h22 => ?_)
      · have hS := cond_T h22 hS
        have h22p := of_decide_eq_true h22
        refine xSq ?_
        refine xDr 0 [7, 11] [13, 15, 12, 14] [k15] 16 (fun RG => ?_) (fun _ _ _ _ _ h => h)
        have h15 := h15.mono (e18.trans e21).b
        obtain ⟨q24, hS⟩ := grd_T hS
        have q24p := of_decide_eq_true q24
        have i25 : (a).toNat < ((List.set (List.set data (a).toNat ((List.getD data (pivot).toNat 0) : Int)) (pivot).toNat ((List.getD data (a).toNat 0) : Int))).length := by omega
        obtain ⟨kc23, cs23, hA23, hk23, hr23, hw23⟩ := h15.open_ i25 0
        obtain ⟨kb23, rfl⟩ : ∃ z, z = kc23 := ⟨_, rfl⟩
        subst hk23
        have hr23 : cs23 = [vi (List.getD (List.set (List.set data (a).toNat ((List.getD data (pivot).toNat 0) : Int)) (pivot).toNat ((List.getD data (a).toNat 0) : Int)) (a).toNat 0)] := hr23
        subst hr23
        refine xT 10 [0, 1, 2, 3, 4, 5] [] [some 1] [(0, vs Adata (List.set (List.set data (a).toNat ((List.getD data (pivot).toNat 0) : Int)) (pivot).toNat ((List.getD data (a).toNat 0) : Int)) cdata), (13, vi t19), (72, vs Adata (List.set (List.set data (a).toNat ((List.getD data (pivot).toNat 0) : Int)) (pivot).toNat ((List.getD data (a).toNat 0) : Int)) cdata), (73, vi t19), (74, vs Adata (List.set (List.set data (a).toNat ((List.getD data (pivot).toNat 0) : Int)) (pivot).toNat ((List.getD data (a).toNat 0) : Int)) cdata), (75, vi a), (76, vs Adata (List.set (List.set data (a).toNat ((List.getD data (pivot).toNat 0) : Int)) (pivot).toNat ((List.getD data (a).toNat 0) : Int)) cdata), (77, vi a)] RG (Psi.le.refl _) ?_
        refine xTp 6 RG (fun _ => (qIxB (a).toNat 1 kb23.g hA23 (show (a : Int) = _ from by omega) i25)) ?_
        refine xTv 7 [some 1] RG (Psi.le.refl _) (qLdB (a).toNat 1 0 0 hw23) ?_
        obtain ⟨q27, hS⟩ := grd_T hS
        have q27p := of_decide_eq_true q27
        have i28 : (t19).toNat < ((List.set (List.set data (a).toNat ((List.getD data (pivot).toNat 0) : Int)) (pivot).toNat ((List.getD data (a).toNat 0) : Int))).length := by omega
        obtain ⟨kc26, cs26, hA26, hk26, hr26, hw26⟩ := h15.open_ i28 0
        cases hk26
        have hr26 : cs26 = [vi (List.getD (List.set (List.set data (a).toNat ((List.getD data (pivot).toNat 0) : Int)) (pivot).toNat ((List.getD data (a).toNat 0) : Int)) (t19).toNat 0)] := hr26
        subst hr26
        refine xT 6 [8, 9] [] [some 1] [(13, vi t19), (72, vs Adata (List.set (List.set data (a).toNat ((List.getD data (pivot).toNat 0) : Int)) (pivot).toNat ((List.getD data (a).toNat 0) : Int)) cdata), (73, vi t19), (74, vs Adata (List.set (List.set data (a).toNat ((List.getD data (pivot).toNat 0) : Int)) (pivot).toNat ((List.getD data (a).toNat 0) : Int)) cdata), (75, vi a), (79, vi (List.getD (List.set (List.set data (a).toNat ((List.getD data (pivot).toNat 0) : Int)) (pivot).toNat ((List.getD data (a).toNat 0) : Int)) (a).toNat 0)), (80, vs Adata (List.set (List.set data (a).toNat ((List.getD data (pivot).toNat 0) : Int)) (pivot).toNat ((List.getD data (a).toNat 0) : Int)) cdata), (81, vi t19)] RG (Psi.le.refl _) ?_
        refine xTp 10 RG (fun _ => (qIxB (t19).toNat 1 kb23.g hA26 (show (t19 : Int) = _ from by omega) i28)) ?_
        refine xTv 11 [some 1] RG (Psi.le.refl _) (qLdB (t19).toNat 1 0 0 hw26) ?_
        obtain ⟨q30, hS⟩ := grd_T hS
        have q30p := of_decide_eq_true q30
        have i31 : (t19).toNat < ((List.set (List.set data (a).toNat ((List.getD data (pivot).toNat 0) : Int)) (pivot).toNat ((List.getD data (a).toNat 0) : Int))).length := by omega
        obtain ⟨kc29, cs29, hA29, hk29, hr29, hw29⟩ := h15.open_ i31 0
        cases hk29
        have hr29 : cs29 = [vi (List.getD (List.set (List.set data (a).toNat ((List.getD data (pivot).toNat 0) : Int)) (pivot).toNat ((List.getD data (a).toNat 0) : Int)) (t19).toNat 0)] := hr29
        subst hr29
        refine xTp 12 RG (fun _ => (qIxB (t19).toNat 1 kb23.g hA29 (show (t19 : Int) = _ from by omega) i31)) ?_
        refine xO1 (lds := [7, 11]) 13 ?_
        refine xId (lds := [7, 11]) (Psi.le.refl _) (eStB (t19).toNat 1 0 1 [vi (List.getD (List.set (List.set data (a).toNat ((List.getD data (pivot).toNat 0) : Int)) (pivot).toNat ((List.getD data (a).toNat 0) : Int)) (a).toNat 0)] h15 rfl hw29 (show (tyI .i64).rep _ _ _ from rfl) i31) ?_
        rintro _ _ _ - ⟨k32, rfl, rfl, h32⟩
        refine kf ?_
        have hz32 : (data).length = ((List.set (List.set (List.set data (a).toNat ((List.getD data (pivot).toNat 0) : Int)) (pivot).toNat ((List.getD data (a).toNat 0) : Int)) (t19).toNat ((List.getD (List.set (List.set data (a).toNat ((List.getD data (pivot).toNat 0) : Int)) (pivot).toNat ((List.getD data (a).toNat 0) : Int)) (a).toNat 0) : Int))).length := hz15.trans (by simp)
        have hz32_1 : ((List.set (List.set data (a).toNat ((List.getD data (pivot).toNat 0) : Int)) (pivot).toNat ((List.getD data (a).toNat 0) : Int))).length = ((List.set (List.set (List.set data (a).toNat ((List.getD data (pivot).toNat 0) : Int)) (pivot).toNat ((List.getD data (a).toNat 0) : Int)) (t19).toNat ((List.getD (List.set (List.set data (a).toNat ((List.getD data (pivot).toNat 0) : Int)) (pivot).toNat ((List.getD data (a).toNat 0) : Int)) (a).toNat 0) : Int))).length := hz15.symm.trans hz32
        obtain ⟨q34, hS⟩ := grd_T hS
        have q34p := of_decide_eq_true q34
        have i35 : (a).toNat < ((List.set (List.set (List.set data (a).toNat ((List.getD data (pivot).toNat 0) : Int)) (pivot).toNat ((List.getD data (a).toNat 0) : Int)) (t19).toNat ((List.getD (List.set (List.set data (a).toNat ((List.getD data (pivot).toNat 0) : Int)) (pivot).toNat ((List.getD data (a).toNat 0) : Int)) (a).toNat 0) : Int))).length := by omega
        have i36 : (a).toNat < ((List.set (List.set data (a).toNat ((List.getD data (pivot).toNat 0) : Int)) (pivot).toNat ((List.getD data (a).toNat 0) : Int))).length := by have := hz32_1; omega
        obtain ⟨kc33, cs33, hA33, hk33, hr33, hw33⟩ := h32.open_ i35 0
        obtain ⟨kb33, rfl⟩ : ∃ z, z = kc33 := ⟨_, rfl⟩
        subst hk33
        have hr33 : cs33 = [vi (List.getD (List.set (List.set (List.set data (a).toNat ((List.getD data (pivot).toNat 0) : Int)) (pivot).toNat ((List.getD data (a).toNat 0) : Int)) (t19).toNat ((List.getD (List.set (List.set data (a).toNat ((List.getD data (pivot).toNat 0) : Int)) (pivot).toNat ((List.getD data (a).toNat 0) : Int)) (a).toNat 0) : Int)) (a).toNat 0)] := hr33
        subst hr33
        refine xTp 14 RG (fun _ => (qIxB (a).toNat 1 kb33.g hA33 (show (a : Int) = _ from by omega) i36)) ?_
        refine xO1 (lds := [7, 11]) 15 ?_
        refine xId (lds := [7, 11]) (Psi.le.refl _) (eStB (a).toNat 1 0 1 [vi (List.getD (List.set (List.set data (a).toNat ((List.getD data (pivot).toNat 0) : Int)) (pivot).toNat ((List.getD data (a).toNat 0) : Int)) (t19).toNat 0)] h32 rfl hw33 (show (tyI .i64).rep _ _ _ from rfl) i35) ?_
        rintro _ _ _ - ⟨k37, rfl, rfl, h37⟩
        refine kf ?_
        have hz37 : (data).length = ((List.set (List.set (List.set (List.set data (a).toNat ((List.getD data (pivot).toNat 0) : Int)) (pivot).toNat ((List.getD data (a).toNat 0) : Int)) (t19).toNat ((List.getD (List.set (List.set data (a).toNat ((List.getD data (pivot).toNat 0) : Int)) (pivot).toNat ((List.getD data (a).toNat 0) : Int)) (a).toNat 0) : Int)) (a).toNat ((List.getD (List.set (List.set data (a).toNat ((List.getD data (pivot).toNat 0) : Int)) (pivot).toNat ((List.getD data (a).toNat 0) : Int)) (t19).toNat 0) : Int))).length := hz32.trans (by simp)
        have hz37_1 : ((List.set (List.set data (a).toNat ((List.getD data (pivot).toNat 0) : Int)) (pivot).toNat ((List.getD data (a).toNat 0) : Int))).length = ((List.set (List.set (List.set (List.set data (a).toNat ((List.getD data (pivot).toNat 0) : Int)) (pivot).toNat ((List.getD data (a).toNat 0) : Int)) (t19).toNat ((List.getD (List.set (List.set data (a).toNat ((List.getD data (pivot).toNat 0) : Int)) (pivot).toNat ((List.getD data (a).toNat 0) : Int)) (a).toNat 0) : Int)) (a).toNat ((List.getD (List.set (List.set data (a).toNat ((List.getD data (pivot).toNat 0) : Int)) (pivot).toNat ((List.getD data (a).toNat 0) : Int)) (t19).toNat 0) : Int))).length := hz32_1.trans (hz32.symm.trans hz37)
        refine xAe (lds := [7, 11]) ?_
        refine wpq_then ?_
        refine xSub [(13, vi t19)] ?_
        refine xSq ?_
        refine xRg ?_
        refine xB 3 [] [(10, vi t19), (11, vb true)] ?_
        refine xRe ?_
        refine wpq_then ?_
        have eS := (Option.some.inj hS).symm
        subst eS
        exact xRet [some 1] [10, 11] (e18.trans e21) ⟨k37, by kernel_rfl, by kernel_rfl, h37⟩ (fun _ _ h => h)
      · have hS := cond_F h22 hS
        have h22p := of_decide_eq_false h22
        refine xSk ?_
        refine wpq_then ?_
        refine xSub [(0, vs Adata (List.set (List.set data (a).toNat ((List.getD data (pivot).toNat 0) : Int)) (pivot).toNat ((List.getD data (a).toNat 0) : Int)) cdata), (1, vi a), (4, Value.func (.func 42) #[] #[Value.pointer (some a_cmpc)]), (12, vi t16), (13, vi t19)] ?_
        refine xSq ?_
        refine xDr 0 [7, 11] [13, 15, 12, 14] [k15] 16 (fun RG => ?_) (fun _ _ _ _ _ h => h)
        have h15 := h15.mono (e18.trans e21).b
        obtain ⟨q39, hS⟩ := grd_T hS
        have q39p := of_decide_eq_true q39
        have i40 : (t19).toNat < ((List.set (List.set data (a).toNat ((List.getD data (pivot).toNat 0) : Int)) (pivot).toNat ((List.getD data (a).toNat 0) : Int))).length := by omega
        obtain ⟨kc38, cs38, hA38, hk38, hr38, hw38⟩ := h15.open_ i40 0
        obtain ⟨kb38, rfl⟩ : ∃ z, z = kc38 := ⟨_, rfl⟩
        subst hk38
        have hr38 : cs38 = [vi (List.getD (List.set (List.set data (a).toNat ((List.getD data (pivot).toNat 0) : Int)) (pivot).toNat ((List.getD data (a).toNat 0) : Int)) (t19).toNat 0)] := hr38
        subst hr38
        refine xT 10 [0, 1, 2, 3, 4, 5] [] [some 1] [(0, vs Adata (List.set (List.set data (a).toNat ((List.getD data (pivot).toNat 0) : Int)) (pivot).toNat ((List.getD data (a).toNat 0) : Int)) cdata), (1, vi a), (4, Value.func (.func 42) #[] #[Value.pointer (some a_cmpc)]), (12, vi t16), (13, vi t19), (87, vs Adata (List.set (List.set data (a).toNat ((List.getD data (pivot).toNat 0) : Int)) (pivot).toNat ((List.getD data (a).toNat 0) : Int)) cdata), (88, vi t16), (89, vs Adata (List.set (List.set data (a).toNat ((List.getD data (pivot).toNat 0) : Int)) (pivot).toNat ((List.getD data (a).toNat 0) : Int)) cdata), (90, vi t19), (91, vs Adata (List.set (List.set data (a).toNat ((List.getD data (pivot).toNat 0) : Int)) (pivot).toNat ((List.getD data (a).toNat 0) : Int)) cdata), (92, vi t19)] RG (Psi.le.refl _) ?_
        refine xTp 6 RG (fun _ => (qIxB (t19).toNat 1 kb38.g hA38 (show (t19 : Int) = _ from by omega) i40)) ?_
        refine xTv 7 [some 1] RG (Psi.le.refl _) (qLdB (t19).toNat 1 0 0 hw38) ?_
        obtain ⟨q42, hS⟩ := grd_T hS
        have q42p := of_decide_eq_true q42
        have i43 : (t16).toNat < ((List.set (List.set data (a).toNat ((List.getD data (pivot).toNat 0) : Int)) (pivot).toNat ((List.getD data (a).toNat 0) : Int))).length := by omega
        obtain ⟨kc41, cs41, hA41, hk41, hr41, hw41⟩ := h15.open_ i43 0
        cases hk41
        have hr41 : cs41 = [vi (List.getD (List.set (List.set data (a).toNat ((List.getD data (pivot).toNat 0) : Int)) (pivot).toNat ((List.getD data (a).toNat 0) : Int)) (t16).toNat 0)] := hr41
        subst hr41
        refine xT 6 [8, 9] [] [some 1] [(0, vs Adata (List.set (List.set data (a).toNat ((List.getD data (pivot).toNat 0) : Int)) (pivot).toNat ((List.getD data (a).toNat 0) : Int)) cdata), (1, vi a), (4, Value.func (.func 42) #[] #[Value.pointer (some a_cmpc)]), (12, vi t16), (13, vi t19), (87, vs Adata (List.set (List.set data (a).toNat ((List.getD data (pivot).toNat 0) : Int)) (pivot).toNat ((List.getD data (a).toNat 0) : Int)) cdata), (88, vi t16), (89, vs Adata (List.set (List.set data (a).toNat ((List.getD data (pivot).toNat 0) : Int)) (pivot).toNat ((List.getD data (a).toNat 0) : Int)) cdata), (90, vi t19), (94, vi (List.getD (List.set (List.set data (a).toNat ((List.getD data (pivot).toNat 0) : Int)) (pivot).toNat ((List.getD data (a).toNat 0) : Int)) (t19).toNat 0)), (95, vs Adata (List.set (List.set data (a).toNat ((List.getD data (pivot).toNat 0) : Int)) (pivot).toNat ((List.getD data (a).toNat 0) : Int)) cdata), (96, vi t16)] RG (Psi.le.refl _) ?_
        refine xTp 10 RG (fun _ => (qIxB (t16).toNat 1 kb38.g hA41 (show (t16 : Int) = _ from by omega) i43)) ?_
        refine xTv 11 [some 1] RG (Psi.le.refl _) (qLdB (t16).toNat 1 0 0 hw41) ?_
        obtain ⟨q45, hS⟩ := grd_T hS
        have q45p := of_decide_eq_true q45
        have i46 : (t16).toNat < ((List.set (List.set data (a).toNat ((List.getD data (pivot).toNat 0) : Int)) (pivot).toNat ((List.getD data (a).toNat 0) : Int))).length := by omega
        obtain ⟨kc44, cs44, hA44, hk44, hr44, hw44⟩ := h15.open_ i46 0
        cases hk44
        have hr44 : cs44 = [vi (List.getD (List.set (List.set data (a).toNat ((List.getD data (pivot).toNat 0) : Int)) (pivot).toNat ((List.getD data (a).toNat 0) : Int)) (t16).toNat 0)] := hr44
        subst hr44
        refine xTp 12 RG (fun _ => (qIxB (t16).toNat 1 kb38.g hA44 (show (t16 : Int) = _ from by omega) i46)) ?_
        refine xO1 (lds := [7, 11]) 13 ?_
        refine xId (lds := [7, 11]) (Psi.le.refl _) (eStB (t16).toNat 1 0 1 [vi (List.getD (List.set (List.set data (a).toNat ((List.getD data (pivot).toNat 0) : Int)) (pivot).toNat ((List.getD data (a).toNat 0) : Int)) (t19).toNat 0)] h15 rfl hw44 (show (tyI .i64).rep _ _ _ from rfl) i46) ?_
        rintro _ _ _ - ⟨k47, rfl, rfl, h47⟩
        refine kf ?_
        have hz47 : (data).length = ((List.set (List.set (List.set data (a).toNat ((List.getD data (pivot).toNat 0) : Int)) (pivot).toNat ((List.getD data (a).toNat 0) : Int)) (t16).toNat ((List.getD (List.set (List.set data (a).toNat ((List.getD data (pivot).toNat 0) : Int)) (pivot).toNat ((List.getD data (a).toNat 0) : Int)) (t19).toNat 0) : Int))).length := hz15.trans (by simp)
        have hz47_1 : ((List.set (List.set data (a).toNat ((List.getD data (pivot).toNat 0) : Int)) (pivot).toNat ((List.getD data (a).toNat 0) : Int))).length = ((List.set (List.set (List.set data (a).toNat ((List.getD data (pivot).toNat 0) : Int)) (pivot).toNat ((List.getD data (a).toNat 0) : Int)) (t16).toNat ((List.getD (List.set (List.set data (a).toNat ((List.getD data (pivot).toNat 0) : Int)) (pivot).toNat ((List.getD data (a).toNat 0) : Int)) (t19).toNat 0) : Int))).length := hz15.symm.trans hz47
        obtain ⟨q49, hS⟩ := grd_T hS
        have q49p := of_decide_eq_true q49
        have i50 : (t19).toNat < ((List.set (List.set (List.set data (a).toNat ((List.getD data (pivot).toNat 0) : Int)) (pivot).toNat ((List.getD data (a).toNat 0) : Int)) (t16).toNat ((List.getD (List.set (List.set data (a).toNat ((List.getD data (pivot).toNat 0) : Int)) (pivot).toNat ((List.getD data (a).toNat 0) : Int)) (t19).toNat 0) : Int))).length := by omega
        have i51 : (t19).toNat < ((List.set (List.set data (a).toNat ((List.getD data (pivot).toNat 0) : Int)) (pivot).toNat ((List.getD data (a).toNat 0) : Int))).length := by have := hz47_1; omega
        obtain ⟨kc48, cs48, hA48, hk48, hr48, hw48⟩ := h47.open_ i50 0
        obtain ⟨kb48, rfl⟩ : ∃ z, z = kc48 := ⟨_, rfl⟩
        subst hk48
        have hr48 : cs48 = [vi (List.getD (List.set (List.set (List.set data (a).toNat ((List.getD data (pivot).toNat 0) : Int)) (pivot).toNat ((List.getD data (a).toNat 0) : Int)) (t16).toNat ((List.getD (List.set (List.set data (a).toNat ((List.getD data (pivot).toNat 0) : Int)) (pivot).toNat ((List.getD data (a).toNat 0) : Int)) (t19).toNat 0) : Int)) (t19).toNat 0)] := hr48
        subst hr48
        refine xTp 14 RG (fun _ => (qIxB (t19).toNat 1 kb48.g hA48 (show (t19 : Int) = _ from by omega) i51)) ?_
        refine xO1 (lds := [7, 11]) 15 ?_
        refine xId (lds := [7, 11]) (Psi.le.refl _) (eStB (t19).toNat 1 0 1 [vi (List.getD (List.set (List.set data (a).toNat ((List.getD data (pivot).toNat 0) : Int)) (pivot).toNat ((List.getD data (a).toNat 0) : Int)) (t16).toNat 0)] h47 rfl hw48 (show (tyI .i64).rep _ _ _ from rfl) i50) ?_
        rintro _ _ _ - ⟨k52, rfl, rfl, h52⟩
        refine kf ?_
        have hz52 : (data).length = ((List.set (List.set (List.set (List.set data (a).toNat ((List.getD data (pivot).toNat 0) : Int)) (pivot).toNat ((List.getD data (a).toNat 0) : Int)) (t16).toNat ((List.getD (List.set (List.set data (a).toNat ((List.getD data (pivot).toNat 0) : Int)) (pivot).toNat ((List.getD data (a).toNat 0) : Int)) (t19).toNat 0) : Int)) (t19).toNat ((List.getD (List.set (List.set data (a).toNat ((List.getD data (pivot).toNat 0) : Int)) (pivot).toNat ((List.getD data (a).toNat 0) : Int)) (t16).toNat 0) : Int))).length := hz47.trans (by simp)
        have hz52_1 : ((List.set (List.set data (a).toNat ((List.getD data (pivot).toNat 0) : Int)) (pivot).toNat ((List.getD data (a).toNat 0) : Int))).length = ((List.set (List.set (List.set (List.set data (a).toNat ((List.getD data (pivot).toNat 0) : Int)) (pivot).toNat ((List.getD data (a).toNat 0) : Int)) (t16).toNat ((List.getD (List.set (List.set data (a).toNat ((List.getD data (pivot).toNat 0) : Int)) (pivot).toNat ((List.getD data (a).toNat 0) : Int)) (t19).toNat 0) : Int)) (t19).toNat ((List.getD (List.set (List.set data (a).toNat ((List.getD data (pivot).toNat 0) : Int)) (pivot).toNat ((List.getD data (a).toNat 0) : Int)) (t16).toNat 0) : Int))).length := hz47_1.trans (hz47.symm.trans hz52)
        refine xAe (lds := [7, 11]) ?_
        refine wpq_then ?_
        refine xSub [(0, Value.slice Adata (((List.set (List.set data (a).toNat ((List.getD data (pivot).toNat 0) : Int)) (pivot).toNat ((List.getD data (a).toNat 0) : Int))).length) cdata), (1, vi a), (4, Value.func (.func 42) #[] #[Value.pointer (some a_cmpc)]), (12, vi t16), (13, vi t19)] ?_
        refine xSq ?_
        refine xRg ?_
        have z15 := i64_in_ (t16 + 1)
        refine xB 3 [] [(0, Value.slice Adata (((List.set (List.set data (a).toNat ((List.getD data (pivot).toNat 0) : Int)) (pivot).toNat ((List.getD data (a).toNat 0) : Int))).length) cdata), (1, vi a), (4, Value.func (.func 42) #[] #[Value.pointer (some a_cmpc)]), (12, vi (IntKind.i64.wrap (t16 + 1))), (13, vi t19)] ?_
        refine xRe ?_
        refine wpq_then ?_
        refine xSq ?_
        refine xRg ?_
        have z16 := i64_in_ (t19 - 1)
        refine xB 3 [] [(0, Value.slice Adata (((List.set (List.set data (a).toNat ((List.getD data (pivot).toNat 0) : Int)) (pivot).toNat ((List.getD data (a).toNat 0) : Int))).length) cdata), (1, vi a), (4, Value.func (.func 42) #[] #[Value.pointer (some a_cmpc)]), (12, vi (IntKind.i64.wrap (t16 + 1))), (13, vi (IntKind.i64.wrap (t19 - 1)))] ?_
        refine xRe ?_
        refine wpq_then ?_
        refine xSq ?_
        refine xBindO hS (fun g own sl t53 => ∃ (k53_0 : Option Bk), own = [none, k53_0] ∧ sl = [(0, vs Adata t53.1 cdata), (1, vi a), (13, vi t53.2)] ∧ Buf g.b (tyI .i64) 3 (.slice Adata (t53.1).length cdata) k53_0 t53.1 ∧ (data).length = (t53.1).length) ?_ ?_
        · rintro g54 _ _ t53 e55 ⟨k53_0, rfl, rfl, h53_0, hz53_v0⟩ hS
          have nh53_0 := h53_0.len
          refine wpq_then ?_
          refine xSq ?_
          refine xDr 0 [7, 11] [13, 15, 12, 14] [k53_0] 16 (fun RG => ?_) (fun _ _ _ _ _ h => h)
          obtain ⟨q57, hS⟩ := grd_T hS
          have q57p := of_decide_eq_true q57
          have i58 : (a).toNat < (t53.1).length := by omega
          obtain ⟨kc56, cs56, hA56, hk56, hr56, hw56⟩ := h53_0.open_ i58 0
          obtain ⟨kb56, rfl⟩ : ∃ z, z = kc56 := ⟨_, rfl⟩
          subst hk56
          have hr56 : cs56 = [vi (List.getD t53.1 (a).toNat 0)] := hr56
          subst hr56
          refine xT 10 [0, 1, 2, 3, 4, 5] [] [some 1] [(0, vs Adata t53.1 cdata), (13, vi t53.2), (163, vs Adata t53.1 cdata), (164, vi t53.2), (165, vs Adata t53.1 cdata), (166, vi a), (167, vs Adata t53.1 cdata), (168, vi a)] RG (Psi.le.refl _) ?_
          refine xTp 6 RG (fun _ => (qIxB (a).toNat 1 kb56.g hA56 (show (a : Int) = _ from by omega) i58)) ?_
          refine xTv 7 [some 1] RG (Psi.le.refl _) (qLdB (a).toNat 1 0 0 hw56) ?_
          obtain ⟨q60, hS⟩ := grd_T hS
          have q60p := of_decide_eq_true q60
          have i61 : (t53.2).toNat < (t53.1).length := by omega
          obtain ⟨kc59, cs59, hA59, hk59, hr59, hw59⟩ := h53_0.open_ i61 0
          cases hk59
          have hr59 : cs59 = [vi (List.getD t53.1 (t53.2).toNat 0)] := hr59
          subst hr59
          refine xT 6 [8, 9] [] [some 1] [(13, vi t53.2), (163, vs Adata t53.1 cdata), (164, vi t53.2), (165, vs Adata t53.1 cdata), (166, vi a), (170, vi (List.getD t53.1 (a).toNat 0)), (171, vs Adata t53.1 cdata), (172, vi t53.2)] RG (Psi.le.refl _) ?_
          refine xTp 10 RG (fun _ => (qIxB (t53.2).toNat 1 kb56.g hA59 (show (t53.2 : Int) = _ from by omega) i61)) ?_
          refine xTv 11 [some 1] RG (Psi.le.refl _) (qLdB (t53.2).toNat 1 0 0 hw59) ?_
          obtain ⟨q63, hS⟩ := grd_T hS
          have q63p := of_decide_eq_true q63
          have i64 : (t53.2).toNat < (t53.1).length := by omega
          obtain ⟨kc62, cs62, hA62, hk62, hr62, hw62⟩ := h53_0.open_ i64 0
          cases hk62
          have hr62 : cs62 = [vi (List.getD t53.1 (t53.2).toNat 0)] := hr62
          subst hr62
          refine xTp 12 RG (fun _ => (qIxB (t53.2).toNat 1 kb56.g hA62 (show (t53.2 : Int) = _ from by omega) i64)) ?_
          refine xO1 (lds := [7, 11]) 13 ?_
          refine xId (lds := [7, 11]) (Psi.le.refl _) (eStB (t53.2).toNat 1 0 1 [vi (List.getD t53.1 (a).toNat 0)] h53_0 rfl hw62 (show (tyI .i64).rep _ _ _ from rfl) i64) ?_
          rintro _ _ _ - ⟨k65, rfl, rfl, h65⟩
          refine kf ?_
          have hz65 : (t53.1).length = ((List.set t53.1 (t53.2).toNat ((List.getD t53.1 (a).toNat 0) : Int))).length := by simp
          have hz65_1 : (data).length = ((List.set t53.1 (t53.2).toNat ((List.getD t53.1 (a).toNat 0) : Int))).length := hz53_v0.trans hz65
          obtain ⟨q67, hS⟩ := grd_T hS
          have q67p := of_decide_eq_true q67
          have i68 : (a).toNat < ((List.set t53.1 (t53.2).toNat ((List.getD t53.1 (a).toNat 0) : Int))).length := by omega
          have i69 : (a).toNat < (t53.1).length := by have := hz65; omega
          obtain ⟨kc66, cs66, hA66, hk66, hr66, hw66⟩ := h65.open_ i68 0
          obtain ⟨kb66, rfl⟩ : ∃ z, z = kc66 := ⟨_, rfl⟩
          subst hk66
          have hr66 : cs66 = [vi (List.getD (List.set t53.1 (t53.2).toNat ((List.getD t53.1 (a).toNat 0) : Int)) (a).toNat 0)] := hr66
          subst hr66
          refine xTp 14 RG (fun _ => (qIxB (a).toNat 1 kb66.g hA66 (show (a : Int) = _ from by omega) i69)) ?_
          refine xO1 (lds := [7, 11]) 15 ?_
          refine xId (lds := [7, 11]) (Psi.le.refl _) (eStB (a).toNat 1 0 1 [vi (List.getD t53.1 (t53.2).toNat 0)] h65 rfl hw66 (show (tyI .i64).rep _ _ _ from rfl) i68) ?_
          rintro _ _ _ - ⟨k70, rfl, rfl, h70⟩
          refine kf ?_
          have hz70 : (t53.1).length = ((List.set (List.set t53.1 (t53.2).toNat ((List.getD t53.1 (a).toNat 0) : Int)) (a).toNat ((List.getD t53.1 (t53.2).toNat 0) : Int))).length := hz65.trans (by simp)
          have hz70_1 : (data).length = ((List.set (List.set t53.1 (t53.2).toNat ((List.getD t53.1 (a).toNat 0) : Int)) (a).toNat ((List.getD t53.1 (t53.2).toNat 0) : Int))).length := hz65_1.trans (hz65.symm.trans hz70)
          refine xAe (lds := [7, 11]) ?_
          refine wpq_then ?_
          refine xSub [(13, vi t53.2)] ?_
          refine xSq ?_
          refine xRg ?_
          refine xB 3 [] [(10, vi t53.2), (11, vb false)] ?_
          refine xRe ?_
          refine wpq_then ?_
          have eS := (Option.some.inj hS).symm
          subst eS
          exact xRet [some 1] [10, 11] (e18.trans (e21.trans e55)) ⟨k70, by kernel_rfl, by kernel_rfl, (Buf.re h70 (hz70.trans hz70_1.symm) rfl)⟩ (fun _ _ h => h)
        · intro uu53 hS hN53
          refine xBl 4 ?_
          refine wpq_re 0 (v := Value.slice Adata (((List.set (List.set data (a).toNat ((List.getD data (pivot).toNat 0) : Int)) (pivot).toNat ((List.getD data (a).toNat 0) : Int))).length) cdata) (vs Adata (List.set (List.set (List.set (List.set data (a).toNat ((List.getD data (pivot).toNat 0) : Int)) (pivot).toNat ((List.getD data (a).toNat 0) : Int)) (t16).toNat ((List.getD (List.set (List.set data (a).toNat ((List.getD data (pivot).toNat 0) : Int)) (pivot).toNat ((List.getD data (a).toNat 0) : Int)) (t19).toNat 0) : Int)) (t19).toNat ((List.getD (List.set (List.set data (a).toNat ((List.getD data (pivot).toNat 0) : Int)) (pivot).toNat ((List.getD data (a).toNat 0) : Int)) (t16).toNat 0) : Int)) cdata) (by kernel_rfl) (congrArg (fun z => Value.slice Adata z cdata) hz52_1) ?_
          have h52 := Buf.re h52 hz52 (rfl : (List.set (List.set (List.set (List.set data (a).toNat ((List.getD data (pivot).toNat 0) : Int)) (pivot).toNat ((List.getD data (a).toNat 0) : Int)) (t16).toNat ((List.getD (List.set (List.set data (a).toNat ((List.getD data (pivot).toNat 0) : Int)) (pivot).toNat ((List.getD data (a).toNat 0) : Int)) (t19).toNat 0) : Int)) (t19).toNat ((List.getD (List.set (List.set data (a).toNat ((List.getD data (pivot).toNat 0) : Int)) (pivot).toNat ((List.getD data (a).toNat 0) : Int)) (t16).toNat 0) : Int)) = _)
          refine xSel [none, some 1] ?_
          refine xSub [(0, vs Adata (List.set (List.set (List.set (List.set data (a).toNat ((List.getD data (pivot).toNat 0) : Int)) (pivot).toNat ((List.getD data (a).toNat 0) : Int)) (t16).toNat ((List.getD (List.set (List.set data (a).toNat ((List.getD data (pivot).toNat 0) : Int)) (pivot).toNat ((List.getD data (a).toNat 0) : Int)) (t19).toNat 0) : Int)) (t19).toNat ((List.getD (List.set (List.set data (a).toNat ((List.getD data (pivot).toNat 0) : Int)) (pivot).toNat ((List.getD data (a).toNat 0) : Int)) (t16).toNat 0) : Int)) cdata), (1, vi a), (4, Value.func (.func 42) #[] #[Value.pointer (some a_cmpc)]), (12, vi (IntKind.i64.wrap (t16 + 1))), (13, vi (IntKind.i64.wrap (t19 - 1)))] ?_
          refine xLo hS (fun g own sl s73 => ∃ (k73_0 : Option Bk), own = [none, k73_0] ∧ sl = [(0, vs Adata s73.1 cdata), (1, vi a), (4, Value.func (.func 42) #[] #[Value.pointer (some a_cmpc)]), (12, vi s73.2.1), (13, vi s73.2.2)] ∧ Buf g.b (tyI .i64) 3 (.slice Adata (s73.1).length cdata) k73_0 s73.1 ∧ (data).length = (s73.1).length) ⟨k52, by kernel_rfl, by kernel_rfl, h52, hz52⟩ ?_
          rintro g74 _ _ s73 uu73 e75 ⟨k73_0, rfl, rfl, h73_0, hz73_v0⟩ hS Qr73 hN73 hD73
          have nh73_0 := h73_0.len
          unfold o73f42_L0 at hS
          refine xJoinO hS (fun g own sl t76 => ∃ (k76_0 : Option Bk), own = [none, k76_0] ∧ sl = [(0, vs Adata t76.1 cdata), (1, vi a), (4, Value.func (.func 42) #[] #[Value.pointer (some a_cmpc)]), (12, vi t76.2.1), (13, vi t76.2.2)] ∧ Buf g.b (tyI .i64) 3 (.slice Adata (t76.1).length cdata) k76_0 t76.1 ∧ (data).length = (t76.1).length) ?_ ?_
          · rintro g77 _ _ t76 e78 ⟨k76_0, rfl, rfl, h76_0, hz76_v0⟩ hS
            have nh76_0 := h76_0.len
            refine wpq_thenN ?_
            refine xSel [none, some 1] ?_
            refine xSub [(0, vs Adata t76.1 cdata), (1, vi a), (4, Value.func (.func 42) #[] #[Value.pointer (some a_cmpc)]), (12, vi t76.2.1), (13, vi t76.2.2)] ?_
            have eS := (Option.some.inj hS).symm
            exact hN73 _ eS _ _ _ e78 ⟨k76_0, by kernel_rfl, by kernel_rfl, h76_0, hz76_v0⟩
          · intro uu76 hS hN76 hD76
            refine xBl 5 ?_
            refine xSq ?_
            refine xBindO hS (fun g own sl t79 => own = [none, k73_0] ∧ sl = [(0, vs Adata s73.1 cdata), (1, vi a), (4, Value.func (.func 42) #[] #[Value.pointer (some a_cmpc)]), (12, vi t79), (13, vi s73.2.2)]) ?_ ?_
            · rintro g80 _ _ t79 e81 ⟨rfl, rfl⟩ hS
              refine wpq_then ?_
              refine xSq ?_
              refine xBindO hS (fun g own sl t82 => own = [none, k73_0] ∧ sl = [(0, vs Adata s73.1 cdata), (1, vi a), (4, Value.func (.func 42) #[] #[Value.pointer (some a_cmpc)]), (12, vi t79), (13, vi t82)]) ?_ ?_
              · rintro g83 _ _ t82 e84 ⟨rfl, rfl⟩ hS
                refine wpq_then ?_
                refine xSq ?_
                refine xSq ?_
                refine xRg ?_
                refine xB 3 [] [(0, vs Adata s73.1 cdata), (1, vi a), (4, Value.func (.func 42) #[] #[Value.pointer (some a_cmpc)]), (12, vi t79), (13, vi t82), (144, vb (decide (t79 > t82)))] ?_
                refine xRe ?_
                refine wpq_then ?_
                refine xCd (decide (t79 > t82)) (fun h85 => ?_) (fun h85 => ?_)
                · have hS := cond_T h85 hS
                  have h85p := of_decide_eq_true h85
                  refine xEx 4 ?_
                  refine wpq_thenX ?_
                  refine wpq_blockX (by kernel_rfl) ?_
                  refine wpq_thenX ?_
                  refine wpq_blockE ?_
                  have h73_0 := h73_0.mono (e81.trans e84).b
                  refine xSel [none, some 1] ?_
                  refine xSub [(0, vs Adata s73.1 cdata), (1, vi a), (13, vi t82)] ?_
                  have eS := (Option.some.inj hS).symm
                  have eS := (hD76 _ eS).symm
                  have eS := (hD73 _ eS).symm
                  exact hN53 _ eS _ _ _ (e75.trans (e81.trans e84)) ⟨k73_0, by kernel_rfl, by kernel_rfl, h73_0, hz73_v0⟩
                · have hS := cond_F h85 hS
                  have h85p := of_decide_eq_false h85
                  refine xSk ?_
                  refine wpq_then ?_
                  refine xSub [(0, vs Adata s73.1 cdata), (1, vi a), (4, Value.func (.func 42) #[] #[Value.pointer (some a_cmpc)]), (12, vi t79), (13, vi t82)] ?_
                  refine xSq ?_
                  refine xDr 0 [7, 11] [13, 15, 12, 14] [k73_0] 16 (fun RG => ?_) (fun _ _ _ _ _ h => h)
                  have h73_0 := h73_0.mono (e81.trans e84).b
                  obtain ⟨q87, hS⟩ := grd_T hS
                  have q87p := of_decide_eq_true q87
                  have i88 : (t82).toNat < (s73.1).length := by omega
                  obtain ⟨kc86, cs86, hA86, hk86, hr86, hw86⟩ := h73_0.open_ i88 0
                  obtain ⟨kb86, rfl⟩ : ∃ z, z = kc86 := ⟨_, rfl⟩
                  subst hk86
                  have hr86 : cs86 = [vi (List.getD s73.1 (t82).toNat 0)] := hr86
                  subst hr86
                  refine xT 10 [0, 1, 2, 3, 4, 5] [] [some 1] [(0, vs Adata s73.1 cdata), (1, vi a), (4, Value.func (.func 42) #[] #[Value.pointer (some a_cmpc)]), (12, vi t79), (13, vi t82), (145, vs Adata s73.1 cdata), (146, vi t79), (147, vs Adata s73.1 cdata), (148, vi t82), (149, vs Adata s73.1 cdata), (150, vi t82)] RG (Psi.le.refl _) ?_
                  refine xTp 6 RG (fun _ => (qIxB (t82).toNat 1 kb86.g hA86 (show (t82 : Int) = _ from by omega) i88)) ?_
                  refine xTv 7 [some 1] RG (Psi.le.refl _) (qLdB (t82).toNat 1 0 0 hw86) ?_
                  obtain ⟨q90, hS⟩ := grd_T hS
                  have q90p := of_decide_eq_true q90
                  have i91 : (t79).toNat < (s73.1).length := by omega
                  obtain ⟨kc89, cs89, hA89, hk89, hr89, hw89⟩ := h73_0.open_ i91 0
                  cases hk89
                  have hr89 : cs89 = [vi (List.getD s73.1 (t79).toNat 0)] := hr89
                  subst hr89
                  refine xT 6 [8, 9] [] [some 1] [(0, vs Adata s73.1 cdata), (1, vi a), (4, Value.func (.func 42) #[] #[Value.pointer (some a_cmpc)]), (12, vi t79), (13, vi t82), (145, vs Adata s73.1 cdata), (146, vi t79), (147, vs Adata s73.1 cdata), (148, vi t82), (152, vi (List.getD s73.1 (t82).toNat 0)), (153, vs Adata s73.1 cdata), (154, vi t79)] RG (Psi.le.refl _) ?_
                  refine xTp 10 RG (fun _ => (qIxB (t79).toNat 1 kb86.g hA89 (show (t79 : Int) = _ from by omega) i91)) ?_
                  refine xTv 11 [some 1] RG (Psi.le.refl _) (qLdB (t79).toNat 1 0 0 hw89) ?_
                  obtain ⟨q93, hS⟩ := grd_T hS
                  have q93p := of_decide_eq_true q93
                  have i94 : (t79).toNat < (s73.1).length := by omega
                  obtain ⟨kc92, cs92, hA92, hk92, hr92, hw92⟩ := h73_0.open_ i94 0
                  cases hk92
                  have hr92 : cs92 = [vi (List.getD s73.1 (t79).toNat 0)] := hr92
                  subst hr92
                  refine xTp 12 RG (fun _ => (qIxB (t79).toNat 1 kb86.g hA92 (show (t79 : Int) = _ from by omega) i94)) ?_
                  refine xO1 (lds := [7, 11]) 13 ?_
                  refine xId (lds := [7, 11]) (Psi.le.refl _) (eStB (t79).toNat 1 0 1 [vi (List.getD s73.1 (t82).toNat 0)] h73_0 rfl hw92 (show (tyI .i64).rep _ _ _ from rfl) i94) ?_
                  rintro _ _ _ - ⟨k95, rfl, rfl, h95⟩
                  refine kf ?_
                  have hz95 : (s73.1).length = ((List.set s73.1 (t79).toNat ((List.getD s73.1 (t82).toNat 0) : Int))).length := by simp
                  have hz95_1 : (data).length = ((List.set s73.1 (t79).toNat ((List.getD s73.1 (t82).toNat 0) : Int))).length := hz73_v0.trans hz95
                  obtain ⟨q97, hS⟩ := grd_T hS
                  have q97p := of_decide_eq_true q97
                  have i98 : (t82).toNat < ((List.set s73.1 (t79).toNat ((List.getD s73.1 (t82).toNat 0) : Int))).length := by omega
                  have i99 : (t82).toNat < (s73.1).length := by have := hz95; omega
                  obtain ⟨kc96, cs96, hA96, hk96, hr96, hw96⟩ := h95.open_ i98 0
                  obtain ⟨kb96, rfl⟩ : ∃ z, z = kc96 := ⟨_, rfl⟩
                  subst hk96
                  have hr96 : cs96 = [vi (List.getD (List.set s73.1 (t79).toNat ((List.getD s73.1 (t82).toNat 0) : Int)) (t82).toNat 0)] := hr96
                  subst hr96
                  refine xTp 14 RG (fun _ => (qIxB (t82).toNat 1 kb96.g hA96 (show (t82 : Int) = _ from by omega) i99)) ?_
                  refine xO1 (lds := [7, 11]) 15 ?_
                  refine xId (lds := [7, 11]) (Psi.le.refl _) (eStB (t82).toNat 1 0 1 [vi (List.getD s73.1 (t79).toNat 0)] h95 rfl hw96 (show (tyI .i64).rep _ _ _ from rfl) i98) ?_
                  rintro _ _ _ - ⟨k100, rfl, rfl, h100⟩
                  refine kf ?_
                  have hz100 : (s73.1).length = ((List.set (List.set s73.1 (t79).toNat ((List.getD s73.1 (t82).toNat 0) : Int)) (t82).toNat ((List.getD s73.1 (t79).toNat 0) : Int))).length := hz95.trans (by simp)
                  have hz100_1 : (data).length = ((List.set (List.set s73.1 (t79).toNat ((List.getD s73.1 (t82).toNat 0) : Int)) (t82).toNat ((List.getD s73.1 (t79).toNat 0) : Int))).length := hz95_1.trans (hz95.symm.trans hz100)
                  refine xAe (lds := [7, 11]) ?_
                  refine wpq_then ?_
                  refine xSub [(0, Value.slice Adata ((s73.1).length) cdata), (1, vi a), (4, Value.func (.func 42) #[] #[Value.pointer (some a_cmpc)]), (12, vi t79), (13, vi t82)] ?_
                  refine xSq ?_
                  refine xRg ?_
                  have z315 := i64_in_ (t79 + 1)
                  refine xB 3 [] [(0, Value.slice Adata ((s73.1).length) cdata), (1, vi a), (4, Value.func (.func 42) #[] #[Value.pointer (some a_cmpc)]), (12, vi (IntKind.i64.wrap (t79 + 1))), (13, vi t82)] ?_
                  refine xRe ?_
                  refine wpq_then ?_
                  refine xRg ?_
                  have z316 := i64_in_ (t82 - 1)
                  refine xB 3 [] [(0, Value.slice Adata ((s73.1).length) cdata), (1, vi a), (4, Value.func (.func 42) #[] #[Value.pointer (some a_cmpc)]), (12, vi (IntKind.i64.wrap (t79 + 1))), (13, vi (IntKind.i64.wrap (t82 - 1)))] ?_
                  refine xRe ?_
                  refine wpq_blockN ?_
                  refine wpq_re 0 (v := Value.slice Adata ((s73.1).length) cdata) (vs Adata (List.set (List.set s73.1 (t79).toNat ((List.getD s73.1 (t82).toNat 0) : Int)) (t82).toNat ((List.getD s73.1 (t79).toNat 0) : Int)) cdata) (by kernel_rfl) (congrArg (fun z => Value.slice Adata z cdata) hz100) ?_
                  have h100 := Buf.re h100 hz100 (rfl : (List.set (List.set s73.1 (t79).toNat ((List.getD s73.1 (t82).toNat 0) : Int)) (t82).toNat ((List.getD s73.1 (t79).toNat 0) : Int)) = _)
                  refine xSel [none, some 1] ?_
                  refine xSub [(0, vs Adata (List.set (List.set s73.1 (t79).toNat ((List.getD s73.1 (t82).toNat 0) : Int)) (t82).toNat ((List.getD s73.1 (t79).toNat 0) : Int)) cdata), (1, vi a), (4, Value.func (.func 42) #[] #[Value.pointer (some a_cmpc)]), (12, vi (IntKind.i64.wrap (t79 + 1))), (13, vi (IntKind.i64.wrap (t82 - 1)))] ?_
                  have eS := (Option.some.inj hS).symm
                  exact hN76 _ eS _ _ _ (e81.trans e84) ⟨k100, by kernel_rfl, by kernel_rfl, h100, hz100_1⟩
              · intro uu82 hS hN82
                refine xBl 8 ?_
                refine xSel [none, some 1] ?_
                refine xSub [(0, vs Adata s73.1 cdata), (1, vi a), (4, Value.func (.func 42) #[] #[Value.pointer (some a_cmpc)]), (12, vi t79), (13, vi s73.2.2)] ?_
                refine xLo hS (fun g own sl s103 => own = [none, k73_0] ∧ sl = [(0, vs Adata s73.1 cdata), (1, vi a), (4, Value.func (.func 42) #[] #[Value.pointer (some a_cmpc)]), (12, vi t79), (13, vi s103)]) ⟨by kernel_rfl, by kernel_rfl⟩ ?_
                rintro g104 _ _ s103 uu103 e105 ⟨rfl, rfl⟩ hS Qr103 hN103 hD103
                unfold o73f42_L1 at hS
                refine xSq ?_
                refine xSq ?_
                refine xDr 0 [8, 12] [] [k73_0] 17 (fun RG => ?_) (fun _ _ _ _ _ h => h)
                refine xT 13 [0, 1, 2, 3] [] [some 1] [(0, vs Adata s73.1 cdata), (1, vi a), (4, Value.func (.func 42) #[] #[Value.pointer (some a_cmpc)]), (12, vi t79), (13, vi s103), (126, vb (decide (t79 ≤ s103)))] RG (Psi.le.refl _) ?_
                refine xGJoA hS 0 [true, true, true, true, true, true, true, true, true, true, true, true, true, true, true, true, true] (fun g own sl t106 => own = [none, k73_0] ∧ sl = [(0, vs Adata s73.1 cdata), (1, vi a), (4, Value.func (.func 42) #[] #[Value.pointer (some a_cmpc)]), (12, vi t79), (13, vi s103), (139, vb t106)]) ?_ ?_
                · rintro g107 _ _ t106 e108 ⟨rfl, rfl⟩ hS
                  refine xAe (lds := [8, 12]) ?_
                  refine wpq_then ?_
                  refine xCd (t106) (fun h109 => ?_) (fun h109 => ?_)
                  · have hS := cond_T h109 hS
                    refine xSk ?_
                    refine wpq_then ?_
                    refine xSub [(0, vs Adata s73.1 cdata), (1, vi a), (4, Value.func (.func 42) #[] #[Value.pointer (some a_cmpc)]), (12, vi t79), (13, vi s103)] ?_
                    refine xBl 9 ?_
                    refine xRg ?_
                    have z322 := i64_in_ (s103 - 1)
                    refine xB 3 [] [(0, vs Adata s73.1 cdata), (1, vi a), (4, Value.func (.func 42) #[] #[Value.pointer (some a_cmpc)]), (12, vi t79), (13, vi (IntKind.i64.wrap (s103 - 1)))] ?_
                    refine xRe ?_
                    refine wpq_blockN ?_
                    refine wpq_thenN ?_
                    refine xSel [none, some 1] ?_
                    refine xSub [(0, vs Adata s73.1 cdata), (1, vi a), (4, Value.func (.func 42) #[] #[Value.pointer (some a_cmpc)]), (12, vi t79), (13, vi (IntKind.i64.wrap (s103 - 1)))] ?_
                    have eS := (Option.some.inj hS).symm
                    exact hN103 _ eS _ _ _ e108 ⟨by kernel_rfl, by kernel_rfl⟩
                  · have hS := cond_F h109 hS
                    refine xEx 8 ?_
                    refine wpq_thenX ?_
                    refine wpq_thenX ?_
                    refine wpq_blockE ?_
                    refine xSel [none, some 1] ?_
                    refine xSub [(0, vs Adata s73.1 cdata), (1, vi a), (4, Value.func (.func 42) #[] #[Value.pointer (some a_cmpc)]), (12, vi t79), (13, vi s103)] ?_
                    have eS := (Option.some.inj hS).symm
                    have eS := (hD103 _ eS).symm
                    exact hN82 _ eS _ _ _ (e105.trans e108) ⟨by kernel_rfl, by kernel_rfl⟩
                · intro uu106 hS hN106
                  refine wpq_split 126 (b := decide (t79 ≤ s103)) (by kernel_rfl) (fun q110 => ?_) (fun q110 => ?_)
                  · have hS := cond_T q110 hS
                    have q110p := of_decide_eq_true q110
                    have h73_0 := h73_0.mono (e81.trans e105).b
                    obtain ⟨q112, hS⟩ := grd_T hS
                    have q112p := of_decide_eq_true q112
                    have i113 : (s103).toNat < (s73.1).length := by omega
                    obtain ⟨kc111, cs111, hA111, hk111, hr111, hw111⟩ := h73_0.open_ i113 0
                    obtain ⟨kb111, rfl⟩ : ∃ z, z = kc111 := ⟨_, rfl⟩
                    subst hk111
                    have hr111 : cs111 = [vi (List.getD s73.1 (s103).toNat 0)] := hr111
                    subst hr111
                    refine xT 10 [4, 5, 6] [] [some 1] [(0, vs Adata s73.1 cdata), (1, vi a), (4, Value.func (.func 42) #[] #[Value.pointer (some a_cmpc)]), (12, vi t79), (13, vi s103), (126, vb true), (127, Value.func (.func 42) #[] #[Value.pointer (some a_cmpc)]), (128, vs Adata s73.1 cdata), (129, vi s103)] RG (Psi.le.refl _) ?_
                    refine xTp 7 RG (fun _ => (qIxB (s103).toNat 1 kb111.g hA111 (show (s103 : Int) = _ from by omega) i113)) ?_
                    refine xTv 8 [some 1] RG (Psi.le.refl _) (qLdB (s103).toNat 1 0 0 hw111) ?_
                    obtain ⟨q115, hS⟩ := grd_T hS
                    have q115p := of_decide_eq_true q115
                    have i116 : (a).toNat < (s73.1).length := by omega
                    obtain ⟨kc114, cs114, hA114, hk114, hr114, hw114⟩ := h73_0.open_ i116 0
                    cases hk114
                    have hr114 : cs114 = [vi (List.getD s73.1 (a).toNat 0)] := hr114
                    subst hr114
                    refine xT 6 [9, 10] [] [some 1] [(0, vs Adata s73.1 cdata), (1, vi a), (4, Value.func (.func 42) #[] #[Value.pointer (some a_cmpc)]), (12, vi t79), (13, vi s103), (126, vb true), (127, Value.func (.func 42) #[] #[Value.pointer (some a_cmpc)]), (131, vi (List.getD s73.1 (s103).toNat 0)), (132, vs Adata s73.1 cdata), (133, vi a)] RG (Psi.le.refl _) ?_
                    refine xTp 11 RG (fun _ => (qIxB (a).toNat 1 kb111.g hA114 (show (a : Int) = _ from by omega) i116)) ?_
                    refine xTv 12 [some 1] RG (Psi.le.refl _) (qLdB (a).toNat 1 0 0 hw114) ?_
                    have hc_cmpcp := hc_cmpcp.mono (e18.trans (e21.trans (e75.trans (e81.trans e105)))).r
                    have fcmpcp_defs := fcmpcp_defs.mono (e18.trans (e21.trans (e75.trans (e81.trans e105)))).r
                    have fcmpcp_conds := fcmpcp_conds.mono (e18.trans (e21.trans (e75.trans (e81.trans e105)))).r (e18.trans (e21.trans (e75.trans (e81.trans e105)))).b
                    have hc_cmpc := hc_cmpc.mono (e18.trans (e21.trans (e75.trans (e81.trans e105)))).r
                    obtain ⟨y117, hy117, hS⟩ := bindO_T hS
                    refine xO1 (lds := [8, 12]) 13 ?_
                    refine xIe (lds := [8, 12]) (Psi.le.refl _) (eC 0 (fun g' lr eb ln => c42 g' ((List.getD s73.1 (s103).toNat 0) : Int) ((List.getD s73.1 (a).toNat 0) : Int) a_cmpc a_cmpcp cmpcp Acmpcp_defs ccmpcp_defs Acmpcp_conds ccmpcp_conds (hc_cmpcp.mono lr) (fcmpcp_defs.mono lr) (ArrM.lent fcmpcp_conds lr eb) (hc_cmpc.mono lr) hy117)) ?_
                    rintro _ g118 _ e119 ⟨_, rfl, rfl, rfl⟩
                    refine kk [some 1] ?_
                    refine xT 0 [14, 15, 16] [] [some 1] [(0, vs Adata s73.1 cdata), (1, vi a), (4, Value.func (.func 42) #[] #[Value.pointer (some a_cmpc)]), (12, vi t79), (13, vi s103), (139, vb (!decide (y117 < 0)))] RG e119.r ?_
                    refine xSel [none, some 1] ?_
                    refine xSub [(0, vs Adata s73.1 cdata), (1, vi a), (4, Value.func (.func 42) #[] #[Value.pointer (some a_cmpc)]), (12, vi t79), (13, vi s103), (139, vb (!decide (y117 < 0)))] ?_
                    exact hN106 _ (Option.some.inj hS).symm _ _ _ e119 ⟨by kernel_rfl, by kernel_rfl⟩
                  · have hS := cond_F q110 hS
                    have q110p := of_decide_eq_false q110
                    refine xT 4 [4, 5, 6, 7, 8, 9, 10, 11, 12] [] [some 1] [(0, vs Adata s73.1 cdata), (1, vi a), (4, Value.func (.func 42) #[] #[Value.pointer (some a_cmpc)]), (12, vi t79), (13, vi s103), (126, vb false), (127, undef), (131, undef), (135, undef)] RG (Psi.le.refl _) ?_
                    refine xO1 (lds := [8, 12]) 13 ?_
                    refine xIb (lds := [8, 12]) [] ?_
                    refine xT 0 [14, 15, 16] [] [some 1] [(0, vs Adata s73.1 cdata), (1, vi a), (4, Value.func (.func 42) #[] #[Value.pointer (some a_cmpc)]), (12, vi t79), (13, vi s103), (139, vb false)] RG (Psi.le.refl _) ?_
                    refine xSel [none, some 1] ?_
                    refine xSub [(0, vs Adata s73.1 cdata), (1, vi a), (4, Value.func (.func 42) #[] #[Value.pointer (some a_cmpc)]), (12, vi t79), (13, vi s103), (139, vb false)] ?_
                    exact hN106 _ (Option.some.inj hS).symm _ _ _ (Gh.le.refl _) ⟨by kernel_rfl, by kernel_rfl⟩
            · intro uu79 hS hN79
              refine xBl 6 ?_
              refine xSel [none, some 1] ?_
              refine xSub [(0, vs Adata s73.1 cdata), (1, vi a), (4, Value.func (.func 42) #[] #[Value.pointer (some a_cmpc)]), (12, vi s73.2.1), (13, vi s73.2.2)] ?_
              refine xLo hS (fun g own sl s122 => own = [none, k73_0] ∧ sl = [(0, vs Adata s73.1 cdata), (1, vi a), (4, Value.func (.func 42) #[] #[Value.pointer (some a_cmpc)]), (12, vi s122), (13, vi s73.2.2)]) ⟨by kernel_rfl, by kernel_rfl⟩ ?_
              rintro g123 _ _ s122 uu122 e124 ⟨rfl, rfl⟩ hS Qr122 hN122 hD122
              unfold o73f42_L2 at hS
              refine xSq ?_
              refine xSq ?_
              refine xDr 0 [8, 12] [] [k73_0] 16 (fun RG => ?_) (fun _ _ _ _ _ h => h)
              refine xT 12 [0, 1, 2, 3] [] [some 1] [(0, vs Adata s73.1 cdata), (1, vi a), (4, Value.func (.func 42) #[] #[Value.pointer (some a_cmpc)]), (12, vi s122), (13, vi s73.2.2), (108, vb (decide (s122 ≤ s73.2.2)))] RG (Psi.le.refl _) ?_
              refine xGJoA hS 0 [true, true, true, true, true, true, true, true, true, true, true, true, true, true, true, true] (fun g own sl t125 => own = [none, k73_0] ∧ sl = [(0, vs Adata s73.1 cdata), (1, vi a), (4, Value.func (.func 42) #[] #[Value.pointer (some a_cmpc)]), (12, vi s122), (13, vi s73.2.2), (120, vb t125)]) ?_ ?_
              · rintro g126 _ _ t125 e127 ⟨rfl, rfl⟩ hS
                refine xAe (lds := [8, 12]) ?_
                refine wpq_then ?_
                refine xCd (t125) (fun h128 => ?_) (fun h128 => ?_)
                · have hS := cond_T h128 hS
                  refine xSk ?_
                  refine wpq_then ?_
                  refine xSub [(0, vs Adata s73.1 cdata), (1, vi a), (4, Value.func (.func 42) #[] #[Value.pointer (some a_cmpc)]), (12, vi s122), (13, vi s73.2.2)] ?_
                  refine xBl 7 ?_
                  refine xRg ?_
                  have z328 := i64_in_ (s122 + 1)
                  refine xB 3 [] [(0, vs Adata s73.1 cdata), (1, vi a), (4, Value.func (.func 42) #[] #[Value.pointer (some a_cmpc)]), (12, vi (IntKind.i64.wrap (s122 + 1))), (13, vi s73.2.2)] ?_
                  refine xRe ?_
                  refine wpq_blockN ?_
                  refine wpq_thenN ?_
                  refine xSel [none, some 1] ?_
                  refine xSub [(0, vs Adata s73.1 cdata), (1, vi a), (4, Value.func (.func 42) #[] #[Value.pointer (some a_cmpc)]), (12, vi (IntKind.i64.wrap (s122 + 1))), (13, vi s73.2.2)] ?_
                  have eS := (Option.some.inj hS).symm
                  exact hN122 _ eS _ _ _ e127 ⟨by kernel_rfl, by kernel_rfl⟩
                · have hS := cond_F h128 hS
                  refine xEx 6 ?_
                  refine wpq_thenX ?_
                  refine wpq_thenX ?_
                  refine wpq_blockE ?_
                  refine xSel [none, some 1] ?_
                  refine xSub [(0, vs Adata s73.1 cdata), (1, vi a), (4, Value.func (.func 42) #[] #[Value.pointer (some a_cmpc)]), (12, vi s122), (13, vi s73.2.2)] ?_
                  have eS := (Option.some.inj hS).symm
                  have eS := (hD122 _ eS).symm
                  exact hN79 _ eS _ _ _ (e124.trans e127) ⟨by kernel_rfl, by kernel_rfl⟩
              · intro uu125 hS hN125
                refine wpq_split 108 (b := decide (s122 ≤ s73.2.2)) (by kernel_rfl) (fun q129 => ?_) (fun q129 => ?_)
                · have hS := cond_T q129 hS
                  have q129p := of_decide_eq_true q129
                  have h73_0 := h73_0.mono e124.b
                  obtain ⟨q131, hS⟩ := grd_T hS
                  have q131p := of_decide_eq_true q131
                  have i132 : (s122).toNat < (s73.1).length := by omega
                  obtain ⟨kc130, cs130, hA130, hk130, hr130, hw130⟩ := h73_0.open_ i132 0
                  obtain ⟨kb130, rfl⟩ : ∃ z, z = kc130 := ⟨_, rfl⟩
                  subst hk130
                  have hr130 : cs130 = [vi (List.getD s73.1 (s122).toNat 0)] := hr130
                  subst hr130
                  refine xT 9 [4, 5, 6] [] [some 1] [(0, vs Adata s73.1 cdata), (1, vi a), (4, Value.func (.func 42) #[] #[Value.pointer (some a_cmpc)]), (12, vi s122), (13, vi s73.2.2), (108, vb true), (109, Value.func (.func 42) #[] #[Value.pointer (some a_cmpc)]), (110, vs Adata s73.1 cdata), (111, vi s122)] RG (Psi.le.refl _) ?_
                  refine xTp 7 RG (fun _ => (qIxB (s122).toNat 1 kb130.g hA130 (show (s122 : Int) = _ from by omega) i132)) ?_
                  refine xTv 8 [some 1] RG (Psi.le.refl _) (qLdB (s122).toNat 1 0 0 hw130) ?_
                  obtain ⟨q134, hS⟩ := grd_T hS
                  have q134p := of_decide_eq_true q134
                  have i135 : (a).toNat < (s73.1).length := by omega
                  obtain ⟨kc133, cs133, hA133, hk133, hr133, hw133⟩ := h73_0.open_ i135 0
                  cases hk133
                  have hr133 : cs133 = [vi (List.getD s73.1 (a).toNat 0)] := hr133
                  subst hr133
                  refine xT 5 [9, 10] [] [some 1] [(0, vs Adata s73.1 cdata), (1, vi a), (4, Value.func (.func 42) #[] #[Value.pointer (some a_cmpc)]), (12, vi s122), (13, vi s73.2.2), (108, vb true), (109, Value.func (.func 42) #[] #[Value.pointer (some a_cmpc)]), (113, vi (List.getD s73.1 (s122).toNat 0)), (114, vs Adata s73.1 cdata), (115, vi a)] RG (Psi.le.refl _) ?_
                  refine xTp 11 RG (fun _ => (qIxB (a).toNat 1 kb130.g hA133 (show (a : Int) = _ from by omega) i135)) ?_
                  refine xTv 12 [some 1] RG (Psi.le.refl _) (qLdB (a).toNat 1 0 0 hw133) ?_
                  have hc_cmpcp := hc_cmpcp.mono (e18.trans (e21.trans (e75.trans e124))).r
                  have fcmpcp_defs := fcmpcp_defs.mono (e18.trans (e21.trans (e75.trans e124))).r
                  have fcmpcp_conds := fcmpcp_conds.mono (e18.trans (e21.trans (e75.trans e124))).r (e18.trans (e21.trans (e75.trans e124))).b
                  have hc_cmpc := hc_cmpc.mono (e18.trans (e21.trans (e75.trans e124))).r
                  obtain ⟨y136, hy136, hS⟩ := bindO_T hS
                  refine xO1 (lds := [8, 12]) 13 ?_
                  refine xIe (lds := [8, 12]) (Psi.le.refl _) (eC 0 (fun g' lr eb ln => c42 g' ((List.getD s73.1 (s122).toNat 0) : Int) ((List.getD s73.1 (a).toNat 0) : Int) a_cmpc a_cmpcp cmpcp Acmpcp_defs ccmpcp_defs Acmpcp_conds ccmpcp_conds (hc_cmpcp.mono lr) (fcmpcp_defs.mono lr) (ArrM.lent fcmpcp_conds lr eb) (hc_cmpc.mono lr) hy136)) ?_
                  rintro _ g137 _ e138 ⟨_, rfl, rfl, rfl⟩
                  refine kk [some 1] ?_
                  refine xT 0 [14, 15] [] [some 1] [(0, vs Adata s73.1 cdata), (1, vi a), (4, Value.func (.func 42) #[] #[Value.pointer (some a_cmpc)]), (12, vi s122), (13, vi s73.2.2), (120, vb (decide (y136 < 0)))] RG e138.r ?_
                  refine xSel [none, some 1] ?_
                  refine xSub [(0, vs Adata s73.1 cdata), (1, vi a), (4, Value.func (.func 42) #[] #[Value.pointer (some a_cmpc)]), (12, vi s122), (13, vi s73.2.2), (120, vb (decide (y136 < 0)))] ?_
                  exact hN125 _ (Option.some.inj hS).symm _ _ _ e138 ⟨by kernel_rfl, by kernel_rfl⟩
                · have hS := cond_F q129 hS
                  have q129p := of_decide_eq_false q129
                  refine xT 3 [4, 5, 6, 7, 8, 9, 10, 11, 12] [] [some 1] [(0, vs Adata s73.1 cdata), (1, vi a), (4, Value.func (.func 42) #[] #[Value.pointer (some a_cmpc)]), (12, vi s122), (13, vi s73.2.2), (108, vb false), (109, undef), (113, undef), (117, undef)] RG (Psi.le.refl _) ?_
                  refine xO1 (lds := [8, 12]) 13 ?_
                  refine xIb (lds := [8, 12]) [] ?_
                  refine xT 0 [14, 15] [] [some 1] [(0, vs Adata s73.1 cdata), (1, vi a), (4, Value.func (.func 42) #[] #[Value.pointer (some a_cmpc)]), (12, vi s122), (13, vi s73.2.2), (120, vb false)] RG (Psi.le.refl _) ?_
                  refine xSel [none, some 1] ?_
                  refine xSub [(0, vs Adata s73.1 cdata), (1, vi a), (4, Value.func (.func 42) #[] #[Value.pointer (some a_cmpc)]), (12, vi s122), (13, vi s73.2.2), (120, vb false)] ?_
                  exact hN125 _ (Option.some.inj hS).symm _ _ _ (Gh.le.refl _) ⟨by kernel_rfl, by kernel_rfl⟩
    · intro uu19 hS hN19
      refine xBl 2 ?_
      refine xSel [none, some 1] ?_
      refine xSub [(0, vs Adata (List.set (List.set data (a).toNat ((List.getD data (pivot).toNat 0) : Int)) (pivot).toNat ((List.getD data (a).toNat 0) : Int)) cdata), (1, vi a), (4, Value.func (.func 42) #[] #[Value.pointer (some a_cmpc)]), (12, vi t16), (13, vi (IntKind.i64.wrap (b - 1)))] ?_
      refine xLo hS (fun g own sl s141 => own = [none, k15] ∧ sl = [(0, vs Adata (List.set (List.set data (a).toNat ((List.getD data (pivot).toNat 0) : Int)) (pivot).toNat ((List.getD data (a).toNat 0) : Int)) cdata), (1, vi a), (4, Value.func (.func 42) #[] #[Value.pointer (some a_cmpc)]), (12, vi t16), (13, vi s141)]) ⟨by kernel_rfl, by kernel_rfl⟩ ?_
      rintro g142 _ _ s141 uu141 e143 ⟨rfl, rfl⟩ hS Qr141 hN141 hD141
      unfold o73f42_L3 at hS
      refine xSq ?_
      refine xSq ?_
      refine xDr 0 [8, 12] [] [k15] 17 (fun RG => ?_) (fun _ _ _ _ _ h => h)
      refine xT 13 [0, 1, 2, 3] [] [some 1] [(0, vs Adata (List.set (List.set data (a).toNat ((List.getD data (pivot).toNat 0) : Int)) (pivot).toNat ((List.getD data (a).toNat 0) : Int)) cdata), (1, vi a), (4, Value.func (.func 42) #[] #[Value.pointer (some a_cmpc)]), (12, vi t16), (13, vi s141), (53, vb (decide (t16 ≤ s141)))] RG (Psi.le.refl _) ?_
      refine xGJoA hS 0 [true, true, true, true, true, true, true, true, true, true, true, true, true, true, true, true, true] (fun g own sl t144 => own = [none, k15] ∧ sl = [(0, vs Adata (List.set (List.set data (a).toNat ((List.getD data (pivot).toNat 0) : Int)) (pivot).toNat ((List.getD data (a).toNat 0) : Int)) cdata), (1, vi a), (4, Value.func (.func 42) #[] #[Value.pointer (some a_cmpc)]), (12, vi t16), (13, vi s141), (66, vb t144)]) ?_ ?_
      · rintro g145 _ _ t144 e146 ⟨rfl, rfl⟩ hS
        refine xAe (lds := [8, 12]) ?_
        refine wpq_then ?_
        refine xCd (t144) (fun h147 => ?_) (fun h147 => ?_)
        · have hS := cond_T h147 hS
          refine xSk ?_
          refine wpq_then ?_
          refine xSub [(0, vs Adata (List.set (List.set data (a).toNat ((List.getD data (pivot).toNat 0) : Int)) (pivot).toNat ((List.getD data (a).toNat 0) : Int)) cdata), (1, vi a), (4, Value.func (.func 42) #[] #[Value.pointer (some a_cmpc)]), (12, vi t16), (13, vi s141)] ?_
          refine xBl 3 ?_
          refine xRg ?_
          have z334 := i64_in_ (s141 - 1)
          refine xB 3 [] [(0, vs Adata (List.set (List.set data (a).toNat ((List.getD data (pivot).toNat 0) : Int)) (pivot).toNat ((List.getD data (a).toNat 0) : Int)) cdata), (1, vi a), (4, Value.func (.func 42) #[] #[Value.pointer (some a_cmpc)]), (12, vi t16), (13, vi (IntKind.i64.wrap (s141 - 1)))] ?_
          refine xRe ?_
          refine wpq_blockN ?_
          refine wpq_thenN ?_
          refine xSel [none, some 1] ?_
          refine xSub [(0, vs Adata (List.set (List.set data (a).toNat ((List.getD data (pivot).toNat 0) : Int)) (pivot).toNat ((List.getD data (a).toNat 0) : Int)) cdata), (1, vi a), (4, Value.func (.func 42) #[] #[Value.pointer (some a_cmpc)]), (12, vi t16), (13, vi (IntKind.i64.wrap (s141 - 1)))] ?_
          have eS := (Option.some.inj hS).symm
          exact hN141 _ eS _ _ _ e146 ⟨by kernel_rfl, by kernel_rfl⟩
        · have hS := cond_F h147 hS
          refine xEx 2 ?_
          refine wpq_thenX ?_
          refine wpq_thenX ?_
          refine wpq_blockE ?_
          refine xSel [none, some 1] ?_
          refine xSub [(0, vs Adata (List.set (List.set data (a).toNat ((List.getD data (pivot).toNat 0) : Int)) (pivot).toNat ((List.getD data (a).toNat 0) : Int)) cdata), (1, vi a), (4, Value.func (.func 42) #[] #[Value.pointer (some a_cmpc)]), (12, vi t16), (13, vi s141)] ?_
          have eS := (Option.some.inj hS).symm
          have eS := (hD141 _ eS).symm
          exact hN19 _ eS _ _ _ (e143.trans e146) ⟨by kernel_rfl, by kernel_rfl⟩
      · intro uu144 hS hN144
        refine wpq_split 53 (b := decide (t16 ≤ s141)) (by kernel_rfl) (fun q148 => ?_) (fun q148 => ?_)
        · have hS := cond_T q148 hS
          have q148p := of_decide_eq_true q148
          have h15 := h15.mono (e18.trans e143).b
          obtain ⟨q150, hS⟩ := grd_T hS
          have q150p := of_decide_eq_true q150
          have i151 : (s141).toNat < ((List.set (List.set data (a).toNat ((List.getD data (pivot).toNat 0) : Int)) (pivot).toNat ((List.getD data (a).toNat 0) : Int))).length := by omega
          obtain ⟨kc149, cs149, hA149, hk149, hr149, hw149⟩ := h15.open_ i151 0
          obtain ⟨kb149, rfl⟩ : ∃ z, z = kc149 := ⟨_, rfl⟩
          subst hk149
          have hr149 : cs149 = [vi (List.getD (List.set (List.set data (a).toNat ((List.getD data (pivot).toNat 0) : Int)) (pivot).toNat ((List.getD data (a).toNat 0) : Int)) (s141).toNat 0)] := hr149
          subst hr149
          refine xT 10 [4, 5, 6] [] [some 1] [(0, vs Adata (List.set (List.set data (a).toNat ((List.getD data (pivot).toNat 0) : Int)) (pivot).toNat ((List.getD data (a).toNat 0) : Int)) cdata), (1, vi a), (4, Value.func (.func 42) #[] #[Value.pointer (some a_cmpc)]), (12, vi t16), (13, vi s141), (53, vb true), (54, Value.func (.func 42) #[] #[Value.pointer (some a_cmpc)]), (55, vs Adata (List.set (List.set data (a).toNat ((List.getD data (pivot).toNat 0) : Int)) (pivot).toNat ((List.getD data (a).toNat 0) : Int)) cdata), (56, vi s141)] RG (Psi.le.refl _) ?_
          refine xTp 7 RG (fun _ => (qIxB (s141).toNat 1 kb149.g hA149 (show (s141 : Int) = _ from by omega) i151)) ?_
          refine xTv 8 [some 1] RG (Psi.le.refl _) (qLdB (s141).toNat 1 0 0 hw149) ?_
          obtain ⟨q153, hS⟩ := grd_T hS
          have q153p := of_decide_eq_true q153
          have i154 : (a).toNat < ((List.set (List.set data (a).toNat ((List.getD data (pivot).toNat 0) : Int)) (pivot).toNat ((List.getD data (a).toNat 0) : Int))).length := by omega
          obtain ⟨kc152, cs152, hA152, hk152, hr152, hw152⟩ := h15.open_ i154 0
          cases hk152
          have hr152 : cs152 = [vi (List.getD (List.set (List.set data (a).toNat ((List.getD data (pivot).toNat 0) : Int)) (pivot).toNat ((List.getD data (a).toNat 0) : Int)) (a).toNat 0)] := hr152
          subst hr152
          refine xT 6 [9, 10] [] [some 1] [(0, vs Adata (List.set (List.set data (a).toNat ((List.getD data (pivot).toNat 0) : Int)) (pivot).toNat ((List.getD data (a).toNat 0) : Int)) cdata), (1, vi a), (4, Value.func (.func 42) #[] #[Value.pointer (some a_cmpc)]), (12, vi t16), (13, vi s141), (53, vb true), (54, Value.func (.func 42) #[] #[Value.pointer (some a_cmpc)]), (58, vi (List.getD (List.set (List.set data (a).toNat ((List.getD data (pivot).toNat 0) : Int)) (pivot).toNat ((List.getD data (a).toNat 0) : Int)) (s141).toNat 0)), (59, vs Adata (List.set (List.set data (a).toNat ((List.getD data (pivot).toNat 0) : Int)) (pivot).toNat ((List.getD data (a).toNat 0) : Int)) cdata), (60, vi a)] RG (Psi.le.refl _) ?_
          refine xTp 11 RG (fun _ => (qIxB (a).toNat 1 kb149.g hA152 (show (a : Int) = _ from by omega) i154)) ?_
          refine xTv 12 [some 1] RG (Psi.le.refl _) (qLdB (a).toNat 1 0 0 hw152) ?_
          have hc_cmpcp := hc_cmpcp.mono (e18.trans e143).r
          have fcmpcp_defs := fcmpcp_defs.mono (e18.trans e143).r
          have fcmpcp_conds := fcmpcp_conds.mono (e18.trans e143).r (e18.trans e143).b
          have hc_cmpc := hc_cmpc.mono (e18.trans e143).r
          obtain ⟨y155, hy155, hS⟩ := bindO_T hS
          refine xO1 (lds := [8, 12]) 13 ?_
          refine xIe (lds := [8, 12]) (Psi.le.refl _) (eC 0 (fun g' lr eb ln => c42 g' ((List.getD (List.set (List.set data (a).toNat ((List.getD data (pivot).toNat 0) : Int)) (pivot).toNat ((List.getD data (a).toNat 0) : Int)) (s141).toNat 0) : Int) ((List.getD (List.set (List.set data (a).toNat ((List.getD data (pivot).toNat 0) : Int)) (pivot).toNat ((List.getD data (a).toNat 0) : Int)) (a).toNat 0) : Int) a_cmpc a_cmpcp cmpcp Acmpcp_defs ccmpcp_defs Acmpcp_conds ccmpcp_conds (hc_cmpcp.mono lr) (fcmpcp_defs.mono lr) (ArrM.lent fcmpcp_conds lr eb) (hc_cmpc.mono lr) hy155)) ?_
          rintro _ g156 _ e157 ⟨_, rfl, rfl, rfl⟩
          refine kk [some 1] ?_
          refine xT 0 [14, 15, 16] [] [some 1] [(0, vs Adata (List.set (List.set data (a).toNat ((List.getD data (pivot).toNat 0) : Int)) (pivot).toNat ((List.getD data (a).toNat 0) : Int)) cdata), (1, vi a), (4, Value.func (.func 42) #[] #[Value.pointer (some a_cmpc)]), (12, vi t16), (13, vi s141), (66, vb (!decide (y155 < 0)))] RG e157.r ?_
          refine xSel [none, some 1] ?_
          refine xSub [(0, vs Adata (List.set (List.set data (a).toNat ((List.getD data (pivot).toNat 0) : Int)) (pivot).toNat ((List.getD data (a).toNat 0) : Int)) cdata), (1, vi a), (4, Value.func (.func 42) #[] #[Value.pointer (some a_cmpc)]), (12, vi t16), (13, vi s141), (66, vb (!decide (y155 < 0)))] ?_
          exact hN144 _ (Option.some.inj hS).symm _ _ _ e157 ⟨by kernel_rfl, by kernel_rfl⟩
        · have hS := cond_F q148 hS
          have q148p := of_decide_eq_false q148
          refine xT 4 [4, 5, 6, 7, 8, 9, 10, 11, 12] [] [some 1] [(0, vs Adata (List.set (List.set data (a).toNat ((List.getD data (pivot).toNat 0) : Int)) (pivot).toNat ((List.getD data (a).toNat 0) : Int)) cdata), (1, vi a), (4, Value.func (.func 42) #[] #[Value.pointer (some a_cmpc)]), (12, vi t16), (13, vi s141), (53, vb false), (54, undef), (58, undef), (62, undef)] RG (Psi.le.refl _) ?_
          refine xO1 (lds := [8, 12]) 13 ?_
          refine xIb (lds := [8, 12]) [] ?_
          refine xT 0 [14, 15, 16] [] [some 1] [(0, vs Adata (List.set (List.set data (a).toNat ((List.getD data (pivot).toNat 0) : Int)) (pivot).toNat ((List.getD data (a).toNat 0) : Int)) cdata), (1, vi a), (4, Value.func (.func 42) #[] #[Value.pointer (some a_cmpc)]), (12, vi t16), (13, vi s141), (66, vb false)] RG (Psi.le.refl _) ?_
          refine xSel [none, some 1] ?_
          refine xSub [(0, vs Adata (List.set (List.set data (a).toNat ((List.getD data (pivot).toNat 0) : Int)) (pivot).toNat ((List.getD data (a).toNat 0) : Int)) cdata), (1, vi a), (4, Value.func (.func 42) #[] #[Value.pointer (some a_cmpc)]), (12, vi t16), (13, vi s141), (66, vb false)] ?_
          exact hN144 _ (Option.some.inj hS).symm _ _ _ (Gh.le.refl _) ⟨by kernel_rfl, by kernel_rfl⟩
  · intro uu16 hS hN16
    refine xBl 0 ?_
    refine wpq_re 0 (v := Value.slice Adata ((data).length) cdata) (vs Adata (List.set (List.set data (a).toNat ((List.getD data (pivot).toNat 0) : Int)) (pivot).toNat ((List.getD data (a).toNat 0) : Int)) cdata) (by kernel_rfl) (congrArg (fun z => Value.slice Adata z cdata) hz15) ?_
    have h15 := Buf.re h15 hz15 (rfl : (List.set (List.set data (a).toNat ((List.getD data (pivot).toNat 0) : Int)) (pivot).toNat ((List.getD data (a).toNat 0) : Int)) = _)
    refine xSel [none, some 0] ?_
    refine xSub [(0, vs Adata (List.set (List.set data (a).toNat ((List.getD data (pivot).toNat 0) : Int)) (pivot).toNat ((List.getD data (a).toNat 0) : Int)) cdata), (1, vi a), (4, Value.func (.func 42) #[] #[Value.pointer (some a_cmpc)]), (12, vi (IntKind.i64.wrap (a + 1))), (13, vi (IntKind.i64.wrap (b - 1)))] ?_
    refine xLo hS (fun g own sl s160 => own = [none, k15] ∧ sl = [(0, vs Adata (List.set (List.set data (a).toNat ((List.getD data (pivot).toNat 0) : Int)) (pivot).toNat ((List.getD data (a).toNat 0) : Int)) cdata), (1, vi a), (4, Value.func (.func 42) #[] #[Value.pointer (some a_cmpc)]), (12, vi s160), (13, vi (IntKind.i64.wrap (b - 1)))]) ⟨by kernel_rfl, by kernel_rfl⟩ ?_
    rintro g161 _ _ s160 uu160 e162 ⟨rfl, rfl⟩ hS Qr160 hN160 hD160
    unfold o73f42_L4 at hS
    refine xSq ?_
    refine xSq ?_
    refine xDr 0 [8, 12] [] [k15] 16 (fun RG => ?_) (fun _ _ _ _ _ h => h)
    refine xT 12 [0, 1, 2, 3] [] [some 1] [(0, vs Adata (List.set (List.set data (a).toNat ((List.getD data (pivot).toNat 0) : Int)) (pivot).toNat ((List.getD data (a).toNat 0) : Int)) cdata), (1, vi a), (4, Value.func (.func 42) #[] #[Value.pointer (some a_cmpc)]), (12, vi s160), (13, vi (IntKind.i64.wrap (b - 1))), (35, vb (decide (s160 ≤ (IntKind.i64.wrap (b - 1)))))] RG (Psi.le.refl _) ?_
    refine xGJoA hS 0 [true, true, true, true, true, true, true, true, true, true, true, true, true, true, true, true] (fun g own sl t163 => own = [none, k15] ∧ sl = [(0, vs Adata (List.set (List.set data (a).toNat ((List.getD data (pivot).toNat 0) : Int)) (pivot).toNat ((List.getD data (a).toNat 0) : Int)) cdata), (1, vi a), (4, Value.func (.func 42) #[] #[Value.pointer (some a_cmpc)]), (12, vi s160), (13, vi (IntKind.i64.wrap (b - 1))), (47, vb t163)]) ?_ ?_
    · rintro g164 _ _ t163 e165 ⟨rfl, rfl⟩ hS
      refine xAe (lds := [8, 12]) ?_
      refine wpq_then ?_
      refine xCd (t163) (fun h166 => ?_) (fun h166 => ?_)
      · have hS := cond_T h166 hS
        refine xSk ?_
        refine wpq_then ?_
        refine xSub [(0, vs Adata (List.set (List.set data (a).toNat ((List.getD data (pivot).toNat 0) : Int)) (pivot).toNat ((List.getD data (a).toNat 0) : Int)) cdata), (1, vi a), (4, Value.func (.func 42) #[] #[Value.pointer (some a_cmpc)]), (12, vi s160), (13, vi (IntKind.i64.wrap (b - 1)))] ?_
        refine xBl 1 ?_
        refine xRg ?_
        have z340 := i64_in_ (s160 + 1)
        refine xB 3 [] [(0, vs Adata (List.set (List.set data (a).toNat ((List.getD data (pivot).toNat 0) : Int)) (pivot).toNat ((List.getD data (a).toNat 0) : Int)) cdata), (1, vi a), (4, Value.func (.func 42) #[] #[Value.pointer (some a_cmpc)]), (12, vi (IntKind.i64.wrap (s160 + 1))), (13, vi (IntKind.i64.wrap (b - 1)))] ?_
        refine xRe ?_
        refine wpq_blockN ?_
        refine wpq_thenN ?_
        refine xSel [none, some 1] ?_
        refine xSub [(0, vs Adata (List.set (List.set data (a).toNat ((List.getD data (pivot).toNat 0) : Int)) (pivot).toNat ((List.getD data (a).toNat 0) : Int)) cdata), (1, vi a), (4, Value.func (.func 42) #[] #[Value.pointer (some a_cmpc)]), (12, vi (IntKind.i64.wrap (s160 + 1))), (13, vi (IntKind.i64.wrap (b - 1)))] ?_
        have eS := (Option.some.inj hS).symm
        exact hN160 _ eS _ _ _ e165 ⟨by kernel_rfl, by kernel_rfl⟩
      · have hS := cond_F h166 hS
        refine xEx 0 ?_
        refine wpq_thenX ?_
        refine wpq_thenX ?_
        refine wpq_blockE ?_
        refine xSel [none, some 1] ?_
        refine xSub [(0, vs Adata (List.set (List.set data (a).toNat ((List.getD data (pivot).toNat 0) : Int)) (pivot).toNat ((List.getD data (a).toNat 0) : Int)) cdata), (1, vi a), (4, Value.func (.func 42) #[] #[Value.pointer (some a_cmpc)]), (12, vi s160), (13, vi (IntKind.i64.wrap (b - 1)))] ?_
        have eS := (Option.some.inj hS).symm
        have eS := (hD160 _ eS).symm
        exact hN16 _ eS _ _ _ (e162.trans e165) ⟨by kernel_rfl, by kernel_rfl⟩
    · intro uu163 hS hN163
      refine wpq_split 35 (b := decide (s160 ≤ (IntKind.i64.wrap (b - 1)))) (by kernel_rfl) (fun q167 => ?_) (fun q167 => ?_)
      · have hS := cond_T q167 hS
        have q167p := of_decide_eq_true q167
        have h15 := h15.mono e162.b
        obtain ⟨q169, hS⟩ := grd_T hS
        have q169p := of_decide_eq_true q169
        have i170 : (s160).toNat < ((List.set (List.set data (a).toNat ((List.getD data (pivot).toNat 0) : Int)) (pivot).toNat ((List.getD data (a).toNat 0) : Int))).length := by omega
        obtain ⟨kc168, cs168, hA168, hk168, hr168, hw168⟩ := h15.open_ i170 0
        obtain ⟨kb168, rfl⟩ : ∃ z, z = kc168 := ⟨_, rfl⟩
        subst hk168
        have hr168 : cs168 = [vi (List.getD (List.set (List.set data (a).toNat ((List.getD data (pivot).toNat 0) : Int)) (pivot).toNat ((List.getD data (a).toNat 0) : Int)) (s160).toNat 0)] := hr168
        subst hr168
        refine xT 9 [4, 5, 6] [] [some 1] [(0, vs Adata (List.set (List.set data (a).toNat ((List.getD data (pivot).toNat 0) : Int)) (pivot).toNat ((List.getD data (a).toNat 0) : Int)) cdata), (1, vi a), (4, Value.func (.func 42) #[] #[Value.pointer (some a_cmpc)]), (12, vi s160), (13, vi (IntKind.i64.wrap (b - 1))), (35, vb true), (36, Value.func (.func 42) #[] #[Value.pointer (some a_cmpc)]), (37, vs Adata (List.set (List.set data (a).toNat ((List.getD data (pivot).toNat 0) : Int)) (pivot).toNat ((List.getD data (a).toNat 0) : Int)) cdata), (38, vi s160)] RG (Psi.le.refl _) ?_
        refine xTp 7 RG (fun _ => (qIxB (s160).toNat 1 kb168.g hA168 (show (s160 : Int) = _ from by omega) i170)) ?_
        refine xTv 8 [some 1] RG (Psi.le.refl _) (qLdB (s160).toNat 1 0 0 hw168) ?_
        obtain ⟨q172, hS⟩ := grd_T hS
        have q172p := of_decide_eq_true q172
        have i173 : (a).toNat < ((List.set (List.set data (a).toNat ((List.getD data (pivot).toNat 0) : Int)) (pivot).toNat ((List.getD data (a).toNat 0) : Int))).length := by omega
        obtain ⟨kc171, cs171, hA171, hk171, hr171, hw171⟩ := h15.open_ i173 0
        cases hk171
        have hr171 : cs171 = [vi (List.getD (List.set (List.set data (a).toNat ((List.getD data (pivot).toNat 0) : Int)) (pivot).toNat ((List.getD data (a).toNat 0) : Int)) (a).toNat 0)] := hr171
        subst hr171
        refine xT 5 [9, 10] [] [some 1] [(0, vs Adata (List.set (List.set data (a).toNat ((List.getD data (pivot).toNat 0) : Int)) (pivot).toNat ((List.getD data (a).toNat 0) : Int)) cdata), (1, vi a), (4, Value.func (.func 42) #[] #[Value.pointer (some a_cmpc)]), (12, vi s160), (13, vi (IntKind.i64.wrap (b - 1))), (35, vb true), (36, Value.func (.func 42) #[] #[Value.pointer (some a_cmpc)]), (40, vi (List.getD (List.set (List.set data (a).toNat ((List.getD data (pivot).toNat 0) : Int)) (pivot).toNat ((List.getD data (a).toNat 0) : Int)) (s160).toNat 0)), (41, vs Adata (List.set (List.set data (a).toNat ((List.getD data (pivot).toNat 0) : Int)) (pivot).toNat ((List.getD data (a).toNat 0) : Int)) cdata), (42, vi a)] RG (Psi.le.refl _) ?_
        refine xTp 11 RG (fun _ => (qIxB (a).toNat 1 kb168.g hA171 (show (a : Int) = _ from by omega) i173)) ?_
        refine xTv 12 [some 1] RG (Psi.le.refl _) (qLdB (a).toNat 1 0 0 hw171) ?_
        have hc_cmpcp := hc_cmpcp.mono e162.r
        have fcmpcp_defs := fcmpcp_defs.mono e162.r
        have fcmpcp_conds := fcmpcp_conds.mono e162.r e162.b
        have hc_cmpc := hc_cmpc.mono e162.r
        obtain ⟨y174, hy174, hS⟩ := bindO_T hS
        refine xO1 (lds := [8, 12]) 13 ?_
        refine xIe (lds := [8, 12]) (Psi.le.refl _) (eC 0 (fun g' lr eb ln => c42 g' ((List.getD (List.set (List.set data (a).toNat ((List.getD data (pivot).toNat 0) : Int)) (pivot).toNat ((List.getD data (a).toNat 0) : Int)) (s160).toNat 0) : Int) ((List.getD (List.set (List.set data (a).toNat ((List.getD data (pivot).toNat 0) : Int)) (pivot).toNat ((List.getD data (a).toNat 0) : Int)) (a).toNat 0) : Int) a_cmpc a_cmpcp cmpcp Acmpcp_defs ccmpcp_defs Acmpcp_conds ccmpcp_conds (hc_cmpcp.mono lr) (fcmpcp_defs.mono lr) (ArrM.lent fcmpcp_conds lr eb) (hc_cmpc.mono lr) hy174)) ?_
        rintro _ g175 _ e176 ⟨_, rfl, rfl, rfl⟩
        refine kk [some 1] ?_
        refine xT 0 [14, 15] [] [some 1] [(0, vs Adata (List.set (List.set data (a).toNat ((List.getD data (pivot).toNat 0) : Int)) (pivot).toNat ((List.getD data (a).toNat 0) : Int)) cdata), (1, vi a), (4, Value.func (.func 42) #[] #[Value.pointer (some a_cmpc)]), (12, vi s160), (13, vi (IntKind.i64.wrap (b - 1))), (47, vb (decide (y174 < 0)))] RG e176.r ?_
        refine xSel [none, some 1] ?_
        refine xSub [(0, vs Adata (List.set (List.set data (a).toNat ((List.getD data (pivot).toNat 0) : Int)) (pivot).toNat ((List.getD data (a).toNat 0) : Int)) cdata), (1, vi a), (4, Value.func (.func 42) #[] #[Value.pointer (some a_cmpc)]), (12, vi s160), (13, vi (IntKind.i64.wrap (b - 1))), (47, vb (decide (y174 < 0)))] ?_
        exact hN163 _ (Option.some.inj hS).symm _ _ _ e176 ⟨by kernel_rfl, by kernel_rfl⟩
      · have hS := cond_F q167 hS
        have q167p := of_decide_eq_false q167
        refine xT 3 [4, 5, 6, 7, 8, 9, 10, 11, 12] [] [some 1] [(0, vs Adata (List.set (List.set data (a).toNat ((List.getD data (pivot).toNat 0) : Int)) (pivot).toNat ((List.getD data (a).toNat 0) : Int)) cdata), (1, vi a), (4, Value.func (.func 42) #[] #[Value.pointer (some a_cmpc)]), (12, vi s160), (13, vi (IntKind.i64.wrap (b - 1))), (35, vb false), (36, undef), (40, undef), (44, undef)] RG (Psi.le.refl _) ?_
        refine xO1 (lds := [8, 12]) 13 ?_
        refine xIb (lds := [8, 12]) [] ?_
        refine xT 0 [14, 15] [] [some 1] [(0, vs Adata (List.set (List.set data (a).toNat ((List.getD data (pivot).toNat 0) : Int)) (pivot).toNat ((List.getD data (a).toNat 0) : Int)) cdata), (1, vi a), (4, Value.func (.func 42) #[] #[Value.pointer (some a_cmpc)]), (12, vi s160), (13, vi (IntKind.i64.wrap (b - 1))), (47, vb false)] RG (Psi.le.refl _) ?_
        refine xSel [none, some 1] ?_
        refine xSub [(0, vs Adata (List.set (List.set data (a).toNat ((List.getD data (pivot).toNat 0) : Int)) (pivot).toNat ((List.getD data (a).toNat 0) : Int)) cdata), (1, vi a), (4, Value.func (.func 42) #[] #[Value.pointer (some a_cmpc)]), (12, vi s160), (13, vi (IntKind.i64.wrap (b - 1))), (47, vb false)] ?_
        exact hN163 _ (Option.some.inj hS).symm _ _ _ (Gh.le.refl _) ⟨by kernel_rfl, by kernel_rfl⟩

end Go.Proofs.Ytfhchendnfpbkaa
