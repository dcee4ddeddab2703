/-
Walks, printed by wip/gen. Conditions: each theorem's own.
-/
import Derived.Test.YtmcgofgpcnlljaaB0
namespace Go.Proofs.Ytmcgofgpcnlljaa
set_option linter.unusedVariables false
set_option linter.unusedSimpArgs false
open Go.RowKit
def o59f39_L0 (a : Int) (cmpc : List Msg) (s9 : (List Int) × Int) : Option (Ctl ((List Int) × Int) ((List Int))) :=
  (cond (decide (s9.2 ≥ 0)) (grd (decide (-9223372036854775808 ≤ a + s9.2 ∧ a + s9.2 ≤ 9223372036854775807)) (grd (decide (-9223372036854775808 ≤ a + s9.2 ∧ a + s9.2 ≤ 9223372036854775807)) (grd (decide (0 ≤ (a + s9.2) ∧ (a + s9.2) < (((s9.1).length : Nat) : Int))) (grd (decide (0 ≤ a ∧ a < (((s9.1).length : Nat) : Int))) (grd (decide (0 ≤ a ∧ a < (((s9.1).length : Nat) : Int))) (grd (decide (0 ≤ (a + s9.2) ∧ (a + s9.2) < ((((List.set s9.1 (a).toNat ((List.getD s9.1 ((a + s9.2)).toNat 0) : Int))).length : Nat) : Int))) (bindO (τ := (List Int)) (o70f39 ((List.set (List.set s9.1 (a).toNat ((List.getD s9.1 ((a + s9.2)).toNat 0) : Int)) ((a + s9.2)).toNat ((List.getD s9.1 (a).toNat 0) : Int)) : List Int) (0 : Int) (s9.2 : Int) (a : Int) (cmpc : List Msg)) fun y30 => (grd (decide (-9223372036854775808 ≤ s9.2 - 1 ∧ s9.2 - 1 ≤ 9223372036854775807)) (some (Ctl.go ((y30 : List Int), (s9.2 - 1)))))))))))) (some (Ctl.done ((s9.1 : List Int)))))
def o59f39_L1 (a : Int) (b : Int) (cmpc : List Msg) (s36 : (List Int) × Int) : Option (Ctl ((List Int) × Int) ((List Int))) :=
  (cond (decide (s36.2 ≥ 0)) (bindO (τ := (List Int)) (o70f39 (s36.1 : List Int) (s36.2 : Int) ((IntKind.i64.wrap (b - a)) : Int) (a : Int) (cmpc : List Msg)) fun y40 => (grd (decide (-9223372036854775808 ≤ s36.2 - 1 ∧ s36.2 - 1 ≤ 9223372036854775807)) (some (Ctl.go ((y40 : List Int), (s36.2 - 1)))))) (some (Ctl.done ((s36.1 : List Int)))))
def o59f39 (data : List Int) (a : Int) (b : Int) (cmpc : List Msg) : Option ((List Int)) :=
  (bindO (τ := (List Int)) (loopO (σ := (List Int) × Int) (ρ := (List Int)) fuelN (o59f39_L1 a b cmpc) ((data : List Int), (IntKind.i64.wrap (Int.tdiv (IntKind.i64.wrap ((IntKind.i64.wrap (b - a)) - 1)) 2)))) fun t1 => (bindO (τ := (List Int)) (loopO (σ := (List Int) × Int) (ρ := (List Int)) fuelN (o59f39_L0 a cmpc) ((t1 : List Int), (IntKind.i64.wrap ((IntKind.i64.wrap (b - a)) - 1)))) fun t4 => (some ((t4 : List Int)))))
set_option maxRecDepth 100000 in
theorem c59f39 (g : Gh) (data : List Int) (Adata : Option Addr) (cdata : Nat) (kdata : Option Bk) (a : Int) (b : Int) (a_cmpc : Addr) (cmpc : List Msg) (Acmpc : Option Addr) (ccmpc : Nat) (hdata : Buf g.b (tyI .i64) 3 (.slice Adata (data).length cdata) kdata data) (hc_cmpc : Cells g.r a_cmpc [vs Acmpc cmpc ccmpc]) (fcmpc : ArrM g.r g.b tyMsg Acmpc ccmpc cmpc) {r : (List Int)} (hS : o59f39 data a b cmpc = some r) :
    Ctr Try.prog 59 [vs Adata data cdata, vi a, vi b, Value.func (.func 39) #[] #[Value.pointer (some a_cmpc)]] g [kdata, none] (fun v ψ o => ∃ (ko_data : Option Bk), v = Value.tuple #[] ∧ o = [ko_data] ∧ Buf ψ (tyI .i64) 3 (.slice Adata (data).length cdata) ko_data r) := by
  unfold o59f39 at hS
  refine xFn Try.f59 (Try.f59.body.getD .skip) 60 ?_
  have nhdata := hdata.len
  have nfcmpc := fcmpc.len
  refine xSq ?_
  refine xRg ?_
  refine xB 2 [] [(0, vs Adata data cdata), (1, vi a), (2, vi b), (3, Value.func (.func 39) #[] #[Value.pointer (some a_cmpc)]), (8, vi a)] ?_
  refine xRe ?_
  refine wpq_then ?_
  refine xSq ?_
  refine xRg ?_
  refine xB 1 [] [(0, vs Adata data cdata), (1, vi a), (2, vi b), (3, Value.func (.func 39) #[] #[Value.pointer (some a_cmpc)]), (8, vi a), (9, vi 0)] ?_
  refine xRe ?_
  refine wpq_then ?_
  refine xSq ?_
  refine xRg ?_
  have z1 := i64_in_ (b - a)
  refine xB 4 [] [(0, vs Adata data cdata), (3, Value.func (.func 39) #[] #[Value.pointer (some a_cmpc)]), (8, vi a), (9, vi 0), (10, vi (IntKind.i64.wrap (b - a)))] ?_
  refine xRe ?_
  refine wpq_then ?_
  refine xSq ?_
  refine xSq ?_
  refine xRg ?_
  have z2 := i64_in_ ((IntKind.i64.wrap (b - a)) - 1)
  have z3 := i64_in_ (Int.tdiv (IntKind.i64.wrap ((IntKind.i64.wrap (b - a)) - 1)) 2)
  refine xB 2 [] [(0, vs Adata data cdata), (3, Value.func (.func 39) #[] #[Value.pointer (some a_cmpc)]), (8, vi a), (9, vi 0), (10, vi (IntKind.i64.wrap (b - a))), (18, vi (IntKind.i64.wrap ((IntKind.i64.wrap (b - a)) - 1)))] ?_
  refine xV (qQuo .i64 ((IntKind.i64.wrap ((IntKind.i64.wrap (b - a)) - 1))) (2) _ (by omega) rfl) ?_
  refine xB 1 [] [(0, vs Adata data cdata), (3, Value.func (.func 39) #[] #[Value.pointer (some a_cmpc)]), (8, vi a), (9, vi 0), (10, vi (IntKind.i64.wrap (b - a))), (11, vi (IntKind.i64.wrap (Int.tdiv (IntKind.i64.wrap ((IntKind.i64.wrap (b - a)) - 1)) 2)))] ?_
  refine xRe ?_
  refine wpq_then ?_
  refine xBindO hS (fun g own sl t1 => ∃ (k1_0 : Option Bk), own = [none, k1_0] ∧ sl = [(0, vs Adata t1 cdata), (3, Value.func (.func 39) #[] #[Value.pointer (some a_cmpc)]), (8, vi a), (9, vi 0), (10, vi (IntKind.i64.wrap (b - a)))] ∧ Buf g.b (tyI .i64) 3 (.slice Adata (t1).length cdata) k1_0 t1 ∧ (data).length = (t1).length) ?_ ?_
  · rintro g2 _ _ t1 e3 ⟨k1_0, rfl, rfl, h1_0, hz1_v0⟩ hS
    have nh1_0 := h1_0.len
    refine wpq_then ?_
    refine xSq ?_
    refine xRg ?_
    have z4 := i64_in_ ((IntKind.i64.wrap (b - a)) - 1)
    refine xB 3 [] [(0, vs Adata t1 cdata), (3, Value.func (.func 39) #[] #[Value.pointer (some a_cmpc)]), (8, vi a), (9, vi 0), (12, vi (IntKind.i64.wrap ((IntKind.i64.wrap (b - a)) - 1)))] ?_
    refine xRe ?_
    refine wpq_then ?_
    refine xBindO hS (fun g own sl t4 => ∃ (k4_0 : Option Bk), own = [none, k4_0] ∧ sl = [] ∧ Buf g.b (tyI .i64) 3 (.slice Adata (t4).length cdata) k4_0 t4 ∧ (data).length = (t4).length) ?_ ?_
    · rintro g5 _ _ t4 e6 ⟨k4_0, rfl, rfl, h4_0, hz4_v0⟩ hS
      have nh4_0 := h4_0.len
      have eS := (Option.some.inj hS).symm
      subst eS
      exact xFin [some 1] [] (e3.trans e6) ⟨k4_0, by kernel_rfl, by kernel_rfl, (Buf.re h4_0 hz4_v0.symm rfl)⟩
    · intro uu4 hS hN4
      refine xBl 2 ?_
      refine xSel [none, some 1] ?_
      refine xSub [(0, vs Adata t1 cdata), (3, Value.func (.func 39) #[] #[Value.pointer (some a_cmpc)]), (8, vi a), (9, vi 0), (12, vi (IntKind.i64.wrap ((IntKind.i64.wrap (b - a)) - 1)))] ?_
      refine xLo hS (fun g own sl s9 => ∃ (k9_0 : Option Bk), own = [none, k9_0] ∧ sl = [(0, vs Adata s9.1 cdata), (3, Value.func (.func 39) #[] #[Value.pointer (some a_cmpc)]), (8, vi a), (9, vi 0), (12, vi s9.2)] ∧ Buf g.b (tyI .i64) 3 (.slice Adata (s9.1).length cdata) k9_0 s9.1 ∧ (data).length = (s9.1).length) ⟨k1_0, by kernel_rfl, by kernel_rfl, h1_0, hz1_v0⟩ ?_
      rintro g10 _ _ s9 uu9 e11 ⟨k9_0, rfl, rfl, h9_0, hz9_v0⟩ hS Qr9 hN9 hD9
      have nh9_0 := h9_0.len
      unfold o59f39_L0 at hS
      refine xSq ?_
      refine xSq ?_
      refine xRg ?_
      refine xB 2 [] [(0, vs Adata s9.1 cdata), (3, Value.func (.func 39) #[] #[Value.pointer (some a_cmpc)]), (8, vi a), (9, vi 0), (12, vi s9.2), (33, vb (decide (s9.2 ≥ 0)))] ?_
      refine xRe ?_
      refine wpq_then ?_
      refine xCd (decide (s9.2 ≥ 0)) (fun h12 => ?_) (fun h12 => ?_)
      · have hS := cond_T h12 hS
        have h12p := of_decide_eq_true h12
        refine xSk ?_
        refine wpq_then ?_
        refine xSub [(0, vs Adata s9.1 cdata), (3, Value.func (.func 39) #[] #[Value.pointer (some a_cmpc)]), (8, vi a), (9, vi 0), (12, vi s9.2)] ?_
        refine xSq ?_
        refine xBl 3 ?_
        refine xSq ?_
        refine xDr 0 [11, 15] [17, 19, 16, 18] [k9_0] 20 (fun RG => ?_) (fun _ _ _ _ _ h => h)
        obtain ⟨q13, hS⟩ := grd_T hS
        have q13p := of_decide_eq_true q13
        refine xT 15 [0, 1, 2, 3, 4] [] [some 1] [(0, vs Adata s9.1 cdata), (3, Value.func (.func 39) #[] #[Value.pointer (some a_cmpc)]), (8, vi a), (9, vi 0), (12, vi s9.2), (36, vs Adata s9.1 cdata), (37, vi a), (38, vs Adata s9.1 cdata), (39, vi a), (40, vi s9.2)] RG (Psi.le.refl _) ?_
        refine xTp 5 RG (fun _ => (qAdd .i64 (a) (s9.2) (wr64 (by omega)))) ?_
        obtain ⟨q14, hS⟩ := grd_T hS
        have q14p := of_decide_eq_true q14
        refine xT 11 [6, 7, 8] [] [some 1] [(0, vs Adata s9.1 cdata), (3, Value.func (.func 39) #[] #[Value.pointer (some a_cmpc)]), (8, vi a), (9, vi 0), (12, vi s9.2), (36, vs Adata s9.1 cdata), (37, vi a), (38, vs Adata s9.1 cdata), (41, vi (a + s9.2)), (42, vs Adata s9.1 cdata), (43, vi a), (44, vi s9.2)] RG (Psi.le.refl _) ?_
        refine xTp 9 RG (fun _ => (qAdd .i64 (a) (s9.2) (wr64 (by omega)))) ?_
        obtain ⟨q16, hS⟩ := grd_T hS
        have q16p := of_decide_eq_true q16
        have i17 : ((a + s9.2)).toNat < (s9.1).length := by omega
        obtain ⟨kc15, cs15, hA15, hk15, hr15, hw15⟩ := h9_0.open_ i17 0
        obtain ⟨kb15, rfl⟩ : ∃ z, z = kc15 := ⟨_, rfl⟩
        subst hk15
        have hr15 : cs15 = [vi (List.getD s9.1 ((a + s9.2)).toNat 0)] := hr15
        subst hr15
        refine xTp 10 RG (fun _ => (qIxB ((a + s9.2)).toNat 1 kb15.g hA15 (show ((a + s9.2) : Int) = _ from by omega) i17)) ?_
        refine xTv 11 [some 1] RG (Psi.le.refl _) (qLdB ((a + s9.2)).toNat 1 0 0 hw15) ?_
        obtain ⟨q19, hS⟩ := grd_T hS
        have q19p := of_decide_eq_true q19
        have i20 : (a).toNat < (s9.1).length := by omega
        obtain ⟨kc18, cs18, hA18, hk18, hr18, hw18⟩ := h9_0.open_ i20 0
        cases hk18
        have hr18 : cs18 = [vi (List.getD s9.1 (a).toNat 0)] := hr18
        subst hr18
        refine xT 6 [12, 13] [] [some 1] [(0, vs Adata s9.1 cdata), (3, Value.func (.func 39) #[] #[Value.pointer (some a_cmpc)]), (8, vi a), (9, vi 0), (12, vi s9.2), (36, vs Adata s9.1 cdata), (37, vi a), (38, vs Adata s9.1 cdata), (41, vi (a + s9.2)), (47, vi (List.getD s9.1 ((a + s9.2)).toNat 0)), (48, vs Adata s9.1 cdata), (49, vi a)] RG (Psi.le.refl _) ?_
        refine xTp 14 RG (fun _ => (qIxB (a).toNat 1 kb15.g hA18 (show (a : Int) = _ from by omega) i20)) ?_
        refine xTv 15 [some 1] RG (Psi.le.refl _) (qLdB (a).toNat 1 0 0 hw18) ?_
        obtain ⟨q22, hS⟩ := grd_T hS
        have q22p := of_decide_eq_true q22
        have i23 : (a).toNat < (s9.1).length := by omega
        obtain ⟨kc21, cs21, hA21, hk21, hr21, hw21⟩ := h9_0.open_ i23 0
        cases hk21
        have hr21 : cs21 = [vi (List.getD s9.1 (a).toNat 0)] := hr21
        subst hr21
        refine xTp 16 RG (fun _ => (qIxB (a).toNat 1 kb15.g hA21 (show (a : Int) = _ from by omega) i23)) ?_
        refine xO1 (lds := [11, 15]) 17 ?_
        refine xId (lds := [11, 15]) (Psi.le.refl _) (eStB (a).toNat 1 0 1 [vi (List.getD s9.1 ((a + s9.2)).toNat 0)] h9_0 rfl hw21 (show (tyI .i64).rep _ _ _ from rfl) i23) ?_
        rintro _ _ _ - ⟨k24, rfl, rfl, h24⟩
        refine kf ?_
        have hz24 : (s9.1).length = ((List.set s9.1 (a).toNat ((List.getD s9.1 ((a + s9.2)).toNat 0) : Int))).length := by simp
        have hz24_1 : (data).length = ((List.set s9.1 (a).toNat ((List.getD s9.1 ((a + s9.2)).toNat 0) : Int))).length := hz9_v0.trans hz24
        obtain ⟨q26, hS⟩ := grd_T hS
        have q26p := of_decide_eq_true q26
        have i27 : ((a + s9.2)).toNat < ((List.set s9.1 (a).toNat ((List.getD s9.1 ((a + s9.2)).toNat 0) : Int))).length := by omega
        have i28 : ((a + s9.2)).toNat < (s9.1).length := by have := hz24; omega
        obtain ⟨kc25, cs25, hA25, hk25, hr25, hw25⟩ := h24.open_ i27 0
        obtain ⟨kb25, rfl⟩ : ∃ z, z = kc25 := ⟨_, rfl⟩
        subst hk25
        have hr25 : cs25 = [vi (List.getD (List.set s9.1 (a).toNat ((List.getD s9.1 ((a + s9.2)).toNat 0) : Int)) ((a + s9.2)).toNat 0)] := hr25
        subst hr25
        refine xTp 18 RG (fun _ => (qIxB ((a + s9.2)).toNat 1 kb25.g hA25 (show ((a + s9.2) : Int) = _ from by omega) i28)) ?_
        refine xO1 (lds := [11, 15]) 19 ?_
        refine xId (lds := [11, 15]) (Psi.le.refl _) (eStB ((a + s9.2)).toNat 1 0 1 [vi (List.getD s9.1 (a).toNat 0)] h24 rfl hw25 (show (tyI .i64).rep _ _ _ from rfl) i27) ?_
        rintro _ _ _ - ⟨k29, rfl, rfl, h29⟩
        refine kf ?_
        have hz29 : (s9.1).length = ((List.set (List.set s9.1 (a).toNat ((List.getD s9.1 ((a + s9.2)).toNat 0) : Int)) ((a + s9.2)).toNat ((List.getD s9.1 (a).toNat 0) : Int))).length := hz24.trans (by simp)
        have hz29_1 : (data).length = ((List.set (List.set s9.1 (a).toNat ((List.getD s9.1 ((a + s9.2)).toNat 0) : Int)) ((a + s9.2)).toNat ((List.getD s9.1 (a).toNat 0) : Int))).length := hz24_1.trans (hz24.symm.trans hz29)
        refine xAe (lds := [11, 15]) ?_
        refine wpq_then ?_
        refine xSub [(0, Value.slice Adata ((s9.1).length) cdata), (3, Value.func (.func 39) #[] #[Value.pointer (some a_cmpc)]), (8, vi a), (9, vi 0), (12, vi s9.2)] ?_
        refine xRg ?_
        refine xB 5 [] [(0, Value.slice Adata ((s9.1).length) cdata), (3, Value.func (.func 39) #[] #[Value.pointer (some a_cmpc)]), (8, vi a), (9, vi 0), (12, vi s9.2), (54, Value.slice Adata ((s9.1).length) cdata), (55, vi 0), (56, vi s9.2), (57, vi a), (58, Value.func (.func 39) #[] #[Value.pointer (some a_cmpc)])] ?_
        refine wpq_re 0 (v := Value.slice Adata ((s9.1).length) cdata) (vs Adata (List.set (List.set s9.1 (a).toNat ((List.getD s9.1 ((a + s9.2)).toNat 0) : Int)) ((a + s9.2)).toNat ((List.getD s9.1 (a).toNat 0) : Int)) cdata) (by kernel_rfl) (congrArg (fun z => Value.slice Adata z cdata) hz29) ?_
        have h29 := Buf.re h29 hz29 (rfl : (List.set (List.set s9.1 (a).toNat ((List.getD s9.1 ((a + s9.2)).toNat 0) : Int)) ((a + s9.2)).toNat ((List.getD s9.1 (a).toNat 0) : Int)) = _)
        refine wpq_re 54 (v := Value.slice Adata ((s9.1).length) cdata) (vs Adata (List.set (List.set s9.1 (a).toNat ((List.getD s9.1 ((a + s9.2)).toNat 0) : Int)) ((a + s9.2)).toNat ((List.getD s9.1 (a).toNat 0) : Int)) cdata) (by kernel_rfl) (congrArg (fun z => Value.slice Adata z cdata) hz29) ?_
        refine xSel [some 1, none, some 0] ?_
        have hc_cmpc := hc_cmpc.mono (e3.trans e11).r
        have fcmpc := fcmpc.mono (e3.trans e11).r (e3.trans e11).b
        obtain ⟨y30, hy30, hS⟩ := bindO_T hS
        refine xE (eC 2 (fun g' lr eb ln => c70f39 g' ((List.set (List.set s9.1 (a).toNat ((List.getD s9.1 ((a + s9.2)).toNat 0) : Int)) ((a + s9.2)).toNat ((List.getD s9.1 (a).toNat 0) : Int)) : List Int) Adata cdata k29 (0 : Int) (s9.2 : Int) (a : Int) a_cmpc (cmpc : List Msg) Acmpc ccmpc (by rw [eb]; exact h29) (hc_cmpc.mono lr) (ArrM.lent fcmpc lr eb) hy30)) ?_
        rintro _ g31 _ e32 ⟨_, rfl, k30_data, rfl, rfl, h30_data⟩
        have nh30_data := h30_data.len
        have hz30_data : ((List.set (List.set s9.1 (a).toNat ((List.getD s9.1 ((a + s9.2)).toNat 0) : Int)) ((a + s9.2)).toNat ((List.getD s9.1 (a).toNat 0) : Int))).length = (y30).length := h30_data.leneq
        have hz30_data_1 : (data).length = (y30).length := hz29_1.trans hz30_data
        refine xRe ?_
        refine wpq_blockN ?_
        refine wpq_then ?_
        refine xSub [(0, Value.slice Adata (((List.set (List.set s9.1 (a).toNat ((List.getD s9.1 ((a + s9.2)).toNat 0) : Int)) ((a + s9.2)).toNat ((List.getD s9.1 (a).toNat 0) : Int))).length) cdata), (3, Value.func (.func 39) #[] #[Value.pointer (some a_cmpc)]), (8, vi a), (9, vi 0), (12, vi s9.2)] ?_
        refine xRg ?_
        obtain ⟨q33, hS⟩ := grd_T hS
        have q33p := of_decide_eq_true q33
        refine xB 1 [] [(0, Value.slice Adata (((List.set (List.set s9.1 (a).toNat ((List.getD s9.1 ((a + s9.2)).toNat 0) : Int)) ((a + s9.2)).toNat ((List.getD s9.1 (a).toNat 0) : Int))).length) cdata), (3, Value.func (.func 39) #[] #[Value.pointer (some a_cmpc)]), (8, vi a), (9, vi 0), (12, vi s9.2), (34, vi s9.2)] ?_
        refine xV (qSub .i64 (s9.2) (1) (wr64 (by omega))) ?_
        refine xB 1 [] [(0, Value.slice Adata (((List.set (List.set s9.1 (a).toNat ((List.getD s9.1 ((a + s9.2)).toNat 0) : Int)) ((a + s9.2)).toNat ((List.getD s9.1 (a).toNat 0) : Int))).length) cdata), (3, Value.func (.func 39) #[] #[Value.pointer (some a_cmpc)]), (8, vi a), (9, vi 0), (12, vi (s9.2 - 1))] ?_
        refine xRe ?_
        refine wpq_thenN ?_
        refine wpq_re 0 (v := Value.slice Adata (((List.set (List.set s9.1 (a).toNat ((List.getD s9.1 ((a + s9.2)).toNat 0) : Int)) ((a + s9.2)).toNat ((List.getD s9.1 (a).toNat 0) : Int))).length) cdata) (vs Adata y30 cdata) (by kernel_rfl) (congrArg (fun z => Value.slice Adata z cdata) hz30_data) ?_
        have h30_data := Buf.re h30_data hz30_data (rfl : y30 = _)
        refine xSel [none, some 0] ?_
        refine xSub [(0, vs Adata y30 cdata), (3, Value.func (.func 39) #[] #[Value.pointer (some a_cmpc)]), (8, vi a), (9, vi 0), (12, vi (s9.2 - 1))] ?_
        have eS := (Option.some.inj hS).symm
        exact hN9 _ eS _ _ _ e32 ⟨k30_data, by kernel_rfl, by kernel_rfl, h30_data, hz30_data_1⟩
      · have hS := cond_F h12 hS
        have h12p := of_decide_eq_false h12
        refine xEx 2 ?_
        refine wpq_thenX ?_
        refine wpq_thenX ?_
        refine wpq_blockE ?_
        refine xSel [none, some 1] ?_
        refine xSub [] ?_
        have eS := (Option.some.inj hS).symm
        have eS := (hD9 _ eS).symm
        exact hN4 _ eS _ _ _ e11 ⟨k9_0, by kernel_rfl, by kernel_rfl, h9_0, hz9_v0⟩
  · intro uu1 hS hN1
    refine xBl 0 ?_
    refine xSel [none, some 0] ?_
    refine xSub [(0, vs Adata data cdata), (3, Value.func (.func 39) #[] #[Value.pointer (some a_cmpc)]), (8, vi a), (9, vi 0), (10, vi (IntKind.i64.wrap (b - a))), (11, vi (IntKind.i64.wrap (Int.tdiv (IntKind.i64.wrap ((IntKind.i64.wrap (b - a)) - 1)) 2)))] ?_
    refine xLo hS (fun g own sl s36 => ∃ (k36_0 : Option Bk), own = [none, k36_0] ∧ sl = [(0, vs Adata s36.1 cdata), (3, Value.func (.func 39) #[] #[Value.pointer (some a_cmpc)]), (8, vi a), (9, vi 0), (10, vi (IntKind.i64.wrap (b - a))), (11, vi s36.2)] ∧ Buf g.b (tyI .i64) 3 (.slice Adata (s36.1).length cdata) k36_0 s36.1 ∧ (data).length = (s36.1).length) ⟨kdata, by kernel_rfl, by kernel_rfl, hdata, rfl⟩ ?_
    rintro g37 _ _ s36 uu36 e38 ⟨k36_0, rfl, rfl, h36_0, hz36_v0⟩ hS Qr36 hN36 hD36
    have nh36_0 := h36_0.len
    unfold o59f39_L1 at hS
    refine xSq ?_
    refine xSq ?_
    refine xRg ?_
    refine xB 2 [] [(0, vs Adata s36.1 cdata), (3, Value.func (.func 39) #[] #[Value.pointer (some a_cmpc)]), (8, vi a), (9, vi 0), (10, vi (IntKind.i64.wrap (b - a))), (11, vi s36.2), (21, vb (decide (s36.2 ≥ 0)))] ?_
    refine xRe ?_
    refine wpq_then ?_
    refine xCd (decide (s36.2 ≥ 0)) (fun h39 => ?_) (fun h39 => ?_)
    · have hS := cond_T h39 hS
      have h39p := of_decide_eq_true h39
      refine xSk ?_
      refine wpq_then ?_
      refine xSub [(0, vs Adata s36.1 cdata), (3, Value.func (.func 39) #[] #[Value.pointer (some a_cmpc)]), (8, vi a), (9, vi 0), (10, vi (IntKind.i64.wrap (b - a))), (11, vi s36.2)] ?_
      refine xSq ?_
      refine xBl 1 ?_
      refine xRg ?_
      refine xB 5 [] [(0, vs Adata s36.1 cdata), (3, Value.func (.func 39) #[] #[Value.pointer (some a_cmpc)]), (8, vi a), (9, vi 0), (10, vi (IntKind.i64.wrap (b - a))), (11, vi s36.2), (24, vs Adata s36.1 cdata), (25, vi s36.2), (26, vi (IntKind.i64.wrap (b - a))), (27, vi a), (28, Value.func (.func 39) #[] #[Value.pointer (some a_cmpc)])] ?_
      refine xSel [some 1, none, some 0] ?_
      have hc_cmpc := hc_cmpc.mono e38.r
      have fcmpc := fcmpc.mono e38.r e38.b
      obtain ⟨y40, hy40, hS⟩ := bindO_T hS
      refine xE (eC 2 (fun g' lr eb ln => c70f39 g' (s36.1 : List Int) Adata cdata k36_0 (s36.2 : Int) ((IntKind.i64.wrap (b - a)) : Int) (a : Int) a_cmpc (cmpc : List Msg) Acmpc ccmpc (by rw [eb]; exact h36_0) (hc_cmpc.mono lr) (ArrM.lent fcmpc lr eb) hy40)) ?_
      rintro _ g41 _ e42 ⟨_, rfl, k40_data, rfl, rfl, h40_data⟩
      have nh40_data := h40_data.len
      have hz40_data : (s36.1).length = (y40).length := h40_data.leneq
      have hz40_data_1 : (data).length = (y40).length := hz36_v0.trans hz40_data
      refine xRe ?_
      refine wpq_blockN ?_
      refine wpq_then ?_
      refine xSub [(0, Value.slice Adata ((s36.1).length) cdata), (3, Value.func (.func 39) #[] #[Value.pointer (some a_cmpc)]), (8, vi a), (9, vi 0), (10, vi (IntKind.i64.wrap (b - a))), (11, vi s36.2)] ?_
      refine xRg ?_
      obtain ⟨q43, hS⟩ := grd_T hS
      have q43p := of_decide_eq_true q43
      refine xB 1 [] [(0, Value.slice Adata ((s36.1).length) cdata), (3, Value.func (.func 39) #[] #[Value.pointer (some a_cmpc)]), (8, vi a), (9, vi 0), (10, vi (IntKind.i64.wrap (b - a))), (11, vi s36.2), (22, vi s36.2)] ?_
      refine xV (qSub .i64 (s36.2) (1) (wr64 (by omega))) ?_
      refine xB 1 [] [(0, Value.slice Adata ((s36.1).length) cdata), (3, Value.func (.func 39) #[] #[Value.pointer (some a_cmpc)]), (8, vi a), (9, vi 0), (10, vi (IntKind.i64.wrap (b - a))), (11, vi (s36.2 - 1))] ?_
      refine xRe ?_
      refine wpq_thenN ?_
      refine wpq_re 0 (v := Value.slice Adata ((s36.1).length) cdata) (vs Adata y40 cdata) (by kernel_rfl) (congrArg (fun z => Value.slice Adata z cdata) hz40_data) ?_
      have h40_data := Buf.re h40_data hz40_data (rfl : y40 = _)
      refine xSel [none, some 0] ?_
      refine xSub [(0, vs Adata y40 cdata), (3, Value.func (.func 39) #[] #[Value.pointer (some a_cmpc)]), (8, vi a), (9, vi 0), (10, vi (IntKind.i64.wrap (b - a))), (11, vi (s36.2 - 1))] ?_
      have eS := (Option.some.inj hS).symm
      exact hN36 _ eS _ _ _ e42 ⟨k40_data, by kernel_rfl, by kernel_rfl, h40_data, hz40_data_1⟩
    · have hS := cond_F h39 hS
      have h39p := of_decide_eq_false h39
      refine xEx 0 ?_
      refine wpq_thenX ?_
      refine wpq_thenX ?_
      refine wpq_blockE ?_
      refine xSel [none, some 1] ?_
      refine xSub [(0, vs Adata s36.1 cdata), (3, Value.func (.func 39) #[] #[Value.pointer (some a_cmpc)]), (8, vi a), (9, vi 0), (10, vi (IntKind.i64.wrap (b - a)))] ?_
      have eS := (Option.some.inj hS).symm
      have eS := (hD36 _ eS).symm
      exact hN1 _ eS _ _ _ e38 ⟨k36_0, by kernel_rfl, by kernel_rfl, h36_0, hz36_v0⟩

def o71 (length : Int) : Option (Int) :=
  (bindO (τ := Int) (o53 ((IntKind.u64.wrap length) : Int)) fun y1 => (grd (decide (0 ≤ y1)) (some (((shlK .u64 1 y1) : Int)))))
set_option maxRecDepth 100000 in
theorem c71 (g : Gh) (length : Int) {r : Int} (hS : o71 length = some r) :
    Ctr Try.prog 71 [vi length] g [] (fun v ψ o => v = Value.int .u64 r ∧ o = []) := by
  unfold o71 at hS
  refine xFn Try.f71 (Try.f71.body.getD .skip) 7 ?_
  refine xSq ?_
  refine xRg ?_
  refine xB 1 [] [(0, vi length)] ?_
  refine xRe ?_
  refine wpq_then ?_
  refine xSq ?_
  refine xRg ?_
  have z1 := u64_in_ length
  refine xB 2 [] [(4, Value.int .u64 (IntKind.u64.wrap length))] ?_
  obtain ⟨y1, hy1, hS⟩ := bindO_T hS
  refine xE (eC 0 (fun g' lr eb ln => c53 g' ((IntKind.u64.wrap length) : Int) hy1)) ?_
  rintro _ g2 _ e3 ⟨_, rfl, rfl, rfl⟩
  obtain ⟨q4, hS⟩ := grd_T hS
  have q4p := of_decide_eq_true q4
  refine xV (qShl .u64 .i64 (1) (y1) (by omega)) ?_
  refine xB 1 [] [(2, Value.int .u64 (shlK .u64 1 y1))] ?_
  refine xRe ?_
  refine wpq_then ?_
  have eS := (Option.some.inj hS).symm
  subst eS
  exact xRet [] [2] e3 ⟨by kernel_rfl, by kernel_rfl⟩ (fun _ _ h => h)

def o72 (r_ : Int) : Int × Int :=
  ((((lxorK .u64 (lxorK .u64 (lxorK .u64 r_ (shlK .u64 r_ 13)) (shrK .u64 (lxorK .u64 r_ (shlK .u64 r_ 13)) 7)) (shlK .u64 (lxorK .u64 (lxorK .u64 r_ (shlK .u64 r_ 13)) (shrK .u64 (lxorK .u64 r_ (shlK .u64 r_ 13)) 7)) 17)) : Int), ((lxorK .u64 (lxorK .u64 (lxorK .u64 r_ (shlK .u64 r_ 13)) (shrK .u64 (lxorK .u64 r_ (shlK .u64 r_ 13)) 7)) (shlK .u64 (lxorK .u64 (lxorK .u64 r_ (shlK .u64 r_ 13)) (shrK .u64 (lxorK .u64 r_ (shlK .u64 r_ 13)) 7)) 17)) : Int)))
set_option maxRecDepth 100000 in
theorem c72 (g : Gh) (b_r_ : Nat) (r_ : Int) {r : Int × Int} (hS : o72 r_ = r) :
    Ctr Try.prog 72 [vp b_r_ 0] g [some ⟨b_r_, 109, [Value.int .u64 r_]⟩] (fun v ψ o => v = Value.int .u64 r.2 ∧ o = [some ⟨b_r_, 109, [Value.int .u64 r.1]⟩]) := by
  unfold o72 at hS
  refine xFn Try.f72 (Try.f72.body.getD .skip) 33 ?_
  refine xSq ?_
  refine xRg ?_
  refine xB 1 [] [(0, vp b_r_ 0)] ?_
  refine xRe ?_
  refine wpq_then ?_
  refine xSq ?_
  refine xDr 0 [2, 5] [9, 8] [some ⟨b_r_, 109, [Value.int .u64 r_]⟩] 10 (fun RG => ?_) (fun _ _ _ _ _ h => h)
  refine xT 1 [0, 1, 2, 3, 4, 5, 6, 7, 8] [(2, 0), (5, 0)] [some 0] [(0, vp b_r_ 0), (10, Value.int .u64 (lxorK .u64 r_ (shlK .u64 r_ 13))), (11, vp b_r_ 0)] RG (Psi.le.refl _) ?_
  refine xO1 (lds := [2, 5]) 9 ?_
  refine xId (lds := [2, 5]) (Psi.le.refl _) (eStL b_r_ 0 0) ?_
  rintro _ _ _ - ⟨rfl, rfl⟩
  refine kf ?_
  refine xAe (lds := [2, 5]) ?_
  refine wpq_then ?_
  refine xSub [(0, vp b_r_ 0)] ?_
  refine xSq ?_
  refine xDr 0 [2, 5] [9, 8] [some ⟨b_r_, 109, [Value.int .u64 (lxorK .u64 r_ (shlK .u64 r_ 13))]⟩] 10 (fun RG => ?_) (fun _ _ _ _ _ h => h)
  refine xT 1 [0, 1, 2, 3, 4, 5, 6, 7, 8] [(2, 0), (5, 0)] [some 0] [(0, vp b_r_ 0), (19, Value.int .u64 (lxorK .u64 (lxorK .u64 r_ (shlK .u64 r_ 13)) (shrK .u64 (lxorK .u64 r_ (shlK .u64 r_ 13)) 7))), (20, vp b_r_ 0)] RG (Psi.le.refl _) ?_
  refine xO1 (lds := [2, 5]) 9 ?_
  refine xId (lds := [2, 5]) (Psi.le.refl _) (eStL b_r_ 0 0) ?_
  rintro _ _ _ - ⟨rfl, rfl⟩
  refine kf ?_
  refine xAe (lds := [2, 5]) ?_
  refine wpq_then ?_
  refine xSub [(0, vp b_r_ 0)] ?_
  refine xSq ?_
  refine xDr 0 [2, 5] [9, 8] [some ⟨b_r_, 109, [Value.int .u64 (lxorK .u64 (lxorK .u64 r_ (shlK .u64 r_ 13)) (shrK .u64 (lxorK .u64 r_ (shlK .u64 r_ 13)) 7))]⟩] 10 (fun RG => ?_) (fun _ _ _ _ _ h => h)
  refine xT 1 [0, 1, 2, 3, 4, 5, 6, 7, 8] [(2, 0), (5, 0)] [some 0] [(0, vp b_r_ 0), (28, Value.int .u64 (lxorK .u64 (lxorK .u64 (lxorK .u64 r_ (shlK .u64 r_ 13)) (shrK .u64 (lxorK .u64 r_ (shlK .u64 r_ 13)) 7)) (shlK .u64 (lxorK .u64 (lxorK .u64 r_ (shlK .u64 r_ 13)) (shrK .u64 (lxorK .u64 r_ (shlK .u64 r_ 13)) 7)) 17))), (29, vp b_r_ 0)] RG (Psi.le.refl _) ?_
  refine xO1 (lds := [2, 5]) 9 ?_
  refine xId (lds := [2, 5]) (Psi.le.refl _) (eStL b_r_ 0 0) ?_
  rintro _ _ _ - ⟨rfl, rfl⟩
  refine kf ?_
  refine xAe (lds := [2, 5]) ?_
  refine wpq_then ?_
  refine xSub [(0, vp b_r_ 0)] ?_
  refine xSq ?_
  refine xRg ?_
  refine xB 4 [(2, 0)] [(2, Value.int .u64 (lxorK .u64 (lxorK .u64 (lxorK .u64 r_ (shlK .u64 r_ 13)) (shrK .u64 (lxorK .u64 r_ (shlK .u64 r_ 13)) 7)) (shlK .u64 (lxorK .u64 (lxorK .u64 r_ (shlK .u64 r_ 13)) (shrK .u64 (lxorK .u64 r_ (shlK .u64 r_ 13)) 7)) 17)))] ?_
  refine xRe ?_
  refine wpq_then ?_
  have eS := hS.symm
  subst eS
  exact xRet [some 0] [2] (Gh.le.refl _) ⟨by kernel_rfl, by kernel_rfl⟩ (fun _ _ h => h)

def o60f39_L0 (a : Int) (b : Int) (y6 : Int) (s14 : (List Int) × Int × Int) : Option (Ctl ((List Int) × Int × Int) ((List Int))) :=
  (cond (decide (s14.2.1 ≤ (IntKind.i64.wrap ((IntKind.i64.wrap (a + (IntKind.i64.wrap (((IntKind.i64.wrap (b - a)) / 4) * 2)))) + 1)))) (letJ (τ := Int × Int) (o72 (s14.2.2 : Int)) fun y18 => (bindO (τ := Int) (cond (decide ((IntKind.i64.wrap (landK .u64 y18.2 (IntKind.u64.wrap (y6 - 1)))) ≥ (IntKind.i64.wrap (b - a)))) (grd (decide (-9223372036854775808 ≤ (IntKind.i64.wrap (landK .u64 y18.2 (IntKind.u64.wrap (y6 - 1)))) - (IntKind.i64.wrap (b - a)) ∧ (IntKind.i64.wrap (landK .u64 y18.2 (IntKind.u64.wrap (y6 - 1)))) - (IntKind.i64.wrap (b - a)) ≤ 9223372036854775807)) (some (((IntKind.i64.wrap (landK .u64 y18.2 (IntKind.u64.wrap (y6 - 1)))) - (IntKind.i64.wrap (b - a)))))) (some ((IntKind.i64.wrap (landK .u64 y18.2 (IntKind.u64.wrap (y6 - 1))))))) fun t21 => (grd (decide (0 ≤ (IntKind.i64.wrap (a + t21)) ∧ (IntKind.i64.wrap (a + t21)) < (((s14.1).length : Nat) : Int))) (grd (decide (0 ≤ s14.2.1 ∧ s14.2.1 < (((s14.1).length : Nat) : Int))) (grd (decide (0 ≤ s14.2.1 ∧ s14.2.1 < (((s14.1).length : Nat) : Int))) (grd (decide (0 ≤ (IntKind.i64.wrap (a + t21)) ∧ (IntKind.i64.wrap (a + t21)) < ((((List.set s14.1 (s14.2.1).toNat ((List.getD s14.1 ((IntKind.i64.wrap (a + t21))).toNat 0) : Int))).length : Nat) : Int))) (some (Ctl.go (((List.set (List.set s14.1 (s14.2.1).toNat ((List.getD s14.1 ((IntKind.i64.wrap (a + t21))).toNat 0) : Int)) ((IntKind.i64.wrap (a + t21))).toNat ((List.getD s14.1 (s14.2.1).toNat 0) : Int)) : List Int), (IntKind.i64.wrap (s14.2.1 + 1)), y18.1))))))))) (some (Ctl.done ((s14.1 : List Int)))))
def o60f39 (data : List Int) (a : Int) (b : Int) (cmpc : List Msg) : Option ((List Int)) :=
  (bindO (τ := (List Int)) (cond (decide ((IntKind.i64.wrap (b - a)) ≥ 8)) (bindO (τ := Int) (o71 ((IntKind.i64.wrap (b - a)) : Int)) fun y6 => (bindO (τ := (List Int)) (loopO (σ := (List Int) × Int × Int) (ρ := (List Int)) fuelN (o60f39_L0 a b y6) ((data : List Int), (IntKind.i64.wrap ((IntKind.i64.wrap (a + (IntKind.i64.wrap (((IntKind.i64.wrap (b - a)) / 4) * 2)))) - 1)), (IntKind.u64.wrap (IntKind.i64.wrap (b - a))))) fun t9 => (some ((t9 : List Int))))) (some ((data : List Int)))) fun t1 => (some ((t1 : List Int))))
set_option maxRecDepth 100000 in
theorem c60f39 (g : Gh) (data : List Int) (Adata : Option Addr) (cdata : Nat) (kdata : Option Bk) (a : Int) (b : Int) (a_cmpc : Addr) (cmpc : List Msg) (Acmpc : Option Addr) (ccmpc : Nat) (hdata : Buf g.b (tyI .i64) 3 (.slice Adata (data).length cdata) kdata data) (hc_cmpc : Cells g.r a_cmpc [vs Acmpc cmpc ccmpc]) (fcmpc : ArrM g.r g.b tyMsg Acmpc ccmpc cmpc) {r : (List Int)} (hS : o60f39 data a b cmpc = some r) :
    Ctr Try.prog 60 [vs Adata data cdata, vi a, vi b, Value.func (.func 39) #[] #[Value.pointer (some a_cmpc)]] g [kdata, none] (fun v ψ o => ∃ (ko_data : Option Bk), v = Value.tuple #[] ∧ o = [ko_data] ∧ Buf ψ (tyI .i64) 3 (.slice Adata (data).length cdata) ko_data r) := by
  unfold o60f39 at hS
  refine xFn Try.f60 (Try.f60.body.getD .skip) 67 ?_
  have nhdata := hdata.len
  have nfcmpc := fcmpc.len
  refine xSq ?_
  refine xRg ?_
  have z1 := i64_in_ (b - a)
  refine xB 4 [] [(0, vs Adata data cdata), (1, vi a), (8, vi (IntKind.i64.wrap (b - a)))] ?_
  refine xRe ?_
  refine wpq_then ?_
  refine xSq ?_
  refine xRg ?_
  refine xB 2 [] [(0, vs Adata data cdata), (1, vi a), (8, vi (IntKind.i64.wrap (b - a))), (17, vb (decide ((IntKind.i64.wrap (b - a)) ≥ 8)))] ?_
  refine xRe ?_
  refine wpq_then ?_
  refine xBindO hS (fun g own sl t1 => ∃ (k1_0 : Option Bk), own = [none, k1_0] ∧ sl = [] ∧ Buf g.b (tyI .i64) 3 (.slice Adata (t1).length cdata) k1_0 t1 ∧ (data).length = (t1).length) ?_ ?_
  · rintro g2 _ _ t1 e3 ⟨k1_0, rfl, rfl, h1_0, hz1_v0⟩ hS
    have nh1_0 := h1_0.len
    have eS := (Option.some.inj hS).symm
    subst eS
    exact xFin [some 1] [] e3 ⟨k1_0, by kernel_rfl, by kernel_rfl, (Buf.re h1_0 hz1_v0.symm rfl)⟩
  · intro uu1 hS hN1
    refine xCd (decide ((IntKind.i64.wrap (b - a)) ≥ 8)) (fun h4 => ?_) (fun h4 => ?_)
    · have hS := cond_T h4 hS
      have h4p := of_decide_eq_true h4
      refine xSq ?_
      refine xRg ?_
      have z78 := u64_in_ (IntKind.i64.wrap (b - a))
      refine xB 2 [] [(0, vs Adata data cdata), (1, vi a), (8, vi (IntKind.i64.wrap (b - a))), (19, Value.int .u64 (IntKind.u64.wrap (IntKind.i64.wrap (b - a))))] ?_
      refine xE eB ?_
      rintro _ _ _ - ⟨b5, rfl, rfl, rfl⟩
      refine xBo 1 [(3, 0)] [some ⟨b5, 109, [Value.int .u64 (IntKind.u64.wrap (IntKind.i64.wrap (b - a)))]⟩, kdata, none] [(0, vs Adata data cdata), (1, vi a), (8, vi (IntKind.i64.wrap (b - a))), (9, vp b5 0)] ?_
      refine xRe ?_
      refine wpq_then ?_
      refine xSq ?_
      refine xRg ?_
      refine xB 1 [] [(0, vs Adata data cdata), (1, vi a), (8, vi (IntKind.i64.wrap (b - a))), (9, vp b5 0), (20, vi (IntKind.i64.wrap (b - a)))] ?_
      obtain ⟨y6, hy6, hS⟩ := bindO_T hS
      refine xE (eC 0 (fun g' lr eb ln => c71 g' ((IntKind.i64.wrap (b - a)) : Int) hy6)) ?_
      rintro _ g7 _ e8 ⟨_, rfl, rfl, rfl⟩
      refine xB 1 [] [(0, vs Adata data cdata), (1, vi a), (8, vi (IntKind.i64.wrap (b - a))), (9, vp b5 0), (10, Value.int .u64 y6)] ?_
      refine xRe ?_
      refine wpq_then ?_
      refine xSq ?_
      refine xRg ?_
      refine xB 2 [] [(0, vs Adata data cdata), (1, vi a), (8, vi (IntKind.i64.wrap (b - a))), (9, vp b5 0), (10, Value.int .u64 y6), (22, vi a), (23, vi (IntKind.i64.wrap (b - a)))] ?_
      refine xV (qQuo .i64 ((IntKind.i64.wrap (b - a))) (4) _ (by omega) (IntWalk.i64_quo _ _ (by omega))) ?_
      have z79 := i64_in_ (((IntKind.i64.wrap (b - a)) / 4) * 2)
      have z80 := i64_in_ (a + (IntKind.i64.wrap (((IntKind.i64.wrap (b - a)) / 4) * 2)))
      have z81 := i64_in_ ((IntKind.i64.wrap (a + (IntKind.i64.wrap (((IntKind.i64.wrap (b - a)) / 4) * 2)))) - 1)
      refine xB 4 [] [(0, vs Adata data cdata), (1, vi a), (8, vi (IntKind.i64.wrap (b - a))), (9, vp b5 0), (10, Value.int .u64 y6), (11, vi (IntKind.i64.wrap ((IntKind.i64.wrap (a + (IntKind.i64.wrap (((IntKind.i64.wrap (b - a)) / 4) * 2)))) - 1)))] ?_
      refine xRe ?_
      refine wpq_then ?_
      refine xBindO hS (fun g own sl t9 => ∃ (k9_0 : Option Bk), own = [none, k9_0] ∧ sl = [] ∧ Buf g.b (tyI .i64) 3 (.slice Adata (t9).length cdata) k9_0 t9 ∧ (data).length = (t9).length) ?_ ?_
      · rintro g10 _ _ t9 e11 ⟨k9_0, rfl, rfl, h9_0, hz9_v0⟩ hS
        have nh9_0 := h9_0.len
        refine xSel [none, some 1] ?_
        refine xSub [] ?_
        have eS := (Option.some.inj hS).symm
        exact hN1 _ eS _ _ _ (e8.trans e11) ⟨k9_0, by kernel_rfl, by kernel_rfl, h9_0, hz9_v0⟩
      · intro uu9 hS hN9
        refine xBl 0 ?_
        have hdata := hdata.mono e8.b
        refine xSel [some 0, none, some 1] ?_
        refine xSub [(0, vs Adata data cdata), (1, vi a), (8, vi (IntKind.i64.wrap (b - a))), (9, vp b5 0), (10, Value.int .u64 y6), (11, vi (IntKind.i64.wrap ((IntKind.i64.wrap (a + (IntKind.i64.wrap (((IntKind.i64.wrap (b - a)) / 4) * 2)))) - 1)))] ?_
        refine xLo hS (fun g own sl s14 => ∃ (k14_0 : Option Bk), own = [some ⟨b5, 109, [Value.int .u64 s14.2.2]⟩, none, k14_0] ∧ sl = [(0, vs Adata s14.1 cdata), (1, vi a), (8, vi (IntKind.i64.wrap (b - a))), (9, vp b5 0), (10, Value.int .u64 y6), (11, vi s14.2.1)] ∧ Buf g.b (tyI .i64) 3 (.slice Adata (s14.1).length cdata) k14_0 s14.1 ∧ (data).length = (s14.1).length) ⟨kdata, by kernel_rfl, by kernel_rfl, hdata, rfl⟩ ?_
        rintro g15 _ _ s14 uu14 e16 ⟨k14_0, rfl, rfl, h14_0, hz14_v0⟩ hS Qr14 hN14 hD14
        have nh14_0 := h14_0.len
        unfold o60f39_L0 at hS
        refine xSq ?_
        refine xSq ?_
        refine xRg ?_
        refine xB 3 [] [(0, vs Adata s14.1 cdata), (1, vi a), (8, vi (IntKind.i64.wrap (b - a))), (9, vp b5 0), (10, Value.int .u64 y6), (11, vi s14.2.1), (28, vi s14.2.1), (29, vi a), (30, vi (IntKind.i64.wrap (b - a)))] ?_
        refine xV (qQuo .i64 ((IntKind.i64.wrap (b - a))) (4) _ (by omega) (IntWalk.i64_quo _ _ (by omega))) ?_
        have z142 := i64_in_ (((IntKind.i64.wrap (b - a)) / 4) * 2)
        have z143 := i64_in_ (a + (IntKind.i64.wrap (((IntKind.i64.wrap (b - a)) / 4) * 2)))
        have z144 := i64_in_ ((IntKind.i64.wrap (a + (IntKind.i64.wrap (((IntKind.i64.wrap (b - a)) / 4) * 2)))) + 1)
        refine xB 4 [] [(0, vs Adata s14.1 cdata), (1, vi a), (8, vi (IntKind.i64.wrap (b - a))), (9, vp b5 0), (10, Value.int .u64 y6), (11, vi s14.2.1), (35, vb (decide (s14.2.1 ≤ (IntKind.i64.wrap ((IntKind.i64.wrap (a + (IntKind.i64.wrap (((IntKind.i64.wrap (b - a)) / 4) * 2)))) + 1)))))] ?_
        refine xRe ?_
        refine wpq_then ?_
        refine xCd (decide (s14.2.1 ≤ (IntKind.i64.wrap ((IntKind.i64.wrap (a + (IntKind.i64.wrap (((IntKind.i64.wrap (b - a)) / 4) * 2)))) + 1)))) (fun h17 => ?_) (fun h17 => ?_)
        · have hS := cond_T h17 hS
          have h17p := of_decide_eq_true h17
          refine xSk ?_
          refine wpq_then ?_
          refine xSub [(0, vs Adata s14.1 cdata), (1, vi a), (8, vi (IntKind.i64.wrap (b - a))), (9, vp b5 0), (10, Value.int .u64 y6), (11, vi s14.2.1)] ?_
          refine xSq ?_
          refine xBl 1 ?_
          refine xSq ?_
          refine xRg ?_
          obtain ⟨y18, hy18, hS⟩ := letJ_T hS
          refine xE (eC 1 (fun g' lr eb ln => c72 g' b5 (s14.2.2 : Int) hy18)) ?_
          rintro _ g19 _ e20 ⟨_, rfl, rfl, rfl⟩
          have z149 := u64_in_ (y6 - 1)
          have z150 := i64_in_ (landK .u64 y18.2 (IntKind.u64.wrap (y6 - 1)))
          refine xB 5 [] [(0, vs Adata s14.1 cdata), (1, vi a), (8, vi (IntKind.i64.wrap (b - a))), (9, vp b5 0), (10, Value.int .u64 y6), (11, vi s14.2.1), (12, vi (IntKind.i64.wrap (landK .u64 y18.2 (IntKind.u64.wrap (y6 - 1)))))] ?_
          refine xRe ?_
          refine wpq_then ?_
          refine xSq ?_
          refine xSq ?_
          refine xRg ?_
          refine xB 3 [] [(0, vs Adata s14.1 cdata), (1, vi a), (8, vi (IntKind.i64.wrap (b - a))), (9, vp b5 0), (10, Value.int .u64 y6), (11, vi s14.2.1), (12, vi (IntKind.i64.wrap (landK .u64 y18.2 (IntKind.u64.wrap (y6 - 1))))), (45, vb (decide ((IntKind.i64.wrap (landK .u64 y18.2 (IntKind.u64.wrap (y6 - 1)))) ≥ (IntKind.i64.wrap (b - a)))))] ?_
          refine xRe ?_
          refine wpq_then ?_
          refine xBindO hS (fun g own sl t21 => own = [some ⟨b5, 109, [Value.int .u64 y18.1]⟩, none, k14_0] ∧ sl = [(0, vs Adata s14.1 cdata), (1, vi a), (8, vi (IntKind.i64.wrap (b - a))), (9, vp b5 0), (10, Value.int .u64 y6), (11, vi s14.2.1), (12, vi t21)]) ?_ ?_
          · rintro g22 _ _ t21 e23 ⟨rfl, rfl⟩ hS
            refine wpq_then ?_
            refine xDr 0 [11, 15] [17, 19, 16, 18] [some ⟨b5, 109, [Value.int .u64 y18.1]⟩, k14_0] 20 (fun RG => ?_) (fun _ _ _ _ _ h => h)
            have z151 := i64_in_ (a + t21)
            have z152 := i64_in_ (a + t21)
            have h14_0 := h14_0.mono (e20.trans e23).b
            obtain ⟨q25, hS⟩ := grd_T hS
            have q25p := of_decide_eq_true q25
            have i26 : ((IntKind.i64.wrap (a + t21))).toNat < (s14.1).length := by omega
            obtain ⟨kc24, cs24, hA24, hk24, hr24, hw24⟩ := h14_0.open_ i26 0
            obtain ⟨kb24, rfl⟩ : ∃ z, z = kc24 := ⟨_, rfl⟩
            subst hk24
            have hr24 : cs24 = [vi (List.getD s14.1 ((IntKind.i64.wrap (a + t21))).toNat 0)] := hr24
            subst hr24
            refine xT 10 [0, 1, 2, 3, 4, 5, 6, 7, 8, 9] [] [some 0, some 2] [(0, vs Adata s14.1 cdata), (1, vi a), (8, vi (IntKind.i64.wrap (b - a))), (9, vp b5 0), (10, Value.int .u64 y6), (11, vi s14.2.1), (49, vs Adata s14.1 cdata), (50, vi s14.2.1), (51, vs Adata s14.1 cdata), (54, vi (IntKind.i64.wrap (a + t21))), (55, vs Adata s14.1 cdata), (58, vi (IntKind.i64.wrap (a + t21)))] RG (Psi.le.refl _) ?_
            refine xTp 10 RG (fun _ => (qIxB ((IntKind.i64.wrap (a + t21))).toNat 1 kb24.g hA24 (show ((IntKind.i64.wrap (a + t21)) : Int) = _ from by omega) i26)) ?_
            refine xTv 11 [some 0, some 2] RG (Psi.le.refl _) (qLdB ((IntKind.i64.wrap (a + t21))).toNat 1 0 1 hw24) ?_
            obtain ⟨q28, hS⟩ := grd_T hS
            have q28p := of_decide_eq_true q28
            have i29 : (s14.2.1).toNat < (s14.1).length := by omega
            obtain ⟨kc27, cs27, hA27, hk27, hr27, hw27⟩ := h14_0.open_ i29 0
            cases hk27
            have hr27 : cs27 = [vi (List.getD s14.1 (s14.2.1).toNat 0)] := hr27
            subst hr27
            refine xT 6 [12, 13] [] [some 0, some 2] [(0, vs Adata s14.1 cdata), (1, vi a), (8, vi (IntKind.i64.wrap (b - a))), (9, vp b5 0), (10, Value.int .u64 y6), (11, vi s14.2.1), (49, vs Adata s14.1 cdata), (50, vi s14.2.1), (51, vs Adata s14.1 cdata), (54, vi (IntKind.i64.wrap (a + t21))), (60, vi (List.getD s14.1 ((IntKind.i64.wrap (a + t21))).toNat 0)), (61, vs Adata s14.1 cdata), (62, vi s14.2.1)] RG (Psi.le.refl _) ?_
            refine xTp 14 RG (fun _ => (qIxB (s14.2.1).toNat 1 kb24.g hA27 (show (s14.2.1 : Int) = _ from by omega) i29)) ?_
            refine xTv 15 [some 0, some 2] RG (Psi.le.refl _) (qLdB (s14.2.1).toNat 1 0 1 hw27) ?_
            obtain ⟨q31, hS⟩ := grd_T hS
            have q31p := of_decide_eq_true q31
            have i32 : (s14.2.1).toNat < (s14.1).length := by omega
            obtain ⟨kc30, cs30, hA30, hk30, hr30, hw30⟩ := h14_0.open_ i32 0
            cases hk30
            have hr30 : cs30 = [vi (List.getD s14.1 (s14.2.1).toNat 0)] := hr30
            subst hr30
            refine xTp 16 RG (fun _ => (qIxB (s14.2.1).toNat 1 kb24.g hA30 (show (s14.2.1 : Int) = _ from by omega) i32)) ?_
            refine xO1 (lds := [11, 15]) 17 ?_
            refine xId (lds := [11, 15]) (Psi.le.refl _) (eStB (s14.2.1).toNat 1 0 2 [vi (List.getD s14.1 ((IntKind.i64.wrap (a + t21))).toNat 0)] h14_0 rfl hw30 (show (tyI .i64).rep _ _ _ from rfl) i32) ?_
            rintro _ _ _ - ⟨k33, rfl, rfl, h33⟩
            refine kf ?_
            have hz33 : (s14.1).length = ((List.set s14.1 (s14.2.1).toNat ((List.getD s14.1 ((IntKind.i64.wrap (a + t21))).toNat 0) : Int))).length := by simp
            have hz33_1 : (data).length = ((List.set s14.1 (s14.2.1).toNat ((List.getD s14.1 ((IntKind.i64.wrap (a + t21))).toNat 0) : Int))).length := hz14_v0.trans hz33
            obtain ⟨q35, hS⟩ := grd_T hS
            have q35p := of_decide_eq_true q35
            have i36 : ((IntKind.i64.wrap (a + t21))).toNat < ((List.set s14.1 (s14.2.1).toNat ((List.getD s14.1 ((IntKind.i64.wrap (a + t21))).toNat 0) : Int))).length := by omega
            have i37 : ((IntKind.i64.wrap (a + t21))).toNat < (s14.1).length := by have := hz33; omega
            obtain ⟨kc34, cs34, hA34, hk34, hr34, hw34⟩ := h33.open_ i36 0
            obtain ⟨kb34, rfl⟩ : ∃ z, z = kc34 := ⟨_, rfl⟩
            subst hk34
            have hr34 : cs34 = [vi (List.getD (List.set s14.1 (s14.2.1).toNat ((List.getD s14.1 ((IntKind.i64.wrap (a + t21))).toNat 0) : Int)) ((IntKind.i64.wrap (a + t21))).toNat 0)] := hr34
            subst hr34
            refine xTp 18 RG (fun _ => (qIxB ((IntKind.i64.wrap (a + t21))).toNat 1 kb34.g hA34 (show ((IntKind.i64.wrap (a + t21)) : Int) = _ from by omega) i37)) ?_
            refine xO1 (lds := [11, 15]) 19 ?_
            refine xId (lds := [11, 15]) (Psi.le.refl _) (eStB ((IntKind.i64.wrap (a + t21))).toNat 1 0 2 [vi (List.getD s14.1 (s14.2.1).toNat 0)] h33 rfl hw34 (show (tyI .i64).rep _ _ _ from rfl) i36) ?_
            rintro _ _ _ - ⟨k38, rfl, rfl, h38⟩
            refine kf ?_
            have hz38 : (s14.1).length = ((List.set (List.set s14.1 (s14.2.1).toNat ((List.getD s14.1 ((IntKind.i64.wrap (a + t21))).toNat 0) : Int)) ((IntKind.i64.wrap (a + t21))).toNat ((List.getD s14.1 (s14.2.1).toNat 0) : Int))).length := hz33.trans (by simp)
            have hz38_1 : (data).length = ((List.set (List.set s14.1 (s14.2.1).toNat ((List.getD s14.1 ((IntKind.i64.wrap (a + t21))).toNat 0) : Int)) ((IntKind.i64.wrap (a + t21))).toNat ((List.getD s14.1 (s14.2.1).toNat 0) : Int))).length := hz33_1.trans (hz33.symm.trans hz38)
            refine xAe (lds := [11, 15]) ?_
            refine wpq_blockN ?_
            refine wpq_then ?_
            refine xSub [(0, Value.slice Adata ((s14.1).length) cdata), (1, vi a), (8, vi (IntKind.i64.wrap (b - a))), (9, vp b5 0), (10, Value.int .u64 y6), (11, vi s14.2.1)] ?_
            refine xRg ?_
            have z153 := i64_in_ (s14.2.1 + 1)
            refine xB 3 [] [(0, Value.slice Adata ((s14.1).length) cdata), (1, vi a), (8, vi (IntKind.i64.wrap (b - a))), (9, vp b5 0), (10, Value.int .u64 y6), (11, vi (IntKind.i64.wrap (s14.2.1 + 1)))] ?_
            refine xRe ?_
            refine wpq_thenN ?_
            refine wpq_re 0 (v := Value.slice Adata ((s14.1).length) cdata) (vs Adata (List.set (List.set s14.1 (s14.2.1).toNat ((List.getD s14.1 ((IntKind.i64.wrap (a + t21))).toNat 0) : Int)) ((IntKind.i64.wrap (a + t21))).toNat ((List.getD s14.1 (s14.2.1).toNat 0) : Int)) cdata) (by kernel_rfl) (congrArg (fun z => Value.slice Adata z cdata) hz38) ?_
            have h38 := Buf.re h38 hz38 (rfl : (List.set (List.set s14.1 (s14.2.1).toNat ((List.getD s14.1 ((IntKind.i64.wrap (a + t21))).toNat 0) : Int)) ((IntKind.i64.wrap (a + t21))).toNat ((List.getD s14.1 (s14.2.1).toNat 0) : Int)) = _)
            refine xSel [some 0, none, some 2] ?_
            refine xSub [(0, vs Adata (List.set (List.set s14.1 (s14.2.1).toNat ((List.getD s14.1 ((IntKind.i64.wrap (a + t21))).toNat 0) : Int)) ((IntKind.i64.wrap (a + t21))).toNat ((List.getD s14.1 (s14.2.1).toNat 0) : Int)) cdata), (1, vi a), (8, vi (IntKind.i64.wrap (b - a))), (9, vp b5 0), (10, Value.int .u64 y6), (11, vi (IntKind.i64.wrap (s14.2.1 + 1)))] ?_
            have eS := (Option.some.inj hS).symm
            exact hN14 _ eS _ _ _ (e20.trans e23) ⟨k38, by kernel_rfl, by kernel_rfl, h38, hz38_1⟩
          · intro uu21 hS hN21
            refine xCd (decide ((IntKind.i64.wrap (landK .u64 y18.2 (IntKind.u64.wrap (y6 - 1)))) ≥ (IntKind.i64.wrap (b - a)))) (fun h39 => ?_) (fun h39 => ?_)
            · have hS := cond_T h39 hS
              have h39p := of_decide_eq_true h39
              refine xRg ?_
              obtain ⟨q40, hS⟩ := grd_T hS
              have q40p := of_decide_eq_true q40
              refine xB 2 [] [(0, vs Adata s14.1 cdata), (1, vi a), (8, vi (IntKind.i64.wrap (b - a))), (9, vp b5 0), (10, Value.int .u64 y6), (11, vi s14.2.1), (12, vi (IntKind.i64.wrap (landK .u64 y18.2 (IntKind.u64.wrap (y6 - 1))))), (46, vi (IntKind.i64.wrap (landK .u64 y18.2 (IntKind.u64.wrap (y6 - 1))))), (47, vi (IntKind.i64.wrap (b - a)))] ?_
              refine xV (qSub .i64 ((IntKind.i64.wrap (landK .u64 y18.2 (IntKind.u64.wrap (y6 - 1))))) ((IntKind.i64.wrap (b - a))) (wr64 (by omega))) ?_
              refine xB 1 [] [(0, vs Adata s14.1 cdata), (1, vi a), (8, vi (IntKind.i64.wrap (b - a))), (9, vp b5 0), (10, Value.int .u64 y6), (11, vi s14.2.1), (12, vi ((IntKind.i64.wrap (landK .u64 y18.2 (IntKind.u64.wrap (y6 - 1)))) - (IntKind.i64.wrap (b - a))))] ?_
              refine xRe ?_
              refine xSel [some 0, none, some 2] ?_
              refine xSub [(0, vs Adata s14.1 cdata), (1, vi a), (8, vi (IntKind.i64.wrap (b - a))), (9, vp b5 0), (10, Value.int .u64 y6), (11, vi s14.2.1), (12, vi ((IntKind.i64.wrap (landK .u64 y18.2 (IntKind.u64.wrap (y6 - 1)))) - (IntKind.i64.wrap (b - a))))] ?_
              have eS := (Option.some.inj hS).symm
              exact hN21 _ eS _ _ _ (Gh.le.refl _) ⟨by kernel_rfl, by kernel_rfl⟩
            · have hS := cond_F h39 hS
              have h39p := of_decide_eq_false h39
              refine xSk ?_
              refine xSel [some 0, none, some 2] ?_
              refine xSub [(0, vs Adata s14.1 cdata), (1, vi a), (8, vi (IntKind.i64.wrap (b - a))), (9, vp b5 0), (10, Value.int .u64 y6), (11, vi s14.2.1), (12, vi (IntKind.i64.wrap (landK .u64 y18.2 (IntKind.u64.wrap (y6 - 1)))))] ?_
              have eS := (Option.some.inj hS).symm
              exact hN21 _ eS _ _ _ (Gh.le.refl _) ⟨by kernel_rfl, by kernel_rfl⟩
        · have hS := cond_F h17 hS
          have h17p := of_decide_eq_false h17
          refine xEx 0 ?_
          refine wpq_thenX ?_
          refine wpq_thenX ?_
          refine wpq_blockE ?_
          refine xSel [none, some 2] ?_
          refine xSub [] ?_
          have eS := (Option.some.inj hS).symm
          have eS := (hD14 _ eS).symm
          exact hN9 _ eS _ _ _ e16 ⟨k14_0, by kernel_rfl, by kernel_rfl, h14_0, hz14_v0⟩
    · have hS := cond_F h4 hS
      have h4p := of_decide_eq_false h4
      refine xSk ?_
      refine xSel [none, some 0] ?_
      refine xSub [] ?_
      have eS := (Option.some.inj hS).symm
      exact hN1 _ eS _ _ _ (Gh.le.refl _) ⟨kdata, by kernel_rfl, by kernel_rfl, hdata, rfl⟩

def o75f39 (data : List Int) (a : Int) (b : Int) (swaps : Int) (cmpc : List Msg) : Option (Int × Int × Int) :=
  (grd (decide (0 ≤ b ∧ b < (((data).length : Nat) : Int))) (grd (decide (0 ≤ a ∧ a < (((data).length : Nat) : Int))) (bindO (τ := Int) (o39 ((List.getD data (b).toNat 0) : Int) ((List.getD data (a).toNat 0) : Int) (cmpc : List Msg)) fun y7 => (cond (decide (y7 < 0)) (some ((((IntKind.i64.wrap (swaps + 1)) : Int), (b : Int), (a : Int)))) (some (((swaps : Int), (a : Int), (b : Int))))))))
set_option maxRecDepth 100000 in
theorem c75f39 (g : Gh) (data : List Int) (Adata : Option Addr) (cdata : Nat) (a : Int) (b : Int) (b_swaps : Nat) (swaps : Int) (a_cmpc : Addr) (cmpc : List Msg) (Acmpc : Option Addr) (ccmpc : Nat) (fdata : Arr g.r (tyI .i64) Adata cdata data) (hc_cmpc : Cells g.r a_cmpc [vs Acmpc cmpc ccmpc]) (fcmpc : ArrM g.r g.b tyMsg Acmpc ccmpc cmpc) {r : Int × Int × Int} (hS : o75f39 data a b swaps cmpc = some r) :
    Ctr Try.prog 75 [vs Adata data cdata, vi a, vi b, vp b_swaps 0, Value.func (.func 39) #[] #[Value.pointer (some a_cmpc)]] g [some ⟨b_swaps, 3, [vi swaps]⟩] (fun v ψ o => v = Value.tuple #[vi r.2.1, vi r.2.2] ∧ o = [some ⟨b_swaps, 3, [vi r.1]⟩]) := by
  unfold o75f39 at hS
  refine xFn Try.f75 (Try.f75.body.getD .skip) 32 ?_
  have nfdata := fdata.len
  have nfcmpc := fcmpc.len
  refine xSq ?_
  refine xRg ?_
  refine xB 2 [] [(0, vs Adata data cdata), (1, vi a), (2, vi b), (3, vp b_swaps 0), (4, Value.func (.func 39) #[] #[Value.pointer (some a_cmpc)])] ?_
  refine xRe ?_
  refine wpq_then ?_
  refine xSq ?_
  refine xSq ?_
  refine xDr 0 [4, 8] [] [some ⟨b_swaps, 3, [vi swaps]⟩] 11 (fun RG => ?_) (fun _ _ _ _ _ h => h)
  obtain ⟨q2, hS⟩ := grd_T hS
  have q2p := of_decide_eq_true q2
  have i3 : (b).toNat < (data).length := by omega
  obtain ⟨ad1, cs1, hA1, hr1, hc1⟩ := fdata.at_ (get_getD (d := 0) i3)
  have hr1 : cs1 = [vi (List.getD data (b).toNat 0)] := hr1
  subst hr1
  refine xT 8 [0, 1, 2] [] [some 0] [(0, vs Adata data cdata), (1, vi a), (2, vi b), (3, vp b_swaps 0), (12, Value.func (.func 39) #[] #[Value.pointer (some a_cmpc)]), (13, vs Adata data cdata), (14, vi b)] RG (Psi.le.refl _) ?_
  refine xTp 3 RG (fun _ => (qIx (b).toNat 1 hA1 (show (b : Int) = _ from by omega) i3)) ?_
  refine xTv 4 [some 0] RG (Psi.le.refl _) (qLdP (Addr.add ad1 ((b).toNat * 1)) 0 hc1) ?_
  obtain ⟨q5, hS⟩ := grd_T hS
  have q5p := of_decide_eq_true q5
  have i6 : (a).toNat < (data).length := by omega
  obtain ⟨ad4, cs4, hA4, hr4, hc4⟩ := fdata.at_ (get_getD (d := 0) i6)
  have hr4 : cs4 = [vi (List.getD data (a).toNat 0)] := hr4
  subst hr4
  refine xT 4 [5, 6] [] [some 0] [(1, vi a), (2, vi b), (3, vp b_swaps 0), (12, Value.func (.func 39) #[] #[Value.pointer (some a_cmpc)]), (16, vi (List.getD data (b).toNat 0)), (17, vs Adata data cdata), (18, vi a)] RG (Psi.le.refl _) ?_
  refine xTp 7 RG (fun _ => (qIx (a).toNat 1 hA4 (show (a : Int) = _ from by omega) i6)) ?_
  refine xTv 8 [some 0] RG (Psi.le.refl _) (qLdP (Addr.add ad4 ((a).toNat * 1)) 0 hc4) ?_
  obtain ⟨y7, hy7, hS⟩ := bindO_T hS
  refine xO1 (lds := [4, 8]) 9 ?_
  refine xIe (lds := [4, 8]) (Psi.le.refl _) (eC 0 (fun g' lr eb ln => c39 g' ((List.getD data (b).toNat 0) : Int) ((List.getD data (a).toNat 0) : Int) a_cmpc (cmpc : List Msg) Acmpc ccmpc (hc_cmpc.mono lr) (ArrM.lent fcmpc lr eb) hy7)) ?_
  rintro _ g8 _ e9 ⟨_, rfl, rfl, rfl⟩
  refine kk [some 0] ?_
  refine xT 0 [10] [] [some 0] [(1, vi a), (2, vi b), (3, vp b_swaps 0), (22, vb (decide (y7 < 0)))] RG e9.r ?_
  refine xAe (lds := [4, 8]) ?_
  refine wpq_then ?_
  refine xCd (decide (y7 < 0)) (fun h10 => ?_) (fun h10 => ?_)
  · have hS := cond_T h10 hS
    have h10p := of_decide_eq_true h10
    refine xSq ?_
    refine xRg ?_
    have z1 := i64_in_ (swaps + 1)
    refine xBo 6 [(2, 0), (5, 0)] [some ⟨b_swaps, 3, [vi (IntKind.i64.wrap (swaps + 1))]⟩] [(1, vi a), (2, vi b)] ?_
    refine xRe ?_
    refine wpq_then ?_
    refine xSq ?_
    refine xRg ?_
    refine xB 4 [] [(10, vi b), (11, vi a)] ?_
    refine xRe ?_
    refine wpq_then ?_
    have eS := (Option.some.inj hS).symm
    subst eS
    exact xRet [some 0] [10, 11] e9 ⟨by kernel_rfl, by kernel_rfl⟩ (fun _ _ h => h)
  · have hS := cond_F h10 hS
    have h10p := of_decide_eq_false h10
    refine xSk ?_
    refine wpq_then ?_
    refine xSub [(1, vi a), (2, vi b)] ?_
    refine xSq ?_
    refine xRg ?_
    refine xB 4 [] [(10, vi a), (11, vi b)] ?_
    refine xRe ?_
    refine wpq_then ?_
    have eS := (Option.some.inj hS).symm
    subst eS
    exact xRet [some 0] [10, 11] e9 ⟨by kernel_rfl, by kernel_rfl⟩ (fun _ _ h => h)

def o74f39 (data : List Int) (a : Int) (b : Int) (c : Int) (swaps : Int) (cmpc : List Msg) : Option (Int × Int) :=
  (bindO (τ := Int × Int × Int) (o75f39 (data : List Int) (a : Int) (b : Int) (swaps : Int) (cmpc : List Msg)) fun y1 => (bindO (τ := Int × Int × Int) (o75f39 (data : List Int) (y1.2.2 : Int) (c : Int) (y1.1 : Int) (cmpc : List Msg)) fun y4 => (bindO (τ := Int × Int × Int) (o75f39 (data : List Int) (y1.2.1 : Int) (y4.2.1 : Int) (y4.1 : Int) (cmpc : List Msg)) fun y7 => (some (((y7.1 : Int), (y7.2.2 : Int)))))))
set_option maxRecDepth 100000 in
theorem c74f39 (g : Gh) (data : List Int) (Adata : Option Addr) (cdata : Nat) (a : Int) (b : Int) (c : Int) (b_swaps : Nat) (swaps : Int) (a_cmpc : Addr) (cmpc : List Msg) (Acmpc : Option Addr) (ccmpc : Nat) (fdata : Arr g.r (tyI .i64) Adata cdata data) (hc_cmpc : Cells g.r a_cmpc [vs Acmpc cmpc ccmpc]) (fcmpc : ArrM g.r g.b tyMsg Acmpc ccmpc cmpc) {r : Int × Int} (hS : o74f39 data a b c swaps cmpc = some r) :
    Ctr Try.prog 74 [vs Adata data cdata, vi a, vi b, vi c, vp b_swaps 0, Value.func (.func 39) #[] #[Value.pointer (some a_cmpc)]] g [some ⟨b_swaps, 3, [vi swaps]⟩] (fun v ψ o => v = vi r.2 ∧ o = [some ⟨b_swaps, 3, [vi r.1]⟩]) := by
  unfold o74f39 at hS
  refine xFn Try.f74 (Try.f74.body.getD .skip) 41 ?_
  have nfdata := fdata.len
  have nfcmpc := fcmpc.len
  refine xSq ?_
  refine xRg ?_
  refine xB 1 [] [(0, vs Adata data cdata), (1, vi a), (2, vi b), (3, vi c), (4, vp b_swaps 0), (5, Value.func (.func 39) #[] #[Value.pointer (some a_cmpc)])] ?_
  refine xRe ?_
  refine wpq_then ?_
  refine xSq ?_
  refine xRg ?_
  refine xB 5 [] [(0, vs Adata data cdata), (1, vi a), (2, vi b), (3, vi c), (4, vp b_swaps 0), (5, Value.func (.func 39) #[] #[Value.pointer (some a_cmpc)]), (14, vs Adata data cdata), (15, vi a), (16, vi b), (17, vp b_swaps 0), (18, Value.func (.func 39) #[] #[Value.pointer (some a_cmpc)])] ?_
  obtain ⟨y1, hy1, hS⟩ := bindO_T hS
  refine xE (eC 1 (fun g' lr eb ln => c75f39 g' (data : List Int) Adata cdata (a : Int) (b : Int) b_swaps (swaps : Int) a_cmpc (cmpc : List Msg) Acmpc ccmpc (fdata.mono lr) (hc_cmpc.mono lr) (ArrM.lent fcmpc lr eb) hy1)) ?_
  rintro _ g2 _ e3 ⟨_, rfl, rfl, rfl⟩
  refine xB 5 [] [(0, vs Adata data cdata), (1, vi y1.2.1), (2, vi y1.2.2), (3, vi c), (4, vp b_swaps 0), (5, Value.func (.func 39) #[] #[Value.pointer (some a_cmpc)])] ?_
  refine xRe ?_
  refine wpq_then ?_
  refine xSq ?_
  refine xRg ?_
  refine xB 5 [] [(0, vs Adata data cdata), (1, vi y1.2.1), (2, vi y1.2.2), (4, vp b_swaps 0), (5, Value.func (.func 39) #[] #[Value.pointer (some a_cmpc)]), (23, vs Adata data cdata), (24, vi y1.2.2), (25, vi c), (26, vp b_swaps 0), (27, Value.func (.func 39) #[] #[Value.pointer (some a_cmpc)])] ?_
  have fdata := fdata.mono e3.r
  have hc_cmpc := hc_cmpc.mono e3.r
  have fcmpc := fcmpc.mono e3.r e3.b
  obtain ⟨y4, hy4, hS⟩ := bindO_T hS
  refine xE (eC 1 (fun g' lr eb ln => c75f39 g' (data : List Int) Adata cdata (y1.2.2 : Int) (c : Int) b_swaps (y1.1 : Int) a_cmpc (cmpc : List Msg) Acmpc ccmpc (fdata.mono lr) (hc_cmpc.mono lr) (ArrM.lent fcmpc lr eb) hy4)) ?_
  rintro _ g5 _ e6 ⟨_, rfl, rfl, rfl⟩
  refine xB 5 [] [(0, vs Adata data cdata), (1, vi y1.2.1), (2, vi y4.2.1), (4, vp b_swaps 0), (5, Value.func (.func 39) #[] #[Value.pointer (some a_cmpc)])] ?_
  refine xRe ?_
  refine wpq_then ?_
  refine xSq ?_
  refine xRg ?_
  refine xB 5 [] [(2, vi y4.2.1), (32, vs Adata data cdata), (33, vi y1.2.1), (34, vi y4.2.1), (35, vp b_swaps 0), (36, Value.func (.func 39) #[] #[Value.pointer (some a_cmpc)])] ?_
  have fdata := fdata.mono e6.r
  have hc_cmpc := hc_cmpc.mono e6.r
  have fcmpc := fcmpc.mono e6.r e6.b
  obtain ⟨y7, hy7, hS⟩ := bindO_T hS
  refine xE (eC 1 (fun g' lr eb ln => c75f39 g' (data : List Int) Adata cdata (y1.2.1 : Int) (y4.2.1 : Int) b_swaps (y4.1 : Int) a_cmpc (cmpc : List Msg) Acmpc ccmpc (fdata.mono lr) (hc_cmpc.mono lr) (ArrM.lent fcmpc lr eb) hy7)) ?_
  rintro _ g8 _ e9 ⟨_, rfl, rfl, rfl⟩
  refine xB 5 [] [(2, vi y7.2.2)] ?_
  refine xRe ?_
  refine wpq_then ?_
  refine xSq ?_
  refine xRg ?_
  refine xB 2 [] [(12, vi y7.2.2)] ?_
  refine xRe ?_
  refine wpq_then ?_
  have eS := (Option.some.inj hS).symm
  subst eS
  exact xRet [some 0] [12] (e3.trans (e6.trans e9)) ⟨by kernel_rfl, by kernel_rfl⟩ (fun _ _ h => h)

def o73f39 (data : List Int) (a : Int) (swaps : Int) (cmpc : List Msg) : Option (Int × Int) :=
  (bindO (τ := Int × Int) (o74f39 (data : List Int) ((IntKind.i64.wrap (a - 1)) : Int) (a : Int) ((IntKind.i64.wrap (a + 1)) : Int) (swaps : Int) (cmpc : List Msg)) fun y1 => (some (((y1.1 : Int), (y1.2 : Int)))))
set_option maxRecDepth 100000 in
theorem c73f39 (g : Gh) (data : List Int) (Adata : Option Addr) (cdata : Nat) (a : Int) (b_swaps : Nat) (swaps : Int) (a_cmpc : Addr) (cmpc : List Msg) (Acmpc : Option Addr) (ccmpc : Nat) (fdata : Arr g.r (tyI .i64) Adata cdata data) (hc_cmpc : Cells g.r a_cmpc [vs Acmpc cmpc ccmpc]) (fcmpc : ArrM g.r g.b tyMsg Acmpc ccmpc cmpc) {r : Int × Int} (hS : o73f39 data a swaps cmpc = some r) :
    Ctr Try.prog 73 [vs Adata data cdata, vi a, vp b_swaps 0, Value.func (.func 39) #[] #[Value.pointer (some a_cmpc)]] g [some ⟨b_swaps, 3, [vi swaps]⟩] (fun v ψ o => v = vi r.2 ∧ o = [some ⟨b_swaps, 3, [vi r.1]⟩]) := by
  unfold o73f39 at hS
  refine xFn Try.f73 (Try.f73.body.getD .skip) 18 ?_
  have nfdata := fdata.len
  have nfcmpc := fcmpc.len
  refine xSq ?_
  refine xRg ?_
  refine xB 1 [] [(0, vs Adata data cdata), (1, vi a), (2, vp b_swaps 0), (3, Value.func (.func 39) #[] #[Value.pointer (some a_cmpc)])] ?_
  refine xRe ?_
  refine wpq_then ?_
  refine xSq ?_
  refine xRg ?_
  have z1 := i64_in_ (a - 1)
  have z2 := i64_in_ (a + 1)
  refine xB 8 [] [(9, vs Adata data cdata), (11, vi (IntKind.i64.wrap (a - 1))), (12, vi a), (14, vi (IntKind.i64.wrap (a + 1))), (15, vp b_swaps 0), (16, Value.func (.func 39) #[] #[Value.pointer (some a_cmpc)])] ?_
  obtain ⟨y1, hy1, hS⟩ := bindO_T hS
  refine xE (eC 1 (fun g' lr eb ln => c74f39 g' (data : List Int) Adata cdata ((IntKind.i64.wrap (a - 1)) : Int) (a : Int) ((IntKind.i64.wrap (a + 1)) : Int) b_swaps (swaps : Int) a_cmpc (cmpc : List Msg) Acmpc ccmpc (fdata.mono lr) (hc_cmpc.mono lr) (ArrM.lent fcmpc lr eb) hy1)) ?_
  rintro _ g2 _ e3 ⟨_, rfl, rfl, rfl⟩
  refine xB 1 [] [(8, vi y1.2)] ?_
  refine xRe ?_
  refine wpq_then ?_
  have eS := (Option.some.inj hS).symm
  subst eS
  exact xRet [some 0] [8] e3 ⟨by kernel_rfl, by kernel_rfl⟩ (fun _ _ h => h)

def o61f39 (data : List Int) (a : Int) (b : Int) (cmpc : List Msg) : Option (Int × Int) :=
  (bindO (τ := Int × Int) (cond (decide ((IntKind.i64.wrap (b - a)) ≥ 8)) (bindO (τ := Int × Int × Int × Int) (cond (decide ((IntKind.i64.wrap (b - a)) ≥ 50)) (bindO (τ := Int × Int) (o73f39 (data : List Int) ((IntKind.i64.wrap (a + (IntKind.i64.wrap ((IntKind.i64.wrap (Int.tdiv (IntKind.i64.wrap (b - a)) 4)) * 1)))) : Int) (0 : Int) (cmpc : List Msg)) fun y15 => (bindO (τ := Int × Int) (o73f39 (data : List Int) ((IntKind.i64.wrap (a + (IntKind.i64.wrap ((IntKind.i64.wrap (Int.tdiv (IntKind.i64.wrap (b - a)) 4)) * 2)))) : Int) (y15.1 : Int) (cmpc : List Msg)) fun y18 => (bindO (τ := Int × Int) (o73f39 (data : List Int) ((IntKind.i64.wrap (a + (IntKind.i64.wrap ((IntKind.i64.wrap (Int.tdiv (IntKind.i64.wrap (b - a)) 4)) * 3)))) : Int) (y18.1 : Int) (cmpc : List Msg)) fun y21 => (some ((y15.2, y18.2, y21.2, y21.1)))))) (some (((IntKind.i64.wrap (a + (IntKind.i64.wrap ((IntKind.i64.wrap (Int.tdiv (IntKind.i64.wrap (b - a)) 4)) * 1)))), (IntKind.i64.wrap (a + (IntKind.i64.wrap ((IntKind.i64.wrap (Int.tdiv (IntKind.i64.wrap (b - a)) 4)) * 2)))), (IntKind.i64.wrap (a + (IntKind.i64.wrap ((IntKind.i64.wrap (Int.tdiv (IntKind.i64.wrap (b - a)) 4)) * 3)))), 0)))) fun t8 => (bindO (τ := Int × Int) (o74f39 (data : List Int) (t8.1 : Int) (t8.2.1 : Int) (t8.2.2.1 : Int) (t8.2.2.2 : Int) (cmpc : List Msg)) fun y11 => (some ((y11.2, y11.1))))) (some (((IntKind.i64.wrap (a + (IntKind.i64.wrap ((IntKind.i64.wrap (Int.tdiv (IntKind.i64.wrap (b - a)) 4)) * 2)))), 0)))) fun t2 => (cond ((t2.2 == 0)) (some (((t2.1 : Int), (1 : Int)))) (cond ((t2.2 == 12)) (some (((t2.1 : Int), (2 : Int)))) (some (((t2.1 : Int), (0 : Int)))))))
set_option maxRecDepth 100000 in
theorem c61f39 (g : Gh) (data : List Int) (Adata : Option Addr) (cdata : Nat) (a : Int) (b : Int) (a_cmpc : Addr) (cmpc : List Msg) (Acmpc : Option Addr) (ccmpc : Nat) (fdata : Arr g.r (tyI .i64) Adata cdata data) (hc_cmpc : Cells g.r a_cmpc [vs Acmpc cmpc ccmpc]) (fcmpc : ArrM g.r g.b tyMsg Acmpc ccmpc cmpc) {r : Int × Int} (hS : o61f39 data a b cmpc = some r) :
    Ctr Try.prog 61 [vs Adata data cdata, vi a, vi b, Value.func (.func 39) #[] #[Value.pointer (some a_cmpc)]] g [] (fun v ψ o => v = Value.tuple #[vi r.1, vi r.2] ∧ o = []) := by
  unfold o61f39 at hS
  refine xFn Try.f61 (Try.f61.body.getD .skip) 63 ?_
  have nfdata := fdata.len
  have nfcmpc := fcmpc.len
  refine xSq ?_
  refine xRg ?_
  refine xB 2 [] [(0, vs Adata data cdata), (1, vi a), (2, vi b), (3, Value.func (.func 39) #[] #[Value.pointer (some a_cmpc)])] ?_
  refine xRe ?_
  refine wpq_then ?_
  refine xSq ?_
  refine xRg ?_
  have z1 := i64_in_ (b - a)
  refine xB 4 [] [(0, vs Adata data cdata), (1, vi a), (3, Value.func (.func 39) #[] #[Value.pointer (some a_cmpc)]), (10, vi (IntKind.i64.wrap (b - a)))] ?_
  refine xRe ?_
  refine wpq_then ?_
  refine xSq ?_
  refine xRg ?_
  refine xE eB ?_
  rintro _ _ _ - ⟨b1, rfl, rfl, rfl⟩
  refine xRe ?_
  refine wpq_then ?_
  refine xSq ?_
  refine xRg ?_
  have z2 := i64_in_ (Int.tdiv (IntKind.i64.wrap (b - a)) 4)
  refine xB 2 [] [(0, vs Adata data cdata), (1, vi a), (3, Value.func (.func 39) #[] #[Value.pointer (some a_cmpc)]), (10, vi (IntKind.i64.wrap (b - a))), (11, vp b1 0), (18, vi a), (19, vi (IntKind.i64.wrap (b - a)))] ?_
  refine xV (qQuo .i64 ((IntKind.i64.wrap (b - a))) (4) _ (by omega) rfl) ?_
  have z3 := i64_in_ ((IntKind.i64.wrap (Int.tdiv (IntKind.i64.wrap (b - a)) 4)) * 1)
  have z4 := i64_in_ (a + (IntKind.i64.wrap ((IntKind.i64.wrap (Int.tdiv (IntKind.i64.wrap (b - a)) 4)) * 1)))
  refine xB 3 [] [(0, vs Adata data cdata), (1, vi a), (3, Value.func (.func 39) #[] #[Value.pointer (some a_cmpc)]), (10, vi (IntKind.i64.wrap (b - a))), (11, vp b1 0), (12, vi (IntKind.i64.wrap (a + (IntKind.i64.wrap ((IntKind.i64.wrap (Int.tdiv (IntKind.i64.wrap (b - a)) 4)) * 1)))))] ?_
  refine xRe ?_
  refine wpq_then ?_
  refine xSq ?_
  refine xRg ?_
  have z5 := i64_in_ (Int.tdiv (IntKind.i64.wrap (b - a)) 4)
  refine xB 2 [] [(0, vs Adata data cdata), (1, vi a), (3, Value.func (.func 39) #[] #[Value.pointer (some a_cmpc)]), (10, vi (IntKind.i64.wrap (b - a))), (11, vp b1 0), (12, vi (IntKind.i64.wrap (a + (IntKind.i64.wrap ((IntKind.i64.wrap (Int.tdiv (IntKind.i64.wrap (b - a)) 4)) * 1))))), (23, vi a), (24, vi (IntKind.i64.wrap (b - a)))] ?_
  refine xV (qQuo .i64 ((IntKind.i64.wrap (b - a))) (4) _ (by omega) rfl) ?_
  have z6 := i64_in_ ((IntKind.i64.wrap (Int.tdiv (IntKind.i64.wrap (b - a)) 4)) * 2)
  have z7 := i64_in_ (a + (IntKind.i64.wrap ((IntKind.i64.wrap (Int.tdiv (IntKind.i64.wrap (b - a)) 4)) * 2)))
  refine xB 3 [] [(0, vs Adata data cdata), (1, vi a), (3, Value.func (.func 39) #[] #[Value.pointer (some a_cmpc)]), (10, vi (IntKind.i64.wrap (b - a))), (11, vp b1 0), (12, vi (IntKind.i64.wrap (a + (IntKind.i64.wrap ((IntKind.i64.wrap (Int.tdiv (IntKind.i64.wrap (b - a)) 4)) * 1))))), (13, vi (IntKind.i64.wrap (a + (IntKind.i64.wrap ((IntKind.i64.wrap (Int.tdiv (IntKind.i64.wrap (b - a)) 4)) * 2)))))] ?_
  refine xRe ?_
  refine wpq_then ?_
  refine xSq ?_
  refine xRg ?_
  have z8 := i64_in_ (Int.tdiv (IntKind.i64.wrap (b - a)) 4)
  refine xB 2 [] [(0, vs Adata data cdata), (3, Value.func (.func 39) #[] #[Value.pointer (some a_cmpc)]), (10, vi (IntKind.i64.wrap (b - a))), (11, vp b1 0), (12, vi (IntKind.i64.wrap (a + (IntKind.i64.wrap ((IntKind.i64.wrap (Int.tdiv (IntKind.i64.wrap (b - a)) 4)) * 1))))), (13, vi (IntKind.i64.wrap (a + (IntKind.i64.wrap ((IntKind.i64.wrap (Int.tdiv (IntKind.i64.wrap (b - a)) 4)) * 2))))), (28, vi a), (29, vi (IntKind.i64.wrap (b - a)))] ?_
  refine xV (qQuo .i64 ((IntKind.i64.wrap (b - a))) (4) _ (by omega) rfl) ?_
  have z9 := i64_in_ ((IntKind.i64.wrap (Int.tdiv (IntKind.i64.wrap (b - a)) 4)) * 3)
  have z10 := i64_in_ (a + (IntKind.i64.wrap ((IntKind.i64.wrap (Int.tdiv (IntKind.i64.wrap (b - a)) 4)) * 3)))
  refine xB 3 [] [(0, vs Adata data cdata), (3, Value.func (.func 39) #[] #[Value.pointer (some a_cmpc)]), (10, vi (IntKind.i64.wrap (b - a))), (11, vp b1 0), (12, vi (IntKind.i64.wrap (a + (IntKind.i64.wrap ((IntKind.i64.wrap (Int.tdiv (IntKind.i64.wrap (b - a)) 4)) * 1))))), (13, vi (IntKind.i64.wrap (a + (IntKind.i64.wrap ((IntKind.i64.wrap (Int.tdiv (IntKind.i64.wrap (b - a)) 4)) * 2))))), (14, vi (IntKind.i64.wrap (a + (IntKind.i64.wrap ((IntKind.i64.wrap (Int.tdiv (IntKind.i64.wrap (b - a)) 4)) * 3)))))] ?_
  refine xRe ?_
  refine wpq_then ?_
  refine xSq ?_
  refine xSq ?_
  refine xRg ?_
  refine xB 2 [] [(0, vs Adata data cdata), (3, Value.func (.func 39) #[] #[Value.pointer (some a_cmpc)]), (10, vi (IntKind.i64.wrap (b - a))), (11, vp b1 0), (12, vi (IntKind.i64.wrap (a + (IntKind.i64.wrap ((IntKind.i64.wrap (Int.tdiv (IntKind.i64.wrap (b - a)) 4)) * 1))))), (13, vi (IntKind.i64.wrap (a + (IntKind.i64.wrap ((IntKind.i64.wrap (Int.tdiv (IntKind.i64.wrap (b - a)) 4)) * 2))))), (14, vi (IntKind.i64.wrap (a + (IntKind.i64.wrap ((IntKind.i64.wrap (Int.tdiv (IntKind.i64.wrap (b - a)) 4)) * 3))))), (34, vb (decide ((IntKind.i64.wrap (b - a)) ≥ 8)))] ?_
  refine xRe ?_
  refine wpq_then ?_
  refine xBindO hS (fun g own sl t2 => own = [some ⟨b1, 3, [vi t2.2]⟩] ∧ sl = [(11, vp b1 0), (13, vi t2.1)]) ?_ ?_
  · rintro g3 _ _ t2 e4 ⟨rfl, rfl⟩ hS
    refine wpq_then ?_
    refine xSq ?_
    refine xRg ?_
    refine xB 1 [(0, 0)] [(13, vi t2.1), (55, vi t2.2)] ?_
    refine xRe ?_
    refine wpq_then ?_
    refine xBl 0 ?_
    refine xSq ?_
    refine xRg ?_
    refine xB 2 [] [(13, vi t2.1), (55, vi t2.2), (57, vb (t2.2 == 0))] ?_
    refine xRe ?_
    refine wpq_then ?_
    refine xCd ((t2.2 == 0)) (fun h5 => ?_) (fun h5 => ?_)
    · have hS := cond_T h5 hS
      have h5p : t2.2 = 0 := eq_of_beq h5
      refine xSq ?_
      refine xRg ?_
      refine xB 3 [] [(8, vi t2.1), (9, vi 1)] ?_
      refine xRe ?_
      refine wpq_then ?_
      have eS := (Option.some.inj hS).symm
      subst eS
      exact xRet [] [8, 9] e4 ⟨by kernel_rfl, by kernel_rfl⟩ (fun _ _ h => h)
    · have hS := cond_F h5 hS
      have h5p : ¬ (t2.2 = 0) := ne_of_beq_false_ h5
      refine xSq ?_
      refine xRg ?_
      refine xB 2 [] [(13, vi t2.1), (60, vb (t2.2 == 12))] ?_
      refine xRe ?_
      refine wpq_then ?_
      refine xCd ((t2.2 == 12)) (fun h6 => ?_) (fun h6 => ?_)
      · have hS := cond_T h6 hS
        have h6p : t2.2 = 12 := eq_of_beq h6
        refine xSq ?_
        refine xRg ?_
        refine xB 3 [] [(8, vi t2.1), (9, vi 2)] ?_
        refine xRe ?_
        refine wpq_then ?_
        have eS := (Option.some.inj hS).symm
        subst eS
        exact xRet [] [8, 9] e4 ⟨by kernel_rfl, by kernel_rfl⟩ (fun _ _ h => h)
      · have hS := cond_F h6 hS
        have h6p : ¬ (t2.2 = 12) := ne_of_beq_false_ h6
        refine xSq ?_
        refine xRg ?_
        refine xB 3 [] [(8, vi t2.1), (9, vi 0)] ?_
        refine xRe ?_
        refine wpq_then ?_
        have eS := (Option.some.inj hS).symm
        subst eS
        exact xRet [] [8, 9] e4 ⟨by kernel_rfl, by kernel_rfl⟩ (fun _ _ h => h)
  · intro uu2 hS hN2
    refine xCd (decide ((IntKind.i64.wrap (b - a)) ≥ 8)) (fun h7 => ?_) (fun h7 => ?_)
    · have hS := cond_T h7 hS
      have h7p := of_decide_eq_true h7
      refine xSq ?_
      refine xSq ?_
      refine xRg ?_
      refine xB 2 [] [(0, vs Adata data cdata), (3, Value.func (.func 39) #[] #[Value.pointer (some a_cmpc)]), (11, vp b1 0), (12, vi (IntKind.i64.wrap (a + (IntKind.i64.wrap ((IntKind.i64.wrap (Int.tdiv (IntKind.i64.wrap (b - a)) 4)) * 1))))), (13, vi (IntKind.i64.wrap (a + (IntKind.i64.wrap ((IntKind.i64.wrap (Int.tdiv (IntKind.i64.wrap (b - a)) 4)) * 2))))), (14, vi (IntKind.i64.wrap (a + (IntKind.i64.wrap ((IntKind.i64.wrap (Int.tdiv (IntKind.i64.wrap (b - a)) 4)) * 3))))), (36, vb (decide ((IntKind.i64.wrap (b - a)) ≥ 50)))] ?_
      refine xRe ?_
      refine wpq_then ?_
      refine xBindO hS (fun g own sl t8 => own = [some ⟨b1, 3, [vi t8.2.2.2]⟩] ∧ sl = [(0, vs Adata data cdata), (3, Value.func (.func 39) #[] #[Value.pointer (some a_cmpc)]), (11, vp b1 0), (12, vi t8.1), (13, vi t8.2.1), (14, vi t8.2.2.1)]) ?_ ?_
      · rintro g9 _ _ t8 e10 ⟨rfl, rfl⟩ hS
        refine wpq_then ?_
        refine xRg ?_
        refine xB 5 [] [(11, vp b1 0), (13, vi t8.2.1), (49, vs Adata data cdata), (50, vi t8.1), (51, vi t8.2.1), (52, vi t8.2.2.1), (53, Value.func (.func 39) #[] #[Value.pointer (some a_cmpc)])] ?_
        have fdata := fdata.mono e10.r
        have hc_cmpc := hc_cmpc.mono e10.r
        have fcmpc := fcmpc.mono e10.r e10.b
        obtain ⟨y11, hy11, hS⟩ := bindO_T hS
        refine xE (eC 1 (fun g' lr eb ln => c74f39 g' (data : List Int) Adata cdata (t8.1 : Int) (t8.2.1 : Int) (t8.2.2.1 : Int) b1 (t8.2.2.2 : Int) a_cmpc (cmpc : List Msg) Acmpc ccmpc (fdata.mono lr) (hc_cmpc.mono lr) (ArrM.lent fcmpc lr eb) hy11)) ?_
        rintro _ g12 _ e13 ⟨_, rfl, rfl, rfl⟩
        refine xB 1 [] [(11, vp b1 0), (13, vi y11.2)] ?_
        refine xRe ?_
        refine xSub [(11, vp b1 0), (13, vi y11.2)] ?_
        have eS := (Option.some.inj hS).symm
        exact hN2 _ eS _ _ _ (e10.trans e13) ⟨by kernel_rfl, by kernel_rfl⟩
      · intro uu8 hS hN8
        refine xCd (decide ((IntKind.i64.wrap (b - a)) ≥ 50)) (fun h14 => ?_) (fun h14 => ?_)
        · have hS := cond_T h14 hS
          have h14p := of_decide_eq_true h14
          refine xSq ?_
          refine xRg ?_
          refine xB 3 [] [(0, vs Adata data cdata), (3, Value.func (.func 39) #[] #[Value.pointer (some a_cmpc)]), (11, vp b1 0), (12, vi (IntKind.i64.wrap (a + (IntKind.i64.wrap ((IntKind.i64.wrap (Int.tdiv (IntKind.i64.wrap (b - a)) 4)) * 1))))), (13, vi (IntKind.i64.wrap (a + (IntKind.i64.wrap ((IntKind.i64.wrap (Int.tdiv (IntKind.i64.wrap (b - a)) 4)) * 2))))), (14, vi (IntKind.i64.wrap (a + (IntKind.i64.wrap ((IntKind.i64.wrap (Int.tdiv (IntKind.i64.wrap (b - a)) 4)) * 3))))), (37, vs Adata data cdata), (38, vi (IntKind.i64.wrap (a + (IntKind.i64.wrap ((IntKind.i64.wrap (Int.tdiv (IntKind.i64.wrap (b - a)) 4)) * 1))))), (39, Value.func (.func 39) #[] #[Value.pointer (some a_cmpc)])] ?_
          obtain ⟨y15, hy15, hS⟩ := bindO_T hS
          refine xE (eC 1 (fun g' lr eb ln => c73f39 g' (data : List Int) Adata cdata ((IntKind.i64.wrap (a + (IntKind.i64.wrap ((IntKind.i64.wrap (Int.tdiv (IntKind.i64.wrap (b - a)) 4)) * 1)))) : Int) b1 (0 : Int) a_cmpc (cmpc : List Msg) Acmpc ccmpc (fdata.mono lr) (hc_cmpc.mono lr) (ArrM.lent fcmpc lr eb) hy15)) ?_
          rintro _ g16 _ e17 ⟨_, rfl, rfl, rfl⟩
          refine xB 1 [] [(0, vs Adata data cdata), (3, Value.func (.func 39) #[] #[Value.pointer (some a_cmpc)]), (11, vp b1 0), (12, vi y15.2), (13, vi (IntKind.i64.wrap (a + (IntKind.i64.wrap ((IntKind.i64.wrap (Int.tdiv (IntKind.i64.wrap (b - a)) 4)) * 2))))), (14, vi (IntKind.i64.wrap (a + (IntKind.i64.wrap ((IntKind.i64.wrap (Int.tdiv (IntKind.i64.wrap (b - a)) 4)) * 3)))))] ?_
          refine xRe ?_
          refine wpq_then ?_
          refine xSq ?_
          refine xRg ?_
          refine xB 3 [] [(0, vs Adata data cdata), (3, Value.func (.func 39) #[] #[Value.pointer (some a_cmpc)]), (11, vp b1 0), (12, vi y15.2), (13, vi (IntKind.i64.wrap (a + (IntKind.i64.wrap ((IntKind.i64.wrap (Int.tdiv (IntKind.i64.wrap (b - a)) 4)) * 2))))), (14, vi (IntKind.i64.wrap (a + (IntKind.i64.wrap ((IntKind.i64.wrap (Int.tdiv (IntKind.i64.wrap (b - a)) 4)) * 3))))), (41, vs Adata data cdata), (42, vi (IntKind.i64.wrap (a + (IntKind.i64.wrap ((IntKind.i64.wrap (Int.tdiv (IntKind.i64.wrap (b - a)) 4)) * 2))))), (43, Value.func (.func 39) #[] #[Value.pointer (some a_cmpc)])] ?_
          have fdata := fdata.mono e17.r
          have hc_cmpc := hc_cmpc.mono e17.r
          have fcmpc := fcmpc.mono e17.r e17.b
          obtain ⟨y18, hy18, hS⟩ := bindO_T hS
          refine xE (eC 1 (fun g' lr eb ln => c73f39 g' (data : List Int) Adata cdata ((IntKind.i64.wrap (a + (IntKind.i64.wrap ((IntKind.i64.wrap (Int.tdiv (IntKind.i64.wrap (b - a)) 4)) * 2)))) : Int) b1 (y15.1 : Int) a_cmpc (cmpc : List Msg) Acmpc ccmpc (fdata.mono lr) (hc_cmpc.mono lr) (ArrM.lent fcmpc lr eb) hy18)) ?_
          rintro _ g19 _ e20 ⟨_, rfl, rfl, rfl⟩
          refine xB 1 [] [(0, vs Adata data cdata), (3, Value.func (.func 39) #[] #[Value.pointer (some a_cmpc)]), (11, vp b1 0), (12, vi y15.2), (13, vi y18.2), (14, vi (IntKind.i64.wrap (a + (IntKind.i64.wrap ((IntKind.i64.wrap (Int.tdiv (IntKind.i64.wrap (b - a)) 4)) * 3)))))] ?_
          refine xRe ?_
          refine wpq_then ?_
          refine xRg ?_
          refine xB 3 [] [(0, vs Adata data cdata), (3, Value.func (.func 39) #[] #[Value.pointer (some a_cmpc)]), (11, vp b1 0), (12, vi y15.2), (13, vi y18.2), (14, vi (IntKind.i64.wrap (a + (IntKind.i64.wrap ((IntKind.i64.wrap (Int.tdiv (IntKind.i64.wrap (b - a)) 4)) * 3))))), (45, vs Adata data cdata), (46, vi (IntKind.i64.wrap (a + (IntKind.i64.wrap ((IntKind.i64.wrap (Int.tdiv (IntKind.i64.wrap (b - a)) 4)) * 3))))), (47, Value.func (.func 39) #[] #[Value.pointer (some a_cmpc)])] ?_
          have fdata := fdata.mono e20.r
          have hc_cmpc := hc_cmpc.mono e20.r
          have fcmpc := fcmpc.mono e20.r e20.b
          obtain ⟨y21, hy21, hS⟩ := bindO_T hS
          refine xE (eC 1 (fun g' lr eb ln => c73f39 g' (data : List Int) Adata cdata ((IntKind.i64.wrap (a + (IntKind.i64.wrap ((IntKind.i64.wrap (Int.tdiv (IntKind.i64.wrap (b - a)) 4)) * 3)))) : Int) b1 (y18.1 : Int) a_cmpc (cmpc : List Msg) Acmpc ccmpc (fdata.mono lr) (hc_cmpc.mono lr) (ArrM.lent fcmpc lr eb) hy21)) ?_
          rintro _ g22 _ e23 ⟨_, rfl, rfl, rfl⟩
          refine xB 1 [] [(0, vs Adata data cdata), (3, Value.func (.func 39) #[] #[Value.pointer (some a_cmpc)]), (11, vp b1 0), (12, vi y15.2), (13, vi y18.2), (14, vi y21.2)] ?_
          refine xRe ?_
          refine xSub [(0, vs Adata data cdata), (3, Value.func (.func 39) #[] #[Value.pointer (some a_cmpc)]), (11, vp b1 0), (12, vi y15.2), (13, vi y18.2), (14, vi y21.2)] ?_
          have eS := (Option.some.inj hS).symm
          exact hN8 _ eS _ _ _ (e17.trans (e20.trans e23)) ⟨by kernel_rfl, by kernel_rfl⟩
        · have hS := cond_F h14 hS
          have h14p := of_decide_eq_false h14
          refine xSk ?_
          refine xSub [(0, vs Adata data cdata), (3, Value.func (.func 39) #[] #[Value.pointer (some a_cmpc)]), (11, vp b1 0), (12, vi (IntKind.i64.wrap (a + (IntKind.i64.wrap ((IntKind.i64.wrap (Int.tdiv (IntKind.i64.wrap (b - a)) 4)) * 1))))), (13, vi (IntKind.i64.wrap (a + (IntKind.i64.wrap ((IntKind.i64.wrap (Int.tdiv (IntKind.i64.wrap (b - a)) 4)) * 2))))), (14, vi (IntKind.i64.wrap (a + (IntKind.i64.wrap ((IntKind.i64.wrap (Int.tdiv (IntKind.i64.wrap (b - a)) 4)) * 3)))))] ?_
          have eS := (Option.some.inj hS).symm
          exact hN8 _ eS _ _ _ (Gh.le.refl _) ⟨by kernel_rfl, by kernel_rfl⟩
    · have hS := cond_F h7 hS
      have h7p := of_decide_eq_false h7
      refine xSk ?_
      refine xSub [(11, vp b1 0), (13, vi (IntKind.i64.wrap (a + (IntKind.i64.wrap ((IntKind.i64.wrap (Int.tdiv (IntKind.i64.wrap (b - a)) 4)) * 2)))))] ?_
      have eS := (Option.some.inj hS).symm
      exact hN2 _ eS _ _ _ (Gh.le.refl _) ⟨by kernel_rfl, by kernel_rfl⟩

def o62f39_L0 (s6 : (List Int) × Int × Int) : Option (Ctl ((List Int) × Int × Int) ((List Int))) :=
  (cond (decide (s6.2.1 < s6.2.2)) (grd (decide (0 ≤ s6.2.2 ∧ s6.2.2 < (((s6.1).length : Nat) : Int))) (grd (decide (0 ≤ s6.2.1 ∧ s6.2.1 < (((s6.1).length : Nat) : Int))) (grd (decide (0 ≤ s6.2.1 ∧ s6.2.1 < (((s6.1).length : Nat) : Int))) (grd (decide (0 ≤ s6.2.2 ∧ s6.2.2 < ((((List.set s6.1 (s6.2.1).toNat ((List.getD s6.1 (s6.2.2).toNat 0) : Int))).length : Nat) : Int))) (some (Ctl.go (((List.set (List.set s6.1 (s6.2.1).toNat ((List.getD s6.1 (s6.2.2).toNat 0) : Int)) (s6.2.2).toNat ((List.getD s6.1 (s6.2.1).toNat 0) : Int)) : List Int), (IntKind.i64.wrap (s6.2.1 + 1)), (IntKind.i64.wrap (s6.2.2 - 1))))))))) (some (Ctl.done ((s6.1 : List Int)))))
def o62f39 (data : List Int) (a : Int) (b : Int) (cmpc : List Msg) : Option ((List Int)) :=
  (bindO (τ := (List Int)) (loopO (σ := (List Int) × Int × Int) (ρ := (List Int)) fuelN (o62f39_L0) ((data : List Int), a, (IntKind.i64.wrap (b - 1)))) fun t1 => (some ((t1 : List Int))))
set_option maxRecDepth 100000 in
theorem c62f39 (g : Gh) (data : List Int) (Adata : Option Addr) (cdata : Nat) (kdata : Option Bk) (a : Int) (b : Int) (a_cmpc : Addr) (cmpc : List Msg) (Acmpc : Option Addr) (ccmpc : Nat) (hdata : Buf g.b (tyI .i64) 3 (.slice Adata (data).length cdata) kdata data) (hc_cmpc : Cells g.r a_cmpc [vs Acmpc cmpc ccmpc]) (fcmpc : ArrM g.r g.b tyMsg Acmpc ccmpc cmpc) {r : (List Int)} (hS : o62f39 data a b cmpc = some r) :
    Ctr Try.prog 62 [vs Adata data cdata, vi a, vi b, Value.func (.func 39) #[] #[Value.pointer (some a_cmpc)]] g [kdata, none] (fun v ψ o => ∃ (ko_data : Option Bk), v = Value.tuple #[] ∧ o = [ko_data] ∧ Buf ψ (tyI .i64) 3 (.slice Adata (data).length cdata) ko_data r) := by
  unfold o62f39 at hS
  refine xFn Try.f62 (Try.f62.body.getD .skip) 34 ?_
  have nhdata := hdata.len
  have nfcmpc := fcmpc.len
  refine xSq ?_
  refine xRg ?_
  refine xB 2 [] [(0, vs Adata data cdata), (2, vi b), (8, vi a)] ?_
  refine xRe ?_
  refine wpq_then ?_
  refine xSq ?_
  refine xRg ?_
  have z1 := i64_in_ (b - 1)
  refine xB 3 [] [(0, vs Adata data cdata), (8, vi a), (9, vi (IntKind.i64.wrap (b - 1)))] ?_
  refine xRe ?_
  refine wpq_then ?_
  refine xBindO hS (fun g own sl t1 => ∃ (k1_0 : Option Bk), own = [none, k1_0] ∧ sl = [] ∧ Buf g.b (tyI .i64) 3 (.slice Adata (t1).length cdata) k1_0 t1 ∧ (data).length = (t1).length) ?_ ?_
  · rintro g2 _ _ t1 e3 ⟨k1_0, rfl, rfl, h1_0, hz1_v0⟩ hS
    have nh1_0 := h1_0.len
    have eS := (Option.some.inj hS).symm
    subst eS
    exact xFin [some 1] [] e3 ⟨k1_0, by kernel_rfl, by kernel_rfl, (Buf.re h1_0 hz1_v0.symm rfl)⟩
  · intro uu1 hS hN1
    refine xBl 0 ?_
    refine xSel [none, some 0] ?_
    refine xSub [(0, vs Adata data cdata), (8, vi a), (9, vi (IntKind.i64.wrap (b - 1)))] ?_
    refine xLo hS (fun g own sl s6 => ∃ (k6_0 : Option Bk), own = [none, k6_0] ∧ sl = [(0, vs Adata s6.1 cdata), (8, vi s6.2.1), (9, vi s6.2.2)] ∧ Buf g.b (tyI .i64) 3 (.slice Adata (s6.1).length cdata) k6_0 s6.1 ∧ (data).length = (s6.1).length) ⟨kdata, by kernel_rfl, by kernel_rfl, hdata, rfl⟩ ?_
    rintro g7 _ _ s6 uu6 e8 ⟨k6_0, rfl, rfl, h6_0, hz6_v0⟩ hS Qr6 hN6 hD6
    have nh6_0 := h6_0.len
    unfold o62f39_L0 at hS
    refine xSq ?_
    refine xSq ?_
    refine xRg ?_
    refine xB 3 [] [(0, vs Adata s6.1 cdata), (8, vi s6.2.1), (9, vi s6.2.2), (15, vb (decide (s6.2.1 < s6.2.2)))] ?_
    refine xRe ?_
    refine wpq_then ?_
    refine xCd (decide (s6.2.1 < s6.2.2)) (fun h9 => ?_) (fun h9 => ?_)
    · have hS := cond_T h9 hS
      have h9p := of_decide_eq_true h9
      refine xSk ?_
      refine wpq_then ?_
      refine xSub [(0, vs Adata s6.1 cdata), (8, vi s6.2.1), (9, vi s6.2.2)] ?_
      refine xBl 1 ?_
      refine xSq ?_
      refine xDr 0 [7, 11] [13, 15, 12, 14] [k6_0] 16 (fun RG => ?_) (fun _ _ _ _ _ h => h)
      obtain ⟨q11, hS⟩ := grd_T hS
      have q11p := of_decide_eq_true q11
      have i12 : (s6.2.2).toNat < (s6.1).length := by omega
      obtain ⟨kc10, cs10, hA10, hk10, hr10, hw10⟩ := h6_0.open_ i12 0
      obtain ⟨kb10, rfl⟩ : ∃ z, z = kc10 := ⟨_, rfl⟩
      subst hk10
      have hr10 : cs10 = [vi (List.getD s6.1 (s6.2.2).toNat 0)] := hr10
      subst hr10
      refine xT 10 [0, 1, 2, 3, 4, 5] [] [some 1] [(0, vs Adata s6.1 cdata), (8, vi s6.2.1), (9, vi s6.2.2), (16, vs Adata s6.1 cdata), (17, vi s6.2.1), (18, vs Adata s6.1 cdata), (19, vi s6.2.2), (20, vs Adata s6.1 cdata), (21, vi s6.2.2)] RG (Psi.le.refl _) ?_
      refine xTp 6 RG (fun _ => (qIxB (s6.2.2).toNat 1 kb10.g hA10 (show (s6.2.2 : Int) = _ from by omega) i12)) ?_
      refine xTv 7 [some 1] RG (Psi.le.refl _) (qLdB (s6.2.2).toNat 1 0 0 hw10) ?_
      obtain ⟨q14, hS⟩ := grd_T hS
      have q14p := of_decide_eq_true q14
      have i15 : (s6.2.1).toNat < (s6.1).length := by omega
      obtain ⟨kc13, cs13, hA13, hk13, hr13, hw13⟩ := h6_0.open_ i15 0
      cases hk13
      have hr13 : cs13 = [vi (List.getD s6.1 (s6.2.1).toNat 0)] := hr13
      subst hr13
      refine xT 6 [8, 9] [] [some 1] [(0, vs Adata s6.1 cdata), (8, vi s6.2.1), (9, vi s6.2.2), (16, vs Adata s6.1 cdata), (17, vi s6.2.1), (18, vs Adata s6.1 cdata), (19, vi s6.2.2), (23, vi (List.getD s6.1 (s6.2.2).toNat 0)), (24, vs Adata s6.1 cdata), (25, vi s6.2.1)] RG (Psi.le.refl _) ?_
      refine xTp 10 RG (fun _ => (qIxB (s6.2.1).toNat 1 kb10.g hA13 (show (s6.2.1 : Int) = _ from by omega) i15)) ?_
      refine xTv 11 [some 1] RG (Psi.le.refl _) (qLdB (s6.2.1).toNat 1 0 0 hw13) ?_
      obtain ⟨q17, hS⟩ := grd_T hS
      have q17p := of_decide_eq_true q17
      have i18 : (s6.2.1).toNat < (s6.1).length := by omega
      obtain ⟨kc16, cs16, hA16, hk16, hr16, hw16⟩ := h6_0.open_ i18 0
      cases hk16
      have hr16 : cs16 = [vi (List.getD s6.1 (s6.2.1).toNat 0)] := hr16
      subst hr16
      refine xTp 12 RG (fun _ => (qIxB (s6.2.1).toNat 1 kb10.g hA16 (show (s6.2.1 : Int) = _ from by omega) i18)) ?_
      refine xO1 (lds := [7, 11]) 13 ?_
      refine xId (lds := [7, 11]) (Psi.le.refl _) (eStB (s6.2.1).toNat 1 0 1 [vi (List.getD s6.1 (s6.2.2).toNat 0)] h6_0 rfl hw16 (show (tyI .i64).rep _ _ _ from rfl) i18) ?_
      rintro _ _ _ - ⟨k19, rfl, rfl, h19⟩
      refine kf ?_
      have hz19 : (s6.1).length = ((List.set s6.1 (s6.2.1).toNat ((List.getD s6.1 (s6.2.2).toNat 0) : Int))).length := by simp
      have hz19_1 : (data).length = ((List.set s6.1 (s6.2.1).toNat ((List.getD s6.1 (s6.2.2).toNat 0) : Int))).length := hz6_v0.trans hz19
      obtain ⟨q21, hS⟩ := grd_T hS
      have q21p := of_decide_eq_true q21
      have i22 : (s6.2.2).toNat < ((List.set s6.1 (s6.2.1).toNat ((List.getD s6.1 (s6.2.2).toNat 0) : Int))).length := by omega
      have i23 : (s6.2.2).toNat < (s6.1).length := by have := hz19; omega
      obtain ⟨kc20, cs20, hA20, hk20, hr20, hw20⟩ := h19.open_ i22 0
      obtain ⟨kb20, rfl⟩ : ∃ z, z = kc20 := ⟨_, rfl⟩
      subst hk20
      have hr20 : cs20 = [vi (List.getD (List.set s6.1 (s6.2.1).toNat ((List.getD s6.1 (s6.2.2).toNat 0) : Int)) (s6.2.2).toNat 0)] := hr20
      subst hr20
      refine xTp 14 RG (fun _ => (qIxB (s6.2.2).toNat 1 kb20.g hA20 (show (s6.2.2 : Int) = _ from by omega) i23)) ?_
      refine xO1 (lds := [7, 11]) 15 ?_
      refine xId (lds := [7, 11]) (Psi.le.refl _) (eStB (s6.2.2).toNat 1 0 1 [vi (List.getD s6.1 (s6.2.1).toNat 0)] h19 rfl hw20 (show (tyI .i64).rep _ _ _ from rfl) i22) ?_
      rintro _ _ _ - ⟨k24, rfl, rfl, h24⟩
      refine kf ?_
      have hz24 : (s6.1).length = ((List.set (List.set s6.1 (s6.2.1).toNat ((List.getD s6.1 (s6.2.2).toNat 0) : Int)) (s6.2.2).toNat ((List.getD s6.1 (s6.2.1).toNat 0) : Int))).length := hz19.trans (by simp)
      have hz24_1 : (data).length = ((List.set (List.set s6.1 (s6.2.1).toNat ((List.getD s6.1 (s6.2.2).toNat 0) : Int)) (s6.2.2).toNat ((List.getD s6.1 (s6.2.1).toNat 0) : Int))).length := hz19_1.trans (hz19.symm.trans hz24)
      refine xAe (lds := [7, 11]) ?_
      refine wpq_then ?_
      refine xSub [(0, Value.slice Adata ((s6.1).length) cdata), (8, vi s6.2.1), (9, vi s6.2.2)] ?_
      refine xSq ?_
      refine xRg ?_
      have z24 := i64_in_ (s6.2.1 + 1)
      refine xB 3 [] [(0, Value.slice Adata ((s6.1).length) cdata), (8, vi (IntKind.i64.wrap (s6.2.1 + 1))), (9, vi s6.2.2)] ?_
      refine xRe ?_
      refine wpq_then ?_
      refine xRg ?_
      have z25 := i64_in_ (s6.2.2 - 1)
      refine xB 3 [] [(0, Value.slice Adata ((s6.1).length) cdata), (8, vi (IntKind.i64.wrap (s6.2.1 + 1))), (9, vi (IntKind.i64.wrap (s6.2.2 - 1)))] ?_
      refine xRe ?_
      refine wpq_blockN ?_
      refine wpq_thenN ?_
      refine wpq_re 0 (v := Value.slice Adata ((s6.1).length) cdata) (vs Adata (List.set (List.set s6.1 (s6.2.1).toNat ((List.getD s6.1 (s6.2.2).toNat 0) : Int)) (s6.2.2).toNat ((List.getD s6.1 (s6.2.1).toNat 0) : Int)) cdata) (by kernel_rfl) (congrArg (fun z => Value.slice Adata z cdata) hz24) ?_
      have h24 := Buf.re h24 hz24 (rfl : (List.set (List.set s6.1 (s6.2.1).toNat ((List.getD s6.1 (s6.2.2).toNat 0) : Int)) (s6.2.2).toNat ((List.getD s6.1 (s6.2.1).toNat 0) : Int)) = _)
      refine xSel [none, some 1] ?_
      refine xSub [(0, vs Adata (List.set (List.set s6.1 (s6.2.1).toNat ((List.getD s6.1 (s6.2.2).toNat 0) : Int)) (s6.2.2).toNat ((List.getD s6.1 (s6.2.1).toNat 0) : Int)) cdata), (8, vi (IntKind.i64.wrap (s6.2.1 + 1))), (9, vi (IntKind.i64.wrap (s6.2.2 - 1)))] ?_
      have eS := (Option.some.inj hS).symm
      exact hN6 _ eS _ _ _ (Gh.le.refl _) ⟨k24, by kernel_rfl, by kernel_rfl, h24, hz24_1⟩
    · have hS := cond_F h9 hS
      have h9p := of_decide_eq_false h9
      refine xEx 0 ?_
      refine wpq_thenX ?_
      refine wpq_thenX ?_
      refine wpq_blockE ?_
      refine xSel [none, some 1] ?_
      refine xSub [] ?_
      have eS := (Option.some.inj hS).symm
      have eS := (hD6 _ eS).symm
      exact hN1 _ eS _ _ _ e8 ⟨k6_0, by kernel_rfl, by kernel_rfl, h6_0, hz6_v0⟩

def o63f39_L1 (b : Int) (cmpc : List Msg) (s46 : (List Int) × Int) : Option (Ctl ((List Int) × Int) ((List Int))) :=
  (cond (decide (s46.2 < b)) (grd (decide (0 ≤ s46.2 ∧ s46.2 < (((s46.1).length : Nat) : Int))) (grd (decide (0 ≤ (IntKind.i64.wrap (s46.2 - 1)) ∧ (IntKind.i64.wrap (s46.2 - 1)) < (((s46.1).length : Nat) : Int))) (bindO (τ := Int) (o39 ((List.getD s46.1 (s46.2).toNat 0) : Int) ((List.getD s46.1 ((IntKind.i64.wrap (s46.2 - 1))).toNat 0) : Int) (cmpc : List Msg)) fun y56 => (cond ((!decide (y56 < 0))) (some (Ctl.done ((s46.1 : List Int)))) (grd (decide (0 ≤ (IntKind.i64.wrap (s46.2 - 1)) ∧ (IntKind.i64.wrap (s46.2 - 1)) < (((s46.1).length : Nat) : Int))) (grd (decide (0 ≤ s46.2 ∧ s46.2 < (((s46.1).length : Nat) : Int))) (grd (decide (0 ≤ s46.2 ∧ s46.2 < (((s46.1).length : Nat) : Int))) (grd (decide (0 ≤ (IntKind.i64.wrap (s46.2 - 1)) ∧ (IntKind.i64.wrap (s46.2 - 1)) < ((((List.set s46.1 (s46.2).toNat ((List.getD s46.1 ((IntKind.i64.wrap (s46.2 - 1))).toNat 0) : Int))).length : Nat) : Int))) (some (Ctl.go (((List.set (List.set s46.1 (s46.2).toNat ((List.getD s46.1 ((IntKind.i64.wrap (s46.2 - 1))).toNat 0) : Int)) ((IntKind.i64.wrap (s46.2 - 1))).toNat ((List.getD s46.1 (s46.2).toNat 0) : Int)) : List Int), (IntKind.i64.wrap (s46.2 + 1))))))))))))) (some (Ctl.done ((s46.1 : List Int)))))
def o63f39_L2 (cmpc : List Msg) (s81 : (List Int) × Int) : Option (Ctl ((List Int) × Int) ((List Int))) :=
  (cond (decide (s81.2 ≥ 1)) (grd (decide (0 ≤ s81.2 ∧ s81.2 < (((s81.1).length : Nat) : Int))) (grd (decide (-9223372036854775808 ≤ s81.2 - 1 ∧ s81.2 - 1 ≤ 9223372036854775807)) (grd (decide (0 ≤ (s81.2 - 1) ∧ (s81.2 - 1) < (((s81.1).length : Nat) : Int))) (bindO (τ := Int) (o39 ((List.getD s81.1 (s81.2).toNat 0) : Int) ((List.getD s81.1 ((s81.2 - 1)).toNat 0) : Int) (cmpc : List Msg)) fun y92 => (cond ((!decide (y92 < 0))) (some (Ctl.done ((s81.1 : List Int)))) (grd (decide (-9223372036854775808 ≤ s81.2 - 1 ∧ s81.2 - 1 ≤ 9223372036854775807)) (grd (decide (-9223372036854775808 ≤ s81.2 - 1 ∧ s81.2 - 1 ≤ 9223372036854775807)) (grd (decide (0 ≤ (s81.2 - 1) ∧ (s81.2 - 1) < (((s81.1).length : Nat) : Int))) (grd (decide (0 ≤ s81.2 ∧ s81.2 < (((s81.1).length : Nat) : Int))) (grd (decide (0 ≤ s81.2 ∧ s81.2 < (((s81.1).length : Nat) : Int))) (grd (decide (0 ≤ (s81.2 - 1) ∧ (s81.2 - 1) < ((((List.set s81.1 (s81.2).toNat ((List.getD s81.1 ((s81.2 - 1)).toNat 0) : Int))).length : Nat) : Int))) (grd (decide (-9223372036854775808 ≤ s81.2 - 1 ∧ s81.2 - 1 ≤ 9223372036854775807)) (some (Ctl.go (((List.set (List.set s81.1 (s81.2).toNat ((List.getD s81.1 ((s81.2 - 1)).toNat 0) : Int)) ((s81.2 - 1)).toNat ((List.getD s81.1 (s81.2).toNat 0) : Int)) : List Int), (s81.2 - 1)))))))))))))))) (some (Ctl.done ((s81.1 : List Int)))))
def o63f39_L3 (b : Int) (cmpc : List Msg) (s6 : (List Int) × Int × Nat) (s116 : Int) : Option (Ctl (Int) (Int)) :=
  (bindO (τ := Bool) (cond (decide (s116 < b)) (grd (decide (0 ≤ s116 ∧ s116 < (((s6.1).length : Nat) : Int))) (grd (decide (0 ≤ (IntKind.i64.wrap (s116 - 1)) ∧ (IntKind.i64.wrap (s116 - 1)) < (((s6.1).length : Nat) : Int))) (bindO (τ := Int) (o39 ((List.getD s6.1 (s116).toNat 0) : Int) ((List.getD s6.1 ((IntKind.i64.wrap (s116 - 1))).toNat 0) : Int) (cmpc : List Msg)) fun y130 => (some (!decide (y130 < 0)))))) (some (false))) fun t119 => (cond (t119) (some (Ctl.go (IntKind.i64.wrap (s116 + 1)))) (some (Ctl.done (s116)))))
def o63f39_L0 (a : Int) (b : Int) (cmpc : List Msg) (s6 : (List Int) × Int × Nat) : Option (Ctl ((List Int) × Int × Nat) (Ctl ((List Int)) ((List Int) × Bool))) :=
  (cond (decide (((s6.2.2 : Nat) : Int) < 5)) (joinO (τ := (List Int) × Int) (ρ := Ctl ((List Int) × Int × Nat) (Ctl ((List Int)) ((List Int) × Bool))) (bindO (τ := Int) (loopO (σ := Int) (ρ := Int) fuelN (o63f39_L3 b cmpc s6) (s6.2.1)) fun t14 => (cond ((t14 == b)) (some (Ctl.done (Ctl.done (Ctl.done (((s6.1 : List Int), (true))))))) (cond (decide ((IntKind.i64.wrap (b - a)) < 50)) (some (Ctl.done (Ctl.done (Ctl.done (((s6.1 : List Int), (false))))))) (grd (decide (0 ≤ (IntKind.i64.wrap (t14 - 1)) ∧ (IntKind.i64.wrap (t14 - 1)) < (((s6.1).length : Nat) : Int))) (grd (decide (0 ≤ t14 ∧ t14 < (((s6.1).length : Nat) : Int))) (grd (decide (0 ≤ t14 ∧ t14 < (((s6.1).length : Nat) : Int))) (grd (decide (0 ≤ (IntKind.i64.wrap (t14 - 1)) ∧ (IntKind.i64.wrap (t14 - 1)) < ((((List.set s6.1 (t14).toNat ((List.getD s6.1 ((IntKind.i64.wrap (t14 - 1))).toNat 0) : Int))).length : Nat) : Int))) (bindO (τ := (List Int)) (cond (decide ((IntKind.i64.wrap (t14 - a)) ≥ 2)) (bindO (τ := (List Int)) (loopO (σ := (List Int) × Int) (ρ := (List Int)) fuelN (o63f39_L2 cmpc) (((List.set (List.set s6.1 (t14).toNat ((List.getD s6.1 ((IntKind.i64.wrap (t14 - 1))).toNat 0) : Int)) ((IntKind.i64.wrap (t14 - 1))).toNat ((List.getD s6.1 (t14).toNat 0) : Int)) : List Int), (IntKind.i64.wrap (t14 - 1)))) fun t76 => (some ((t76 : List Int)))) (some (((List.set (List.set s6.1 (t14).toNat ((List.getD s6.1 ((IntKind.i64.wrap (t14 - 1))).toNat 0) : Int)) ((IntKind.i64.wrap (t14 - 1))).toNat ((List.getD s6.1 (t14).toNat 0) : Int)) : List Int)))) fun t34 => (bindO (τ := (List Int)) (cond (decide ((IntKind.i64.wrap (b - t14)) ≥ 2)) (bindO (τ := (List Int)) (loopO (σ := (List Int) × Int) (ρ := (List Int)) fuelN (o63f39_L1 b cmpc) ((t34 : List Int), (IntKind.i64.wrap (t14 + 1)))) fun t41 => (some ((t41 : List Int)))) (some ((t34 : List Int)))) fun t37 => (some (Ctl.go ((t37 : List Int), t14)))))))))))) fun t10 => (grd (decide (((s6.2.2 : Nat) : Int) + 1 ≤ 9223372036854775807)) (some (Ctl.go ((t10.1 : List Int), t10.2, (s6.2.2 + 1)))))) (some (Ctl.done (Ctl.go (s6.1 : List Int)))))
def o63f39 (data : List Int) (a : Int) (b : Int) (cmpc : List Msg) : Option ((List Int) × Bool) :=
  (joinO (τ := (List Int)) (ρ := (List Int) × Bool) (loopO (σ := (List Int) × Int × Nat) (ρ := Ctl ((List Int)) ((List Int) × Bool)) fuelN (o63f39_L0 a b cmpc) ((data : List Int), (IntKind.i64.wrap (a + 1)), 0)) fun t1 => (some (((t1 : List Int), (false)))))
set_option maxRecDepth 100000 in
theorem c63f39 (g : Gh) (data : List Int) (Adata : Option Addr) (cdata : Nat) (kdata : Option Bk) (a : Int) (b : Int) (a_cmpc : Addr) (cmpc : List Msg) (Acmpc : Option Addr) (ccmpc : Nat) (hdata : Buf g.b (tyI .i64) 3 (.slice Adata (data).length cdata) kdata data) (hc_cmpc : Cells g.r a_cmpc [vs Acmpc cmpc ccmpc]) (fcmpc : ArrM g.r g.b tyMsg Acmpc ccmpc cmpc) {r : (List Int) × Bool} (hS : o63f39 data a b cmpc = some r) :
    Ctr Try.prog 63 [vs Adata data cdata, vi a, vi b, Value.func (.func 39) #[] #[Value.pointer (some a_cmpc)]] g [kdata, none] (fun v ψ o => ∃ (ko_data : Option Bk), v = vb r.2 ∧ o = [ko_data] ∧ Buf ψ (tyI .i64) 3 (.slice Adata (data).length cdata) ko_data r.1) := by
  unfold o63f39 at hS
  refine xFn Try.f63 (Try.f63.body.getD .skip) 141 ?_
  have nhdata := hdata.len
  have nfcmpc := fcmpc.len
  refine xSq ?_
  refine xRg ?_
  refine xB 1 [] [(0, vs Adata data cdata), (1, vi a), (2, vi b), (3, Value.func (.func 39) #[] #[Value.pointer (some a_cmpc)])] ?_
  refine xRe ?_
  refine wpq_then ?_
  refine xSq ?_
  refine xRg ?_
  have z1 := i64_in_ (a + 1)
  refine xB 3 [] [(0, vs Adata data cdata), (1, vi a), (2, vi b), (3, Value.func (.func 39) #[] #[Value.pointer (some a_cmpc)]), (9, vi (IntKind.i64.wrap (a + 1)))] ?_
  refine xRe ?_
  refine wpq_then ?_
  refine xSq ?_
  refine xSq ?_
  refine xRg ?_
  refine xB 1 [] [(0, vs Adata data cdata), (1, vi a), (2, vi b), (3, Value.func (.func 39) #[] #[Value.pointer (some a_cmpc)]), (9, vi (IntKind.i64.wrap (a + 1))), (10, vi 0)] ?_
  refine xRe ?_
  refine wpq_then ?_
  refine xJoinO hS (fun g own sl t1 => ∃ (k1_0 : Option Bk), own = [none, k1_0] ∧ sl = [] ∧ Buf g.b (tyI .i64) 3 (.slice Adata (t1).length cdata) k1_0 t1 ∧ (data).length = (t1).length) ?_ ?_
  · rintro g2 _ _ t1 e3 ⟨k1_0, rfl, rfl, h1_0, hz1_v0⟩ hS
    have nh1_0 := h1_0.len
    refine wpq_then ?_
    refine xSq ?_
    refine xRg ?_
    refine xB 1 [] [(8, vb false)] ?_
    refine xRe ?_
    refine wpq_then ?_
    have eS := (Option.some.inj hS).symm
    subst eS
    exact xRet [some 1] [8] e3 ⟨k1_0, by kernel_rfl, by kernel_rfl, (Buf.re h1_0 hz1_v0.symm rfl)⟩ (fun _ _ h => h)
  · intro uu1 hS hN1 hD1
    refine xBl 0 ?_
    refine xSel [none, some 0] ?_
    refine xSub [(0, vs Adata data cdata), (1, vi a), (2, vi b), (3, Value.func (.func 39) #[] #[Value.pointer (some a_cmpc)]), (9, vi (IntKind.i64.wrap (a + 1))), (10, vi 0)] ?_
    refine xLo hS (fun g own sl s6 => ∃ (k6_0 : Option Bk), own = [none, k6_0] ∧ sl = [(0, vs Adata s6.1 cdata), (1, vi a), (2, vi b), (3, Value.func (.func 39) #[] #[Value.pointer (some a_cmpc)]), (9, vi s6.2.1), (10, vi ((s6.2.2 : Nat) : Int))] ∧ Buf g.b (tyI .i64) 3 (.slice Adata (s6.1).length cdata) k6_0 s6.1 ∧ (data).length = (s6.1).length) ⟨kdata, by kernel_rfl, by kernel_rfl, hdata, rfl⟩ ?_
    rintro g7 _ _ s6 uu6 e8 ⟨k6_0, rfl, rfl, h6_0, hz6_v0⟩ hS Qr6 hN6 hD6
    have nh6_0 := h6_0.len
    unfold o63f39_L0 at hS
    refine xSq ?_
    refine xSq ?_
    refine xRg ?_
    refine xB 2 [] [(0, vs Adata s6.1 cdata), (1, vi a), (2, vi b), (3, Value.func (.func 39) #[] #[Value.pointer (some a_cmpc)]), (9, vi s6.2.1), (10, vi ((s6.2.2 : Nat) : Int)), (16, vb (decide (((s6.2.2 : Nat) : Int) < 5)))] ?_
    refine xRe ?_
    refine wpq_then ?_
    refine xCd (decide (((s6.2.2 : Nat) : Int) < 5)) (fun h9 => ?_) (fun h9 => ?_)
    · have hS := cond_T h9 hS
      have h9p := of_decide_eq_true h9
      refine xSk ?_
      refine wpq_then ?_
      refine xSub [(0, vs Adata s6.1 cdata), (1, vi a), (2, vi b), (3, Value.func (.func 39) #[] #[Value.pointer (some a_cmpc)]), (9, vi s6.2.1), (10, vi ((s6.2.2 : Nat) : Int))] ?_
      refine xSq ?_
      refine xJoinO hS (fun g own sl t10 => ∃ (k10_0 : Option Bk), own = [none, k10_0] ∧ sl = [(0, vs Adata t10.1 cdata), (1, vi a), (2, vi b), (3, Value.func (.func 39) #[] #[Value.pointer (some a_cmpc)]), (9, vi t10.2), (10, vi ((s6.2.2 : Nat) : Int))] ∧ Buf g.b (tyI .i64) 3 (.slice Adata (t10.1).length cdata) k10_0 t10.1 ∧ (data).length = (t10.1).length) ?_ ?_
      · rintro g11 _ _ t10 e12 ⟨k10_0, rfl, rfl, h10_0, hz10_v0⟩ hS
        have nh10_0 := h10_0.len
        refine wpq_then ?_
        refine xRg ?_
        obtain ⟨q13, hS⟩ := grd_T hS
        have q13p := of_decide_eq_true q13
        refine xB 1 [] [(0, vs Adata t10.1 cdata), (1, vi a), (2, vi b), (3, Value.func (.func 39) #[] #[Value.pointer (some a_cmpc)]), (9, vi t10.2), (10, vi ((s6.2.2 : Nat) : Int)), (17, vi ((s6.2.2 : Nat) : Int))] ?_
        refine xV (qAdd .i64 (((s6.2.2 : Nat) : Int)) (1) (wr64 (by omega))) ?_
        refine xB 1 [] [(0, vs Adata t10.1 cdata), (1, vi a), (2, vi b), (3, Value.func (.func 39) #[] #[Value.pointer (some a_cmpc)]), (9, vi t10.2), (10, vi (((s6.2.2 : Nat) : Int) + 1))] ?_
        refine xRe ?_
        refine wpq_thenN ?_
        refine xSel [none, some 1] ?_
        refine xSub [(0, vs Adata t10.1 cdata), (1, vi a), (2, vi b), (3, Value.func (.func 39) #[] #[Value.pointer (some a_cmpc)]), (9, vi t10.2), (10, vi (((s6.2.2 : Nat) : Int) + 1))] ?_
        have eS := (Option.some.inj hS).symm
        exact hN6 _ eS _ _ _ e12 ⟨k10_0, by kernel_rfl, by kernel_rfl, h10_0, hz10_v0⟩
      · intro uu10 hS hN10 hD10
        refine xBl 1 ?_
        refine xSq ?_
        refine xBindO hS (fun g own sl t14 => own = [none, k6_0] ∧ sl = [(0, vs Adata s6.1 cdata), (1, vi a), (2, vi b), (3, Value.func (.func 39) #[] #[Value.pointer (some a_cmpc)]), (9, vi t14), (10, vi ((s6.2.2 : Nat) : Int))]) ?_ ?_
        · rintro g15 _ _ t14 e16 ⟨rfl, rfl⟩ hS
          refine wpq_then ?_
          refine xSq ?_
          refine xSq ?_
          refine xRg ?_
          refine xB 3 [] [(0, vs Adata s6.1 cdata), (1, vi a), (2, vi b), (3, Value.func (.func 39) #[] #[Value.pointer (some a_cmpc)]), (9, vi t14), (10, vi ((s6.2.2 : Nat) : Int)), (41, vb (t14 == b))] ?_
          refine xRe ?_
          refine wpq_then ?_
          refine xCd ((t14 == b)) (fun h17 => ?_) (fun h17 => ?_)
          · have hS := cond_T h17 hS
            have h17p : t14 = b := eq_of_beq h17
            refine xSq ?_
            refine xRg ?_
            refine xB 1 [] [(8, vb true)] ?_
            refine xRe ?_
            refine wpq_then ?_
            have h6_0 := h6_0.mono e16.b
            have eS := (Option.some.inj hS).symm
            have eS := (hD10 _ eS).symm
            have eS := (hD6 _ eS).symm
            have eS := (hD1 _ eS).symm
            subst eS
            exact xRet [some 1] [8] (e8.trans e16) ⟨k6_0, by kernel_rfl, by kernel_rfl, (Buf.re h6_0 hz6_v0.symm rfl)⟩ (fun _ _ h => h)
          · have hS := cond_F h17 hS
            have h17p : ¬ (t14 = b) := ne_of_beq_false_ h17
            refine xSk ?_
            refine wpq_then ?_
            refine xSub [(0, vs Adata s6.1 cdata), (1, vi a), (2, vi b), (3, Value.func (.func 39) #[] #[Value.pointer (some a_cmpc)]), (9, vi t14), (10, vi ((s6.2.2 : Nat) : Int))] ?_
            refine xSq ?_
            refine xSq ?_
            refine xRg ?_
            have z1301 := i64_in_ (b - a)
            refine xB 4 [] [(0, vs Adata s6.1 cdata), (1, vi a), (2, vi b), (3, Value.func (.func 39) #[] #[Value.pointer (some a_cmpc)]), (9, vi t14), (10, vi ((s6.2.2 : Nat) : Int)), (45, vb (decide ((IntKind.i64.wrap (b - a)) < 50)))] ?_
            refine xRe ?_
            refine wpq_then ?_
            refine xCd (decide ((IntKind.i64.wrap (b - a)) < 50)) (fun h18 => ?_) (fun h18 => ?_)
            · have hS := cond_T h18 hS
              have h18p := of_decide_eq_true h18
              refine xSq ?_
              refine xRg ?_
              refine xB 1 [] [(8, vb false)] ?_
              refine xRe ?_
              refine wpq_then ?_
              have h6_0 := h6_0.mono e16.b
              have eS := (Option.some.inj hS).symm
              have eS := (hD10 _ eS).symm
              have eS := (hD6 _ eS).symm
              have eS := (hD1 _ eS).symm
              subst eS
              exact xRet [some 1] [8] (e8.trans e16) ⟨k6_0, by kernel_rfl, by kernel_rfl, (Buf.re h6_0 hz6_v0.symm rfl)⟩ (fun _ _ h => h)
            · have hS := cond_F h18 hS
              have h18p := of_decide_eq_false h18
              refine xSk ?_
              refine wpq_then ?_
              refine xSub [(0, vs Adata s6.1 cdata), (1, vi a), (2, vi b), (3, Value.func (.func 39) #[] #[Value.pointer (some a_cmpc)]), (9, vi t14), (10, vi ((s6.2.2 : Nat) : Int))] ?_
              refine xSq ?_
              refine xDr 0 [9, 13] [15, 17, 14, 16] [k6_0] 18 (fun RG => ?_) (fun _ _ _ _ _ h => h)
              have z1302 := i64_in_ (t14 - 1)
              have z1303 := i64_in_ (t14 - 1)
              have h6_0 := h6_0.mono e16.b
              obtain ⟨q20, hS⟩ := grd_T hS
              have q20p := of_decide_eq_true q20
              have i21 : ((IntKind.i64.wrap (t14 - 1))).toNat < (s6.1).length := by omega
              obtain ⟨kc19, cs19, hA19, hk19, hr19, hw19⟩ := h6_0.open_ i21 0
              obtain ⟨kb19, rfl⟩ : ∃ z, z = kc19 := ⟨_, rfl⟩
              subst hk19
              have hr19 : cs19 = [vi (List.getD s6.1 ((IntKind.i64.wrap (t14 - 1))).toNat 0)] := hr19
              subst hr19
              refine xT 10 [0, 1, 2, 3, 4, 5, 6, 7] [] [some 1] [(0, vs Adata s6.1 cdata), (1, vi a), (2, vi b), (3, Value.func (.func 39) #[] #[Value.pointer (some a_cmpc)]), (9, vi t14), (10, vi ((s6.2.2 : Nat) : Int)), (46, vs Adata s6.1 cdata), (47, vi t14), (48, vs Adata s6.1 cdata), (50, vi (IntKind.i64.wrap (t14 - 1))), (51, vs Adata s6.1 cdata), (53, vi (IntKind.i64.wrap (t14 - 1)))] RG (Psi.le.refl _) ?_
              refine xTp 8 RG (fun _ => (qIxB ((IntKind.i64.wrap (t14 - 1))).toNat 1 kb19.g hA19 (show ((IntKind.i64.wrap (t14 - 1)) : Int) = _ from by omega) i21)) ?_
              refine xTv 9 [some 1] RG (Psi.le.refl _) (qLdB ((IntKind.i64.wrap (t14 - 1))).toNat 1 0 0 hw19) ?_
              obtain ⟨q23, hS⟩ := grd_T hS
              have q23p := of_decide_eq_true q23
              have i24 : (t14).toNat < (s6.1).length := by omega
              obtain ⟨kc22, cs22, hA22, hk22, hr22, hw22⟩ := h6_0.open_ i24 0
              cases hk22
              have hr22 : cs22 = [vi (List.getD s6.1 (t14).toNat 0)] := hr22
              subst hr22
              refine xT 6 [10, 11] [] [some 1] [(0, vs Adata s6.1 cdata), (1, vi a), (2, vi b), (3, Value.func (.func 39) #[] #[Value.pointer (some a_cmpc)]), (9, vi t14), (10, vi ((s6.2.2 : Nat) : Int)), (46, vs Adata s6.1 cdata), (47, vi t14), (48, vs Adata s6.1 cdata), (50, vi (IntKind.i64.wrap (t14 - 1))), (55, vi (List.getD s6.1 ((IntKind.i64.wrap (t14 - 1))).toNat 0)), (56, vs Adata s6.1 cdata), (57, vi t14)] RG (Psi.le.refl _) ?_
              refine xTp 12 RG (fun _ => (qIxB (t14).toNat 1 kb19.g hA22 (show (t14 : Int) = _ from by omega) i24)) ?_
              refine xTv 13 [some 1] RG (Psi.le.refl _) (qLdB (t14).toNat 1 0 0 hw22) ?_
              obtain ⟨q26, hS⟩ := grd_T hS
              have q26p := of_decide_eq_true q26
              have i27 : (t14).toNat < (s6.1).length := by omega
              obtain ⟨kc25, cs25, hA25, hk25, hr25, hw25⟩ := h6_0.open_ i27 0
              cases hk25
              have hr25 : cs25 = [vi (List.getD s6.1 (t14).toNat 0)] := hr25
              subst hr25
              refine xTp 14 RG (fun _ => (qIxB (t14).toNat 1 kb19.g hA25 (show (t14 : Int) = _ from by omega) i27)) ?_
              refine xO1 (lds := [9, 13]) 15 ?_
              refine xId (lds := [9, 13]) (Psi.le.refl _) (eStB (t14).toNat 1 0 1 [vi (List.getD s6.1 ((IntKind.i64.wrap (t14 - 1))).toNat 0)] h6_0 rfl hw25 (show (tyI .i64).rep _ _ _ from rfl) i27) ?_
              rintro _ _ _ - ⟨k28, rfl, rfl, h28⟩
              refine kf ?_
              have hz28 : (s6.1).length = ((List.set s6.1 (t14).toNat ((List.getD s6.1 ((IntKind.i64.wrap (t14 - 1))).toNat 0) : Int))).length := by simp
              have hz28_1 : (data).length = ((List.set s6.1 (t14).toNat ((List.getD s6.1 ((IntKind.i64.wrap (t14 - 1))).toNat 0) : Int))).length := hz6_v0.trans hz28
              obtain ⟨q30, hS⟩ := grd_T hS
              have q30p := of_decide_eq_true q30
              have i31 : ((IntKind.i64.wrap (t14 - 1))).toNat < ((List.set s6.1 (t14).toNat ((List.getD s6.1 ((IntKind.i64.wrap (t14 - 1))).toNat 0) : Int))).length := by omega
              have i32 : ((IntKind.i64.wrap (t14 - 1))).toNat < (s6.1).length := by have := hz28; omega
              obtain ⟨kc29, cs29, hA29, hk29, hr29, hw29⟩ := h28.open_ i31 0
              obtain ⟨kb29, rfl⟩ : ∃ z, z = kc29 := ⟨_, rfl⟩
              subst hk29
              have hr29 : cs29 = [vi (List.getD (List.set s6.1 (t14).toNat ((List.getD s6.1 ((IntKind.i64.wrap (t14 - 1))).toNat 0) : Int)) ((IntKind.i64.wrap (t14 - 1))).toNat 0)] := hr29
              subst hr29
              refine xTp 16 RG (fun _ => (qIxB ((IntKind.i64.wrap (t14 - 1))).toNat 1 kb29.g hA29 (show ((IntKind.i64.wrap (t14 - 1)) : Int) = _ from by omega) i32)) ?_
              refine xO1 (lds := [9, 13]) 17 ?_
              refine xId (lds := [9, 13]) (Psi.le.refl _) (eStB ((IntKind.i64.wrap (t14 - 1))).toNat 1 0 1 [vi (List.getD s6.1 (t14).toNat 0)] h28 rfl hw29 (show (tyI .i64).rep _ _ _ from rfl) i31) ?_
              rintro _ _ _ - ⟨k33, rfl, rfl, h33⟩
              refine kf ?_
              have hz33 : (s6.1).length = ((List.set (List.set s6.1 (t14).toNat ((List.getD s6.1 ((IntKind.i64.wrap (t14 - 1))).toNat 0) : Int)) ((IntKind.i64.wrap (t14 - 1))).toNat ((List.getD s6.1 (t14).toNat 0) : Int))).length := hz28.trans (by simp)
              have hz33_1 : (data).length = ((List.set (List.set s6.1 (t14).toNat ((List.getD s6.1 ((IntKind.i64.wrap (t14 - 1))).toNat 0) : Int)) ((IntKind.i64.wrap (t14 - 1))).toNat ((List.getD s6.1 (t14).toNat 0) : Int))).length := hz28_1.trans (hz28.symm.trans hz33)
              refine xAe (lds := [9, 13]) ?_
              refine wpq_then ?_
              refine xSub [(0, Value.slice Adata ((s6.1).length) cdata), (1, vi a), (2, vi b), (3, Value.func (.func 39) #[] #[Value.pointer (some a_cmpc)]), (9, vi t14), (10, vi ((s6.2.2 : Nat) : Int))] ?_
              refine xSq ?_
              refine xSq ?_
              refine xRg ?_
              have z1304 := i64_in_ (t14 - a)
              refine xB 4 [] [(0, Value.slice Adata ((s6.1).length) cdata), (1, vi a), (2, vi b), (3, Value.func (.func 39) #[] #[Value.pointer (some a_cmpc)]), (9, vi t14), (10, vi ((s6.2.2 : Nat) : Int)), (65, vb (decide ((IntKind.i64.wrap (t14 - a)) ≥ 2)))] ?_
              refine xRe ?_
              refine wpq_then ?_
              refine xBindO hS (fun g own sl t34 => ∃ (k34_0 : Option Bk), own = [none, k34_0] ∧ sl = [(0, vs Adata t34 cdata), (1, vi a), (2, vi b), (3, Value.func (.func 39) #[] #[Value.pointer (some a_cmpc)]), (9, vi t14), (10, vi ((s6.2.2 : Nat) : Int))] ∧ Buf g.b (tyI .i64) 3 (.slice Adata (t34).length cdata) k34_0 t34 ∧ (data).length = (t34).length) ?_ ?_
              · rintro g35 _ _ t34 e36 ⟨k34_0, rfl, rfl, h34_0, hz34_v0⟩ hS
                have nh34_0 := h34_0.len
                refine wpq_then ?_
                refine xSq ?_
                refine xRg ?_
                have z1306 := i64_in_ (b - t14)
                refine xB 4 [] [(0, vs Adata t34 cdata), (1, vi a), (2, vi b), (3, Value.func (.func 39) #[] #[Value.pointer (some a_cmpc)]), (9, vi t14), (10, vi ((s6.2.2 : Nat) : Int)), (104, vb (decide ((IntKind.i64.wrap (b - t14)) ≥ 2)))] ?_
                refine xRe ?_
                refine wpq_then ?_
                refine xBindO hS (fun g own sl t37 => ∃ (k37_0 : Option Bk), own = [none, k37_0] ∧ sl = [(0, vs Adata t37 cdata), (1, vi a), (2, vi b), (3, Value.func (.func 39) #[] #[Value.pointer (some a_cmpc)]), (9, vi t14), (10, vi ((s6.2.2 : Nat) : Int))] ∧ Buf g.b (tyI .i64) 3 (.slice Adata (t37).length cdata) k37_0 t37 ∧ (data).length = (t37).length) ?_ ?_
                · rintro g38 _ _ t37 e39 ⟨k37_0, rfl, rfl, h37_0, hz37_v0⟩ hS
                  have nh37_0 := h37_0.len
                  refine wpq_blockN ?_
                  refine xSel [none, some 1] ?_
                  refine xSub [(0, vs Adata t37 cdata), (1, vi a), (2, vi b), (3, Value.func (.func 39) #[] #[Value.pointer (some a_cmpc)]), (9, vi t14), (10, vi ((s6.2.2 : Nat) : Int))] ?_
                  have eS := (Option.some.inj hS).symm
                  exact hN10 _ eS _ _ _ (e16.trans (e36.trans e39)) ⟨k37_0, by kernel_rfl, by kernel_rfl, h37_0, hz37_v0⟩
                · intro uu37 hS hN37
                  refine xCd (decide ((IntKind.i64.wrap (b - t14)) ≥ 2)) (fun h40 => ?_) (fun h40 => ?_)
                  · have hS := cond_T h40 hS
                    have h40p := of_decide_eq_true h40
                    refine xSq ?_
                    refine xRg ?_
                    have z1350 := i64_in_ (t14 + 1)
                    refine xB 3 [] [(0, vs Adata t34 cdata), (1, vi a), (2, vi b), (3, Value.func (.func 39) #[] #[Value.pointer (some a_cmpc)]), (9, vi t14), (10, vi ((s6.2.2 : Nat) : Int)), (12, vi (IntKind.i64.wrap (t14 + 1)))] ?_
                    refine xRe ?_
                    refine wpq_then ?_
                    refine xBindO hS (fun g own sl t41 => ∃ (k41_0 : Option Bk), own = [none, k41_0] ∧ sl = [(0, vs Adata t41 cdata), (1, vi a), (2, vi b), (3, Value.func (.func 39) #[] #[Value.pointer (some a_cmpc)]), (9, vi t14), (10, vi ((s6.2.2 : Nat) : Int))] ∧ Buf g.b (tyI .i64) 3 (.slice Adata (t41).length cdata) k41_0 t41 ∧ (data).length = (t41).length) ?_ ?_
                    · rintro g42 _ _ t41 e43 ⟨k41_0, rfl, rfl, h41_0, hz41_v0⟩ hS
                      have nh41_0 := h41_0.len
                      refine xSel [none, some 1] ?_
                      refine xSub [(0, vs Adata t41 cdata), (1, vi a), (2, vi b), (3, Value.func (.func 39) #[] #[Value.pointer (some a_cmpc)]), (9, vi t14), (10, vi ((s6.2.2 : Nat) : Int))] ?_
                      have eS := (Option.some.inj hS).symm
                      exact hN37 _ eS _ _ _ e43 ⟨k41_0, by kernel_rfl, by kernel_rfl, h41_0, hz41_v0⟩
                    · intro uu41 hS hN41
                      refine xBl 6 ?_
                      refine xSel [none, some 1] ?_
                      refine xSub [(0, vs Adata t34 cdata), (1, vi a), (2, vi b), (3, Value.func (.func 39) #[] #[Value.pointer (some a_cmpc)]), (9, vi t14), (10, vi ((s6.2.2 : Nat) : Int)), (12, vi (IntKind.i64.wrap (t14 + 1)))] ?_
                      refine xLo hS (fun g own sl s46 => ∃ (k46_0 : Option Bk), own = [none, k46_0] ∧ sl = [(0, vs Adata s46.1 cdata), (1, vi a), (2, vi b), (3, Value.func (.func 39) #[] #[Value.pointer (some a_cmpc)]), (9, vi t14), (10, vi ((s6.2.2 : Nat) : Int)), (12, vi s46.2)] ∧ Buf g.b (tyI .i64) 3 (.slice Adata (s46.1).length cdata) k46_0 s46.1 ∧ (data).length = (s46.1).length) ⟨k34_0, by kernel_rfl, by kernel_rfl, h34_0, hz34_v0⟩ ?_
                      rintro g47 _ _ s46 uu46 e48 ⟨k46_0, rfl, rfl, h46_0, hz46_v0⟩ hS Qr46 hN46 hD46
                      have nh46_0 := h46_0.len
                      unfold o63f39_L1 at hS
                      refine xSq ?_
                      refine xSq ?_
                      refine xRg ?_
                      refine xB 3 [] [(0, vs Adata s46.1 cdata), (1, vi a), (2, vi b), (3, Value.func (.func 39) #[] #[Value.pointer (some a_cmpc)]), (9, vi t14), (10, vi ((s6.2.2 : Nat) : Int)), (12, vi s46.2), (109, vb (decide (s46.2 < b)))] ?_
                      refine xRe ?_
                      refine wpq_then ?_
                      refine xCd (decide (s46.2 < b)) (fun h49 => ?_) (fun h49 => ?_)
                      · have hS := cond_T h49 hS
                        have h49p := of_decide_eq_true h49
                        refine xSk ?_
                        refine wpq_then ?_
                        refine xSub [(0, vs Adata s46.1 cdata), (1, vi a), (2, vi b), (3, Value.func (.func 39) #[] #[Value.pointer (some a_cmpc)]), (9, vi t14), (10, vi ((s6.2.2 : Nat) : Int)), (12, vi s46.2)] ?_
                        refine xSq ?_
                        refine xBl 7 ?_
                        refine xSq ?_
                        refine xSq ?_
                        refine xDr 0 [4, 9] [] [k46_0] 13 (fun RG => ?_) (fun _ _ _ _ _ h => h)
                        obtain ⟨q51, hS⟩ := grd_T hS
                        have q51p := of_decide_eq_true q51
                        have i52 : (s46.2).toNat < (s46.1).length := by omega
                        obtain ⟨kc50, cs50, hA50, hk50, hr50, hw50⟩ := h46_0.open_ i52 0
                        obtain ⟨kb50, rfl⟩ : ∃ z, z = kc50 := ⟨_, rfl⟩
                        subst hk50
                        have hr50 : cs50 = [vi (List.getD s46.1 (s46.2).toNat 0)] := hr50
                        subst hr50
                        refine xT 10 [0, 1, 2] [] [some 1] [(0, vs Adata s46.1 cdata), (1, vi a), (2, vi b), (3, Value.func (.func 39) #[] #[Value.pointer (some a_cmpc)]), (9, vi t14), (10, vi ((s6.2.2 : Nat) : Int)), (12, vi s46.2), (112, Value.func (.func 39) #[] #[Value.pointer (some a_cmpc)]), (113, vs Adata s46.1 cdata), (114, vi s46.2)] RG (Psi.le.refl _) ?_
                        refine xTp 3 RG (fun _ => (qIxB (s46.2).toNat 1 kb50.g hA50 (show (s46.2 : Int) = _ from by omega) i52)) ?_
                        refine xTv 4 [some 1] RG (Psi.le.refl _) (qLdB (s46.2).toNat 1 0 0 hw50) ?_
                        have z1389 := i64_in_ (s46.2 - 1)
                        obtain ⟨q54, hS⟩ := grd_T hS
                        have q54p := of_decide_eq_true q54
                        have i55 : ((IntKind.i64.wrap (s46.2 - 1))).toNat < (s46.1).length := by omega
                        obtain ⟨kc53, cs53, hA53, hk53, hr53, hw53⟩ := h46_0.open_ i55 0
                        cases hk53
                        have hr53 : cs53 = [vi (List.getD s46.1 ((IntKind.i64.wrap (s46.2 - 1))).toNat 0)] := hr53
                        subst hr53
                        refine xT 5 [5, 6, 7] [] [some 1] [(0, vs Adata s46.1 cdata), (1, vi a), (2, vi b), (3, Value.func (.func 39) #[] #[Value.pointer (some a_cmpc)]), (9, vi t14), (10, vi ((s6.2.2 : Nat) : Int)), (12, vi s46.2), (112, Value.func (.func 39) #[] #[Value.pointer (some a_cmpc)]), (116, vi (List.getD s46.1 (s46.2).toNat 0)), (117, vs Adata s46.1 cdata), (119, vi (IntKind.i64.wrap (s46.2 - 1)))] RG (Psi.le.refl _) ?_
                        refine xTp 8 RG (fun _ => (qIxB ((IntKind.i64.wrap (s46.2 - 1))).toNat 1 kb50.g hA53 (show ((IntKind.i64.wrap (s46.2 - 1)) : Int) = _ from by omega) i55)) ?_
                        refine xTv 9 [some 1] RG (Psi.le.refl _) (qLdB ((IntKind.i64.wrap (s46.2 - 1))).toNat 1 0 0 hw53) ?_
                        have hc_cmpc := hc_cmpc.mono (e8.trans (e16.trans (e36.trans e48))).r
                        have fcmpc := fcmpc.mono (e8.trans (e16.trans (e36.trans e48))).r (e8.trans (e16.trans (e36.trans e48))).b
                        obtain ⟨y56, hy56, hS⟩ := bindO_T hS
                        refine xO1 (lds := [4, 9]) 10 ?_
                        refine xIe (lds := [4, 9]) (Psi.le.refl _) (eC 0 (fun g' lr eb ln => c39 g' ((List.getD s46.1 (s46.2).toNat 0) : Int) ((List.getD s46.1 ((IntKind.i64.wrap (s46.2 - 1))).toNat 0) : Int) a_cmpc (cmpc : List Msg) Acmpc ccmpc (hc_cmpc.mono lr) (ArrM.lent fcmpc lr eb) hy56)) ?_
                        rintro _ g57 _ e58 ⟨_, rfl, rfl, rfl⟩
                        refine kk [some 1] ?_
                        refine xT 0 [11, 12] [] [some 1] [(0, vs Adata s46.1 cdata), (1, vi a), (2, vi b), (3, Value.func (.func 39) #[] #[Value.pointer (some a_cmpc)]), (9, vi t14), (10, vi ((s6.2.2 : Nat) : Int)), (12, vi s46.2), (124, vb (!decide (y56 < 0)))] RG e58.r ?_
                        refine xAe (lds := [4, 9]) ?_
                        refine wpq_then ?_
                        refine xCd ((!decide (y56 < 0))) (fun h59 => ?_) (fun h59 => ?_)
                        · have hS := cond_T h59 hS
                          have h59n := not_eq_true_ h59
                          have h59np := of_decide_eq_false h59n
                          refine xEx 6 ?_
                          refine wpq_thenX ?_
                          refine wpq_blockX (by kernel_rfl) ?_
                          refine wpq_thenX ?_
                          refine wpq_thenX ?_
                          refine wpq_blockE ?_
                          have h46_0 := h46_0.mono e58.b
                          refine xSel [none, some 1] ?_
                          refine xSub [(0, vs Adata s46.1 cdata), (1, vi a), (2, vi b), (3, Value.func (.func 39) #[] #[Value.pointer (some a_cmpc)]), (9, vi t14), (10, vi ((s6.2.2 : Nat) : Int))] ?_
                          have eS := (Option.some.inj hS).symm
                          have eS := (hD46 _ eS).symm
                          exact hN41 _ eS _ _ _ (e48.trans e58) ⟨(some kb50), by kernel_rfl, by kernel_rfl, h46_0, hz46_v0⟩
                        · have hS := cond_F h59 hS
                          have h59n := not_eq_false_ h59
                          have h59np := of_decide_eq_true h59n
                          refine xSk ?_
                          refine wpq_then ?_
                          refine xSub [(0, vs Adata s46.1 cdata), (1, vi a), (2, vi b), (3, Value.func (.func 39) #[] #[Value.pointer (some a_cmpc)]), (9, vi t14), (10, vi ((s6.2.2 : Nat) : Int)), (12, vi s46.2)] ?_
                          refine xDr 0 [9, 13] [15, 17, 14, 16] [(some kb50)] 18 (fun RG => ?_) (fun _ _ _ _ _ h => h)
                          have z1390 := i64_in_ (s46.2 - 1)
                          have z1391 := i64_in_ (s46.2 - 1)
                          have h46_0 := h46_0.mono e58.b
                          obtain ⟨q61, hS⟩ := grd_T hS
                          have q61p := of_decide_eq_true q61
                          have i62 : ((IntKind.i64.wrap (s46.2 - 1))).toNat < (s46.1).length := by omega
                          obtain ⟨kc60, cs60, hA60, hk60, hr60, hw60⟩ := h46_0.open_ i62 0
                          cases hk60
                          have hr60 : cs60 = [vi (List.getD s46.1 ((IntKind.i64.wrap (s46.2 - 1))).toNat 0)] := hr60
                          subst hr60
                          refine xT 10 [0, 1, 2, 3, 4, 5, 6, 7] [] [some 1] [(0, vs Adata s46.1 cdata), (1, vi a), (2, vi b), (3, Value.func (.func 39) #[] #[Value.pointer (some a_cmpc)]), (9, vi t14), (10, vi ((s6.2.2 : Nat) : Int)), (12, vi s46.2), (125, vs Adata s46.1 cdata), (126, vi s46.2), (127, vs Adata s46.1 cdata), (129, vi (IntKind.i64.wrap (s46.2 - 1))), (130, vs Adata s46.1 cdata), (132, vi (IntKind.i64.wrap (s46.2 - 1)))] RG (Psi.le.refl _) ?_
                          refine xTp 8 RG (fun _ => (qIxB ((IntKind.i64.wrap (s46.2 - 1))).toNat 1 kb50.g hA60 (show ((IntKind.i64.wrap (s46.2 - 1)) : Int) = _ from by omega) i62)) ?_
                          refine xTv 9 [some 1] RG (Psi.le.refl _) (qLdB ((IntKind.i64.wrap (s46.2 - 1))).toNat 1 0 0 hw60) ?_
                          obtain ⟨q64, hS⟩ := grd_T hS
                          have q64p := of_decide_eq_true q64
                          have i65 : (s46.2).toNat < (s46.1).length := by omega
                          obtain ⟨kc63, cs63, hA63, hk63, hr63, hw63⟩ := h46_0.open_ i65 0
                          cases hk63
                          have hr63 : cs63 = [vi (List.getD s46.1 (s46.2).toNat 0)] := hr63
                          subst hr63
                          refine xT 6 [10, 11] [] [some 1] [(0, vs Adata s46.1 cdata), (1, vi a), (2, vi b), (3, Value.func (.func 39) #[] #[Value.pointer (some a_cmpc)]), (9, vi t14), (10, vi ((s6.2.2 : Nat) : Int)), (12, vi s46.2), (125, vs Adata s46.1 cdata), (126, vi s46.2), (127, vs Adata s46.1 cdata), (129, vi (IntKind.i64.wrap (s46.2 - 1))), (134, vi (List.getD s46.1 ((IntKind.i64.wrap (s46.2 - 1))).toNat 0)), (135, vs Adata s46.1 cdata), (136, vi s46.2)] RG (Psi.le.refl _) ?_
                          refine xTp 12 RG (fun _ => (qIxB (s46.2).toNat 1 kb50.g hA63 (show (s46.2 : Int) = _ from by omega) i65)) ?_
                          refine xTv 13 [some 1] RG (Psi.le.refl _) (qLdB (s46.2).toNat 1 0 0 hw63) ?_
                          obtain ⟨q67, hS⟩ := grd_T hS
                          have q67p := of_decide_eq_true q67
                          have i68 : (s46.2).toNat < (s46.1).length := by omega
                          obtain ⟨kc66, cs66, hA66, hk66, hr66, hw66⟩ := h46_0.open_ i68 0
                          cases hk66
                          have hr66 : cs66 = [vi (List.getD s46.1 (s46.2).toNat 0)] := hr66
                          subst hr66
                          refine xTp 14 RG (fun _ => (qIxB (s46.2).toNat 1 kb50.g hA66 (show (s46.2 : Int) = _ from by omega) i68)) ?_
                          refine xO1 (lds := [9, 13]) 15 ?_
                          refine xId (lds := [9, 13]) (Psi.le.refl _) (eStB (s46.2).toNat 1 0 1 [vi (List.getD s46.1 ((IntKind.i64.wrap (s46.2 - 1))).toNat 0)] h46_0 rfl hw66 (show (tyI .i64).rep _ _ _ from rfl) i68) ?_
                          rintro _ _ _ - ⟨k69, rfl, rfl, h69⟩
                          refine kf ?_
                          have hz69 : (s46.1).length = ((List.set s46.1 (s46.2).toNat ((List.getD s46.1 ((IntKind.i64.wrap (s46.2 - 1))).toNat 0) : Int))).length := by simp
                          have hz69_1 : (data).length = ((List.set s46.1 (s46.2).toNat ((List.getD s46.1 ((IntKind.i64.wrap (s46.2 - 1))).toNat 0) : Int))).length := hz46_v0.trans hz69
                          obtain ⟨q71, hS⟩ := grd_T hS
                          have q71p := of_decide_eq_true q71
                          have i72 : ((IntKind.i64.wrap (s46.2 - 1))).toNat < ((List.set s46.1 (s46.2).toNat ((List.getD s46.1 ((IntKind.i64.wrap (s46.2 - 1))).toNat 0) : Int))).length := by omega
                          have i73 : ((IntKind.i64.wrap (s46.2 - 1))).toNat < (s46.1).length := by have := hz69; omega
                          obtain ⟨kc70, cs70, hA70, hk70, hr70, hw70⟩ := h69.open_ i72 0
                          obtain ⟨kb70, rfl⟩ : ∃ z, z = kc70 := ⟨_, rfl⟩
                          subst hk70
                          have hr70 : cs70 = [vi (List.getD (List.set s46.1 (s46.2).toNat ((List.getD s46.1 ((IntKind.i64.wrap (s46.2 - 1))).toNat 0) : Int)) ((IntKind.i64.wrap (s46.2 - 1))).toNat 0)] := hr70
                          subst hr70
                          refine xTp 16 RG (fun _ => (qIxB ((IntKind.i64.wrap (s46.2 - 1))).toNat 1 kb70.g hA70 (show ((IntKind.i64.wrap (s46.2 - 1)) : Int) = _ from by omega) i73)) ?_
                          refine xO1 (lds := [9, 13]) 17 ?_
                          refine xId (lds := [9, 13]) (Psi.le.refl _) (eStB ((IntKind.i64.wrap (s46.2 - 1))).toNat 1 0 1 [vi (List.getD s46.1 (s46.2).toNat 0)] h69 rfl hw70 (show (tyI .i64).rep _ _ _ from rfl) i72) ?_
                          rintro _ _ _ - ⟨k74, rfl, rfl, h74⟩
                          refine kf ?_
                          have hz74 : (s46.1).length = ((List.set (List.set s46.1 (s46.2).toNat ((List.getD s46.1 ((IntKind.i64.wrap (s46.2 - 1))).toNat 0) : Int)) ((IntKind.i64.wrap (s46.2 - 1))).toNat ((List.getD s46.1 (s46.2).toNat 0) : Int))).length := hz69.trans (by simp)
                          have hz74_1 : (data).length = ((List.set (List.set s46.1 (s46.2).toNat ((List.getD s46.1 ((IntKind.i64.wrap (s46.2 - 1))).toNat 0) : Int)) ((IntKind.i64.wrap (s46.2 - 1))).toNat ((List.getD s46.1 (s46.2).toNat 0) : Int))).length := hz69_1.trans (hz69.symm.trans hz74)
                          refine xAe (lds := [9, 13]) ?_
                          refine wpq_blockN ?_
                          refine wpq_then ?_
                          refine xSub [(0, Value.slice Adata ((s46.1).length) cdata), (1, vi a), (2, vi b), (3, Value.func (.func 39) #[] #[Value.pointer (some a_cmpc)]), (9, vi t14), (10, vi ((s6.2.2 : Nat) : Int)), (12, vi s46.2)] ?_
                          refine xRg ?_
                          have z1392 := i64_in_ (s46.2 + 1)
                          refine xB 3 [] [(0, Value.slice Adata ((s46.1).length) cdata), (1, vi a), (2, vi b), (3, Value.func (.func 39) #[] #[Value.pointer (some a_cmpc)]), (9, vi t14), (10, vi ((s6.2.2 : Nat) : Int)), (12, vi (IntKind.i64.wrap (s46.2 + 1)))] ?_
                          refine xRe ?_
                          refine wpq_thenN ?_
                          refine wpq_re 0 (v := Value.slice Adata ((s46.1).length) cdata) (vs Adata (List.set (List.set s46.1 (s46.2).toNat ((List.getD s46.1 ((IntKind.i64.wrap (s46.2 - 1))).toNat 0) : Int)) ((IntKind.i64.wrap (s46.2 - 1))).toNat ((List.getD s46.1 (s46.2).toNat 0) : Int)) cdata) (by kernel_rfl) (congrArg (fun z => Value.slice Adata z cdata) hz74) ?_
                          have h74 := Buf.re h74 hz74 (rfl : (List.set (List.set s46.1 (s46.2).toNat ((List.getD s46.1 ((IntKind.i64.wrap (s46.2 - 1))).toNat 0) : Int)) ((IntKind.i64.wrap (s46.2 - 1))).toNat ((List.getD s46.1 (s46.2).toNat 0) : Int)) = _)
                          refine xSel [none, some 1] ?_
                          refine xSub [(0, vs Adata (List.set (List.set s46.1 (s46.2).toNat ((List.getD s46.1 ((IntKind.i64.wrap (s46.2 - 1))).toNat 0) : Int)) ((IntKind.i64.wrap (s46.2 - 1))).toNat ((List.getD s46.1 (s46.2).toNat 0) : Int)) cdata), (1, vi a), (2, vi b), (3, Value.func (.func 39) #[] #[Value.pointer (some a_cmpc)]), (9, vi t14), (10, vi ((s6.2.2 : Nat) : Int)), (12, vi (IntKind.i64.wrap (s46.2 + 1)))] ?_
                          have eS := (Option.some.inj hS).symm
                          exact hN46 _ eS _ _ _ e58 ⟨k74, by kernel_rfl, by kernel_rfl, h74, hz74_1⟩
                      · have hS := cond_F h49 hS
                        have h49p := of_decide_eq_false h49
                        refine xEx 6 ?_
                        refine wpq_thenX ?_
                        refine wpq_thenX ?_
                        refine wpq_blockE ?_
                        refine xSel [none, some 1] ?_
                        refine xSub [(0, vs Adata s46.1 cdata), (1, vi a), (2, vi b), (3, Value.func (.func 39) #[] #[Value.pointer (some a_cmpc)]), (9, vi t14), (10, vi ((s6.2.2 : Nat) : Int))] ?_
                        have eS := (Option.some.inj hS).symm
                        have eS := (hD46 _ eS).symm
                        exact hN41 _ eS _ _ _ e48 ⟨k46_0, by kernel_rfl, by kernel_rfl, h46_0, hz46_v0⟩
                  · have hS := cond_F h40 hS
                    have h40p := of_decide_eq_false h40
                    refine xSk ?_
                    refine xSel [none, some 1] ?_
                    refine xSub [(0, vs Adata t34 cdata), (1, vi a), (2, vi b), (3, Value.func (.func 39) #[] #[Value.pointer (some a_cmpc)]), (9, vi t14), (10, vi ((s6.2.2 : Nat) : Int))] ?_
                    have eS := (Option.some.inj hS).symm
                    exact hN37 _ eS _ _ _ (Gh.le.refl _) ⟨k34_0, by kernel_rfl, by kernel_rfl, h34_0, hz34_v0⟩
              · intro uu34 hS hN34
                refine xCd (decide ((IntKind.i64.wrap (t14 - a)) ≥ 2)) (fun h75 => ?_) (fun h75 => ?_)
                · have hS := cond_T h75 hS
                  have h75p := of_decide_eq_true h75
                  refine xSq ?_
                  refine xRg ?_
                  have z1393 := i64_in_ (t14 - 1)
                  refine xB 3 [] [(0, Value.slice Adata ((s6.1).length) cdata), (1, vi a), (2, vi b), (3, Value.func (.func 39) #[] #[Value.pointer (some a_cmpc)]), (9, vi t14), (10, vi ((s6.2.2 : Nat) : Int)), (11, vi (IntKind.i64.wrap (t14 - 1)))] ?_
                  refine xRe ?_
                  refine wpq_then ?_
                  refine xBindO hS (fun g own sl t76 => ∃ (k76_0 : Option Bk), own = [none, k76_0] ∧ sl = [(0, vs Adata t76 cdata), (1, vi a), (2, vi b), (3, Value.func (.func 39) #[] #[Value.pointer (some a_cmpc)]), (9, vi t14), (10, vi ((s6.2.2 : Nat) : Int))] ∧ Buf g.b (tyI .i64) 3 (.slice Adata (t76).length cdata) k76_0 t76 ∧ (data).length = (t76).length) ?_ ?_
                  · rintro g77 _ _ t76 e78 ⟨k76_0, rfl, rfl, h76_0, hz76_v0⟩ hS
                    have nh76_0 := h76_0.len
                    refine xSel [none, some 1] ?_
                    refine xSub [(0, vs Adata t76 cdata), (1, vi a), (2, vi b), (3, Value.func (.func 39) #[] #[Value.pointer (some a_cmpc)]), (9, vi t14), (10, vi ((s6.2.2 : Nat) : Int))] ?_
                    have eS := (Option.some.inj hS).symm
                    exact hN34 _ eS _ _ _ e78 ⟨k76_0, by kernel_rfl, by kernel_rfl, h76_0, hz76_v0⟩
                  · intro uu76 hS hN76
                    refine xBl 4 ?_
                    refine wpq_re 0 (v := Value.slice Adata ((s6.1).length) cdata) (vs Adata (List.set (List.set s6.1 (t14).toNat ((List.getD s6.1 ((IntKind.i64.wrap (t14 - 1))).toNat 0) : Int)) ((IntKind.i64.wrap (t14 - 1))).toNat ((List.getD s6.1 (t14).toNat 0) : Int)) cdata) (by kernel_rfl) (congrArg (fun z => Value.slice Adata z cdata) hz33) ?_
                    have h33 := Buf.re h33 hz33 (rfl : (List.set (List.set s6.1 (t14).toNat ((List.getD s6.1 ((IntKind.i64.wrap (t14 - 1))).toNat 0) : Int)) ((IntKind.i64.wrap (t14 - 1))).toNat ((List.getD s6.1 (t14).toNat 0) : Int)) = _)
                    refine xSel [none, some 1] ?_
                    refine xSub [(0, vs Adata (List.set (List.set s6.1 (t14).toNat ((List.getD s6.1 ((IntKind.i64.wrap (t14 - 1))).toNat 0) : Int)) ((IntKind.i64.wrap (t14 - 1))).toNat ((List.getD s6.1 (t14).toNat 0) : Int)) cdata), (1, vi a), (2, vi b), (3, Value.func (.func 39) #[] #[Value.pointer (some a_cmpc)]), (9, vi t14), (10, vi ((s6.2.2 : Nat) : Int)), (11, vi (IntKind.i64.wrap (t14 - 1)))] ?_
                    refine xLo hS (fun g own sl s81 => ∃ (k81_0 : Option Bk), own = [none, k81_0] ∧ sl = [(0, vs Adata s81.1 cdata), (1, vi a), (2, vi b), (3, Value.func (.func 39) #[] #[Value.pointer (some a_cmpc)]), (9, vi t14), (10, vi ((s6.2.2 : Nat) : Int)), (11, vi s81.2)] ∧ Buf g.b (tyI .i64) 3 (.slice Adata (s81.1).length cdata) k81_0 s81.1 ∧ (data).length = (s81.1).length) ⟨k33, by kernel_rfl, by kernel_rfl, h33, hz33_1⟩ ?_
                    rintro g82 _ _ s81 uu81 e83 ⟨k81_0, rfl, rfl, h81_0, hz81_v0⟩ hS Qr81 hN81 hD81
                    have nh81_0 := h81_0.len
                    unfold o63f39_L2 at hS
                    refine xSq ?_
                    refine xSq ?_
                    refine xRg ?_
                    refine xB 2 [] [(0, vs Adata s81.1 cdata), (1, vi a), (2, vi b), (3, Value.func (.func 39) #[] #[Value.pointer (some a_cmpc)]), (9, vi t14), (10, vi ((s6.2.2 : Nat) : Int)), (11, vi s81.2), (69, vb (decide (s81.2 ≥ 1)))] ?_
                    refine xRe ?_
                    refine wpq_then ?_
                    refine xCd (decide (s81.2 ≥ 1)) (fun h84 => ?_) (fun h84 => ?_)
                    · have hS := cond_T h84 hS
                      have h84p := of_decide_eq_true h84
                      refine xSk ?_
                      refine wpq_then ?_
                      refine xSub [(0, vs Adata s81.1 cdata), (1, vi a), (2, vi b), (3, Value.func (.func 39) #[] #[Value.pointer (some a_cmpc)]), (9, vi t14), (10, vi ((s6.2.2 : Nat) : Int)), (11, vi s81.2)] ?_
                      refine xSq ?_
                      refine xBl 5 ?_
                      refine xSq ?_
                      refine xSq ?_
                      refine xDr 0 [4, 9] [] [k81_0] 13 (fun RG => ?_) (fun _ _ _ _ _ h => h)
                      obtain ⟨q86, hS⟩ := grd_T hS
                      have q86p := of_decide_eq_true q86
                      have i87 : (s81.2).toNat < (s81.1).length := by omega
                      obtain ⟨kc85, cs85, hA85, hk85, hr85, hw85⟩ := h81_0.open_ i87 0
                      obtain ⟨kb85, rfl⟩ : ∃ z, z = kc85 := ⟨_, rfl⟩
                      subst hk85
                      have hr85 : cs85 = [vi (List.getD s81.1 (s81.2).toNat 0)] := hr85
                      subst hr85
                      refine xT 10 [0, 1, 2] [] [some 1] [(0, vs Adata s81.1 cdata), (1, vi a), (2, vi b), (3, Value.func (.func 39) #[] #[Value.pointer (some a_cmpc)]), (9, vi t14), (10, vi ((s6.2.2 : Nat) : Int)), (11, vi s81.2), (72, Value.func (.func 39) #[] #[Value.pointer (some a_cmpc)]), (73, vs Adata s81.1 cdata), (74, vi s81.2)] RG (Psi.le.refl _) ?_
                      refine xTp 3 RG (fun _ => (qIxB (s81.2).toNat 1 kb85.g hA85 (show (s81.2 : Int) = _ from by omega) i87)) ?_
                      refine xTv 4 [some 1] RG (Psi.le.refl _) (qLdB (s81.2).toNat 1 0 0 hw85) ?_
                      obtain ⟨q88, hS⟩ := grd_T hS
                      have q88p := of_decide_eq_true q88
                      refine xT 6 [5, 6] [] [some 1] [(0, vs Adata s81.1 cdata), (1, vi a), (2, vi b), (3, Value.func (.func 39) #[] #[Value.pointer (some a_cmpc)]), (9, vi t14), (10, vi ((s6.2.2 : Nat) : Int)), (11, vi s81.2), (72, Value.func (.func 39) #[] #[Value.pointer (some a_cmpc)]), (76, vi (List.getD s81.1 (s81.2).toNat 0)), (77, vs Adata s81.1 cdata), (78, vi s81.2)] RG (Psi.le.refl _) ?_
                      refine xTp 7 RG (fun _ => (qSub .i64 (s81.2) (1) (wr64 (by omega)))) ?_
                      obtain ⟨q90, hS⟩ := grd_T hS
                      have q90p := of_decide_eq_true q90
                      have i91 : ((s81.2 - 1)).toNat < (s81.1).length := by omega
                      obtain ⟨kc89, cs89, hA89, hk89, hr89, hw89⟩ := h81_0.open_ i91 0
                      cases hk89
                      have hr89 : cs89 = [vi (List.getD s81.1 ((s81.2 - 1)).toNat 0)] := hr89
                      subst hr89
                      refine xTp 8 RG (fun _ => (qIxB ((s81.2 - 1)).toNat 1 kb85.g hA89 (show ((s81.2 - 1) : Int) = _ from by omega) i91)) ?_
                      refine xTv 9 [some 1] RG (Psi.le.refl _) (qLdB ((s81.2 - 1)).toNat 1 0 0 hw89) ?_
                      have hc_cmpc := hc_cmpc.mono (e8.trans (e16.trans e83)).r
                      have fcmpc := fcmpc.mono (e8.trans (e16.trans e83)).r (e8.trans (e16.trans e83)).b
                      obtain ⟨y92, hy92, hS⟩ := bindO_T hS
                      refine xO1 (lds := [4, 9]) 10 ?_
                      refine xIe (lds := [4, 9]) (Psi.le.refl _) (eC 0 (fun g' lr eb ln => c39 g' ((List.getD s81.1 (s81.2).toNat 0) : Int) ((List.getD s81.1 ((s81.2 - 1)).toNat 0) : Int) a_cmpc (cmpc : List Msg) Acmpc ccmpc (hc_cmpc.mono lr) (ArrM.lent fcmpc lr eb) hy92)) ?_
                      rintro _ g93 _ e94 ⟨_, rfl, rfl, rfl⟩
                      refine kk [some 1] ?_
                      refine xT 0 [11, 12] [] [some 1] [(0, vs Adata s81.1 cdata), (1, vi a), (2, vi b), (3, Value.func (.func 39) #[] #[Value.pointer (some a_cmpc)]), (9, vi t14), (10, vi ((s6.2.2 : Nat) : Int)), (11, vi s81.2), (84, vb (!decide (y92 < 0)))] RG e94.r ?_
                      refine xAe (lds := [4, 9]) ?_
                      refine wpq_then ?_
                      refine xCd ((!decide (y92 < 0))) (fun h95 => ?_) (fun h95 => ?_)
                      · have hS := cond_T h95 hS
                        have h95n := not_eq_true_ h95
                        have h95np := of_decide_eq_false h95n
                        refine xEx 4 ?_
                        refine wpq_thenX ?_
                        refine wpq_blockX (by kernel_rfl) ?_
                        refine wpq_thenX ?_
                        refine wpq_thenX ?_
                        refine wpq_blockE ?_
                        have h81_0 := h81_0.mono e94.b
                        refine xSel [none, some 1] ?_
                        refine xSub [(0, vs Adata s81.1 cdata), (1, vi a), (2, vi b), (3, Value.func (.func 39) #[] #[Value.pointer (some a_cmpc)]), (9, vi t14), (10, vi ((s6.2.2 : Nat) : Int))] ?_
                        have eS := (Option.some.inj hS).symm
                        have eS := (hD81 _ eS).symm
                        exact hN76 _ eS _ _ _ (e83.trans e94) ⟨(some kb85), by kernel_rfl, by kernel_rfl, h81_0, hz81_v0⟩
                      · have hS := cond_F h95 hS
                        have h95n := not_eq_false_ h95
                        have h95np := of_decide_eq_true h95n
                        refine xSk ?_
                        refine wpq_then ?_
                        refine xSub [(0, vs Adata s81.1 cdata), (1, vi a), (2, vi b), (3, Value.func (.func 39) #[] #[Value.pointer (some a_cmpc)]), (9, vi t14), (10, vi ((s6.2.2 : Nat) : Int)), (11, vi s81.2)] ?_
                        refine xDr 0 [9, 13] [15, 17, 14, 16] [(some kb85)] 18 (fun RG => ?_) (fun _ _ _ _ _ h => h)
                        obtain ⟨q96, hS⟩ := grd_T hS
                        have q96p := of_decide_eq_true q96
                        refine xT 14 [0, 1, 2, 3] [] [some 1] [(0, vs Adata s81.1 cdata), (1, vi a), (2, vi b), (3, Value.func (.func 39) #[] #[Value.pointer (some a_cmpc)]), (9, vi t14), (10, vi ((s6.2.2 : Nat) : Int)), (11, vi s81.2), (85, vs Adata s81.1 cdata), (86, vi s81.2), (87, vs Adata s81.1 cdata), (88, vi s81.2)] RG (Psi.le.refl _) ?_
                        refine xTp 4 RG (fun _ => (qSub .i64 (s81.2) (1) (wr64 (by omega)))) ?_
                        obtain ⟨q97, hS⟩ := grd_T hS
                        have q97p := of_decide_eq_true q97
                        refine xT 11 [5, 6] [] [some 1] [(0, vs Adata s81.1 cdata), (1, vi a), (2, vi b), (3, Value.func (.func 39) #[] #[Value.pointer (some a_cmpc)]), (9, vi t14), (10, vi ((s6.2.2 : Nat) : Int)), (11, vi s81.2), (85, vs Adata s81.1 cdata), (86, vi s81.2), (87, vs Adata s81.1 cdata), (89, vi (s81.2 - 1)), (90, vs Adata s81.1 cdata), (91, vi s81.2)] RG (Psi.le.refl _) ?_
                        refine xTp 7 RG (fun _ => (qSub .i64 (s81.2) (1) (wr64 (by omega)))) ?_
                        have h81_0 := h81_0.mono e94.b
                        obtain ⟨q99, hS⟩ := grd_T hS
                        have q99p := of_decide_eq_true q99
                        have i100 : ((s81.2 - 1)).toNat < (s81.1).length := by omega
                        obtain ⟨kc98, cs98, hA98, hk98, hr98, hw98⟩ := h81_0.open_ i100 0
                        cases hk98
                        have hr98 : cs98 = [vi (List.getD s81.1 ((s81.2 - 1)).toNat 0)] := hr98
                        subst hr98
                        refine xTp 8 RG (fun _ => (qIxB ((s81.2 - 1)).toNat 1 kb85.g hA98 (show ((s81.2 - 1) : Int) = _ from by omega) i100)) ?_
                        refine xTv 9 [some 1] RG (Psi.le.refl _) (qLdB ((s81.2 - 1)).toNat 1 0 0 hw98) ?_
                        obtain ⟨q102, hS⟩ := grd_T hS
                        have q102p := of_decide_eq_true q102
                        have i103 : (s81.2).toNat < (s81.1).length := by omega
                        obtain ⟨kc101, cs101, hA101, hk101, hr101, hw101⟩ := h81_0.open_ i103 0
                        cases hk101
                        have hr101 : cs101 = [vi (List.getD s81.1 (s81.2).toNat 0)] := hr101
                        subst hr101
                        refine xT 6 [10, 11] [] [some 1] [(0, vs Adata s81.1 cdata), (1, vi a), (2, vi b), (3, Value.func (.func 39) #[] #[Value.pointer (some a_cmpc)]), (9, vi t14), (10, vi ((s6.2.2 : Nat) : Int)), (11, vi s81.2), (85, vs Adata s81.1 cdata), (86, vi s81.2), (87, vs Adata s81.1 cdata), (89, vi (s81.2 - 1)), (94, vi (List.getD s81.1 ((s81.2 - 1)).toNat 0)), (95, vs Adata s81.1 cdata), (96, vi s81.2)] RG (Psi.le.refl _) ?_
                        refine xTp 12 RG (fun _ => (qIxB (s81.2).toNat 1 kb85.g hA101 (show (s81.2 : Int) = _ from by omega) i103)) ?_
                        refine xTv 13 [some 1] RG (Psi.le.refl _) (qLdB (s81.2).toNat 1 0 0 hw101) ?_
                        obtain ⟨q105, hS⟩ := grd_T hS
                        have q105p := of_decide_eq_true q105
                        have i106 : (s81.2).toNat < (s81.1).length := by omega
                        obtain ⟨kc104, cs104, hA104, hk104, hr104, hw104⟩ := h81_0.open_ i106 0
                        cases hk104
                        have hr104 : cs104 = [vi (List.getD s81.1 (s81.2).toNat 0)] := hr104
                        subst hr104
                        refine xTp 14 RG (fun _ => (qIxB (s81.2).toNat 1 kb85.g hA104 (show (s81.2 : Int) = _ from by omega) i106)) ?_
                        refine xO1 (lds := [9, 13]) 15 ?_
                        refine xId (lds := [9, 13]) (Psi.le.refl _) (eStB (s81.2).toNat 1 0 1 [vi (List.getD s81.1 ((s81.2 - 1)).toNat 0)] h81_0 rfl hw104 (show (tyI .i64).rep _ _ _ from rfl) i106) ?_
                        rintro _ _ _ - ⟨k107, rfl, rfl, h107⟩
                        refine kf ?_
                        have hz107 : (s81.1).length = ((List.set s81.1 (s81.2).toNat ((List.getD s81.1 ((s81.2 - 1)).toNat 0) : Int))).length := by simp
                        have hz107_1 : (data).length = ((List.set s81.1 (s81.2).toNat ((List.getD s81.1 ((s81.2 - 1)).toNat 0) : Int))).length := hz81_v0.trans hz107
                        obtain ⟨q109, hS⟩ := grd_T hS
                        have q109p := of_decide_eq_true q109
                        have i110 : ((s81.2 - 1)).toNat < ((List.set s81.1 (s81.2).toNat ((List.getD s81.1 ((s81.2 - 1)).toNat 0) : Int))).length := by omega
                        have i111 : ((s81.2 - 1)).toNat < (s81.1).length := by have := hz107; omega
                        obtain ⟨kc108, cs108, hA108, hk108, hr108, hw108⟩ := h107.open_ i110 0
                        obtain ⟨kb108, rfl⟩ : ∃ z, z = kc108 := ⟨_, rfl⟩
                        subst hk108
                        have hr108 : cs108 = [vi (List.getD (List.set s81.1 (s81.2).toNat ((List.getD s81.1 ((s81.2 - 1)).toNat 0) : Int)) ((s81.2 - 1)).toNat 0)] := hr108
                        subst hr108
                        refine xTp 16 RG (fun _ => (qIxB ((s81.2 - 1)).toNat 1 kb108.g hA108 (show ((s81.2 - 1) : Int) = _ from by omega) i111)) ?_
                        refine xO1 (lds := [9, 13]) 17 ?_
                        refine xId (lds := [9, 13]) (Psi.le.refl _) (eStB ((s81.2 - 1)).toNat 1 0 1 [vi (List.getD s81.1 (s81.2).toNat 0)] h107 rfl hw108 (show (tyI .i64).rep _ _ _ from rfl) i110) ?_
                        rintro _ _ _ - ⟨k112, rfl, rfl, h112⟩
                        refine kf ?_
                        have hz112 : (s81.1).length = ((List.set (List.set s81.1 (s81.2).toNat ((List.getD s81.1 ((s81.2 - 1)).toNat 0) : Int)) ((s81.2 - 1)).toNat ((List.getD s81.1 (s81.2).toNat 0) : Int))).length := hz107.trans (by simp)
                        have hz112_1 : (data).length = ((List.set (List.set s81.1 (s81.2).toNat ((List.getD s81.1 ((s81.2 - 1)).toNat 0) : Int)) ((s81.2 - 1)).toNat ((List.getD s81.1 (s81.2).toNat 0) : Int))).length := hz107_1.trans (hz107.symm.trans hz112)
                        refine xAe (lds := [9, 13]) ?_
                        refine wpq_blockN ?_
                        refine wpq_then ?_
                        refine xSub [(0, Value.slice Adata ((s81.1).length) cdata), (1, vi a), (2, vi b), (3, Value.func (.func 39) #[] #[Value.pointer (some a_cmpc)]), (9, vi t14), (10, vi ((s6.2.2 : Nat) : Int)), (11, vi s81.2)] ?_
                        refine xRg ?_
                        obtain ⟨q113, hS⟩ := grd_T hS
                        have q113p := of_decide_eq_true q113
                        refine xB 1 [] [(0, Value.slice Adata ((s81.1).length) cdata), (1, vi a), (2, vi b), (3, Value.func (.func 39) #[] #[Value.pointer (some a_cmpc)]), (9, vi t14), (10, vi ((s6.2.2 : Nat) : Int)), (11, vi s81.2), (70, vi s81.2)] ?_
                        refine xV (qSub .i64 (s81.2) (1) (wr64 (by omega))) ?_
                        refine xB 1 [] [(0, Value.slice Adata ((s81.1).length) cdata), (1, vi a), (2, vi b), (3, Value.func (.func 39) #[] #[Value.pointer (some a_cmpc)]), (9, vi t14), (10, vi ((s6.2.2 : Nat) : Int)), (11, vi (s81.2 - 1))] ?_
                        refine xRe ?_
                        refine wpq_thenN ?_
                        refine wpq_re 0 (v := Value.slice Adata ((s81.1).length) cdata) (vs Adata (List.set (List.set s81.1 (s81.2).toNat ((List.getD s81.1 ((s81.2 - 1)).toNat 0) : Int)) ((s81.2 - 1)).toNat ((List.getD s81.1 (s81.2).toNat 0) : Int)) cdata) (by kernel_rfl) (congrArg (fun z => Value.slice Adata z cdata) hz112) ?_
                        have h112 := Buf.re h112 hz112 (rfl : (List.set (List.set s81.1 (s81.2).toNat ((List.getD s81.1 ((s81.2 - 1)).toNat 0) : Int)) ((s81.2 - 1)).toNat ((List.getD s81.1 (s81.2).toNat 0) : Int)) = _)
                        refine xSel [none, some 1] ?_
                        refine xSub [(0, vs Adata (List.set (List.set s81.1 (s81.2).toNat ((List.getD s81.1 ((s81.2 - 1)).toNat 0) : Int)) ((s81.2 - 1)).toNat ((List.getD s81.1 (s81.2).toNat 0) : Int)) cdata), (1, vi a), (2, vi b), (3, Value.func (.func 39) #[] #[Value.pointer (some a_cmpc)]), (9, vi t14), (10, vi ((s6.2.2 : Nat) : Int)), (11, vi (s81.2 - 1))] ?_
                        have eS := (Option.some.inj hS).symm
                        exact hN81 _ eS _ _ _ e94 ⟨k112, by kernel_rfl, by kernel_rfl, h112, hz112_1⟩
                    · have hS := cond_F h84 hS
                      have h84p := of_decide_eq_false h84
                      refine xEx 4 ?_
                      refine wpq_thenX ?_
                      refine wpq_thenX ?_
                      refine wpq_blockE ?_
                      refine xSel [none, some 1] ?_
                      refine xSub [(0, vs Adata s81.1 cdata), (1, vi a), (2, vi b), (3, Value.func (.func 39) #[] #[Value.pointer (some a_cmpc)]), (9, vi t14), (10, vi ((s6.2.2 : Nat) : Int))] ?_
                      have eS := (Option.some.inj hS).symm
                      have eS := (hD81 _ eS).symm
                      exact hN76 _ eS _ _ _ e83 ⟨k81_0, by kernel_rfl, by kernel_rfl, h81_0, hz81_v0⟩
                · have hS := cond_F h75 hS
                  have h75p := of_decide_eq_false h75
                  refine xSk ?_
                  refine wpq_re 0 (v := Value.slice Adata ((s6.1).length) cdata) (vs Adata (List.set (List.set s6.1 (t14).toNat ((List.getD s6.1 ((IntKind.i64.wrap (t14 - 1))).toNat 0) : Int)) ((IntKind.i64.wrap (t14 - 1))).toNat ((List.getD s6.1 (t14).toNat 0) : Int)) cdata) (by kernel_rfl) (congrArg (fun z => Value.slice Adata z cdata) hz33) ?_
                  have h33 := Buf.re h33 hz33 (rfl : (List.set (List.set s6.1 (t14).toNat ((List.getD s6.1 ((IntKind.i64.wrap (t14 - 1))).toNat 0) : Int)) ((IntKind.i64.wrap (t14 - 1))).toNat ((List.getD s6.1 (t14).toNat 0) : Int)) = _)
                  refine xSel [none, some 1] ?_
                  refine xSub [(0, vs Adata (List.set (List.set s6.1 (t14).toNat ((List.getD s6.1 ((IntKind.i64.wrap (t14 - 1))).toNat 0) : Int)) ((IntKind.i64.wrap (t14 - 1))).toNat ((List.getD s6.1 (t14).toNat 0) : Int)) cdata), (1, vi a), (2, vi b), (3, Value.func (.func 39) #[] #[Value.pointer (some a_cmpc)]), (9, vi t14), (10, vi ((s6.2.2 : Nat) : Int))] ?_
                  have eS := (Option.some.inj hS).symm
                  exact hN34 _ eS _ _ _ (Gh.le.refl _) ⟨k33, by kernel_rfl, by kernel_rfl, h33, hz33_1⟩
        · intro uu14 hS hN14
          refine xBl 2 ?_
          refine xSel [none, some 1] ?_
          refine xSub [(0, vs Adata s6.1 cdata), (1, vi a), (2, vi b), (3, Value.func (.func 39) #[] #[Value.pointer (some a_cmpc)]), (9, vi s6.2.1), (10, vi ((s6.2.2 : Nat) : Int))] ?_
          refine xLo hS (fun g own sl s116 => own = [none, k6_0] ∧ sl = [(0, vs Adata s6.1 cdata), (1, vi a), (2, vi b), (3, Value.func (.func 39) #[] #[Value.pointer (some a_cmpc)]), (9, vi s116), (10, vi ((s6.2.2 : Nat) : Int))]) ⟨by kernel_rfl, by kernel_rfl⟩ ?_
          rintro g117 _ _ s116 uu116 e118 ⟨rfl, rfl⟩ hS Qr116 hN116 hD116
          unfold o63f39_L3 at hS
          refine xSq ?_
          refine xSq ?_
          refine xDr 0 [8, 13] [] [k6_0] 18 (fun RG => ?_) (fun _ _ _ _ _ h => h)
          refine xT 14 [0, 1, 2, 3] [] [some 1] [(0, vs Adata s6.1 cdata), (1, vi a), (2, vi b), (3, Value.func (.func 39) #[] #[Value.pointer (some a_cmpc)]), (9, vi s116), (10, vi ((s6.2.2 : Nat) : Int)), (22, vb (decide (s116 < b)))] RG (Psi.le.refl _) ?_
          refine xGJoA hS 0 [true, true, true, true, true, true, true, true, true, true, true, true, true, true, true, true, true, true] (fun g own sl t119 => own = [none, k6_0] ∧ sl = [(0, vs Adata s6.1 cdata), (1, vi a), (2, vi b), (3, Value.func (.func 39) #[] #[Value.pointer (some a_cmpc)]), (9, vi s116), (10, vi ((s6.2.2 : Nat) : Int)), (36, vb t119)]) ?_ ?_
          · rintro g120 _ _ t119 e121 ⟨rfl, rfl⟩ hS
            refine xAe (lds := [8, 13]) ?_
            refine wpq_then ?_
            refine xCd (t119) (fun h122 => ?_) (fun h122 => ?_)
            · have hS := cond_T h122 hS
              refine xSk ?_
              refine wpq_then ?_
              refine xSub [(0, vs Adata s6.1 cdata), (1, vi a), (2, vi b), (3, Value.func (.func 39) #[] #[Value.pointer (some a_cmpc)]), (9, vi s116), (10, vi ((s6.2.2 : Nat) : Int))] ?_
              refine xBl 3 ?_
              refine xRg ?_
              have z1404 := i64_in_ (s116 + 1)
              refine xB 3 [] [(0, vs Adata s6.1 cdata), (1, vi a), (2, vi b), (3, Value.func (.func 39) #[] #[Value.pointer (some a_cmpc)]), (9, vi (IntKind.i64.wrap (s116 + 1))), (10, vi ((s6.2.2 : Nat) : Int))] ?_
              refine xRe ?_
              refine wpq_blockN ?_
              refine wpq_thenN ?_
              refine xSel [none, some 1] ?_
              refine xSub [(0, vs Adata s6.1 cdata), (1, vi a), (2, vi b), (3, Value.func (.func 39) #[] #[Value.pointer (some a_cmpc)]), (9, vi (IntKind.i64.wrap (s116 + 1))), (10, vi ((s6.2.2 : Nat) : Int))] ?_
              have eS := (Option.some.inj hS).symm
              exact hN116 _ eS _ _ _ e121 ⟨by kernel_rfl, by kernel_rfl⟩
            · have hS := cond_F h122 hS
              refine xEx 2 ?_
              refine wpq_thenX ?_
              refine wpq_thenX ?_
              refine wpq_blockE ?_
              refine xSel [none, some 1] ?_
              refine xSub [(0, vs Adata s6.1 cdata), (1, vi a), (2, vi b), (3, Value.func (.func 39) #[] #[Value.pointer (some a_cmpc)]), (9, vi s116), (10, vi ((s6.2.2 : Nat) : Int))] ?_
              have eS := (Option.some.inj hS).symm
              have eS := (hD116 _ eS).symm
              exact hN14 _ eS _ _ _ (e118.trans e121) ⟨by kernel_rfl, by kernel_rfl⟩
          · intro uu119 hS hN119
            refine wpq_split 22 (b := decide (s116 < b)) (by kernel_rfl) (fun q123 => ?_) (fun q123 => ?_)
            · have hS := cond_T q123 hS
              have q123p := of_decide_eq_true q123
              have h6_0 := h6_0.mono e118.b
              obtain ⟨q125, hS⟩ := grd_T hS
              have q125p := of_decide_eq_true q125
              have i126 : (s116).toNat < (s6.1).length := by omega
              obtain ⟨kc124, cs124, hA124, hk124, hr124, hw124⟩ := h6_0.open_ i126 0
              obtain ⟨kb124, rfl⟩ : ∃ z, z = kc124 := ⟨_, rfl⟩
              subst hk124
              have hr124 : cs124 = [vi (List.getD s6.1 (s116).toNat 0)] := hr124
              subst hr124
              refine xT 11 [4, 5, 6] [] [some 1] [(0, vs Adata s6.1 cdata), (1, vi a), (2, vi b), (3, Value.func (.func 39) #[] #[Value.pointer (some a_cmpc)]), (9, vi s116), (10, vi ((s6.2.2 : Nat) : Int)), (22, vb true), (23, Value.func (.func 39) #[] #[Value.pointer (some a_cmpc)]), (24, vs Adata s6.1 cdata), (25, vi s116)] RG (Psi.le.refl _) ?_
              refine xTp 7 RG (fun _ => (qIxB (s116).toNat 1 kb124.g hA124 (show (s116 : Int) = _ from by omega) i126)) ?_
              refine xTv 8 [some 1] RG (Psi.le.refl _) (qLdB (s116).toNat 1 0 0 hw124) ?_
              have z1405 := i64_in_ (s116 - 1)
              obtain ⟨q128, hS⟩ := grd_T hS
              have q128p := of_decide_eq_true q128
              have i129 : ((IntKind.i64.wrap (s116 - 1))).toNat < (s6.1).length := by omega
              obtain ⟨kc127, cs127, hA127, hk127, hr127, hw127⟩ := h6_0.open_ i129 0
              cases hk127
              have hr127 : cs127 = [vi (List.getD s6.1 ((IntKind.i64.wrap (s116 - 1))).toNat 0)] := hr127
              subst hr127
              refine xT 6 [9, 10, 11] [] [some 1] [(0, vs Adata s6.1 cdata), (1, vi a), (2, vi b), (3, Value.func (.func 39) #[] #[Value.pointer (some a_cmpc)]), (9, vi s116), (10, vi ((s6.2.2 : Nat) : Int)), (22, vb true), (23, Value.func (.func 39) #[] #[Value.pointer (some a_cmpc)]), (27, vi (List.getD s6.1 (s116).toNat 0)), (28, vs Adata s6.1 cdata), (30, vi (IntKind.i64.wrap (s116 - 1)))] RG (Psi.le.refl _) ?_
              refine xTp 12 RG (fun _ => (qIxB ((IntKind.i64.wrap (s116 - 1))).toNat 1 kb124.g hA127 (show ((IntKind.i64.wrap (s116 - 1)) : Int) = _ from by omega) i129)) ?_
              refine xTv 13 [some 1] RG (Psi.le.refl _) (qLdB ((IntKind.i64.wrap (s116 - 1))).toNat 1 0 0 hw127) ?_
              have hc_cmpc := hc_cmpc.mono (e8.trans e118).r
              have fcmpc := fcmpc.mono (e8.trans e118).r (e8.trans e118).b
              obtain ⟨y130, hy130, hS⟩ := bindO_T hS
              refine xO1 (lds := [8, 13]) 14 ?_
              refine xIe (lds := [8, 13]) (Psi.le.refl _) (eC 0 (fun g' lr eb ln => c39 g' ((List.getD s6.1 (s116).toNat 0) : Int) ((List.getD s6.1 ((IntKind.i64.wrap (s116 - 1))).toNat 0) : Int) a_cmpc (cmpc : List Msg) Acmpc ccmpc (hc_cmpc.mono lr) (ArrM.lent fcmpc lr eb) hy130)) ?_
              rintro _ g131 _ e132 ⟨_, rfl, rfl, rfl⟩
              refine kk [some 1] ?_
              refine xT 0 [15, 16, 17] [] [some 1] [(0, vs Adata s6.1 cdata), (1, vi a), (2, vi b), (3, Value.func (.func 39) #[] #[Value.pointer (some a_cmpc)]), (9, vi s116), (10, vi ((s6.2.2 : Nat) : Int)), (36, vb (!decide (y130 < 0)))] RG e132.r ?_
              refine xSel [none, some 1] ?_
              refine xSub [(0, vs Adata s6.1 cdata), (1, vi a), (2, vi b), (3, Value.func (.func 39) #[] #[Value.pointer (some a_cmpc)]), (9, vi s116), (10, vi ((s6.2.2 : Nat) : Int)), (36, vb (!decide (y130 < 0)))] ?_
              exact hN119 _ (Option.some.inj hS).symm _ _ _ e132 ⟨by kernel_rfl, by kernel_rfl⟩
            · have hS := cond_F q123 hS
              have q123p := of_decide_eq_false q123
              refine xT 4 [4, 5, 6, 7, 8, 9, 10, 11, 12, 13] [] [some 1] [(0, vs Adata s6.1 cdata), (1, vi a), (2, vi b), (3, Value.func (.func 39) #[] #[Value.pointer (some a_cmpc)]), (9, vi s116), (10, vi ((s6.2.2 : Nat) : Int)), (22, vb false), (23, undef), (27, undef), (32, undef)] RG (Psi.le.refl _) ?_
              refine xO1 (lds := [8, 13]) 14 ?_
              refine xIb (lds := [8, 13]) [] ?_
              refine xT 0 [15, 16, 17] [] [some 1] [(0, vs Adata s6.1 cdata), (1, vi a), (2, vi b), (3, Value.func (.func 39) #[] #[Value.pointer (some a_cmpc)]), (9, vi s116), (10, vi ((s6.2.2 : Nat) : Int)), (36, vb false)] RG (Psi.le.refl _) ?_
              refine xSel [none, some 1] ?_
              refine xSub [(0, vs Adata s6.1 cdata), (1, vi a), (2, vi b), (3, Value.func (.func 39) #[] #[Value.pointer (some a_cmpc)]), (9, vi s116), (10, vi ((s6.2.2 : Nat) : Int)), (36, vb false)] ?_
              exact hN119 _ (Option.some.inj hS).symm _ _ _ (Gh.le.refl _) ⟨by kernel_rfl, by kernel_rfl⟩
    · have hS := cond_F h9 hS
      have h9p := of_decide_eq_false h9
      refine xEx 0 ?_
      refine wpq_thenX ?_
      refine wpq_thenX ?_
      refine wpq_blockE ?_
      refine xSel [none, some 1] ?_
      refine xSub [] ?_
      have eS := (Option.some.inj hS).symm
      have eS := (hD6 _ eS).symm
      exact hN1 _ eS _ _ _ e8 ⟨k6_0, by kernel_rfl, by kernel_rfl, h6_0, hz6_v0⟩

end Go.Proofs.Ytmcgofgpcnlljaa
