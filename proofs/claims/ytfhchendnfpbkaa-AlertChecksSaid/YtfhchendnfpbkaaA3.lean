/-
Walks, printed by wip/gen. Conditions: each theorem's own.
-/
import Derived.Test.YtfhchendnfpbkaaA2
namespace Go.Proofs.Ytfhchendnfpbkaa
set_option linter.unusedVariables false
set_option linter.unusedSimpArgs false
open Go.RowKit
def o59f42_L0 (ih : (List Int) → Int → Int → Int → Board → Option ((List Int))) (cmpcp : Board) (s3 : (List Int) × Int × Int × Int × Bool × Bool) : Option (Ctl ((List Int) × Int × Int × Int × Bool × Bool) ((List Int))) :=
  (joinO (τ := (List Int) × Int × Int × Int × Bool × Bool) (ρ := Ctl ((List Int) × Int × Int × Int × Bool × Bool) ((List Int))) (cond (decide ((IntKind.i64.wrap (s3.2.2.1 - s3.2.1)) ≤ 12)) (bindO (τ := (List Int)) (o66f42 (s3.1 : List Int) (s3.2.1 : Int) (s3.2.2.1 : Int) cmpcp) fun y10 => (some (Ctl.done (Ctl.done ((y10 : List Int)))))) (cond ((s3.2.2.2.1 == 0)) (bindO (τ := (List Int)) (o67f42 (s3.1 : List Int) (s3.2.1 : Int) (s3.2.2.1 : Int) cmpcp) fun y14 => (some (Ctl.done (Ctl.done ((y14 : List Int)))))) (bindO (τ := (List Int) × Int) (cond ((!s3.2.2.2.2.1)) (bindO (τ := (List Int)) (o68f42 (s3.1 : List Int) (s3.2.1 : Int) (s3.2.2.1 : Int) cmpcp) fun y72 => (some (((y72 : List Int), (IntKind.i64.wrap (s3.2.2.2.1 - 1)))))) (some (((s3.1 : List Int), s3.2.2.2.1)))) fun t17 => (bindO (τ := Int × Int) (o69f42 (t17.1 : List Int) (s3.2.1 : Int) (s3.2.2.1 : Int) cmpcp) fun y20 => (bindO (τ := (List Int) × Int × Int) (cond ((y20.2 == 2)) (bindO (τ := (List Int)) (o70f42 (t17.1 : List Int) (s3.2.1 : Int) (s3.2.2.1 : Int) cmpcp) fun y68 => (some (((y68 : List Int), (IntKind.i64.wrap ((IntKind.i64.wrap (s3.2.2.1 - 1)) - (IntKind.i64.wrap (y20.1 - s3.2.1)))), 1)))) (some (((t17.1 : List Int), y20.1, y20.2)))) fun t23 => (joinO (τ := (List Int)) (ρ := Ctl ((List Int) × Int × Int × Int × Bool × Bool) (Ctl ((List Int) × Int × Int × Int × Bool × Bool) ((List Int)))) (cond (((s3.2.2.2.2.1 && s3.2.2.2.2.2) && (t23.2.2 == 1))) (bindO (τ := (List Int) × Bool) (o71f42 (t23.1 : List Int) (s3.2.1 : Int) (s3.2.2.1 : Int) cmpcp) fun y63 => (cond (y63.2) (some (Ctl.done (Ctl.done (Ctl.done ((y63.1 : List Int)))))) (some (Ctl.go (y63.1 : List Int))))) (some (Ctl.go (t23.1 : List Int)))) fun t28 => (bindO (τ := Bool) (cond (decide (s3.2.1 > 0)) (grd (decide (-9223372036854775808 ≤ s3.2.1 - 1 ∧ s3.2.1 - 1 ≤ 9223372036854775807)) (grd (decide (0 ≤ (s3.2.1 - 1) ∧ (s3.2.1 - 1) < (((t28).length : Nat) : Int))) (grd (decide (0 ≤ t23.2.1 ∧ t23.2.1 < (((t28).length : Nat) : Int))) (bindO (τ := Int) (o42 ((List.getD t28 ((s3.2.1 - 1)).toNat 0) : Int) ((List.getD t28 (t23.2.1).toNat 0) : Int) cmpcp) fun y59 => (some (!decide (y59 < 0))))))) (some (false))) fun t31 => (cond (t31) (bindO (τ := (List Int) × Int) (o72f42 (t28 : List Int) (s3.2.1 : Int) (s3.2.2.1 : Int) (t23.2.1 : Int) cmpcp) fun y35 => (some (Ctl.go ((y35.1 : List Int), y35.2, s3.2.2.1, t17.2, s3.2.2.2.2.1, s3.2.2.2.2.2)))) (bindO (τ := (List Int) × Int × Bool) (o73f42 (t28 : List Int) (s3.2.1 : Int) (s3.2.2.1 : Int) (t23.2.1 : Int) cmpcp) fun y38 => (bindO (τ := (List Int) × Int × Int × Bool) (cond (decide ((IntKind.i64.wrap (y38.2.1 - s3.2.1)) < (IntKind.i64.wrap (s3.2.2.1 - y38.2.1)))) (bindO (τ := (List Int)) (ih (y38.1 : List Int) (s3.2.1 : Int) (y38.2.1 : Int) (t17.2 : Int) cmpcp) fun y45 => (some (((y45 : List Int), (IntKind.i64.wrap (y38.2.1 + 1)), s3.2.2.1, decide ((IntKind.i64.wrap (y38.2.1 - s3.2.1)) ≥ ((IntKind.i64.wrap (s3.2.2.1 - s3.2.1)) / 8)))))) (bindO (τ := (List Int)) (ih (y38.1 : List Int) ((IntKind.i64.wrap (y38.2.1 + 1)) : Int) (s3.2.2.1 : Int) (t17.2 : Int) cmpcp) fun y48 => (some (((y48 : List Int), s3.2.1, y38.2.1, decide ((IntKind.i64.wrap (s3.2.2.1 - y38.2.1)) ≥ ((IntKind.i64.wrap (s3.2.2.1 - s3.2.1)) / 8))))))) fun t41 => (some (Ctl.go ((t41.1 : List Int), t41.2.1, t41.2.2.1, t17.2, t41.2.2.2, y38.2.2))))))))))))) fun t6 => (some (Ctl.go ((t6.1 : List Int), t6.2.1, t6.2.2.1, t6.2.2.2.1, t6.2.2.2.2.1, t6.2.2.2.2.2))))
def o59f42_B (ih : (List Int) → Int → Int → Int → Board → Option ((List Int))) (data : List Int) (a : Int) (b : Int) (limit : Int) (cmpcp : Board) : Option ((List Int)) :=
  (loopO (σ := (List Int) × Int × Int × Int × Bool × Bool) (ρ := (List Int)) fuelN (o59f42_L0 ih cmpcp) ((data : List Int), a, b, limit, true, true))
def o59f42 (n : Nat) : (List Int) → Int → Int → Int → Board → Option ((List Int)) := Nat.rec (motive := fun _ => (List Int) → Int → Int → Int → Board → Option ((List Int))) (fun _ _ _ _ _ => none) (fun _ ih => o59f42_B ih) n
set_option maxRecDepth 100000 in
theorem c59f42 (n : Nat) : ∀ (g : Gh) (data : List Int) (Adata : Option Addr) (cdata : Nat) (kdata : Option Bk) (a : Int) (b : Int) (limit : Int) (a_cmpc : Addr) (a_cmpcp : Addr) (cmpcp : Board) (Acmpcp_defs : Option Addr) (ccmpcp_defs : Nat) (Acmpcp_conds : Option Addr) (ccmpcp_conds : Nat) (hdata : Buf g.b (tyI .i64) 3 (.slice Adata (data).length cdata) kdata data) (hc_cmpcp : Cells g.r a_cmpcp (cBoard cmpcp Acmpcp_defs ccmpcp_defs Acmpcp_conds ccmpcp_conds)) (fcmpcp_defs : Arr g.r tyAlertDef Acmpcp_defs ccmpcp_defs cmpcp.defs) (fcmpcp_conds : ArrM g.r g.b tyCnd Acmpcp_conds ccmpcp_conds cmpcp.conds) (hc_cmpc : Cells g.r a_cmpc [Value.pointer (some a_cmpcp)]) {r : (List Int)} (hS : o59f42 n data a b limit cmpcp = some r),
    Ctr Try.prog 59 [vs Adata data cdata, vi a, vi b, vi limit, Value.func (.func 42) #[] #[Value.pointer (some a_cmpc)]] g [kdata, none] (fun v ψ o => ∃ (ko_data : Option Bk), v = Value.tuple #[] ∧ o = [ko_data] ∧ Buf ψ (tyI .i64) 3 (.slice Adata (data).length cdata) ko_data r) := by
  induction n with
  | zero =>
    intro g data Adata cdata kdata a b limit a_cmpc a_cmpcp cmpcp Acmpcp_defs ccmpcp_defs Acmpcp_conds ccmpcp_conds hdata hc_cmpcp fcmpcp_defs fcmpcp_conds hc_cmpc r hS
    have hS : (none : Option ((List Int))) = some r := hS
    cases hS
  | succ n cih =>
    intro g data Adata cdata kdata a b limit a_cmpc a_cmpcp cmpcp Acmpcp_defs ccmpcp_defs Acmpcp_conds ccmpcp_conds hdata hc_cmpcp fcmpcp_defs fcmpcp_conds hc_cmpc r hS
    have hS : o59f42_B (o59f42 n) data a b limit cmpcp = some r := hS
    unfold o59f42_B at hS
    refine xFn Try.f59 (Try.f59.body.getD .skip) 148 ?_
    have nhdata := hdata.len
    have nfcmpcp_defs := fcmpcp_defs.len
    have nfcmpcp_conds := fcmpcp_conds.len
    refine xSq ?_
    refine xRg ?_
    refine xB 1 [] [(0, vs Adata data cdata), (1, vi a), (2, vi b), (3, vi limit), (4, Value.func (.func 42) #[] #[Value.pointer (some a_cmpc)]), (10, vb true)] ?_
    refine xRe ?_
    refine wpq_then ?_
    refine xSq ?_
    refine xRg ?_
    refine xB 1 [] [(0, vs Adata data cdata), (1, vi a), (2, vi b), (3, vi limit), (4, Value.func (.func 42) #[] #[Value.pointer (some a_cmpc)]), (10, vb true), (11, vb true)] ?_
    refine xRe ?_
    refine wpq_then ?_
    refine xBl 0 ?_
    refine xSel [none, some 0] ?_
    refine xSub [(0, vs Adata data cdata), (1, vi a), (2, vi b), (3, vi limit), (4, Value.func (.func 42) #[] #[Value.pointer (some a_cmpc)]), (10, vb true), (11, vb true)] ?_
    refine xLo hS (fun g own sl s3 => ∃ (k3_0 : Option Bk), own = [none, k3_0] ∧ sl = [(0, vs Adata s3.1 cdata), (1, vi s3.2.1), (2, vi s3.2.2.1), (3, vi s3.2.2.2.1), (4, Value.func (.func 42) #[] #[Value.pointer (some a_cmpc)]), (10, vb s3.2.2.2.2.1), (11, vb s3.2.2.2.2.2)] ∧ Buf g.b (tyI .i64) 3 (.slice Adata (s3.1).length cdata) k3_0 s3.1 ∧ (data).length = (s3.1).length) ⟨kdata, by kernel_rfl, by kernel_rfl, hdata, rfl⟩ ?_
    rintro g4 _ _ s3 uu3 e5 ⟨k3_0, rfl, rfl, h3_0, hz3_v0⟩ hS Qr3 hN3 hD3
    have nh3_0 := h3_0.len
    unfold o59f42_L0 at hS
    refine xJoinO hS (fun g own sl t6 => ∃ (k6_0 : Option Bk), own = [none, k6_0] ∧ sl = [(0, vs Adata t6.1 cdata), (1, vi t6.2.1), (2, vi t6.2.2.1), (3, vi t6.2.2.2.1), (4, Value.func (.func 42) #[] #[Value.pointer (some a_cmpc)]), (10, vb t6.2.2.2.2.1), (11, vb t6.2.2.2.2.2)] ∧ Buf g.b (tyI .i64) 3 (.slice Adata (t6.1).length cdata) k6_0 t6.1 ∧ (data).length = (t6.1).length) ?_ ?_
    · rintro g7 _ _ t6 e8 ⟨k6_0, rfl, rfl, h6_0, hz6_v0⟩ hS
      have nh6_0 := h6_0.len
      refine wpq_thenN ?_
      refine xSel [none, some 1] ?_
      refine xSub [(0, vs Adata t6.1 cdata), (1, vi t6.2.1), (2, vi t6.2.2.1), (3, vi t6.2.2.2.1), (4, Value.func (.func 42) #[] #[Value.pointer (some a_cmpc)]), (10, vb t6.2.2.2.2.1), (11, vb t6.2.2.2.2.2)] ?_
      have eS := (Option.some.inj hS).symm
      exact hN3 _ eS _ _ _ e8 ⟨k6_0, by kernel_rfl, by kernel_rfl, h6_0, hz6_v0⟩
    · intro uu6 hS hN6 hD6
      refine xBl 1 ?_
      refine xSq ?_
      refine xRg ?_
      have z166 := i64_in_ (s3.2.2.1 - s3.2.1)
      refine xB 4 [] [(0, vs Adata s3.1 cdata), (1, vi s3.2.1), (2, vi s3.2.2.1), (3, vi s3.2.2.2.1), (4, Value.func (.func 42) #[] #[Value.pointer (some a_cmpc)]), (10, vb s3.2.2.2.2.1), (11, vb s3.2.2.2.2.2), (12, vi (IntKind.i64.wrap (s3.2.2.1 - s3.2.1)))] ?_
      refine xRe ?_
      refine wpq_then ?_
      refine xSq ?_
      refine xSq ?_
      refine xRg ?_
      refine xB 2 [] [(0, vs Adata s3.1 cdata), (1, vi s3.2.1), (2, vi s3.2.2.1), (3, vi s3.2.2.2.1), (4, Value.func (.func 42) #[] #[Value.pointer (some a_cmpc)]), (10, vb s3.2.2.2.2.1), (11, vb s3.2.2.2.2.2), (12, vi (IntKind.i64.wrap (s3.2.2.1 - s3.2.1))), (25, vb (decide ((IntKind.i64.wrap (s3.2.2.1 - s3.2.1)) ≤ 12)))] ?_
      refine xRe ?_
      refine wpq_then ?_
      refine xCd (decide ((IntKind.i64.wrap (s3.2.2.1 - s3.2.1)) ≤ 12)) (fun h9 => ?_) (fun h9 => ?_)
      · have hS := cond_T h9 hS
        have h9p := of_decide_eq_true h9
        refine xSq ?_
        refine xRg ?_
        refine xB 4 [] [(26, vs Adata s3.1 cdata), (27, vi s3.2.1), (28, vi s3.2.2.1), (29, Value.func (.func 42) #[] #[Value.pointer (some a_cmpc)])] ?_
        refine xSel [some 1, none, some 0] ?_
        have hc_cmpcp := hc_cmpcp.mono e5.r
        have fcmpcp_defs := fcmpcp_defs.mono e5.r
        have fcmpcp_conds := fcmpcp_conds.mono e5.r e5.b
        have hc_cmpc := hc_cmpc.mono e5.r
        obtain ⟨y10, hy10, hS⟩ := bindO_T hS
        refine xE (eC 2 (fun g' lr eb ln => c66f42 g' (s3.1 : List Int) Adata cdata k3_0 (s3.2.1 : Int) (s3.2.2.1 : Int) a_cmpc a_cmpcp cmpcp Acmpcp_defs ccmpcp_defs Acmpcp_conds ccmpcp_conds (by rw [eb]; exact h3_0) (hc_cmpcp.mono lr) (fcmpcp_defs.mono lr) (ArrM.lent fcmpcp_conds lr eb) (hc_cmpc.mono lr) hy10)) ?_
        rintro _ g11 _ e12 ⟨_, rfl, k10_data, rfl, rfl, h10_data⟩
        have nh10_data := h10_data.len
        have hz10_data : (s3.1).length = (y10).length := h10_data.leneq
        have hz10_data_1 : (data).length = (y10).length := hz3_v0.trans hz10_data
        refine xRe ?_
        refine wpq_then ?_
        refine xSub [] ?_
        have eS := (Option.some.inj hS).symm
        have eS := (hD6 _ eS).symm
        have eS := (hD3 _ eS).symm
        subst eS
        exact xRet [some 0] [] (e5.trans e12) ⟨k10_data, by kernel_rfl, by kernel_rfl, (Buf.re h10_data (hz10_data.trans hz10_data_1.symm) rfl)⟩ (fun _ _ h => h)
      · have hS := cond_F h9 hS
        have h9p := of_decide_eq_false h9
        refine xSk ?_
        refine wpq_then ?_
        refine xSub [(0, vs Adata s3.1 cdata), (1, vi s3.2.1), (2, vi s3.2.2.1), (3, vi s3.2.2.2.1), (4, Value.func (.func 42) #[] #[Value.pointer (some a_cmpc)]), (10, vb s3.2.2.2.2.1), (11, vb s3.2.2.2.2.2), (12, vi (IntKind.i64.wrap (s3.2.2.1 - s3.2.1)))] ?_
        refine xSq ?_
        refine xSq ?_
        refine xRg ?_
        refine xB 2 [] [(0, vs Adata s3.1 cdata), (1, vi s3.2.1), (2, vi s3.2.2.1), (3, vi s3.2.2.2.1), (4, Value.func (.func 42) #[] #[Value.pointer (some a_cmpc)]), (10, vb s3.2.2.2.2.1), (11, vb s3.2.2.2.2.2), (12, vi (IntKind.i64.wrap (s3.2.2.1 - s3.2.1))), (32, vb (s3.2.2.2.1 == 0))] ?_
        refine xRe ?_
        refine wpq_then ?_
        refine xCd ((s3.2.2.2.1 == 0)) (fun h13 => ?_) (fun h13 => ?_)
        · have hS := cond_T h13 hS
          have h13p : s3.2.2.2.1 = 0 := eq_of_beq h13
          refine xSq ?_
          refine xRg ?_
          refine xB 4 [] [(33, vs Adata s3.1 cdata), (34, vi s3.2.1), (35, vi s3.2.2.1), (36, Value.func (.func 42) #[] #[Value.pointer (some a_cmpc)])] ?_
          refine xSel [some 1, none, some 0] ?_
          have hc_cmpcp := hc_cmpcp.mono e5.r
          have fcmpcp_defs := fcmpcp_defs.mono e5.r
          have fcmpcp_conds := fcmpcp_conds.mono e5.r e5.b
          have hc_cmpc := hc_cmpc.mono e5.r
          obtain ⟨y14, hy14, hS⟩ := bindO_T hS
          refine xE (eC 2 (fun g' lr eb ln => c67f42 g' (s3.1 : List Int) Adata cdata k3_0 (s3.2.1 : Int) (s3.2.2.1 : Int) a_cmpc a_cmpcp cmpcp Acmpcp_defs ccmpcp_defs Acmpcp_conds ccmpcp_conds (by rw [eb]; exact h3_0) (hc_cmpcp.mono lr) (fcmpcp_defs.mono lr) (ArrM.lent fcmpcp_conds lr eb) (hc_cmpc.mono lr) hy14)) ?_
          rintro _ g15 _ e16 ⟨_, rfl, k14_data, rfl, rfl, h14_data⟩
          have nh14_data := h14_data.len
          have hz14_data : (s3.1).length = (y14).length := h14_data.leneq
          have hz14_data_1 : (data).length = (y14).length := hz3_v0.trans hz14_data
          refine xRe ?_
          refine wpq_then ?_
          refine xSub [] ?_
          have eS := (Option.some.inj hS).symm
          have eS := (hD6 _ eS).symm
          have eS := (hD3 _ eS).symm
          subst eS
          exact xRet [some 0] [] (e5.trans e16) ⟨k14_data, by kernel_rfl, by kernel_rfl, (Buf.re h14_data (hz14_data.trans hz14_data_1.symm) rfl)⟩ (fun _ _ h => h)
        · have hS := cond_F h13 hS
          have h13p : ¬ (s3.2.2.2.1 = 0) := ne_of_beq_false_ h13
          refine xSk ?_
          refine wpq_then ?_
          refine xSub [(0, vs Adata s3.1 cdata), (1, vi s3.2.1), (2, vi s3.2.2.1), (3, vi s3.2.2.2.1), (4, Value.func (.func 42) #[] #[Value.pointer (some a_cmpc)]), (10, vb s3.2.2.2.2.1), (11, vb s3.2.2.2.2.2), (12, vi (IntKind.i64.wrap (s3.2.2.1 - s3.2.1)))] ?_
          refine xSq ?_
          refine xSq ?_
          refine xRg ?_
          refine xB 2 [] [(0, vs Adata s3.1 cdata), (1, vi s3.2.1), (2, vi s3.2.2.1), (3, vi s3.2.2.2.1), (4, Value.func (.func 42) #[] #[Value.pointer (some a_cmpc)]), (10, vb s3.2.2.2.2.1), (11, vb s3.2.2.2.2.2), (12, vi (IntKind.i64.wrap (s3.2.2.1 - s3.2.1))), (39, vb (!s3.2.2.2.2.1))] ?_
          refine xRe ?_
          refine wpq_then ?_
          refine xBindO hS (fun g own sl t17 => ∃ (k17_0 : Option Bk), own = [none, k17_0] ∧ sl = [(0, vs Adata t17.1 cdata), (1, vi s3.2.1), (2, vi s3.2.2.1), (3, vi t17.2), (4, Value.func (.func 42) #[] #[Value.pointer (some a_cmpc)]), (10, vb s3.2.2.2.2.1), (11, vb s3.2.2.2.2.2), (12, vi (IntKind.i64.wrap (s3.2.2.1 - s3.2.1)))] ∧ Buf g.b (tyI .i64) 3 (.slice Adata (t17.1).length cdata) k17_0 t17.1 ∧ (data).length = (t17.1).length) ?_ ?_
          · rintro g18 _ _ t17 e19 ⟨k17_0, rfl, rfl, h17_0, hz17_v0⟩ hS
            have nh17_0 := h17_0.len
            refine wpq_then ?_
            refine xSq ?_
            refine xRg ?_
            refine xB 4 [] [(0, vs Adata t17.1 cdata), (1, vi s3.2.1), (2, vi s3.2.2.1), (3, vi t17.2), (4, Value.func (.func 42) #[] #[Value.pointer (some a_cmpc)]), (10, vb s3.2.2.2.2.1), (11, vb s3.2.2.2.2.2), (12, vi (IntKind.i64.wrap (s3.2.2.1 - s3.2.1))), (48, vs Adata t17.1 cdata), (49, vi s3.2.1), (50, vi s3.2.2.1), (51, Value.func (.func 42) #[] #[Value.pointer (some a_cmpc)])] ?_
            have hc_cmpcp := hc_cmpcp.mono (e5.trans e19).r
            have fcmpcp_defs := fcmpcp_defs.mono (e5.trans e19).r
            have fcmpcp_conds := fcmpcp_conds.mono (e5.trans e19).r (e5.trans e19).b
            have hc_cmpc := hc_cmpc.mono (e5.trans e19).r
            obtain ⟨y20, hy20, hS⟩ := bindO_T hS
            refine xE (eC 0 (fun g' lr eb ln => c69f42 g' (t17.1 : List Int) Adata cdata (s3.2.1 : Int) (s3.2.2.1 : Int) a_cmpc a_cmpcp cmpcp Acmpcp_defs ccmpcp_defs Acmpcp_conds ccmpcp_conds (arr_of_buf h17_0 (Psi.le_b eb) (lentk 1 (by kernel_rfl) ln)) (hc_cmpcp.mono lr) (fcmpcp_defs.mono lr) (ArrM.lent fcmpcp_conds lr eb) (hc_cmpc.mono lr) hy20)) ?_
            rintro _ g21 _ e22 ⟨_, rfl, rfl, rfl⟩
            refine xB 5 [] [(0, vs Adata t17.1 cdata), (1, vi s3.2.1), (2, vi s3.2.2.1), (3, vi t17.2), (4, Value.func (.func 42) #[] #[Value.pointer (some a_cmpc)]), (10, vb s3.2.2.2.2.1), (11, vb s3.2.2.2.2.2), (12, vi (IntKind.i64.wrap (s3.2.2.1 - s3.2.1))), (13, vi y20.1), (14, vi y20.2)] ?_
            refine xRe ?_
            refine wpq_then ?_
            refine xSq ?_
            refine xSq ?_
            refine xRg ?_
            refine xB 2 [] [(0, vs Adata t17.1 cdata), (1, vi s3.2.1), (2, vi s3.2.2.1), (3, vi t17.2), (4, Value.func (.func 42) #[] #[Value.pointer (some a_cmpc)]), (10, vb s3.2.2.2.2.1), (11, vb s3.2.2.2.2.2), (12, vi (IntKind.i64.wrap (s3.2.2.1 - s3.2.1))), (13, vi y20.1), (14, vi y20.2), (56, vb (y20.2 == 2))] ?_
            refine xRe ?_
            refine wpq_then ?_
            refine xBindO hS (fun g own sl t23 => ∃ (k23_0 : Option Bk), own = [none, k23_0] ∧ sl = [(0, vs Adata t23.1 cdata), (1, vi s3.2.1), (2, vi s3.2.2.1), (3, vi t17.2), (4, Value.func (.func 42) #[] #[Value.pointer (some a_cmpc)]), (10, vb s3.2.2.2.2.1), (11, vb s3.2.2.2.2.2), (12, vi (IntKind.i64.wrap (s3.2.2.1 - s3.2.1))), (13, vi t23.2.1), (14, vi t23.2.2)] ∧ Buf g.b (tyI .i64) 3 (.slice Adata (t23.1).length cdata) k23_0 t23.1 ∧ (data).length = (t23.1).length) ?_ ?_
            · rintro g24 _ _ t23 e25 ⟨k23_0, rfl, rfl, h23_0, hz23_v0⟩ hS
              have nh23_0 := h23_0.len
              refine wpq_then ?_
              refine xSq ?_
              refine xSq ?_
              refine xRg ?_
              refine xB 2 [] [(0, vs Adata t23.1 cdata), (1, vi s3.2.1), (2, vi s3.2.2.1), (3, vi t17.2), (4, Value.func (.func 42) #[] #[Value.pointer (some a_cmpc)]), (10, vb s3.2.2.2.2.1), (11, vb s3.2.2.2.2.2), (12, vi (IntKind.i64.wrap (s3.2.2.1 - s3.2.1))), (13, vi t23.2.1), (14, vi t23.2.2), (69, vb s3.2.2.2.2.1)] ?_
              refine wpr_grp 4 [(0, vs Adata t23.1 cdata), (1, vi s3.2.1), (2, vi s3.2.2.1), (3, vi t17.2), (4, Value.func (.func 42) #[] #[Value.pointer (some a_cmpc)]), (10, vb s3.2.2.2.2.1), (11, vb s3.2.2.2.2.2), (12, vi (IntKind.i64.wrap (s3.2.2.1 - s3.2.1))), (13, vi t23.2.1), (14, vi t23.2.2), (71, vb (s3.2.2.2.2.1 && s3.2.2.2.2.2))] (fun hk1 => ?_) ?_
              · refine wpq_split 69 (b := s3.2.2.2.2.1) (by kernel_rfl) (fun q26 => ?_) (fun q26 => ?_)
                · refine xB 2 [] [(0, vs Adata t23.1 cdata), (1, vi s3.2.1), (2, vi s3.2.2.1), (3, vi t17.2), (4, Value.func (.func 42) #[] #[Value.pointer (some a_cmpc)]), (10, vb s3.2.2.2.2.1), (11, vb s3.2.2.2.2.2), (12, vi (IntKind.i64.wrap (s3.2.2.1 - s3.2.1))), (13, vi t23.2.1), (14, vi t23.2.2), (71, vb s3.2.2.2.2.2)] ?_
                  refine wpq_re 71 (v := vb s3.2.2.2.2.2) (Value.bool ((s3.2.2.2.2.1 && s3.2.2.2.2.2))) (by kernel_rfl) (re_and1 q26) ?_
                  exact wpq_sub _ (by kernel_rfl) hk1
                · refine xB 2 [] [(0, vs Adata t23.1 cdata), (1, vi s3.2.1), (2, vi s3.2.2.1), (3, vi t17.2), (4, Value.func (.func 42) #[] #[Value.pointer (some a_cmpc)]), (10, vb s3.2.2.2.2.1), (11, vb s3.2.2.2.2.2), (12, vi (IntKind.i64.wrap (s3.2.2.1 - s3.2.1))), (13, vi t23.2.1), (14, vi t23.2.2), (71, vb false)] ?_
                  refine wpq_re 71 (v := vb false) (Value.bool ((s3.2.2.2.2.1 && s3.2.2.2.2.2))) (by kernel_rfl) (re_and0 q26) ?_
                  exact wpq_sub _ (by kernel_rfl) hk1
              · refine xB 1 [] [(0, vs Adata t23.1 cdata), (1, vi s3.2.1), (2, vi s3.2.2.1), (3, vi t17.2), (4, Value.func (.func 42) #[] #[Value.pointer (some a_cmpc)]), (10, vb s3.2.2.2.2.1), (11, vb s3.2.2.2.2.2), (12, vi (IntKind.i64.wrap (s3.2.2.1 - s3.2.1))), (13, vi t23.2.1), (14, vi t23.2.2), (72, vb (s3.2.2.2.2.1 && s3.2.2.2.2.2))] ?_
                refine wpr_grp 8 [(0, vs Adata t23.1 cdata), (1, vi s3.2.1), (2, vi s3.2.2.1), (3, vi t17.2), (4, Value.func (.func 42) #[] #[Value.pointer (some a_cmpc)]), (10, vb s3.2.2.2.2.1), (11, vb s3.2.2.2.2.2), (12, vi (IntKind.i64.wrap (s3.2.2.1 - s3.2.1))), (13, vi t23.2.1), (75, vb ((s3.2.2.2.2.1 && s3.2.2.2.2.2) && (t23.2.2 == 1)))] (fun hk4 => ?_) ?_
                · refine wpq_split 72 (b := (s3.2.2.2.2.1 && s3.2.2.2.2.2)) (by kernel_rfl) (fun q27 => ?_) (fun q27 => ?_)
                  · have q27l := (and_true_ q27).1
                    have q27r := (and_true_ q27).2
                    refine xB 3 [] [(0, vs Adata t23.1 cdata), (1, vi s3.2.1), (2, vi s3.2.2.1), (3, vi t17.2), (4, Value.func (.func 42) #[] #[Value.pointer (some a_cmpc)]), (10, vb s3.2.2.2.2.1), (11, vb s3.2.2.2.2.2), (12, vi (IntKind.i64.wrap (s3.2.2.1 - s3.2.1))), (13, vi t23.2.1), (75, vb (t23.2.2 == 1))] ?_
                    refine wpq_re 75 (v := vb (t23.2.2 == 1)) (Value.bool (((s3.2.2.2.2.1 && s3.2.2.2.2.2) && (t23.2.2 == 1)))) (by kernel_rfl) (re_and1 q27) ?_
                    exact wpq_sub _ (by kernel_rfl) hk4
                  · refine xB 3 [] [(0, vs Adata t23.1 cdata), (1, vi s3.2.1), (2, vi s3.2.2.1), (3, vi t17.2), (4, Value.func (.func 42) #[] #[Value.pointer (some a_cmpc)]), (10, vb s3.2.2.2.2.1), (11, vb s3.2.2.2.2.2), (12, vi (IntKind.i64.wrap (s3.2.2.1 - s3.2.1))), (13, vi t23.2.1), (75, vb false)] ?_
                    refine wpq_re 75 (v := vb false) (Value.bool (((s3.2.2.2.2.1 && s3.2.2.2.2.2) && (t23.2.2 == 1)))) (by kernel_rfl) (re_and0 q27) ?_
                    exact wpq_sub _ (by kernel_rfl) hk4
                · refine xRe ?_
                  refine wpq_then ?_
                  refine xJoinO hS (fun g own sl t28 => ∃ (k28_0 : Option Bk), own = [none, k28_0] ∧ sl = [(0, vs Adata t28 cdata), (1, vi s3.2.1), (2, vi s3.2.2.1), (3, vi t17.2), (4, Value.func (.func 42) #[] #[Value.pointer (some a_cmpc)]), (10, vb s3.2.2.2.2.1), (11, vb s3.2.2.2.2.2), (12, vi (IntKind.i64.wrap (s3.2.2.1 - s3.2.1))), (13, vi t23.2.1)] ∧ Buf g.b (tyI .i64) 3 (.slice Adata (t28).length cdata) k28_0 t28 ∧ (data).length = (t28).length) ?_ ?_
                  · rintro g29 _ _ t28 e30 ⟨k28_0, rfl, rfl, h28_0, hz28_v0⟩ hS
                    have nh28_0 := h28_0.len
                    refine wpq_then ?_
                    refine xSq ?_
                    refine xSq ?_
                    refine xDr 0 [8, 12] [] [k28_0] 17 (fun RG => ?_) (fun _ _ _ _ _ h => h)
                    refine xT 14 [0, 1, 2] [] [some 1] [(0, vs Adata t28 cdata), (1, vi s3.2.1), (2, vi s3.2.2.1), (3, vi t17.2), (4, Value.func (.func 42) #[] #[Value.pointer (some a_cmpc)]), (10, vb s3.2.2.2.2.1), (11, vb s3.2.2.2.2.2), (12, vi (IntKind.i64.wrap (s3.2.2.1 - s3.2.1))), (13, vi t23.2.1), (83, vb (decide (s3.2.1 > 0)))] RG (Psi.le.refl _) ?_
                    refine xGJoA hS 0 [true, true, true, true, true, true, true, true, true, true, true, true, true, true, true, true, true] (fun g own sl t31 => own = [none, k28_0] ∧ sl = [(0, vs Adata t28 cdata), (1, vi s3.2.1), (2, vi s3.2.2.1), (3, vi t17.2), (4, Value.func (.func 42) #[] #[Value.pointer (some a_cmpc)]), (10, vb s3.2.2.2.2.1), (11, vb s3.2.2.2.2.2), (12, vi (IntKind.i64.wrap (s3.2.2.1 - s3.2.1))), (13, vi t23.2.1), (97, vb t31)]) ?_ ?_
                    · rintro g32 _ _ t31 e33 ⟨rfl, rfl⟩ hS
                      refine xAe (lds := [8, 12]) ?_
                      refine wpq_then ?_
                      refine xCd (t31) (fun h34 => ?_) (fun h34 => ?_)
                      · have hS := cond_T h34 hS
                        refine xSq ?_
                        refine xRg ?_
                        refine xB 5 [] [(0, vs Adata t28 cdata), (2, vi s3.2.2.1), (3, vi t17.2), (4, Value.func (.func 42) #[] #[Value.pointer (some a_cmpc)]), (10, vb s3.2.2.2.2.1), (11, vb s3.2.2.2.2.2), (98, vs Adata t28 cdata), (99, vi s3.2.1), (100, vi s3.2.2.1), (101, vi t23.2.1), (102, Value.func (.func 42) #[] #[Value.pointer (some a_cmpc)])] ?_
                        refine xSel [some 1, none, some 0] ?_
                        have h28_0 := h28_0.mono e33.b
                        have hc_cmpcp := hc_cmpcp.mono (e22.trans (e25.trans (e30.trans e33))).r
                        have fcmpcp_defs := fcmpcp_defs.mono (e22.trans (e25.trans (e30.trans e33))).r
                        have fcmpcp_conds := fcmpcp_conds.mono (e22.trans (e25.trans (e30.trans e33))).r (e22.trans (e25.trans (e30.trans e33))).b
                        have hc_cmpc := hc_cmpc.mono (e22.trans (e25.trans (e30.trans e33))).r
                        obtain ⟨y35, hy35, hS⟩ := bindO_T hS
                        refine xE (eC 2 (fun g' lr eb ln => c72f42 g' (t28 : List Int) Adata cdata k28_0 (s3.2.1 : Int) (s3.2.2.1 : Int) (t23.2.1 : Int) a_cmpc a_cmpcp cmpcp Acmpcp_defs ccmpcp_defs Acmpcp_conds ccmpcp_conds (by rw [eb]; exact h28_0) (hc_cmpcp.mono lr) (fcmpcp_defs.mono lr) (ArrM.lent fcmpcp_conds lr eb) (hc_cmpc.mono lr) hy35)) ?_
                        rintro _ g36 _ e37 ⟨_, rfl, k35_data, rfl, rfl, h35_data⟩
                        have nh35_data := h35_data.len
                        have hz35_data : (t28).length = (y35.1).length := h35_data.leneq
                        have hz35_data_1 : (data).length = (y35.1).length := hz28_v0.trans hz35_data
                        refine xB 1 [] [(0, Value.slice Adata ((t28).length) cdata), (2, vi s3.2.2.1), (3, vi t17.2), (4, Value.func (.func 42) #[] #[Value.pointer (some a_cmpc)]), (10, vb s3.2.2.2.2.1), (11, vb s3.2.2.2.2.2), (15, vi y35.2)] ?_
                        refine xRe ?_
                        refine wpq_then ?_
                        refine xSq ?_
                        refine xRg ?_
                        refine xB 2 [] [(0, Value.slice Adata ((t28).length) cdata), (1, vi y35.2), (2, vi s3.2.2.1), (3, vi t17.2), (4, Value.func (.func 42) #[] #[Value.pointer (some a_cmpc)]), (10, vb s3.2.2.2.2.1), (11, vb s3.2.2.2.2.2)] ?_
                        refine xRe ?_
                        refine wpq_then ?_
                        refine xEx 1 ?_
                        refine wpq_thenX ?_
                        refine wpq_blockE ?_
                        refine wpq_re 0 (v := Value.slice Adata ((t28).length) cdata) (vs Adata y35.1 cdata) (by kernel_rfl) (congrArg (fun z => Value.slice Adata z cdata) hz35_data) ?_
                        have h35_data := Buf.re h35_data hz35_data (rfl : y35.1 = _)
                        refine xSel [none, some 0] ?_
                        refine xSub [(0, vs Adata y35.1 cdata), (1, vi y35.2), (2, vi s3.2.2.1), (3, vi t17.2), (4, Value.func (.func 42) #[] #[Value.pointer (some a_cmpc)]), (10, vb s3.2.2.2.2.1), (11, vb s3.2.2.2.2.2)] ?_
                        have eS := (Option.some.inj hS).symm
                        exact hN6 _ eS _ _ _ (e19.trans (e22.trans (e25.trans (e30.trans (e33.trans e37))))) ⟨k35_data, by kernel_rfl, by kernel_rfl, h35_data, hz35_data_1⟩
                      · have hS := cond_F h34 hS
                        refine xSk ?_
                        refine wpq_then ?_
                        refine xSub [(0, vs Adata t28 cdata), (1, vi s3.2.1), (2, vi s3.2.2.1), (3, vi t17.2), (4, Value.func (.func 42) #[] #[Value.pointer (some a_cmpc)]), (12, vi (IntKind.i64.wrap (s3.2.2.1 - s3.2.1))), (13, vi t23.2.1)] ?_
                        refine xSq ?_
                        refine xRg ?_
                        refine xB 5 [] [(0, vs Adata t28 cdata), (1, vi s3.2.1), (2, vi s3.2.2.1), (3, vi t17.2), (4, Value.func (.func 42) #[] #[Value.pointer (some a_cmpc)]), (12, vi (IntKind.i64.wrap (s3.2.2.1 - s3.2.1))), (106, vs Adata t28 cdata), (107, vi s3.2.1), (108, vi s3.2.2.1), (109, vi t23.2.1), (110, Value.func (.func 42) #[] #[Value.pointer (some a_cmpc)])] ?_
                        refine xSel [some 1, none, some 0] ?_
                        have h28_0 := h28_0.mono e33.b
                        have hc_cmpcp := hc_cmpcp.mono (e22.trans (e25.trans (e30.trans e33))).r
                        have fcmpcp_defs := fcmpcp_defs.mono (e22.trans (e25.trans (e30.trans e33))).r
                        have fcmpcp_conds := fcmpcp_conds.mono (e22.trans (e25.trans (e30.trans e33))).r (e22.trans (e25.trans (e30.trans e33))).b
                        have hc_cmpc := hc_cmpc.mono (e22.trans (e25.trans (e30.trans e33))).r
                        obtain ⟨y38, hy38, hS⟩ := bindO_T hS
                        refine xE (eC 2 (fun g' lr eb ln => c73f42 g' (t28 : List Int) Adata cdata k28_0 (s3.2.1 : Int) (s3.2.2.1 : Int) (t23.2.1 : Int) a_cmpc a_cmpcp cmpcp Acmpcp_defs ccmpcp_defs Acmpcp_conds ccmpcp_conds (by rw [eb]; exact h28_0) (hc_cmpcp.mono lr) (fcmpcp_defs.mono lr) (ArrM.lent fcmpcp_conds lr eb) (hc_cmpc.mono lr) hy38)) ?_
                        rintro _ g39 _ e40 ⟨_, rfl, k38_data, rfl, rfl, h38_data⟩
                        have nh38_data := h38_data.len
                        have hz38_data : (t28).length = (y38.1).length := h38_data.leneq
                        have hz38_data_1 : (data).length = (y38.1).length := hz28_v0.trans hz38_data
                        refine xB 5 [] [(0, Value.slice Adata ((t28).length) cdata), (1, vi s3.2.1), (2, vi s3.2.2.1), (3, vi t17.2), (4, Value.func (.func 42) #[] #[Value.pointer (some a_cmpc)]), (12, vi (IntKind.i64.wrap (s3.2.2.1 - s3.2.1))), (16, vi y38.2.1), (17, vb y38.2.2)] ?_
                        refine xRe ?_
                        refine wpq_then ?_
                        refine xSq ?_
                        refine xRg ?_
                        refine xB 2 [] [(0, Value.slice Adata ((t28).length) cdata), (1, vi s3.2.1), (2, vi s3.2.2.1), (3, vi t17.2), (4, Value.func (.func 42) #[] #[Value.pointer (some a_cmpc)]), (11, vb y38.2.2), (12, vi (IntKind.i64.wrap (s3.2.2.1 - s3.2.1))), (16, vi y38.2.1)] ?_
                        refine xRe ?_
                        refine wpq_then ?_
                        refine xSq ?_
                        refine xRg ?_
                        have z171 := i64_in_ (y38.2.1 - s3.2.1)
                        have z172 := i64_in_ (s3.2.2.1 - y38.2.1)
                        refine xB 8 [] [(0, Value.slice Adata ((t28).length) cdata), (1, vi s3.2.1), (2, vi s3.2.2.1), (3, vi t17.2), (4, Value.func (.func 42) #[] #[Value.pointer (some a_cmpc)]), (11, vb y38.2.2), (12, vi (IntKind.i64.wrap (s3.2.2.1 - s3.2.1))), (16, vi y38.2.1), (18, vi (IntKind.i64.wrap (y38.2.1 - s3.2.1))), (19, vi (IntKind.i64.wrap (s3.2.2.1 - y38.2.1)))] ?_
                        refine xRe ?_
                        refine wpq_then ?_
                        refine xSq ?_
                        refine xRg ?_
                        refine xB 1 [] [(0, Value.slice Adata ((t28).length) cdata), (1, vi s3.2.1), (2, vi s3.2.2.1), (3, vi t17.2), (4, Value.func (.func 42) #[] #[Value.pointer (some a_cmpc)]), (11, vb y38.2.2), (16, vi y38.2.1), (18, vi (IntKind.i64.wrap (y38.2.1 - s3.2.1))), (19, vi (IntKind.i64.wrap (s3.2.2.1 - y38.2.1))), (121, vi (IntKind.i64.wrap (s3.2.2.1 - s3.2.1)))] ?_
                        refine xV (qQuo .i64 ((IntKind.i64.wrap (s3.2.2.1 - s3.2.1))) (8) _ (by omega) (IntWalk.i64_quo _ _ (by omega))) ?_
                        refine xB 1 [] [(0, Value.slice Adata ((t28).length) cdata), (1, vi s3.2.1), (2, vi s3.2.2.1), (3, vi t17.2), (4, Value.func (.func 42) #[] #[Value.pointer (some a_cmpc)]), (11, vb y38.2.2), (16, vi y38.2.1), (18, vi (IntKind.i64.wrap (y38.2.1 - s3.2.1))), (19, vi (IntKind.i64.wrap (s3.2.2.1 - y38.2.1))), (20, vi ((IntKind.i64.wrap (s3.2.2.1 - s3.2.1)) / 8))] ?_
                        refine xRe ?_
                        refine wpq_then ?_
                        refine xSq ?_
                        refine xRg ?_
                        refine xB 3 [] [(0, Value.slice Adata ((t28).length) cdata), (1, vi s3.2.1), (2, vi s3.2.2.1), (3, vi t17.2), (4, Value.func (.func 42) #[] #[Value.pointer (some a_cmpc)]), (11, vb y38.2.2), (16, vi y38.2.1), (18, vi (IntKind.i64.wrap (y38.2.1 - s3.2.1))), (19, vi (IntKind.i64.wrap (s3.2.2.1 - y38.2.1))), (20, vi ((IntKind.i64.wrap (s3.2.2.1 - s3.2.1)) / 8)), (125, vb (decide ((IntKind.i64.wrap (y38.2.1 - s3.2.1)) < (IntKind.i64.wrap (s3.2.2.1 - y38.2.1)))))] ?_
                        refine xRe ?_
                        refine wpq_then ?_
                        refine xBindO hS (fun g own sl t41 => ∃ (k41_0 : Option Bk), own = [none, k41_0] ∧ sl = [(0, vs Adata t41.1 cdata), (1, vi t41.2.1), (2, vi t41.2.2.1), (3, vi t17.2), (4, Value.func (.func 42) #[] #[Value.pointer (some a_cmpc)]), (10, vb t41.2.2.2), (11, vb y38.2.2)] ∧ Buf g.b (tyI .i64) 3 (.slice Adata (t41.1).length cdata) k41_0 t41.1 ∧ (data).length = (t41.1).length) ?_ ?_
                        · rintro g42 _ _ t41 e43 ⟨k41_0, rfl, rfl, h41_0, hz41_v0⟩ hS
                          have nh41_0 := h41_0.len
                          refine wpq_blockN ?_
                          refine xSel [none, some 1] ?_
                          refine xSub [(0, vs Adata t41.1 cdata), (1, vi t41.2.1), (2, vi t41.2.2.1), (3, vi t17.2), (4, Value.func (.func 42) #[] #[Value.pointer (some a_cmpc)]), (10, vb t41.2.2.2), (11, vb y38.2.2)] ?_
                          have eS := (Option.some.inj hS).symm
                          exact hN6 _ eS _ _ _ (e19.trans (e22.trans (e25.trans (e30.trans (e33.trans (e40.trans e43)))))) ⟨k41_0, by kernel_rfl, by kernel_rfl, h41_0, hz41_v0⟩
                        · intro uu41 hS hN41
                          refine xCd (decide ((IntKind.i64.wrap (y38.2.1 - s3.2.1)) < (IntKind.i64.wrap (s3.2.2.1 - y38.2.1)))) (fun h44 => ?_) (fun h44 => ?_)
                          · have hS := cond_T h44 hS
                            have h44p := of_decide_eq_true h44
                            refine xSq ?_
                            refine xRg ?_
                            refine xB 4 [] [(0, Value.slice Adata ((t28).length) cdata), (1, vi s3.2.1), (2, vi s3.2.2.1), (3, vi t17.2), (4, Value.func (.func 42) #[] #[Value.pointer (some a_cmpc)]), (10, vb (decide ((IntKind.i64.wrap (y38.2.1 - s3.2.1)) ≥ ((IntKind.i64.wrap (s3.2.2.1 - s3.2.1)) / 8)))), (11, vb y38.2.2), (16, vi y38.2.1)] ?_
                            refine xRe ?_
                            refine wpq_then ?_
                            refine xSq ?_
                            refine xRg ?_
                            refine xB 5 [] [(0, Value.slice Adata ((t28).length) cdata), (2, vi s3.2.2.1), (3, vi t17.2), (4, Value.func (.func 42) #[] #[Value.pointer (some a_cmpc)]), (10, vb (decide ((IntKind.i64.wrap (y38.2.1 - s3.2.1)) ≥ ((IntKind.i64.wrap (s3.2.2.1 - s3.2.1)) / 8)))), (11, vb y38.2.2), (16, vi y38.2.1), (129, Value.slice Adata ((t28).length) cdata), (130, vi s3.2.1), (131, vi y38.2.1), (132, vi t17.2), (133, Value.func (.func 42) #[] #[Value.pointer (some a_cmpc)])] ?_
                            refine wpq_re 0 (v := Value.slice Adata ((t28).length) cdata) (vs Adata y38.1 cdata) (by kernel_rfl) (congrArg (fun z => Value.slice Adata z cdata) hz38_data) ?_
                            have h38_data := Buf.re h38_data hz38_data (rfl : y38.1 = _)
                            refine wpq_re 129 (v := Value.slice Adata ((t28).length) cdata) (vs Adata y38.1 cdata) (by kernel_rfl) (congrArg (fun z => Value.slice Adata z cdata) hz38_data) ?_
                            refine xSel [some 0, none, some 1] ?_
                            have hc_cmpcp := hc_cmpcp.mono e40.r
                            have fcmpcp_defs := fcmpcp_defs.mono e40.r
                            have fcmpcp_conds := fcmpcp_conds.mono e40.r e40.b
                            have hc_cmpc := hc_cmpc.mono e40.r
                            obtain ⟨y45, hy45, hS⟩ := bindO_T hS
                            refine xE (eC 2 (fun g' lr eb ln => cih g' (y38.1 : List Int) Adata cdata k38_data (s3.2.1 : Int) (y38.2.1 : Int) (t17.2 : Int) a_cmpc a_cmpcp cmpcp Acmpcp_defs ccmpcp_defs Acmpcp_conds ccmpcp_conds (by rw [eb]; exact h38_data) (hc_cmpcp.mono lr) (fcmpcp_defs.mono lr) (ArrM.lent fcmpcp_conds lr eb) (hc_cmpc.mono lr) hy45)) ?_
                            rintro _ g46 _ e47 ⟨_, rfl, k45_data, rfl, rfl, h45_data⟩
                            have nh45_data := h45_data.len
                            have hz45_data : (y38.1).length = (y45).length := h45_data.leneq
                            have hz45_data_1 : (data).length = (y45).length := hz38_data_1.trans hz45_data
                            refine xRe ?_
                            refine wpq_then ?_
                            refine xSub [(0, Value.slice Adata ((y38.1).length) cdata), (2, vi s3.2.2.1), (3, vi t17.2), (4, Value.func (.func 42) #[] #[Value.pointer (some a_cmpc)]), (10, vb (decide ((IntKind.i64.wrap (y38.2.1 - s3.2.1)) ≥ ((IntKind.i64.wrap (s3.2.2.1 - s3.2.1)) / 8)))), (11, vb y38.2.2), (16, vi y38.2.1)] ?_
                            refine xRg ?_
                            have z175 := i64_in_ (y38.2.1 + 1)
                            refine xB 3 [] [(0, Value.slice Adata ((y38.1).length) cdata), (1, vi (IntKind.i64.wrap (y38.2.1 + 1))), (2, vi s3.2.2.1), (3, vi t17.2), (4, Value.func (.func 42) #[] #[Value.pointer (some a_cmpc)]), (10, vb (decide ((IntKind.i64.wrap (y38.2.1 - s3.2.1)) ≥ ((IntKind.i64.wrap (s3.2.2.1 - s3.2.1)) / 8)))), (11, vb y38.2.2)] ?_
                            refine xRe ?_
                            refine wpq_re 0 (v := Value.slice Adata ((y38.1).length) cdata) (vs Adata y45 cdata) (by kernel_rfl) (congrArg (fun z => Value.slice Adata z cdata) hz45_data) ?_
                            have h45_data := Buf.re h45_data hz45_data (rfl : y45 = _)
                            refine xSel [none, some 0] ?_
                            refine xSub [(0, vs Adata y45 cdata), (1, vi (IntKind.i64.wrap (y38.2.1 + 1))), (2, vi s3.2.2.1), (3, vi t17.2), (4, Value.func (.func 42) #[] #[Value.pointer (some a_cmpc)]), (10, vb (decide ((IntKind.i64.wrap (y38.2.1 - s3.2.1)) ≥ ((IntKind.i64.wrap (s3.2.2.1 - s3.2.1)) / 8)))), (11, vb y38.2.2)] ?_
                            have eS := (Option.some.inj hS).symm
                            exact hN41 _ eS _ _ _ e47 ⟨k45_data, by kernel_rfl, by kernel_rfl, h45_data, hz45_data_1⟩
                          · have hS := cond_F h44 hS
                            have h44p := of_decide_eq_false h44
                            refine xSq ?_
                            refine xRg ?_
                            refine xB 4 [] [(0, Value.slice Adata ((t28).length) cdata), (1, vi s3.2.1), (2, vi s3.2.2.1), (3, vi t17.2), (4, Value.func (.func 42) #[] #[Value.pointer (some a_cmpc)]), (10, vb (decide ((IntKind.i64.wrap (s3.2.2.1 - y38.2.1)) ≥ ((IntKind.i64.wrap (s3.2.2.1 - s3.2.1)) / 8)))), (11, vb y38.2.2), (16, vi y38.2.1)] ?_
                            refine xRe ?_
                            refine wpq_then ?_
                            refine xSq ?_
                            refine xRg ?_
                            have z176 := i64_in_ (y38.2.1 + 1)
                            refine xB 6 [] [(0, Value.slice Adata ((t28).length) cdata), (1, vi s3.2.1), (3, vi t17.2), (4, Value.func (.func 42) #[] #[Value.pointer (some a_cmpc)]), (10, vb (decide ((IntKind.i64.wrap (s3.2.2.1 - y38.2.1)) ≥ ((IntKind.i64.wrap (s3.2.2.1 - s3.2.1)) / 8)))), (11, vb y38.2.2), (16, vi y38.2.1), (140, Value.slice Adata ((t28).length) cdata), (142, vi (IntKind.i64.wrap (y38.2.1 + 1))), (143, vi s3.2.2.1), (144, vi t17.2), (145, Value.func (.func 42) #[] #[Value.pointer (some a_cmpc)])] ?_
                            refine wpq_re 0 (v := Value.slice Adata ((t28).length) cdata) (vs Adata y38.1 cdata) (by kernel_rfl) (congrArg (fun z => Value.slice Adata z cdata) hz38_data) ?_
                            have h38_data := Buf.re h38_data hz38_data (rfl : y38.1 = _)
                            refine wpq_re 140 (v := Value.slice Adata ((t28).length) cdata) (vs Adata y38.1 cdata) (by kernel_rfl) (congrArg (fun z => Value.slice Adata z cdata) hz38_data) ?_
                            refine xSel [some 0, none, some 1] ?_
                            have hc_cmpcp := hc_cmpcp.mono e40.r
                            have fcmpcp_defs := fcmpcp_defs.mono e40.r
                            have fcmpcp_conds := fcmpcp_conds.mono e40.r e40.b
                            have hc_cmpc := hc_cmpc.mono e40.r
                            obtain ⟨y48, hy48, hS⟩ := bindO_T hS
                            refine xE (eC 2 (fun g' lr eb ln => cih g' (y38.1 : List Int) Adata cdata k38_data ((IntKind.i64.wrap (y38.2.1 + 1)) : Int) (s3.2.2.1 : Int) (t17.2 : Int) a_cmpc a_cmpcp cmpcp Acmpcp_defs ccmpcp_defs Acmpcp_conds ccmpcp_conds (by rw [eb]; exact h38_data) (hc_cmpcp.mono lr) (fcmpcp_defs.mono lr) (ArrM.lent fcmpcp_conds lr eb) (hc_cmpc.mono lr) hy48)) ?_
                            rintro _ g49 _ e50 ⟨_, rfl, k48_data, rfl, rfl, h48_data⟩
                            have nh48_data := h48_data.len
                            have hz48_data : (y38.1).length = (y48).length := h48_data.leneq
                            have hz48_data_1 : (data).length = (y48).length := hz38_data_1.trans hz48_data
                            refine xRe ?_
                            refine wpq_then ?_
                            refine xSub [(0, Value.slice Adata ((y38.1).length) cdata), (1, vi s3.2.1), (3, vi t17.2), (4, Value.func (.func 42) #[] #[Value.pointer (some a_cmpc)]), (10, vb (decide ((IntKind.i64.wrap (s3.2.2.1 - y38.2.1)) ≥ ((IntKind.i64.wrap (s3.2.2.1 - s3.2.1)) / 8)))), (11, vb y38.2.2), (16, vi y38.2.1)] ?_
                            refine xRg ?_
                            refine xB 2 [] [(0, Value.slice Adata ((y38.1).length) cdata), (1, vi s3.2.1), (2, vi y38.2.1), (3, vi t17.2), (4, Value.func (.func 42) #[] #[Value.pointer (some a_cmpc)]), (10, vb (decide ((IntKind.i64.wrap (s3.2.2.1 - y38.2.1)) ≥ ((IntKind.i64.wrap (s3.2.2.1 - s3.2.1)) / 8)))), (11, vb y38.2.2)] ?_
                            refine xRe ?_
                            refine wpq_re 0 (v := Value.slice Adata ((y38.1).length) cdata) (vs Adata y48 cdata) (by kernel_rfl) (congrArg (fun z => Value.slice Adata z cdata) hz48_data) ?_
                            have h48_data := Buf.re h48_data hz48_data (rfl : y48 = _)
                            refine xSel [none, some 0] ?_
                            refine xSub [(0, vs Adata y48 cdata), (1, vi s3.2.1), (2, vi y38.2.1), (3, vi t17.2), (4, Value.func (.func 42) #[] #[Value.pointer (some a_cmpc)]), (10, vb (decide ((IntKind.i64.wrap (s3.2.2.1 - y38.2.1)) ≥ ((IntKind.i64.wrap (s3.2.2.1 - s3.2.1)) / 8)))), (11, vb y38.2.2)] ?_
                            have eS := (Option.some.inj hS).symm
                            exact hN41 _ eS _ _ _ e50 ⟨k48_data, by kernel_rfl, by kernel_rfl, h48_data, hz48_data_1⟩
                    · intro uu31 hS hN31
                      refine wpq_split 83 (b := decide (s3.2.1 > 0)) (by kernel_rfl) (fun q51 => ?_) (fun q51 => ?_)
                      · have hS := cond_T q51 hS
                        have q51p := of_decide_eq_true q51
                        obtain ⟨q52, hS⟩ := grd_T hS
                        have q52p := of_decide_eq_true q52
                        refine xT 11 [3, 4, 5] [] [some 1] [(0, vs Adata t28 cdata), (1, vi s3.2.1), (2, vi s3.2.2.1), (3, vi t17.2), (4, Value.func (.func 42) #[] #[Value.pointer (some a_cmpc)]), (10, vb s3.2.2.2.2.1), (11, vb s3.2.2.2.2.2), (12, vi (IntKind.i64.wrap (s3.2.2.1 - s3.2.1))), (13, vi t23.2.1), (83, vb true), (84, Value.func (.func 42) #[] #[Value.pointer (some a_cmpc)]), (85, vs Adata t28 cdata), (86, vi s3.2.1)] RG (Psi.le.refl _) ?_
                        refine xTp 6 RG (fun _ => (qSub .i64 (s3.2.1) (1) (wr64 (by omega)))) ?_
                        obtain ⟨q54, hS⟩ := grd_T hS
                        have q54p := of_decide_eq_true q54
                        have i55 : ((s3.2.1 - 1)).toNat < (t28).length := by omega
                        obtain ⟨kc53, cs53, hA53, hk53, hr53, hw53⟩ := h28_0.open_ i55 0
                        obtain ⟨kb53, rfl⟩ : ∃ z, z = kc53 := ⟨_, rfl⟩
                        subst hk53
                        have hr53 : cs53 = [vi (List.getD t28 ((s3.2.1 - 1)).toNat 0)] := hr53
                        subst hr53
                        refine xTp 7 RG (fun _ => (qIxB ((s3.2.1 - 1)).toNat 1 kb53.g hA53 (show ((s3.2.1 - 1) : Int) = _ from by omega) i55)) ?_
                        refine xTv 8 [some 1] RG (Psi.le.refl _) (qLdB ((s3.2.1 - 1)).toNat 1 0 0 hw53) ?_
                        obtain ⟨q57, hS⟩ := grd_T hS
                        have q57p := of_decide_eq_true q57
                        have i58 : (t23.2.1).toNat < (t28).length := by omega
                        obtain ⟨kc56, cs56, hA56, hk56, hr56, hw56⟩ := h28_0.open_ i58 0
                        cases hk56
                        have hr56 : cs56 = [vi (List.getD t28 (t23.2.1).toNat 0)] := hr56
                        subst hr56
                        refine xT 6 [9, 10] [] [some 1] [(0, vs Adata t28 cdata), (1, vi s3.2.1), (2, vi s3.2.2.1), (3, vi t17.2), (4, Value.func (.func 42) #[] #[Value.pointer (some a_cmpc)]), (10, vb s3.2.2.2.2.1), (11, vb s3.2.2.2.2.2), (12, vi (IntKind.i64.wrap (s3.2.2.1 - s3.2.1))), (13, vi t23.2.1), (83, vb true), (84, Value.func (.func 42) #[] #[Value.pointer (some a_cmpc)]), (89, vi (List.getD t28 ((s3.2.1 - 1)).toNat 0)), (90, vs Adata t28 cdata), (91, vi t23.2.1)] RG (Psi.le.refl _) ?_
                        refine xTp 11 RG (fun _ => (qIxB (t23.2.1).toNat 1 kb53.g hA56 (show (t23.2.1 : Int) = _ from by omega) i58)) ?_
                        refine xTv 12 [some 1] RG (Psi.le.refl _) (qLdB (t23.2.1).toNat 1 0 0 hw56) ?_
                        have hc_cmpcp := hc_cmpcp.mono (e22.trans (e25.trans e30)).r
                        have fcmpcp_defs := fcmpcp_defs.mono (e22.trans (e25.trans e30)).r
                        have fcmpcp_conds := fcmpcp_conds.mono (e22.trans (e25.trans e30)).r (e22.trans (e25.trans e30)).b
                        have hc_cmpc := hc_cmpc.mono (e22.trans (e25.trans e30)).r
                        obtain ⟨y59, hy59, hS⟩ := bindO_T hS
                        refine xO1 (lds := [8, 12]) 13 ?_
                        refine xIe (lds := [8, 12]) (Psi.le.refl _) (eC 0 (fun g' lr eb ln => c42 g' ((List.getD t28 ((s3.2.1 - 1)).toNat 0) : Int) ((List.getD t28 (t23.2.1).toNat 0) : Int) a_cmpc a_cmpcp cmpcp Acmpcp_defs ccmpcp_defs Acmpcp_conds ccmpcp_conds (hc_cmpcp.mono lr) (fcmpcp_defs.mono lr) (ArrM.lent fcmpcp_conds lr eb) (hc_cmpc.mono lr) hy59)) ?_
                        rintro _ g60 _ e61 ⟨_, rfl, rfl, rfl⟩
                        refine kk [some 1] ?_
                        refine xT 0 [14, 15, 16] [] [some 1] [(0, vs Adata t28 cdata), (1, vi s3.2.1), (2, vi s3.2.2.1), (3, vi t17.2), (4, Value.func (.func 42) #[] #[Value.pointer (some a_cmpc)]), (10, vb s3.2.2.2.2.1), (11, vb s3.2.2.2.2.2), (12, vi (IntKind.i64.wrap (s3.2.2.1 - s3.2.1))), (13, vi t23.2.1), (97, vb (!decide (y59 < 0)))] RG e61.r ?_
                        refine xSel [none, some 1] ?_
                        refine xSub [(0, vs Adata t28 cdata), (1, vi s3.2.1), (2, vi s3.2.2.1), (3, vi t17.2), (4, Value.func (.func 42) #[] #[Value.pointer (some a_cmpc)]), (10, vb s3.2.2.2.2.1), (11, vb s3.2.2.2.2.2), (12, vi (IntKind.i64.wrap (s3.2.2.1 - s3.2.1))), (13, vi t23.2.1), (97, vb (!decide (y59 < 0)))] ?_
                        exact hN31 _ (Option.some.inj hS).symm _ _ _ e61 ⟨by kernel_rfl, by kernel_rfl⟩
                      · have hS := cond_F q51 hS
                        have q51p := of_decide_eq_false q51
                        refine xT 4 [3, 4, 5, 6, 7, 8, 9, 10, 11, 12] [] [some 1] [(0, vs Adata t28 cdata), (1, vi s3.2.1), (2, vi s3.2.2.1), (3, vi t17.2), (4, Value.func (.func 42) #[] #[Value.pointer (some a_cmpc)]), (10, vb s3.2.2.2.2.1), (11, vb s3.2.2.2.2.2), (12, vi (IntKind.i64.wrap (s3.2.2.1 - s3.2.1))), (13, vi t23.2.1), (83, vb false), (84, undef), (89, undef), (93, undef)] RG (Psi.le.refl _) ?_
                        refine xO1 (lds := [8, 12]) 13 ?_
                        refine xIb (lds := [8, 12]) [] ?_
                        refine xT 0 [14, 15, 16] [] [some 1] [(0, vs Adata t28 cdata), (1, vi s3.2.1), (2, vi s3.2.2.1), (3, vi t17.2), (4, Value.func (.func 42) #[] #[Value.pointer (some a_cmpc)]), (10, vb s3.2.2.2.2.1), (11, vb s3.2.2.2.2.2), (12, vi (IntKind.i64.wrap (s3.2.2.1 - s3.2.1))), (13, vi t23.2.1), (97, vb false)] RG (Psi.le.refl _) ?_
                        refine xSel [none, some 1] ?_
                        refine xSub [(0, vs Adata t28 cdata), (1, vi s3.2.1), (2, vi s3.2.2.1), (3, vi t17.2), (4, Value.func (.func 42) #[] #[Value.pointer (some a_cmpc)]), (10, vb s3.2.2.2.2.1), (11, vb s3.2.2.2.2.2), (12, vi (IntKind.i64.wrap (s3.2.2.1 - s3.2.1))), (13, vi t23.2.1), (97, vb false)] ?_
                        exact hN31 _ (Option.some.inj hS).symm _ _ _ (Gh.le.refl _) ⟨by kernel_rfl, by kernel_rfl⟩
                  · intro uu28 hS hN28 hD28
                    refine xCd (((s3.2.2.2.2.1 && s3.2.2.2.2.2) && (t23.2.2 == 1))) (fun h62 => ?_) (fun h62 => ?_)
                    · have hS := cond_T h62 hS
                      have h62l := (and_true_ h62).1
                      have h62r := (and_true_ h62).2
                      have h62ll := (and_true_ h62l).1
                      have h62lr := (and_true_ h62l).2
                      have h62rp : t23.2.2 = 1 := eq_of_beq h62r
                      refine xSq ?_
                      refine xRg ?_
                      refine xB 4 [] [(0, vs Adata t23.1 cdata), (1, vi s3.2.1), (2, vi s3.2.2.1), (3, vi t17.2), (4, Value.func (.func 42) #[] #[Value.pointer (some a_cmpc)]), (10, vb s3.2.2.2.2.1), (11, vb s3.2.2.2.2.2), (12, vi (IntKind.i64.wrap (s3.2.2.1 - s3.2.1))), (13, vi t23.2.1), (76, vs Adata t23.1 cdata), (77, vi s3.2.1), (78, vi s3.2.2.1), (79, Value.func (.func 42) #[] #[Value.pointer (some a_cmpc)])] ?_
                      refine xSel [some 1, none, some 0] ?_
                      have hc_cmpcp := hc_cmpcp.mono (e22.trans e25).r
                      have fcmpcp_defs := fcmpcp_defs.mono (e22.trans e25).r
                      have fcmpcp_conds := fcmpcp_conds.mono (e22.trans e25).r (e22.trans e25).b
                      have hc_cmpc := hc_cmpc.mono (e22.trans e25).r
                      obtain ⟨y63, hy63, hS⟩ := bindO_T hS
                      refine xE (eC 2 (fun g' lr eb ln => c71f42 g' (t23.1 : List Int) Adata cdata k23_0 (s3.2.1 : Int) (s3.2.2.1 : Int) a_cmpc a_cmpcp cmpcp Acmpcp_defs ccmpcp_defs Acmpcp_conds ccmpcp_conds (by rw [eb]; exact h23_0) (hc_cmpcp.mono lr) (fcmpcp_defs.mono lr) (ArrM.lent fcmpcp_conds lr eb) (hc_cmpc.mono lr) hy63)) ?_
                      rintro _ g64 _ e65 ⟨_, rfl, k63_data, rfl, rfl, h63_data⟩
                      have nh63_data := h63_data.len
                      have hz63_data : (t23.1).length = (y63.1).length := h63_data.leneq
                      have hz63_data_1 : (data).length = (y63.1).length := hz23_v0.trans hz63_data
                      refine xRe ?_
                      refine wpq_then ?_
                      refine xSub [(0, Value.slice Adata ((t23.1).length) cdata), (1, vi s3.2.1), (2, vi s3.2.2.1), (3, vi t17.2), (4, Value.func (.func 42) #[] #[Value.pointer (some a_cmpc)]), (10, vb s3.2.2.2.2.1), (11, vb s3.2.2.2.2.2), (12, vi (IntKind.i64.wrap (s3.2.2.1 - s3.2.1))), (13, vi t23.2.1), (80, vb y63.2)] ?_
                      refine xCd (y63.2) (fun h66 => ?_) (fun h66 => ?_)
                      · have hS := cond_T h66 hS
                        refine wpq_re 0 (v := Value.slice Adata ((t23.1).length) cdata) (vs Adata y63.1 cdata) (by kernel_rfl) (congrArg (fun z => Value.slice Adata z cdata) hz63_data) ?_
                        have h63_data := Buf.re h63_data hz63_data (rfl : y63.1 = _)
                        have eS := (Option.some.inj hS).symm
                        have eS := (hD28 _ eS).symm
                        have eS := (hD6 _ eS).symm
                        have eS := (hD3 _ eS).symm
                        subst eS
                        exact xRet [some 0] [] (e5.trans (e19.trans (e22.trans (e25.trans e65)))) ⟨k63_data, by kernel_rfl, by kernel_rfl, (Buf.re h63_data hz63_data_1.symm rfl)⟩ (fun _ _ h => h)
                      · have hS := cond_F h66 hS
                        refine xSk ?_
                        refine wpq_re 0 (v := Value.slice Adata ((t23.1).length) cdata) (vs Adata y63.1 cdata) (by kernel_rfl) (congrArg (fun z => Value.slice Adata z cdata) hz63_data) ?_
                        have h63_data := Buf.re h63_data hz63_data (rfl : y63.1 = _)
                        refine xSel [none, some 0] ?_
                        refine xSub [(0, vs Adata y63.1 cdata), (1, vi s3.2.1), (2, vi s3.2.2.1), (3, vi t17.2), (4, Value.func (.func 42) #[] #[Value.pointer (some a_cmpc)]), (10, vb s3.2.2.2.2.1), (11, vb s3.2.2.2.2.2), (12, vi (IntKind.i64.wrap (s3.2.2.1 - s3.2.1))), (13, vi t23.2.1)] ?_
                        have eS := (Option.some.inj hS).symm
                        exact hN28 _ eS _ _ _ e65 ⟨k63_data, by kernel_rfl, by kernel_rfl, h63_data, hz63_data_1⟩
                    · have hS := cond_F h62 hS
                      refine xSk ?_
                      refine xSel [none, some 1] ?_
                      refine xSub [(0, vs Adata t23.1 cdata), (1, vi s3.2.1), (2, vi s3.2.2.1), (3, vi t17.2), (4, Value.func (.func 42) #[] #[Value.pointer (some a_cmpc)]), (10, vb s3.2.2.2.2.1), (11, vb s3.2.2.2.2.2), (12, vi (IntKind.i64.wrap (s3.2.2.1 - s3.2.1))), (13, vi t23.2.1)] ?_
                      have eS := (Option.some.inj hS).symm
                      exact hN28 _ eS _ _ _ (Gh.le.refl _) ⟨k23_0, by kernel_rfl, by kernel_rfl, h23_0, hz23_v0⟩
            · intro uu23 hS hN23
              refine xCd ((y20.2 == 2)) (fun h67 => ?_) (fun h67 => ?_)
              · have hS := cond_T h67 hS
                have h67p : y20.2 = 2 := eq_of_beq h67
                refine xSq ?_
                refine xRg ?_
                refine xB 4 [] [(0, vs Adata t17.1 cdata), (1, vi s3.2.1), (2, vi s3.2.2.1), (3, vi t17.2), (4, Value.func (.func 42) #[] #[Value.pointer (some a_cmpc)]), (10, vb s3.2.2.2.2.1), (11, vb s3.2.2.2.2.2), (12, vi (IntKind.i64.wrap (s3.2.2.1 - s3.2.1))), (13, vi y20.1), (57, vs Adata t17.1 cdata), (58, vi s3.2.1), (59, vi s3.2.2.1), (60, Value.func (.func 42) #[] #[Value.pointer (some a_cmpc)])] ?_
                refine xSel [some 1, none, some 0] ?_
                have h17_0 := h17_0.mono e22.b
                have hc_cmpcp := hc_cmpcp.mono e22.r
                have fcmpcp_defs := fcmpcp_defs.mono e22.r
                have fcmpcp_conds := fcmpcp_conds.mono e22.r e22.b
                have hc_cmpc := hc_cmpc.mono e22.r
                obtain ⟨y68, hy68, hS⟩ := bindO_T hS
                refine xE (eC 2 (fun g' lr eb ln => c70f42 g' (t17.1 : List Int) Adata cdata k17_0 (s3.2.1 : Int) (s3.2.2.1 : Int) a_cmpc a_cmpcp cmpcp Acmpcp_defs ccmpcp_defs Acmpcp_conds ccmpcp_conds (by rw [eb]; exact h17_0) (hc_cmpcp.mono lr) (fcmpcp_defs.mono lr) (ArrM.lent fcmpcp_conds lr eb) (hc_cmpc.mono lr) hy68)) ?_
                rintro _ g69 _ e70 ⟨_, rfl, k68_data, rfl, rfl, h68_data⟩
                have nh68_data := h68_data.len
                have hz68_data : (t17.1).length = (y68).length := h68_data.leneq
                have hz68_data_1 : (data).length = (y68).length := hz17_v0.trans hz68_data
                refine xRe ?_
                refine wpq_then ?_
                refine xSub [(0, Value.slice Adata ((t17.1).length) cdata), (1, vi s3.2.1), (2, vi s3.2.2.1), (3, vi t17.2), (4, Value.func (.func 42) #[] #[Value.pointer (some a_cmpc)]), (10, vb s3.2.2.2.2.1), (11, vb s3.2.2.2.2.2), (12, vi (IntKind.i64.wrap (s3.2.2.1 - s3.2.1))), (13, vi y20.1)] ?_
                refine xSq ?_
                refine xRg ?_
                have z177 := i64_in_ (s3.2.2.1 - 1)
                have z178 := i64_in_ (y20.1 - s3.2.1)
                have z179 := i64_in_ ((IntKind.i64.wrap (s3.2.2.1 - 1)) - (IntKind.i64.wrap (y20.1 - s3.2.1)))
                refine xB 7 [] [(0, Value.slice Adata ((t17.1).length) cdata), (1, vi s3.2.1), (2, vi s3.2.2.1), (3, vi t17.2), (4, Value.func (.func 42) #[] #[Value.pointer (some a_cmpc)]), (10, vb s3.2.2.2.2.1), (11, vb s3.2.2.2.2.2), (12, vi (IntKind.i64.wrap (s3.2.2.1 - s3.2.1))), (13, vi (IntKind.i64.wrap ((IntKind.i64.wrap (s3.2.2.1 - 1)) - (IntKind.i64.wrap (y20.1 - s3.2.1)))))] ?_
                refine xRe ?_
                refine wpq_then ?_
                refine xRg ?_
                refine xB 1 [] [(0, Value.slice Adata ((t17.1).length) cdata), (1, vi s3.2.1), (2, vi s3.2.2.1), (3, vi t17.2), (4, Value.func (.func 42) #[] #[Value.pointer (some a_cmpc)]), (10, vb s3.2.2.2.2.1), (11, vb s3.2.2.2.2.2), (12, vi (IntKind.i64.wrap (s3.2.2.1 - s3.2.1))), (13, vi (IntKind.i64.wrap ((IntKind.i64.wrap (s3.2.2.1 - 1)) - (IntKind.i64.wrap (y20.1 - s3.2.1))))), (14, vi 1)] ?_
                refine xRe ?_
                refine wpq_re 0 (v := Value.slice Adata ((t17.1).length) cdata) (vs Adata y68 cdata) (by kernel_rfl) (congrArg (fun z => Value.slice Adata z cdata) hz68_data) ?_
                have h68_data := Buf.re h68_data hz68_data (rfl : y68 = _)
                refine xSel [none, some 0] ?_
                refine xSub [(0, vs Adata y68 cdata), (1, vi s3.2.1), (2, vi s3.2.2.1), (3, vi t17.2), (4, Value.func (.func 42) #[] #[Value.pointer (some a_cmpc)]), (10, vb s3.2.2.2.2.1), (11, vb s3.2.2.2.2.2), (12, vi (IntKind.i64.wrap (s3.2.2.1 - s3.2.1))), (13, vi (IntKind.i64.wrap ((IntKind.i64.wrap (s3.2.2.1 - 1)) - (IntKind.i64.wrap (y20.1 - s3.2.1))))), (14, vi 1)] ?_
                have eS := (Option.some.inj hS).symm
                exact hN23 _ eS _ _ _ e70 ⟨k68_data, by kernel_rfl, by kernel_rfl, h68_data, hz68_data_1⟩
              · have hS := cond_F h67 hS
                have h67p : ¬ (y20.2 = 2) := ne_of_beq_false_ h67
                refine xSk ?_
                have h17_0 := h17_0.mono e22.b
                refine xSel [none, some 1] ?_
                refine xSub [(0, vs Adata t17.1 cdata), (1, vi s3.2.1), (2, vi s3.2.2.1), (3, vi t17.2), (4, Value.func (.func 42) #[] #[Value.pointer (some a_cmpc)]), (10, vb s3.2.2.2.2.1), (11, vb s3.2.2.2.2.2), (12, vi (IntKind.i64.wrap (s3.2.2.1 - s3.2.1))), (13, vi y20.1), (14, vi y20.2)] ?_
                have eS := (Option.some.inj hS).symm
                exact hN23 _ eS _ _ _ (Gh.le.refl _) ⟨k17_0, by kernel_rfl, by kernel_rfl, h17_0, hz17_v0⟩
          · intro uu17 hS hN17
            refine xCd ((!s3.2.2.2.2.1)) (fun h71 => ?_) (fun h71 => ?_)
            · have hS := cond_T h71 hS
              have h71n := not_eq_true_ h71
              refine xSq ?_
              refine xRg ?_
              refine xB 4 [] [(0, vs Adata s3.1 cdata), (1, vi s3.2.1), (2, vi s3.2.2.1), (3, vi s3.2.2.2.1), (4, Value.func (.func 42) #[] #[Value.pointer (some a_cmpc)]), (10, vb s3.2.2.2.2.1), (11, vb s3.2.2.2.2.2), (12, vi (IntKind.i64.wrap (s3.2.2.1 - s3.2.1))), (40, vs Adata s3.1 cdata), (41, vi s3.2.1), (42, vi s3.2.2.1), (43, Value.func (.func 42) #[] #[Value.pointer (some a_cmpc)])] ?_
              refine xSel [some 1, none, some 0] ?_
              have hc_cmpcp := hc_cmpcp.mono e5.r
              have fcmpcp_defs := fcmpcp_defs.mono e5.r
              have fcmpcp_conds := fcmpcp_conds.mono e5.r e5.b
              have hc_cmpc := hc_cmpc.mono e5.r
              obtain ⟨y72, hy72, hS⟩ := bindO_T hS
              refine xE (eC 2 (fun g' lr eb ln => c68f42 g' (s3.1 : List Int) Adata cdata k3_0 (s3.2.1 : Int) (s3.2.2.1 : Int) a_cmpc a_cmpcp cmpcp Acmpcp_defs ccmpcp_defs Acmpcp_conds ccmpcp_conds (by rw [eb]; exact h3_0) (hc_cmpcp.mono lr) (fcmpcp_defs.mono lr) (ArrM.lent fcmpcp_conds lr eb) (hc_cmpc.mono lr) hy72)) ?_
              rintro _ g73 _ e74 ⟨_, rfl, k72_data, rfl, rfl, h72_data⟩
              have nh72_data := h72_data.len
              have hz72_data : (s3.1).length = (y72).length := h72_data.leneq
              have hz72_data_1 : (data).length = (y72).length := hz3_v0.trans hz72_data
              refine xRe ?_
              refine wpq_then ?_
              refine xSub [(0, Value.slice Adata ((s3.1).length) cdata), (1, vi s3.2.1), (2, vi s3.2.2.1), (3, vi s3.2.2.2.1), (4, Value.func (.func 42) #[] #[Value.pointer (some a_cmpc)]), (10, vb s3.2.2.2.2.1), (11, vb s3.2.2.2.2.2), (12, vi (IntKind.i64.wrap (s3.2.2.1 - s3.2.1)))] ?_
              refine xRg ?_
              have z180 := i64_in_ (s3.2.2.2.1 - 1)
              refine xB 3 [] [(0, Value.slice Adata ((s3.1).length) cdata), (1, vi s3.2.1), (2, vi s3.2.2.1), (3, vi (IntKind.i64.wrap (s3.2.2.2.1 - 1))), (4, Value.func (.func 42) #[] #[Value.pointer (some a_cmpc)]), (10, vb s3.2.2.2.2.1), (11, vb s3.2.2.2.2.2), (12, vi (IntKind.i64.wrap (s3.2.2.1 - s3.2.1)))] ?_
              refine xRe ?_
              refine wpq_re 0 (v := Value.slice Adata ((s3.1).length) cdata) (vs Adata y72 cdata) (by kernel_rfl) (congrArg (fun z => Value.slice Adata z cdata) hz72_data) ?_
              have h72_data := Buf.re h72_data hz72_data (rfl : y72 = _)
              refine xSel [none, some 0] ?_
              refine xSub [(0, vs Adata y72 cdata), (1, vi s3.2.1), (2, vi s3.2.2.1), (3, vi (IntKind.i64.wrap (s3.2.2.2.1 - 1))), (4, Value.func (.func 42) #[] #[Value.pointer (some a_cmpc)]), (10, vb s3.2.2.2.2.1), (11, vb s3.2.2.2.2.2), (12, vi (IntKind.i64.wrap (s3.2.2.1 - s3.2.1)))] ?_
              have eS := (Option.some.inj hS).symm
              exact hN17 _ eS _ _ _ e74 ⟨k72_data, by kernel_rfl, by kernel_rfl, h72_data, hz72_data_1⟩
            · have hS := cond_F h71 hS
              have h71n := not_eq_false_ h71
              refine xSk ?_
              refine xSel [none, some 1] ?_
              refine xSub [(0, vs Adata s3.1 cdata), (1, vi s3.2.1), (2, vi s3.2.2.1), (3, vi s3.2.2.2.1), (4, Value.func (.func 42) #[] #[Value.pointer (some a_cmpc)]), (10, vb s3.2.2.2.2.1), (11, vb s3.2.2.2.2.2), (12, vi (IntKind.i64.wrap (s3.2.2.1 - s3.2.1)))] ?_
              have eS := (Option.some.inj hS).symm
              exact hN17 _ eS _ _ _ (Gh.le.refl _) ⟨k3_0, by kernel_rfl, by kernel_rfl, h3_0, hz3_v0⟩

def o41f42 (x : List Int) (cmpcp : Board) : Option ((List Int)) :=
  (bindO (τ := Int) (o60 ((((x).length : Nat) : Int) : Int)) fun y1 => (bindO (τ := (List Int)) (o59f42 fuelN (x : List Int) (0 : Int) ((((x).length : Nat) : Int) : Int) (y1 : Int) cmpcp) fun y4 => (some ((y4 : List Int)))))
set_option maxRecDepth 100000 in
theorem c41f42 (g : Gh) (x : List Int) (Ax : Option Addr) (cx : Nat) (kx : Option Bk) (a_cmpc : Addr) (a_cmpcp : Addr) (cmpcp : Board) (Acmpcp_defs : Option Addr) (ccmpcp_defs : Nat) (Acmpcp_conds : Option Addr) (ccmpcp_conds : Nat) (hx : Buf g.b (tyI .i64) 3 (.slice Ax (x).length cx) kx x) (hc_cmpcp : Cells g.r a_cmpcp (cBoard cmpcp Acmpcp_defs ccmpcp_defs Acmpcp_conds ccmpcp_conds)) (fcmpcp_defs : Arr g.r tyAlertDef Acmpcp_defs ccmpcp_defs cmpcp.defs) (fcmpcp_conds : ArrM g.r g.b tyCnd Acmpcp_conds ccmpcp_conds cmpcp.conds) (hc_cmpc : Cells g.r a_cmpc [Value.pointer (some a_cmpcp)]) {r : (List Int)} (hS : o41f42 x cmpcp = some r) :
    Ctr Try.prog 41 [vs Ax x cx, Value.func (.func 42) #[] #[Value.pointer (some a_cmpc)]] g [kx, none] (fun v ψ o => ∃ (ko_x : Option Bk), v = Value.tuple #[] ∧ o = [ko_x] ∧ Buf ψ (tyI .i64) 3 (.slice Ax (x).length cx) ko_x r) := by
  unfold o41f42 at hS
  refine xFn Try.f41 (Try.f41.body.getD .skip) 14 ?_
  have nhx := hx.len
  have nfcmpcp_defs := fcmpcp_defs.len
  have nfcmpcp_conds := fcmpcp_conds.len
  refine xSq ?_
  refine xRg ?_
  refine xB 3 [] [(0, vs Ax x cx), (1, Value.func (.func 42) #[] #[Value.pointer (some a_cmpc)]), (4, vi (((x).length : Nat) : Int))] ?_
  refine xRe ?_
  refine wpq_then ?_
  refine xRg ?_
  refine xB 3 [] [(1, Value.func (.func 42) #[] #[Value.pointer (some a_cmpc)]), (7, vs Ax x cx), (8, vi (((x).length : Nat) : Int)), (9, vi (((x).length : Nat) : Int))] ?_
  refine xV (qConv .i64 .u64 ((((x).length : Nat) : Int)) ((((x).length : Nat) : Int)) (wr_u64 (by omega))) ?_
  obtain ⟨y1, hy1, hS⟩ := bindO_T hS
  refine xE (eC 0 (fun g' lr eb ln => c60 g' ((((x).length : Nat) : Int) : Int) hy1)) ?_
  rintro _ g2 _ e3 ⟨_, rfl, rfl, rfl⟩
  refine xB 1 [] [(7, vs Ax x cx), (8, vi (((x).length : Nat) : Int)), (11, vi y1), (12, Value.func (.func 42) #[] #[Value.pointer (some a_cmpc)])] ?_
  refine xSel [some 0, none, some 1] ?_
  have hx := hx.mono e3.b
  have hc_cmpcp := hc_cmpcp.mono e3.r
  have fcmpcp_defs := fcmpcp_defs.mono e3.r
  have fcmpcp_conds := fcmpcp_conds.mono e3.r e3.b
  have hc_cmpc := hc_cmpc.mono e3.r
  obtain ⟨y4, hy4, hS⟩ := bindO_T hS
  refine xE (eC 2 (fun g' lr eb ln => c59f42 fuelN g' (x : List Int) Ax cx kx (0 : Int) ((((x).length : Nat) : Int) : Int) (y1 : Int) a_cmpc a_cmpcp cmpcp Acmpcp_defs ccmpcp_defs Acmpcp_conds ccmpcp_conds (by rw [eb]; exact hx) (hc_cmpcp.mono lr) (fcmpcp_defs.mono lr) (ArrM.lent fcmpcp_conds lr eb) (hc_cmpc.mono lr) hy4)) ?_
  rintro _ g5 _ e6 ⟨_, rfl, k4_data, rfl, rfl, h4_data⟩
  have nh4_data := h4_data.len
  have hz4_data : (x).length = (y4).length := h4_data.leneq
  refine xRe ?_
  refine wpq_re 7 (v := Value.slice Ax ((x).length) cx) (vs Ax y4 cx) (by kernel_rfl) (congrArg (fun z => Value.slice Ax z cx) hz4_data) ?_
  have h4_data := Buf.re h4_data hz4_data (rfl : y4 = _)
  have eS := (Option.some.inj hS).symm
  subst eS
  exact xFin [some 0] [] (e3.trans e6) ⟨k4_data, by kernel_rfl, by kernel_rfl, (Buf.re h4_data hz4_data.symm rfl)⟩

def o19_L0 (b : Board) (s10 : (List Int) × Nat) : Option (Ctl ((List Int) × Nat) ((List Int))) :=
  (cond (decide (((s10.2 : Nat) : Int) < (((b.defs).length : Nat) : Int))) (bindO (τ := Bool) (o40 b (((s10.2 : Nat) : Int) : Int)) fun y14 => (bindO (τ := (List Int)) (cond (y14) (grd (decide (((s10.1).length + (([(((s10.2 : Nat) : Int) : Int)] : List Int)).length) * 8 ≤ 140737488355328)) (some (((s10.1 ++ ([(((s10.2 : Nat) : Int) : Int)] : List Int)) : List Int)))) (some ((s10.1 : List Int)))) fun t17 => (grd (decide (((s10.2 : Nat) : Int) + 1 ≤ 9223372036854775807)) (some (Ctl.go ((t17 : List Int), (s10.2 + 1))))))) (some (Ctl.done ((s10.1 : List Int)))))
def o19 (b : Board) : Option ((List Int)) :=
  (bindO (τ := (List Int)) (loopO (σ := (List Int) × Nat) (ρ := (List Int)) fuelN (o19_L0 b) (([] : List Int), 0)) fun t2 => (bindO (τ := (List Int)) (o41f42 (t2 : List Int) b) fun y5 => (some ((y5 : List Int)))))
set_option maxRecDepth 100000 in
theorem c19 (g : Gh) (a_b : Addr) (b : Board) (Ab_defs : Option Addr) (cb_defs : Nat) (Ab_conds : Option Addr) (cb_conds : Nat) (hc_b : Cells g.r a_b (cBoard b Ab_defs cb_defs Ab_conds cb_conds)) (fb_defs : Arr g.r tyAlertDef Ab_defs cb_defs b.defs) (fb_conds : ArrM g.r g.b tyCnd Ab_conds cb_conds b.conds) {r : (List Int)} (hS : o19 b = some r) :
    Ctr Try.prog 19 [Value.pointer (some a_b)] g [] (fun v ψ o => ∃ (Ar_0 : Option Addr) (cr_0 : Nat) (kr_0 : Option Bk), v = vs Ar_0 r cr_0 ∧ o = [kr_0] ∧ Buf ψ (tyI .i64) 3 (.slice Ar_0 (r).length cr_0) kr_0 r) := by
  unfold o19 at hS
  refine xFn Try.f19 (Try.f19.body.getD .skip) 27 ?_
  have nfb_defs := fb_defs.len
  have nfb_conds := fb_conds.len
  refine xSq ?_
  refine xRg ?_
  refine xE eB ?_
  rintro _ _ _ - ⟨b1, rfl, rfl, rfl⟩
  refine xB 1 [] [(1, vp b1 0)] ?_
  refine xRe ?_
  refine wpq_then ?_
  refine xSq ?_
  refine xSq ?_
  refine xRg ?_
  refine xB 2 [(0, 0)] [(1, vp b1 0), (6, vb false)] ?_
  refine xRe ?_
  refine wpq_then ?_
  refine xCf ?_
  refine xSk ?_
  refine wpq_then ?_
  refine xSub [(1, vp b1 0)] ?_
  refine xSq ?_
  refine xRg ?_
  refine xB 1 [] [(1, vp b1 0), (3, Value.slice none 0 0)] ?_
  refine xRe ?_
  refine wpq_then ?_
  refine xSq ?_
  refine xSq ?_
  refine xRg ?_
  refine xB 3 [(0, 0)] [(1, vp b1 0), (3, Value.slice none 0 0), (9, Value.pointer (some a_b))] ?_
  refine xV (qLdP a_b 0 hc_b) ?_
  refine xB 2 [] [(1, vp b1 0), (3, Value.slice none 0 0), (11, vi (((b.defs).length : Nat) : Int)), (12, vi 0)] ?_
  refine xRe ?_
  refine wpq_then ?_
  refine xBindO hS (fun g own sl t2 => ∃ (A2_0 : Option Addr) (c2_0 : Nat) (k2_0 : Option Bk), own = [some ⟨b1, 25, [Value.pointer (some a_b)]⟩, k2_0] ∧ sl = [(1, vp b1 0), (3, vs A2_0 t2 c2_0)] ∧ Buf g.b (tyI .i64) 3 (.slice A2_0 (t2).length c2_0) k2_0 t2) ?_ ?_
  · rintro g3 _ _ t2 e4 ⟨A2_0, c2_0, k2_0, rfl, rfl, h2_0⟩ hS
    have nh2_0 := h2_0.len
    refine wpq_then ?_
    refine xSq ?_
    refine xRg ?_
    refine xB 2 [] [(3, vs A2_0 t2 c2_0), (23, vs A2_0 t2 c2_0), (24, Value.func (.func 42) #[] #[vp b1 0])] ?_
    refine xSel [some 1, none, some 0] ?_
    have hc_b := hc_b.mono e4.r
    have fb_defs := fb_defs.mono e4.r
    have fb_conds := fb_conds.mono e4.r e4.b
    obtain ⟨y5, hy5, hS⟩ := bindO_T hS
    refine xE (eC 2 (fun g' lr eb ln => c41f42 g' (t2 : List Int) A2_0 c2_0 k2_0 ⟨b1, 0, none⟩ a_b b Ab_defs cb_defs Ab_conds cb_conds (by rw [eb]; exact h2_0) (hc_b.mono lr) (fb_defs.mono lr) (ArrM.lent fb_conds lr eb) (cells_lent' 0 b1 0 [Value.pointer (some a_b)] ln) hy5)) ?_
    rintro _ g6 _ e7 ⟨_, rfl, k5_x, rfl, rfl, h5_x⟩
    have nh5_x := h5_x.len
    have hz5_x : (t2).length = (y5).length := h5_x.leneq
    refine xRe ?_
    refine wpq_then ?_
    refine xSub [(3, Value.slice A2_0 ((t2).length) c2_0)] ?_
    refine xSq ?_
    refine xRg ?_
    refine xB 2 [] [(2, Value.slice A2_0 ((t2).length) c2_0)] ?_
    refine xRe ?_
    refine wpq_then ?_
    refine wpq_re 2 (v := Value.slice A2_0 ((t2).length) c2_0) (vs A2_0 y5 c2_0) (by kernel_rfl) (congrArg (fun z => Value.slice A2_0 z c2_0) hz5_x) ?_
    have h5_x := Buf.re h5_x hz5_x (rfl : y5 = _)
    have eS := (Option.some.inj hS).symm
    subst eS
    exact xRet [some 0] [2] (e4.trans e7) ⟨A2_0, c2_0, k5_x, by kernel_rfl, by kernel_rfl, h5_x⟩ (fun _ _ h => h)
  · intro uu2 hS hN2
    refine xBl 0 ?_
    refine xSel [some 0, none] ?_
    refine xSub [(1, vp b1 0), (3, Value.slice none 0 0), (11, vi (((b.defs).length : Nat) : Int)), (12, vi 0)] ?_
    refine xLo hS (fun g own sl s10 => ∃ (A10_0 : Option Addr) (c10_0 : Nat) (k10_0 : Option Bk), own = [some ⟨b1, 25, [Value.pointer (some a_b)]⟩, k10_0] ∧ sl = [(1, vp b1 0), (3, vs A10_0 s10.1 c10_0), (11, vi (((b.defs).length : Nat) : Int)), (12, vi ((s10.2 : Nat) : Int))] ∧ Buf g.b (tyI .i64) 3 (.slice A10_0 (s10.1).length c10_0) k10_0 s10.1) ⟨none, 0, none, by kernel_rfl, by kernel_rfl, Buf.nil⟩ ?_
    rintro g11 _ _ s10 uu10 e12 ⟨A10_0, c10_0, k10_0, rfl, rfl, h10_0⟩ hS Qr10 hN10 hD10
    have nh10_0 := h10_0.len
    unfold o19_L0 at hS
    refine xSq ?_
    refine xRg ?_
    refine xB 1 [] [(1, vp b1 0), (3, vs A10_0 s10.1 c10_0), (11, vi (((b.defs).length : Nat) : Int)), (12, vi ((s10.2 : Nat) : Int)), (13, vb (decide (((s10.2 : Nat) : Int) < (((b.defs).length : Nat) : Int))))] ?_
    refine xRe ?_
    refine wpq_then ?_
    refine xSq ?_
    refine xCd (decide (((s10.2 : Nat) : Int) < (((b.defs).length : Nat) : Int))) (fun h13 => ?_) (fun h13 => ?_)
    · have hS := cond_T h13 hS
      have h13p := of_decide_eq_true h13
      refine xSk ?_
      refine wpq_then ?_
      refine xSub [(1, vp b1 0), (3, vs A10_0 s10.1 c10_0), (11, vi (((b.defs).length : Nat) : Int)), (12, vi ((s10.2 : Nat) : Int))] ?_
      refine xSq ?_
      refine xBl 1 ?_
      refine xSq ?_
      refine xRg ?_
      refine xB 2 [] [(1, vp b1 0), (3, vs A10_0 s10.1 c10_0), (4, vi ((s10.2 : Nat) : Int)), (11, vi (((b.defs).length : Nat) : Int)), (12, vi ((s10.2 : Nat) : Int))] ?_
      refine xRe ?_
      refine wpq_then ?_
      refine xSq ?_
      refine xRg ?_
      refine xB 2 [(0, 0)] [(1, vp b1 0), (3, vs A10_0 s10.1 c10_0), (4, vi ((s10.2 : Nat) : Int)), (11, vi (((b.defs).length : Nat) : Int)), (12, vi ((s10.2 : Nat) : Int)), (15, Value.pointer (some a_b)), (16, vi ((s10.2 : Nat) : Int))] ?_
      have hc_b := hc_b.mono e12.r
      have fb_defs := fb_defs.mono e12.r
      have fb_conds := fb_conds.mono e12.r e12.b
      obtain ⟨y14, hy14, hS⟩ := bindO_T hS
      refine xE (eC 0 (fun g' lr eb ln => c40 g' a_b b Ab_defs cb_defs Ab_conds cb_conds (((s10.2 : Nat) : Int) : Int) (hc_b.mono lr) (fb_defs.mono lr) (ArrM.lent fb_conds lr eb) hy14)) ?_
      rintro _ g15 _ e16 ⟨_, rfl, rfl, rfl⟩
      refine xRe ?_
      refine wpq_then ?_
      refine xSub [(1, vp b1 0), (3, vs A10_0 s10.1 c10_0), (4, vi ((s10.2 : Nat) : Int)), (11, vi (((b.defs).length : Nat) : Int)), (12, vi ((s10.2 : Nat) : Int)), (17, vb y14)] ?_
      refine xBindO hS (fun g own sl t17 => ∃ (A17_0 : Option Addr) (c17_0 : Nat) (k17_0 : Option Bk), own = [some ⟨b1, 25, [Value.pointer (some a_b)]⟩, k17_0] ∧ sl = [(1, vp b1 0), (3, vs A17_0 t17 c17_0), (11, vi (((b.defs).length : Nat) : Int)), (12, vi ((s10.2 : Nat) : Int))] ∧ Buf g.b (tyI .i64) 3 (.slice A17_0 (t17).length c17_0) k17_0 t17) ?_ ?_
      · rintro g18 _ _ t17 e19 ⟨A17_0, c17_0, k17_0, rfl, rfl, h17_0⟩ hS
        have nh17_0 := h17_0.len
        refine wpq_blockN ?_
        refine wpq_then ?_
        refine xRg ?_
        obtain ⟨q20, hS⟩ := grd_T hS
        have q20p := of_decide_eq_true q20
        refine xV (qAdd .i64 (((s10.2 : Nat) : Int)) (1) (wr64 (by omega))) ?_
        refine xB 1 [] [(1, vp b1 0), (3, vs A17_0 t17 c17_0), (11, vi (((b.defs).length : Nat) : Int)), (12, vi (((s10.2 : Nat) : Int) + 1))] ?_
        refine xRe ?_
        refine wpq_thenN ?_
        refine xSub [(1, vp b1 0), (3, vs A17_0 t17 c17_0), (11, vi (((b.defs).length : Nat) : Int)), (12, vi (((s10.2 : Nat) : Int) + 1))] ?_
        have eS := (Option.some.inj hS).symm
        exact hN10 _ eS _ _ _ (e16.trans e19) ⟨A17_0, c17_0, k17_0, by kernel_rfl, by kernel_rfl, h17_0⟩
      · intro uu17 hS hN17
        refine xCd (y14) (fun h21 => ?_) (fun h21 => ?_)
        · have hS := cond_T h21 hS
          refine xRg ?_
          refine xB 2 [] [(1, vp b1 0), (3, vs A10_0 s10.1 c10_0), (11, vi (((b.defs).length : Nat) : Int)), (12, vi ((s10.2 : Nat) : Int)), (18, vs A10_0 s10.1 c10_0), (19, vi ((s10.2 : Nat) : Int))] ?_
          refine xE (eBs (T := (tyI .i64)) (p := g15.b) (et := 3) (xs := ([(((s10.2 : Nat) : Int) : Int)] : List Int)) (reps_cons (c := [vi ((s10.2 : Nat) : Int)]) (show (tyI .i64).rep _ _ _ from rfl) reps_nil) (by simp)) ?_
          rintro _ _ _ - ⟨A22, c22, k22, rfl, rfl, rfl, h22⟩
          have h10_0 := h10_0.mono e16.b
          obtain ⟨nw23, hp23, hs23⟩ := h22.srcO (g := g15)
          obtain ⟨q24, hS⟩ := grd_T hS
          have q24p := of_decide_eq_true q24
          refine xE (eApp (T := (tyI .i64)) (p := g15.b) (et := 3) (bytes := 8) (xs := (s10.1 : List Int)) (ys := (([(((s10.2 : Nat) : Int) : Int)] : List Int) : List Int)) 2 h10_0 rfl (fun w hs => hs23 0 w _ hs (by kernel_rfl)) hp23 (by first | omega | (simp only [List.length_cons, List.length_nil] at *; omega)) (by first | omega | (simp only [List.length_cons, List.length_nil] at *; omega))) ?_
          rintro _ _ _ - ⟨A23, c23, k23, rfl, rfl, rfl, h23⟩
          have nh23 := h23.len
          have hz23 : ((s10.1 ++ ([(((s10.2 : Nat) : Int) : Int)] : List Int)) : List Int).length = (s10.1).length + (([(((s10.2 : Nat) : Int) : Int)] : List Int)).length := List.length_append
          refine xB 1 [] [(1, vp b1 0), (3, vs A23 (s10.1 ++ ([(((s10.2 : Nat) : Int) : Int)] : List Int)) c23), (11, vi (((b.defs).length : Nat) : Int)), (12, vi ((s10.2 : Nat) : Int))] ?_
          refine xRe ?_
          refine xSel [some 1, some 2] ?_
          refine xSub [(1, vp b1 0), (3, vs A23 (s10.1 ++ ([(((s10.2 : Nat) : Int) : Int)] : List Int)) c23), (11, vi (((b.defs).length : Nat) : Int)), (12, vi ((s10.2 : Nat) : Int))] ?_
          have eS := (Option.some.inj hS).symm
          exact hN17 _ eS _ _ _ (Gh.le.refl _) ⟨A23, c23, k23, by kernel_rfl, by kernel_rfl, h23⟩
        · have hS := cond_F h21 hS
          refine xSk ?_
          have h10_0 := h10_0.mono e16.b
          refine xSub [(1, vp b1 0), (3, vs A10_0 s10.1 c10_0), (11, vi (((b.defs).length : Nat) : Int)), (12, vi ((s10.2 : Nat) : Int))] ?_
          have eS := (Option.some.inj hS).symm
          exact hN17 _ eS _ _ _ (Gh.le.refl _) ⟨A10_0, c10_0, k10_0, by kernel_rfl, by kernel_rfl, h10_0⟩
    · have hS := cond_F h13 hS
      have h13p := of_decide_eq_false h13
      refine xEx 0 ?_
      refine wpq_thenX ?_
      refine wpq_thenX ?_
      refine wpq_blockE ?_
      refine xSub [(1, vp b1 0), (3, vs A10_0 s10.1 c10_0)] ?_
      have eS := (Option.some.inj hS).symm
      have eS := (hD10 _ eS).symm
      exact hN2 _ eS _ _ _ e12 ⟨A10_0, c10_0, k10_0, by kernel_rfl, by kernel_rfl, h10_0⟩

def o21 (b : Board) : Option (Int) :=
  (bindO (τ := (List Int)) (o19 b) fun y1 => (cond (((((y1).length : Nat) : Int) == 0)) (some ((0 : Int))) (grd (decide (0 ≤ (List.getD y1 0 0) ∧ (List.getD y1 0 0) < (((b.defs).length : Nat) : Int))) (some (((List.getD b.defs ((List.getD y1 0 0)).toNat default).level : Int))))))
set_option maxRecDepth 100000 in
theorem c21 (g : Gh) (a_b : Addr) (b : Board) (Ab_defs : Option Addr) (cb_defs : Nat) (Ab_conds : Option Addr) (cb_conds : Nat) (hc_b : Cells g.r a_b (cBoard b Ab_defs cb_defs Ab_conds cb_conds)) (fb_defs : Arr g.r tyAlertDef Ab_defs cb_defs b.defs) (fb_conds : ArrM g.r g.b tyCnd Ab_conds cb_conds b.conds) {r : Int} (hS : o21 b = some r) :
    Ctr Try.prog 21 [Value.pointer (some a_b)] g [] (fun v ψ o => v = vy r ∧ o = []) := by
  unfold o21 at hS
  refine xFn Try.f21 (Try.f21.body.getD .skip) 19 ?_
  have nfb_defs := fb_defs.len
  have nfb_conds := fb_conds.len
  refine xSq ?_
  refine xRg ?_
  refine xB 1 [] [(0, Value.pointer (some a_b))] ?_
  refine xRe ?_
  refine wpq_then ?_
  refine xSq ?_
  refine xRg ?_
  refine xB 1 [] [(0, Value.pointer (some a_b)), (4, Value.pointer (some a_b))] ?_
  obtain ⟨y1, hy1, hS⟩ := bindO_T hS
  refine xE (eC 0 (fun g' lr eb ln => c19 g' a_b b Ab_defs cb_defs Ab_conds cb_conds (hc_b.mono lr) (fb_defs.mono lr) (ArrM.lent fb_conds lr eb) hy1)) ?_
  rintro _ g2 _ e3 ⟨_, rfl, A1_0, c1_0, k1_0, rfl, rfl, h1_0⟩
  have nh1_0 := h1_0.len
  refine xB 1 [] [(0, Value.pointer (some a_b)), (3, vs A1_0 y1 c1_0)] ?_
  refine xRe ?_
  refine wpq_then ?_
  refine xSq ?_
  refine xSq ?_
  refine xRg ?_
  refine xB 3 [] [(0, Value.pointer (some a_b)), (3, vs A1_0 y1 c1_0), (8, vb ((((y1).length : Nat) : Int) == 0))] ?_
  refine xRe ?_
  refine wpq_then ?_
  refine xCd (((((y1).length : Nat) : Int) == 0)) (fun h4 => ?_) (fun h4 => ?_)
  · have hS := cond_T h4 hS
    have h4p : (((y1).length : Nat) : Int) = 0 := eq_of_beq h4
    refine xSq ?_
    refine xRg ?_
    refine xB 1 [] [(2, vy 0)] ?_
    refine xRe ?_
    refine wpq_then ?_
    have eS := (Option.some.inj hS).symm
    subst eS
    exact xRet [] [2] e3 ⟨by kernel_rfl, by kernel_rfl⟩ (fun _ _ h => h)
  · have hS := cond_F h4 hS
    have h4p : ¬ ((((y1).length : Nat) : Int) = 0) := ne_of_beq_false_ h4
    refine xSk ?_
    refine wpq_then ?_
    refine xSub [(0, Value.pointer (some a_b)), (3, vs A1_0 y1 c1_0)] ?_
    refine xSq ?_
    refine xDr 0 [3, 6, 9] [10] [k1_0] 11 (fun RG => ?_) (fun _ _ _ _ _ h => h)
    have hc_b := hc_b.mono e3.r
    refine xT 8 [0, 1, 2] [] [some 0] [(3, vs A1_0 y1 c1_0), (11, Value.pointer (some a_b))] RG (Psi.le.refl _) ?_
    refine xTv 3 [some 0] RG (Psi.le.refl _) (qLdP a_b 0 hc_b) ?_
    have i6 : 0 < (y1).length := by omega
    obtain ⟨kc5, cs5, hA5, hk5, hr5, hw5⟩ := h1_0.open_ i6 0
    obtain ⟨kb5, rfl⟩ : ∃ z, z = kc5 := ⟨_, rfl⟩
    subst hk5
    have hr5 : cs5 = [vi (List.getD y1 0 0)] := hr5
    subst hr5
    refine xT 6 [4] [] [some 0] [(12, vs Ab_defs b.defs cb_defs), (13, vs A1_0 y1 c1_0)] RG (Psi.le.refl _) ?_
    refine xTp 5 RG (fun _ => (qIxB 0 1 kb5.g hA5 rfl i6)) ?_
    refine xTv 6 [some 0] RG (Psi.le.refl _) (qLdB 0 1 0 0 hw5) ?_
    have fb_defs := fb_defs.mono e3.r
    obtain ⟨q8, hS⟩ := grd_T hS
    have q8p := of_decide_eq_true q8
    have i9 : ((List.getD y1 0 0)).toNat < (b.defs).length := by omega
    obtain ⟨ad7, cs7, hA7, hr7, hc7⟩ := fb_defs.at_ (get_getD (d := default) i9)
    obtain ⟨rfl⟩ := hr7
    refine xTp 7 RG (fun _ => (qIx ((List.getD y1 0 0)).toNat 3 hA7 (show ((List.getD y1 0 0) : Int) = _ from by omega) i9)) ?_
    refine xT 2 [8] [] [some 0] [(17, Value.pointer (some (Addr.add (Addr.add ad7 (((List.getD y1 0 0)).toNat * 3)) 1)))] RG (Psi.le.refl _) ?_
    refine xTv 9 [some 0] RG (Psi.le.refl _) (qLdP (Addr.add ad7 (((List.getD y1 0 0)).toNat * 3)) 1 hc7) ?_
    refine xT 0 [10] [] [some 0] [(2, vy ((List.getD b.defs ((List.getD y1 0 0)).toNat default).level))] RG (Psi.le.refl _) ?_
    refine xAe (lds := [3, 6, 9]) ?_
    refine wpq_then ?_
    have eS := (Option.some.inj hS).symm
    subst eS
    exact xRet [] [2] e3 ⟨by kernel_rfl, by kernel_rfl⟩ (fun _ _ h => h)

def o18 (b : Board) (i : Int) : Option (Board × Int) :=
  (cond ((decide (i < 0) || decide (i ≥ (((b.defs).length : Nat) : Int)))) (some ((b, (2 : Int)))) (bindO (τ := Bool) (o40 b (i : Int)) fun y3 => (cond ((!y3)) (some ((b, (8 : Int)))) (grd (decide (0 ≤ i ∧ i < (((b.conds).length : Nat) : Int))) (some ((({ b with conds := (List.set b.conds (i).toNat ({ (List.getD b.conds (i).toNat default) with acked := true })) }), (0 : Int))))))))
set_option maxRecDepth 100000 in
theorem c18 (g : Gh) (b_b : Nat) (b : Board) (Ab_defs : Option Addr) (cb_defs : Nat) (Ab_conds : Option Addr) (cb_conds : Nat) (kb_conds : Option Bk) (i : Int) (fb_defs : Arr g.b tyAlertDef Ab_defs cb_defs b.defs) (hb_conds : Buf g.b tyCnd 79 (.slice Ab_conds (b.conds).length cb_conds) kb_conds b.conds) {r : Board × Int} (hS : o18 b i = some r) :
    Ctr Try.prog 18 [vp b_b 0, vi i] g [some ⟨b_b, 71, (cBoard b Ab_defs cb_defs Ab_conds cb_conds)⟩, kb_conds] (fun v ψ o => ∃ (Ao_b_defs : Option Addr) (co_b_defs : Nat) (Ao_b_conds : Option Addr) (co_b_conds : Nat) (ko_b_conds : Option Bk), v = vi r.2 ∧ o = [some ⟨b_b, 71, (cBoard r.1 Ao_b_defs co_b_defs Ao_b_conds co_b_conds)⟩, ko_b_conds] ∧ Arr ψ tyAlertDef Ao_b_defs co_b_defs r.1.defs ∧ Buf ψ tyCnd 79 (.slice Ao_b_conds (r.1.conds).length co_b_conds) ko_b_conds r.1.conds) := by
  unfold o18 at hS
  refine xFn Try.f18 (Try.f18.body.getD .skip) 29 ?_
  have nfb_defs := fb_defs.len
  have nhb_conds := hb_conds.len
  refine xSq ?_
  refine xRg ?_
  refine xB 1 [] [(0, vp b_b 0), (1, vi i)] ?_
  refine xRe ?_
  refine wpq_then ?_
  refine xSq ?_
  refine xSq ?_
  refine xRg ?_
  refine xB 2 [] [(0, vp b_b 0), (1, vi i), (6, vb false)] ?_
  refine xRe ?_
  refine wpq_then ?_
  refine xCf ?_
  refine xSk ?_
  refine wpq_then ?_
  refine xSub [(0, vp b_b 0), (1, vi i)] ?_
  refine xSq ?_
  refine xSq ?_
  refine xRg ?_
  refine xB 3 [] [(0, vp b_b 0), (1, vi i), (9, vb (decide (i < 0)))] ?_
  refine wpr_grp 11 [(0, vp b_b 0), (1, vi i), (17, vb (decide (i < 0) || decide (i ≥ (((b.defs).length : Nat) : Int))))] (fun hk2 => ?_) ?_
  · refine wpq_split 9 (b := decide (i < 0)) (by kernel_rfl) (fun q1 => ?_) (fun q1 => ?_)
    · have q1p := of_decide_eq_true q1
      refine xB 8 [] [(0, vp b_b 0), (1, vi i), (17, vb true)] ?_
      refine wpq_re 17 (v := vb true) (Value.bool ((decide (i < 0) || decide (i ≥ (((b.defs).length : Nat) : Int))))) (by kernel_rfl) (re_or1 q1) ?_
      exact wpq_sub _ (by kernel_rfl) hk2
    · have q1p := of_decide_eq_false q1
      refine xB 8 [(7, 0)] [(0, vp b_b 0), (1, vi i), (17, vb (decide (i ≥ (((b.defs).length : Nat) : Int))))] ?_
      refine wpq_re 17 (v := vb (decide (i ≥ (((b.defs).length : Nat) : Int)))) (Value.bool ((decide (i < 0) || decide (i ≥ (((b.defs).length : Nat) : Int))))) (by kernel_rfl) (re_or0 q1) ?_
      exact wpq_sub _ (by kernel_rfl) hk2
  · refine xRe ?_
    refine wpq_then ?_
    refine xCd ((decide (i < 0) || decide (i ≥ (((b.defs).length : Nat) : Int)))) (fun h2 => ?_) (fun h2 => ?_)
    · have hS := cond_T h2 hS
      refine xSq ?_
      refine xRg ?_
      refine xB 1 [] [(4, vi 2)] ?_
      refine xRe ?_
      refine wpq_then ?_
      have eS := (Option.some.inj hS).symm
      subst eS
      exact xRet [some 0, some 1] [4] (Gh.le.refl _) ⟨Ab_defs, cb_defs, Ab_conds, cb_conds, kb_conds, by kernel_rfl, by kernel_rfl, fb_defs, hb_conds⟩ (fun _ _ h => h)
    · have hS := cond_F h2 hS
      have h2l := (or_false_ h2).1
      have h2r := (or_false_ h2).2
      have h2lp := of_decide_eq_false h2l
      have h2rp := of_decide_eq_false h2r
      refine xSk ?_
      refine wpq_then ?_
      refine xSub [(0, vp b_b 0), (1, vi i)] ?_
      refine xSq ?_
      refine xSq ?_
      refine xRg ?_
      refine xB 2 [] [(0, vp b_b 0), (1, vi i), (18, vp b_b 0), (19, vi i)] ?_
      obtain ⟨y3, hy3, hS⟩ := bindO_T hS
      refine xE (eC 0 (fun g' lr eb ln => c40 g' ⟨b_b, 0, none⟩ b Ab_defs cb_defs Ab_conds cb_conds (i : Int) (cells_lent' 0 b_b 0 (cBoard b Ab_defs cb_defs Ab_conds cb_conds) ln) ((fb_defs.mono g.br).mono lr) (arrm_of_buf hb_conds eb (lentk 1 (by kernel_rfl) ln)) hy3)) ?_
      rintro _ g4 _ e5 ⟨_, rfl, rfl, rfl⟩
      refine xB 1 [] [(0, vp b_b 0), (1, vi i), (21, vb (!y3))] ?_
      refine xRe ?_
      refine wpq_then ?_
      refine xCd ((!y3)) (fun h6 => ?_) (fun h6 => ?_)
      · have hS := cond_T h6 hS
        have h6n := not_eq_true_ h6
        refine xSq ?_
        refine xRg ?_
        refine xB 1 [] [(4, vi 8)] ?_
        refine xRe ?_
        refine wpq_then ?_
        have fb_defs := fb_defs.mono e5.b
        have hb_conds := hb_conds.mono e5.b
        have eS := (Option.some.inj hS).symm
        subst eS
        exact xRet [some 0, some 1] [4] e5 ⟨Ab_defs, cb_defs, Ab_conds, cb_conds, kb_conds, by kernel_rfl, by kernel_rfl, fb_defs, hb_conds⟩ (fun _ _ h => h)
      · have hS := cond_F h6 hS
        have h6n := not_eq_false_ h6
        refine xSk ?_
        refine wpq_then ?_
        refine xSub [(0, vp b_b 0), (1, vi i)] ?_
        refine xSq ?_
        refine xRg ?_
        have hb_conds := hb_conds.mono e5.b
        obtain ⟨q8, hS⟩ := grd_T hS
        have q8p := of_decide_eq_true q8
        have i9 : (i).toNat < (b.conds).length := by omega
        obtain ⟨kc7, cs7, hA7, hk7, hr7, hw7⟩ := hb_conds.open_ i9 default
        obtain ⟨kb7, rfl⟩ : ∃ z, z = kc7 := ⟨_, rfl⟩
        subst hk7
        obtain ⟨rfl⟩ := hr7
        refine xB 5 [(3, 0)] [(25, vs Ab_conds b.conds cb_conds), (26, vi i)] ?_
        refine xV (qIxB (i).toNat 2 kb7.g hA7 (show (i : Int) = _ from by omega) i9) ?_
        refine xB 1 [] [(28, Value.pointer (some ⟨kb7.g, (i).toNat * 2 + 1, none⟩))] ?_
        refine xD (eStB (i).toNat 2 1 1 [vb true] hb_conds rfl hw7 (show tyCnd.rep _ _ ({ (List.getD b.conds (i).toNat default) with acked := true }) from rfl) i9) ?_
        rintro _ _ _ - ⟨k10, rfl, rfl, h10⟩
        have hz10 : (b.conds).length = ((List.set b.conds (i).toNat ({ (List.getD b.conds (i).toNat default) with acked := true }))).length := by simp
        refine xRe ?_
        refine wpq_then ?_
        refine xSub [] ?_
        refine xSq ?_
        refine xRg ?_
        refine xB 1 [] [(4, vi 0)] ?_
        refine xRe ?_
        refine wpq_then ?_
        refine xOwn [some ⟨b_b, 71, [vs Ab_defs b.defs cb_defs, vi b.steps, vy b.phase, Value.slice Ab_conds ((b.conds).length) cb_conds]⟩, k10] ?_
        have h10 := Buf.re h10 hz10 (rfl : (List.set b.conds (i).toNat ({ (List.getD b.conds (i).toNat default) with acked := true })) = _)
        refine wpq_own [some ⟨b_b, 71, (cBoard ({ b with conds := (List.set b.conds (i).toNat ({ (List.getD b.conds (i).toNat default) with acked := true })) }) Ab_defs cb_defs Ab_conds cb_conds)⟩, k10] (by rw [hz10]) ?_
        have fb_defs := fb_defs.mono e5.b
        have eS := (Option.some.inj hS).symm
        subst eS
        exact xRet [some 0, some 1] [4] e5 ⟨Ab_defs, cb_defs, Ab_conds, cb_conds, k10, by kernel_rfl, by kernel_rfl, fb_defs, h10⟩ (fun _ _ h => h)

def o10 : Option (Bool) :=
  (bindO (τ := (List AlertDef)) (o15) fun y1 => (bindO (τ := (Option Board) × Int) (o12 (y1 : List AlertDef)) fun y4 => (bindO (τ := Board) (y4.1) fun d8 => (bindO (τ := Bool × Board) (cond (((y4.2 != 0) || (Option.isNone (y4.1)))) (some (true, (d8 : Board))) (bindO (τ := Board × Int) (o17 d8 (5 : Int) (2 : Int)) fun y88 => (some ((y88.2 != 0), (y88.1 : Board))))) fun t9 => (cond (t9.1) (some ((false))) (bindO (τ := (List Int)) (o23 t9.2) fun y13 => (bindO (τ := Bool) (o32 (y13 : List Int) (([(0 : Int), (2 : Int)] : List Int) : List Int)) fun y17 => (bindO (τ := Bool) (cond (y17) (bindO (τ := (List Int)) (o19 t9.2) fun y80 => (bindO (τ := Bool) (o32 (y80 : List Int) (([(0 : Int)] : List Int) : List Int)) fun y84 => (some (y84)))) (some (false))) fun t20 => (bindO (τ := Bool) (cond (t20) (bindO (τ := Int) (o21 t9.2) fun y76 => (some (y76 == 1))) (some (false))) fun t23 => (bindO (τ := Bool × Board) (cond (t23) (bindO (τ := Board × Int) (o18 t9.2 (2 : Int)) fun y72 => (some ((y72.2 == 8), (y72.1 : Board)))) (some (false, (t9.2 : Board)))) fun t26 => (bindO (τ := Bool × Board) (cond (t26.1) (bindO (τ := Board × Int) (o18 t26.2 (0 : Int)) fun y68 => (some ((y68.2 == 0), (y68.1 : Board)))) (some (false, (t26.2 : Board)))) fun t29 => (bindO (τ := Bool) (cond (t29.1) (bindO (τ := (List Int)) (o19 t29.2) fun y64 => (some ((((y64).length : Nat) : Int) == 0))) (some (false))) fun t32 => (bindO (τ := Board × Int) (o17 t29.2 (5 : Int) (3 : Int)) fun y35 => (bindO (τ := (List Int)) (o19 y35.1) fun y38 => (bindO (τ := Bool) (o32 (y38 : List Int) (([(2 : Int)] : List Int) : List Int)) fun y42 => (bindO (τ := Board × Int) (o17 y35.1 (4 : Int) (3 : Int)) fun y45 => (bindO (τ := Board × Int) (o17 y45.1 (5 : Int) (3 : Int)) fun y48 => (bindO (τ := Bool) (cond ((t32 && y42)) (bindO (τ := (List Int)) (o19 y48.1) fun y56 => (bindO (τ := Bool) (o32 (y56 : List Int) (([(0 : Int), (2 : Int)] : List Int) : List Int)) fun y60 => (some (y60)))) (some (false))) fun t52 => (some ((t52)))))))))))))))))))))
set_option maxRecDepth 100000 in
theorem c10 (g : Gh)  {r : Bool} (hS : o10 = some r) :
    Ctr Try.prog 10 [] g [] (fun v ψ o => v = vb r ∧ o = []) := by
  unfold o10 at hS
  refine xFn Try.f10 (Try.f10.body.getD .skip) 72 ?_
  refine xSq ?_
  refine xRg ?_
  refine xB 1 [] [] ?_
  refine xRe ?_
  refine wpq_then ?_
  refine xSq ?_
  refine xRg ?_
  obtain ⟨y1, hy1, hS⟩ := bindO_T hS
  refine xE (eC 0 (fun g' lr eb ln => c15 g'  hy1)) ?_
  rintro _ g2 _ e3 ⟨_, rfl, A1_0, c1_0, k1_0, rfl, rfl, h1_0⟩
  have nh1_0 := h1_0.len
  obtain ⟨y4, hy4, hS⟩ := bindO_T hS
  refine xE (eC 0 (fun g' lr eb ln => c12 g' (y1 : List AlertDef) A1_0 c1_0 (arrm_of_buf h1_0 eb (lentk 0 (by kernel_rfl) ln)) hy4)) ?_
  rintro _ g5 _ e6 ⟨_, rfl, v4_0, k4_0, k4_0_0, rfl, rfl, hn4_0, hs4_0⟩
  refine xB 5 [] [(1, v4_0), (2, vi y4.2)] ?_
  refine xRe ?_
  refine wpq_then ?_
  refine xSq ?_
  refine xSq ?_
  refine xRg ?_
  refine xB 3 [] [(1, v4_0), (12, vb (y4.2 != 0))] ?_
  refine wpr_grp 6 [(1, v4_0), (15, vb ((y4.2 != 0) || (Option.isNone (y4.1))))] (fun hk2 => ?_) ?_
  · refine wpq_split 12 (b := (y4.2 != 0)) (by kernel_rfl) (fun q7 => ?_) (fun q7 => ?_)
    · have q7p : ¬ (y4.2 = 0) := ne_of_bne_ q7
      refine xB 3 [] [(1, v4_0), (15, vb true)] ?_
      refine wpq_re 15 (v := vb true) (Value.bool (((y4.2 != 0) || (Option.isNone (y4.1))))) (by kernel_rfl) (re_or1 q7) ?_
      exact wpq_sub _ (by kernel_rfl) hk2
    · have q7p : y4.2 = 0 := eq_of_bne_false_ q7
      refine xB 1 [] [(1, v4_0), (12, vb false), (13, v4_0)] ?_
      refine xV (qPn hn4_0 (fun d h => by obtain ⟨_, _, _, _, _, _, h1, _⟩ := hs4_0 d h; exact ⟨_, h1⟩)) ?_
      refine xB 1 [] [(1, v4_0), (15, vb (Option.isNone (y4.1)))] ?_
      refine wpq_re 15 (v := vb (Option.isNone (y4.1))) (Value.bool (((y4.2 != 0) || (Option.isNone (y4.1))))) (by kernel_rfl) (re_or0 q7) ?_
      exact wpq_sub _ (by kernel_rfl) hk2
  · refine xB 1 [] [(1, v4_0), (16, vb ((y4.2 != 0) || (Option.isNone (y4.1))))] ?_
    obtain ⟨d8, ed8, hS⟩ := bindO_T hS
    obtain ⟨bd8, Ad8_defs, cd8_defs, Ad8_conds, cd8_conds, kd8_conds, rfl, rfl, rfl, fd8_defs, hd8_conds⟩ := hs4_0 d8 ed8
    have nfd8_defs := fd8_defs.len
    have nhd8_conds := hd8_conds.len
    refine xGJo hS 11 (fun g own sl t9 => ∃ (A9_1_defs : Option Addr) (c9_1_defs : Nat) (A9_1_conds : Option Addr) (c9_1_conds : Nat) (k9_1_conds : Option Bk), own = [some ⟨bd8, 71, (cBoard t9.2 A9_1_defs c9_1_defs A9_1_conds c9_1_conds)⟩, k9_1_conds] ∧ sl = [(1, vp bd8 0), (20, vb t9.1)] ∧ Arr g.b tyAlertDef A9_1_defs c9_1_defs t9.2.defs ∧ Buf g.b tyCnd 79 (.slice A9_1_conds (t9.2.conds).length c9_1_conds) k9_1_conds t9.2.conds) ?_ ?_
    · rintro g10 _ _ t9 e11 ⟨A9_1_defs, c9_1_defs, A9_1_conds, c9_1_conds, k9_1_conds, rfl, rfl, f9_1_defs, h9_1_conds⟩ hS
      have nf9_1_defs := f9_1_defs.len
      have nh9_1_conds := h9_1_conds.len
      refine xRe ?_
      refine wpq_then ?_
      refine xCd (t9.1) (fun h12 => ?_) (fun h12 => ?_)
      · have hS := cond_T h12 hS
        refine xSq ?_
        refine xRg ?_
        refine xB 1 [] [(0, vb false)] ?_
        refine xRe ?_
        refine wpq_then ?_
        have eS := (Option.some.inj hS).symm
        subst eS
        exact xRet [] [0] (e3.trans (e6.trans e11)) ⟨by kernel_rfl, by kernel_rfl⟩ (fun _ _ h => h)
      · have hS := cond_F h12 hS
        refine xSk ?_
        refine wpq_then ?_
        refine xSub [(1, vp bd8 0)] ?_
        refine xSq ?_
        refine xRg ?_
        refine xB 1 [] [(1, vp bd8 0), (21, vp bd8 0)] ?_
        obtain ⟨y13, hy13, hS⟩ := bindO_T hS
        refine xE (eC 0 (fun g' lr eb ln => c23 g' ⟨bd8, 0, none⟩ t9.2 A9_1_defs c9_1_defs A9_1_conds c9_1_conds (cells_lent' 0 bd8 0 (cBoard t9.2 A9_1_defs c9_1_defs A9_1_conds c9_1_conds) ln) ((f9_1_defs.mono g10.br).mono lr) (arrm_of_buf h9_1_conds eb (lentk 1 (by kernel_rfl) ln)) hy13)) ?_
        rintro _ g14 _ e15 ⟨_, rfl, A13_0, c13_0, k13_0, rfl, rfl, h13_0⟩
        have nh13_0 := h13_0.len
        refine xE (eBs (T := (tyI .i64)) (p := g14.b) (et := 3) (xs := ([(0 : Int), (2 : Int)] : List Int)) (reps_cons (c := [vi 0]) (show (tyI .i64).rep _ _ _ from rfl) (reps_cons (c := [vi 2]) (show (tyI .i64).rep _ _ _ from rfl) reps_nil)) (by simp)) ?_
        rintro _ _ _ - ⟨A16, c16, k16, rfl, rfl, rfl, h16⟩
        obtain ⟨y17, hy17, hS⟩ := bindO_T hS
        refine xE (eC 0 (fun g' lr eb ln => c32 g' (y13 : List Int) A13_0 c13_0 (([(0 : Int), (2 : Int)] : List Int) : List Int) A16 c16 (arr_of_buf h13_0 (Psi.le_b eb) (lentk 1 (by kernel_rfl) ln)) (arr_of_buf h16 (Psi.le_b eb) (lentk 0 (by kernel_rfl) ln)) hy17)) ?_
        rintro _ g18 _ e19 ⟨_, rfl, rfl, rfl⟩
        refine xB 1 [] [(1, vp bd8 0), (25, vb y17)] ?_
        refine xGJo hS 10 (fun g own sl t20 => own = [some ⟨bd8, 71, (cBoard t9.2 A9_1_defs c9_1_defs A9_1_conds c9_1_conds)⟩, k9_1_conds] ∧ sl = [(1, vp bd8 0), (30, vb t20)]) ?_ ?_
        · rintro g21 _ _ t20 e22 ⟨rfl, rfl⟩ hS
          refine xB 1 [] [(1, vp bd8 0), (31, vb t20)] ?_
          refine xGJo hS 15 (fun g own sl t23 => own = [some ⟨bd8, 71, (cBoard t9.2 A9_1_defs c9_1_defs A9_1_conds c9_1_conds)⟩, k9_1_conds] ∧ sl = [(1, vp bd8 0), (35, vb t23)]) ?_ ?_
          · rintro g24 _ _ t23 e25 ⟨rfl, rfl⟩ hS
            refine xB 1 [] [(1, vp bd8 0), (36, vb t23)] ?_
            refine xGJo hS 20 (fun g own sl t26 => ∃ (A26_1_defs : Option Addr) (c26_1_defs : Nat) (A26_1_conds : Option Addr) (c26_1_conds : Nat) (k26_1_conds : Option Bk), own = [some ⟨bd8, 71, (cBoard t26.2 A26_1_defs c26_1_defs A26_1_conds c26_1_conds)⟩, k26_1_conds] ∧ sl = [(1, vp bd8 0), (40, vb t26.1)] ∧ Arr g.b tyAlertDef A26_1_defs c26_1_defs t26.2.defs ∧ Buf g.b tyCnd 79 (.slice A26_1_conds (t26.2.conds).length c26_1_conds) k26_1_conds t26.2.conds) ?_ ?_
            · rintro g27 _ _ t26 e28 ⟨A26_1_defs, c26_1_defs, A26_1_conds, c26_1_conds, k26_1_conds, rfl, rfl, f26_1_defs, h26_1_conds⟩ hS
              have nf26_1_defs := f26_1_defs.len
              have nh26_1_conds := h26_1_conds.len
              refine xB 1 [] [(1, vp bd8 0), (41, vb t26.1)] ?_
              refine xGJo hS 25 (fun g own sl t29 => ∃ (A29_1_defs : Option Addr) (c29_1_defs : Nat) (A29_1_conds : Option Addr) (c29_1_conds : Nat) (k29_1_conds : Option Bk), own = [some ⟨bd8, 71, (cBoard t29.2 A29_1_defs c29_1_defs A29_1_conds c29_1_conds)⟩, k29_1_conds] ∧ sl = [(1, vp bd8 0), (45, vb t29.1)] ∧ Arr g.b tyAlertDef A29_1_defs c29_1_defs t29.2.defs ∧ Buf g.b tyCnd 79 (.slice A29_1_conds (t29.2.conds).length c29_1_conds) k29_1_conds t29.2.conds) ?_ ?_
              · rintro g30 _ _ t29 e31 ⟨A29_1_defs, c29_1_defs, A29_1_conds, c29_1_conds, k29_1_conds, rfl, rfl, f29_1_defs, h29_1_conds⟩ hS
                have nf29_1_defs := f29_1_defs.len
                have nh29_1_conds := h29_1_conds.len
                refine xB 1 [] [(1, vp bd8 0), (46, vb t29.1)] ?_
                refine xGJo hS 31 (fun g own sl t32 => own = [some ⟨bd8, 71, (cBoard t29.2 A29_1_defs c29_1_defs A29_1_conds c29_1_conds)⟩, k29_1_conds] ∧ sl = [(1, vp bd8 0), (51, vb t32)]) ?_ ?_
                · rintro g33 _ _ t32 e34 ⟨rfl, rfl⟩ hS
                  refine xB 1 [] [(1, vp bd8 0), (3, vb t32)] ?_
                  refine xRe ?_
                  refine wpq_then ?_
                  refine xSq ?_
                  refine xRg ?_
                  refine xB 1 [] [(1, vp bd8 0), (3, vb t32), (52, vp bd8 0)] ?_
                  have f29_1_defs := f29_1_defs.mono e34.b
                  have h29_1_conds := h29_1_conds.mono e34.b
                  obtain ⟨y35, hy35, hS⟩ := bindO_T hS
                  refine xE (eC 2 (fun g' lr eb ln => c17 g' bd8 t29.2 A29_1_defs c29_1_defs A29_1_conds c29_1_conds k29_1_conds (5 : Int) (3 : Int) (by rw [eb]; exact f29_1_defs) (by rw [eb]; exact h29_1_conds) hy35)) ?_
                  rintro _ g36 _ e37 ⟨_, rfl, A35_b_defs, c35_b_defs, A35_b_conds, c35_b_conds, k35_b_conds, rfl, rfl, f35_b_defs, h35_b_conds⟩
                  have nf35_b_defs := f35_b_defs.len
                  have nh35_b_conds := h35_b_conds.len
                  refine xRe ?_
                  refine wpq_then ?_
                  refine xSub [(1, vp bd8 0), (3, vb t32)] ?_
                  refine xSq ?_
                  refine xRg ?_
                  refine xB 1 [] [(1, vp bd8 0), (3, vb t32), (54, vp bd8 0)] ?_
                  obtain ⟨y38, hy38, hS⟩ := bindO_T hS
                  refine xE (eC 0 (fun g' lr eb ln => c19 g' ⟨bd8, 0, none⟩ y35.1 A35_b_defs c35_b_defs A35_b_conds c35_b_conds (cells_lent' 0 bd8 0 (cBoard y35.1 A35_b_defs c35_b_defs A35_b_conds c35_b_conds) ln) ((f35_b_defs.mono g36.br).mono lr) (arrm_of_buf h35_b_conds eb (lentk 1 (by kernel_rfl) ln)) hy38)) ?_
                  rintro _ g39 _ e40 ⟨_, rfl, A38_0, c38_0, k38_0, rfl, rfl, h38_0⟩
                  have nh38_0 := h38_0.len
                  refine xE (eBs (T := (tyI .i64)) (p := g39.b) (et := 3) (xs := ([(2 : Int)] : List Int)) (reps_cons (c := [vi 2]) (show (tyI .i64).rep _ _ _ from rfl) reps_nil) (by simp)) ?_
                  rintro _ _ _ - ⟨A41, c41, k41, rfl, rfl, rfl, h41⟩
                  obtain ⟨y42, hy42, hS⟩ := bindO_T hS
                  refine xE (eC 0 (fun g' lr eb ln => c32 g' (y38 : List Int) A38_0 c38_0 (([(2 : Int)] : List Int) : List Int) A41 c41 (arr_of_buf h38_0 (Psi.le_b eb) (lentk 1 (by kernel_rfl) ln)) (arr_of_buf h41 (Psi.le_b eb) (lentk 0 (by kernel_rfl) ln)) hy42)) ?_
                  rintro _ g43 _ e44 ⟨_, rfl, rfl, rfl⟩
                  refine xB 1 [] [(1, vp bd8 0), (3, vb t32), (4, vb y42)] ?_
                  refine xRe ?_
                  refine wpq_then ?_
                  refine xSq ?_
                  refine xRg ?_
                  refine xB 1 [] [(1, vp bd8 0), (3, vb t32), (4, vb y42), (58, vp bd8 0)] ?_
                  refine xSel [some 2, some 3, some 0, some 1] ?_
                  have f35_b_defs := f35_b_defs.mono (e40.trans e44).b
                  have h35_b_conds := h35_b_conds.mono (e40.trans e44).b
                  obtain ⟨y45, hy45, hS⟩ := bindO_T hS
                  refine xE (eC 2 (fun g' lr eb ln => c17 g' bd8 y35.1 A35_b_defs c35_b_defs A35_b_conds c35_b_conds k35_b_conds (4 : Int) (3 : Int) (by rw [eb]; exact f35_b_defs) (by rw [eb]; exact h35_b_conds) hy45)) ?_
                  rintro _ g46 _ e47 ⟨_, rfl, A45_b_defs, c45_b_defs, A45_b_conds, c45_b_conds, k45_b_conds, rfl, rfl, f45_b_defs, h45_b_conds⟩
                  have nf45_b_defs := f45_b_defs.len
                  have nh45_b_conds := h45_b_conds.len
                  refine xRe ?_
                  refine wpq_then ?_
                  refine xSub [(1, vp bd8 0), (3, vb t32), (4, vb y42)] ?_
                  refine xSq ?_
                  refine xRg ?_
                  refine xB 1 [] [(1, vp bd8 0), (3, vb t32), (4, vb y42), (60, vp bd8 0)] ?_
                  obtain ⟨y48, hy48, hS⟩ := bindO_T hS
                  refine xE (eC 2 (fun g' lr eb ln => c17 g' bd8 y45.1 A45_b_defs c45_b_defs A45_b_conds c45_b_conds k45_b_conds (5 : Int) (3 : Int) (by rw [eb]; exact f45_b_defs) (by rw [eb]; exact h45_b_conds) hy48)) ?_
                  rintro _ g49 _ e50 ⟨_, rfl, A48_b_defs, c48_b_defs, A48_b_conds, c48_b_conds, k48_b_conds, rfl, rfl, f48_b_defs, h48_b_conds⟩
                  have nf48_b_defs := f48_b_defs.len
                  have nh48_b_conds := h48_b_conds.len
                  refine xRe ?_
                  refine wpq_then ?_
                  refine xSub [(1, vp bd8 0), (3, vb t32), (4, vb y42)] ?_
                  refine xSq ?_
                  refine xRg ?_
                  refine xB 2 [] [(1, vp bd8 0), (4, vb y42), (63, vb t32)] ?_
                  refine wpr_grp 4 [(1, vp bd8 0), (65, vb (t32 && y42))] (fun hk1 => ?_) ?_
                  · refine wpq_split 63 (b := t32) (by kernel_rfl) (fun q51 => ?_) (fun q51 => ?_)
                    · refine xB 2 [] [(1, vp bd8 0), (65, vb y42)] ?_
                      refine wpq_re 65 (v := vb y42) (Value.bool ((t32 && y42))) (by kernel_rfl) (re_and1 q51) ?_
                      exact wpq_sub _ (by kernel_rfl) hk1
                    · refine xB 2 [] [(1, vp bd8 0), (65, vb false)] ?_
                      refine wpq_re 65 (v := vb false) (Value.bool ((t32 && y42))) (by kernel_rfl) (re_and0 q51) ?_
                      exact wpq_sub _ (by kernel_rfl) hk1
                  · refine xB 1 [] [(1, vp bd8 0), (66, vb (t32 && y42))] ?_
                    refine xGJo hS 10 (fun g own sl t52 => own = [] ∧ sl = [(71, vb t52)]) ?_ ?_
                    · rintro g53 _ _ t52 e54 ⟨rfl, rfl⟩ hS
                      refine xB 1 [] [(0, vb t52)] ?_
                      refine xRe ?_
                      refine wpq_then ?_
                      have eS := (Option.some.inj hS).symm
                      subst eS
                      exact xRet [] [0] (e3.trans (e6.trans (e11.trans (e15.trans (e19.trans (e22.trans (e25.trans (e28.trans (e31.trans (e34.trans (e37.trans (e40.trans (e44.trans (e47.trans (e50.trans e54))))))))))))))) ⟨by kernel_rfl, by kernel_rfl⟩ (fun _ _ h => h)
                    · intro uu52 hS hN52
                      refine wpq_split 66 (b := (t32 && y42)) (by kernel_rfl) (fun q55 => ?_) (fun q55 => ?_)
                      · have hS := cond_T q55 hS
                        have q55l := (and_true_ q55).1
                        have q55r := (and_true_ q55).2
                        refine xB 1 [] [(66, vb true), (67, vp bd8 0)] ?_
                        obtain ⟨y56, hy56, hS⟩ := bindO_T hS
                        refine xE (eC 0 (fun g' lr eb ln => c19 g' ⟨bd8, 0, none⟩ y48.1 A48_b_defs c48_b_defs A48_b_conds c48_b_conds (cells_lent' 0 bd8 0 (cBoard y48.1 A48_b_defs c48_b_defs A48_b_conds c48_b_conds) ln) ((f48_b_defs.mono g49.br).mono lr) (arrm_of_buf h48_b_conds eb (lentk 1 (by kernel_rfl) ln)) hy56)) ?_
                        rintro _ g57 _ e58 ⟨_, rfl, A56_0, c56_0, k56_0, rfl, rfl, h56_0⟩
                        have nh56_0 := h56_0.len
                        refine xE (eBs (T := (tyI .i64)) (p := g57.b) (et := 3) (xs := ([(0 : Int), (2 : Int)] : List Int)) (reps_cons (c := [vi 0]) (show (tyI .i64).rep _ _ _ from rfl) (reps_cons (c := [vi 2]) (show (tyI .i64).rep _ _ _ from rfl) reps_nil)) (by simp)) ?_
                        rintro _ _ _ - ⟨A59, c59, k59, rfl, rfl, rfl, h59⟩
                        obtain ⟨y60, hy60, hS⟩ := bindO_T hS
                        refine xE (eC 0 (fun g' lr eb ln => c32 g' (y56 : List Int) A56_0 c56_0 (([(0 : Int), (2 : Int)] : List Int) : List Int) A59 c59 (arr_of_buf h56_0 (Psi.le_b eb) (lentk 1 (by kernel_rfl) ln)) (arr_of_buf h59 (Psi.le_b eb) (lentk 0 (by kernel_rfl) ln)) hy60)) ?_
                        rintro _ g61 _ e62 ⟨_, rfl, rfl, rfl⟩
                        refine xB 1 [] [(71, vb y60)] ?_
                        refine xSel [] ?_
                        refine xSub [(71, vb y60)] ?_
                        exact hN52 _ (Option.some.inj hS).symm _ _ _ (e58.trans e62) ⟨by kernel_rfl, by kernel_rfl⟩
                      · have hS := cond_F q55 hS
                        refine xB 5 [] [(71, vb false)] ?_
                        refine xSel [] ?_
                        refine xSub [(71, vb false)] ?_
                        exact hN52 _ (Option.some.inj hS).symm _ _ _ (Gh.le.refl _) ⟨by kernel_rfl, by kernel_rfl⟩
                · intro uu32 hS hN32
                  refine wpq_split 46 (b := t29.1) (by kernel_rfl) (fun q63 => ?_) (fun q63 => ?_)
                  · have hS := cond_T q63 hS
                    refine xB 1 [] [(1, vp bd8 0), (46, vb true), (47, vp bd8 0)] ?_
                    obtain ⟨y64, hy64, hS⟩ := bindO_T hS
                    refine xE (eC 0 (fun g' lr eb ln => c19 g' ⟨bd8, 0, none⟩ t29.2 A29_1_defs c29_1_defs A29_1_conds c29_1_conds (cells_lent' 0 bd8 0 (cBoard t29.2 A29_1_defs c29_1_defs A29_1_conds c29_1_conds) ln) ((f29_1_defs.mono g30.br).mono lr) (arrm_of_buf h29_1_conds eb (lentk 1 (by kernel_rfl) ln)) hy64)) ?_
                    rintro _ g65 _ e66 ⟨_, rfl, A64_0, c64_0, k64_0, rfl, rfl, h64_0⟩
                    have nh64_0 := h64_0.len
                    refine xB 3 [] [(1, vp bd8 0), (51, vb ((((y64).length : Nat) : Int) == 0))] ?_
                    refine xSel [some 1, some 2] ?_
                    refine xSub [(1, vp bd8 0), (51, vb ((((y64).length : Nat) : Int) == 0))] ?_
                    exact hN32 _ (Option.some.inj hS).symm _ _ _ e66 ⟨by kernel_rfl, by kernel_rfl⟩
                  · have hS := cond_F q63 hS
                    refine xB 5 [] [(1, vp bd8 0), (51, vb false)] ?_
                    refine xSub [(1, vp bd8 0), (51, vb false)] ?_
                    exact hN32 _ (Option.some.inj hS).symm _ _ _ (Gh.le.refl _) ⟨by kernel_rfl, by kernel_rfl⟩
              · intro uu29 hS hN29
                refine wpq_split 41 (b := t26.1) (by kernel_rfl) (fun q67 => ?_) (fun q67 => ?_)
                · have hS := cond_T q67 hS
                  refine xB 1 [] [(1, vp bd8 0), (41, vb true), (42, vp bd8 0)] ?_
                  obtain ⟨y68, hy68, hS⟩ := bindO_T hS
                  refine xE (eC 2 (fun g' lr eb ln => c18 g' bd8 t26.2 A26_1_defs c26_1_defs A26_1_conds c26_1_conds k26_1_conds (0 : Int) (by rw [eb]; exact f26_1_defs) (by rw [eb]; exact h26_1_conds) hy68)) ?_
                  rintro _ g69 _ e70 ⟨_, rfl, A68_b_defs, c68_b_defs, A68_b_conds, c68_b_conds, k68_b_conds, rfl, rfl, f68_b_defs, h68_b_conds⟩
                  have nf68_b_defs := f68_b_defs.len
                  have nh68_b_conds := h68_b_conds.len
                  refine xB 2 [] [(1, vp bd8 0), (45, vb (y68.2 == 0))] ?_
                  refine xSub [(1, vp bd8 0), (45, vb (y68.2 == 0))] ?_
                  exact hN29 _ (Option.some.inj hS).symm _ _ _ e70 ⟨A68_b_defs, c68_b_defs, A68_b_conds, c68_b_conds, k68_b_conds, by kernel_rfl, by kernel_rfl, f68_b_defs, h68_b_conds⟩
                · have hS := cond_F q67 hS
                  refine xB 4 [] [(1, vp bd8 0), (45, vb false)] ?_
                  refine xSub [(1, vp bd8 0), (45, vb false)] ?_
                  exact hN29 _ (Option.some.inj hS).symm _ _ _ (Gh.le.refl _) ⟨A26_1_defs, c26_1_defs, A26_1_conds, c26_1_conds, k26_1_conds, by kernel_rfl, by kernel_rfl, f26_1_defs, h26_1_conds⟩
            · intro uu26 hS hN26
              refine wpq_split 36 (b := t23) (by kernel_rfl) (fun q71 => ?_) (fun q71 => ?_)
              · have hS := cond_T q71 hS
                refine xB 1 [] [(1, vp bd8 0), (36, vb true), (37, vp bd8 0)] ?_
                have f9_1_defs := f9_1_defs.mono (e15.trans (e19.trans (e22.trans e25))).b
                have h9_1_conds := h9_1_conds.mono (e15.trans (e19.trans (e22.trans e25))).b
                obtain ⟨y72, hy72, hS⟩ := bindO_T hS
                refine xE (eC 2 (fun g' lr eb ln => c18 g' bd8 t9.2 A9_1_defs c9_1_defs A9_1_conds c9_1_conds k9_1_conds (2 : Int) (by rw [eb]; exact f9_1_defs) (by rw [eb]; exact h9_1_conds) hy72)) ?_
                rintro _ g73 _ e74 ⟨_, rfl, A72_b_defs, c72_b_defs, A72_b_conds, c72_b_conds, k72_b_conds, rfl, rfl, f72_b_defs, h72_b_conds⟩
                have nf72_b_defs := f72_b_defs.len
                have nh72_b_conds := h72_b_conds.len
                refine xB 2 [] [(1, vp bd8 0), (40, vb (y72.2 == 8))] ?_
                refine xSub [(1, vp bd8 0), (40, vb (y72.2 == 8))] ?_
                exact hN26 _ (Option.some.inj hS).symm _ _ _ e74 ⟨A72_b_defs, c72_b_defs, A72_b_conds, c72_b_conds, k72_b_conds, by kernel_rfl, by kernel_rfl, f72_b_defs, h72_b_conds⟩
              · have hS := cond_F q71 hS
                refine xB 4 [] [(1, vp bd8 0), (40, vb false)] ?_
                have f9_1_defs := f9_1_defs.mono (e15.trans (e19.trans (e22.trans e25))).b
                have h9_1_conds := h9_1_conds.mono (e15.trans (e19.trans (e22.trans e25))).b
                refine xSub [(1, vp bd8 0), (40, vb false)] ?_
                exact hN26 _ (Option.some.inj hS).symm _ _ _ (Gh.le.refl _) ⟨A9_1_defs, c9_1_defs, A9_1_conds, c9_1_conds, k9_1_conds, by kernel_rfl, by kernel_rfl, f9_1_defs, h9_1_conds⟩
          · intro uu23 hS hN23
            refine wpq_split 31 (b := t20) (by kernel_rfl) (fun q75 => ?_) (fun q75 => ?_)
            · have hS := cond_T q75 hS
              refine xB 1 [] [(1, vp bd8 0), (31, vb true), (32, vp bd8 0)] ?_
              have f9_1_defs := f9_1_defs.mono (e15.trans (e19.trans e22)).b
              have h9_1_conds := h9_1_conds.mono (e15.trans (e19.trans e22)).b
              obtain ⟨y76, hy76, hS⟩ := bindO_T hS
              refine xE (eC 0 (fun g' lr eb ln => c21 g' ⟨bd8, 0, none⟩ t9.2 A9_1_defs c9_1_defs A9_1_conds c9_1_conds (cells_lent' 0 bd8 0 (cBoard t9.2 A9_1_defs c9_1_defs A9_1_conds c9_1_conds) ln) ((f9_1_defs.mono g21.br).mono lr) (arrm_of_buf h9_1_conds eb (lentk 1 (by kernel_rfl) ln)) hy76)) ?_
              rintro _ g77 _ e78 ⟨_, rfl, rfl, rfl⟩
              refine xB 2 [] [(1, vp bd8 0), (35, vb (y76 == 1))] ?_
              refine xSub [(1, vp bd8 0), (35, vb (y76 == 1))] ?_
              exact hN23 _ (Option.some.inj hS).symm _ _ _ e78 ⟨by kernel_rfl, by kernel_rfl⟩
            · have hS := cond_F q75 hS
              refine xB 4 [] [(1, vp bd8 0), (35, vb false)] ?_
              refine xSub [(1, vp bd8 0), (35, vb false)] ?_
              exact hN23 _ (Option.some.inj hS).symm _ _ _ (Gh.le.refl _) ⟨by kernel_rfl, by kernel_rfl⟩
        · intro uu20 hS hN20
          refine wpq_split 25 (b := y17) (by kernel_rfl) (fun q79 => ?_) (fun q79 => ?_)
          · have hS := cond_T q79 hS
            refine xB 1 [] [(1, vp bd8 0), (25, vb true), (26, vp bd8 0)] ?_
            have f9_1_defs := f9_1_defs.mono (e15.trans e19).b
            have h9_1_conds := h9_1_conds.mono (e15.trans e19).b
            obtain ⟨y80, hy80, hS⟩ := bindO_T hS
            refine xE (eC 0 (fun g' lr eb ln => c19 g' ⟨bd8, 0, none⟩ t9.2 A9_1_defs c9_1_defs A9_1_conds c9_1_conds (cells_lent' 2 bd8 0 (cBoard t9.2 A9_1_defs c9_1_defs A9_1_conds c9_1_conds) ln) ((f9_1_defs.mono g18.br).mono lr) (arrm_of_buf h9_1_conds eb (lentk 3 (by kernel_rfl) ln)) hy80)) ?_
            rintro _ g81 _ e82 ⟨_, rfl, A80_0, c80_0, k80_0, rfl, rfl, h80_0⟩
            have nh80_0 := h80_0.len
            refine xE (eBs (T := (tyI .i64)) (p := g81.b) (et := 3) (xs := ([(0 : Int)] : List Int)) (reps_cons (c := [vi 0]) (show (tyI .i64).rep _ _ _ from rfl) reps_nil) (by simp)) ?_
            rintro _ _ _ - ⟨A83, c83, k83, rfl, rfl, rfl, h83⟩
            obtain ⟨y84, hy84, hS⟩ := bindO_T hS
            refine xE (eC 0 (fun g' lr eb ln => c32 g' (y80 : List Int) A80_0 c80_0 (([(0 : Int)] : List Int) : List Int) A83 c83 (arr_of_buf h80_0 (Psi.le_b eb) (lentk 1 (by kernel_rfl) ln)) (arr_of_buf h83 (Psi.le_b eb) (lentk 0 (by kernel_rfl) ln)) hy84)) ?_
            rintro _ g85 _ e86 ⟨_, rfl, rfl, rfl⟩
            refine xB 1 [] [(1, vp bd8 0), (30, vb y84)] ?_
            refine xSel [some 4, some 5] ?_
            refine xSub [(1, vp bd8 0), (30, vb y84)] ?_
            exact hN20 _ (Option.some.inj hS).symm _ _ _ (e82.trans e86) ⟨by kernel_rfl, by kernel_rfl⟩
          · have hS := cond_F q79 hS
            refine xB 5 [] [(1, vp bd8 0), (30, vb false)] ?_
            refine xSel [some 2, some 3] ?_
            refine xSub [(1, vp bd8 0), (30, vb false)] ?_
            exact hN20 _ (Option.some.inj hS).symm _ _ _ (Gh.le.refl _) ⟨by kernel_rfl, by kernel_rfl⟩
    · intro uu9 hS hN9
      refine wpq_split 16 (b := ((y4.2 != 0) || (Option.isNone (y4.1)))) (by kernel_rfl) (fun q87 => ?_) (fun q87 => ?_)
      · have hS := cond_T q87 hS
        refine xB 4 [] [(1, vp bd8 0), (20, vb true)] ?_
        refine xSel [some 0, some 1] ?_
        refine xSub [(1, vp bd8 0), (20, vb true)] ?_
        exact hN9 _ (Option.some.inj hS).symm _ _ _ (Gh.le.refl _) ⟨Ad8_defs, cd8_defs, Ad8_conds, cd8_conds, k4_0_0, by kernel_rfl, by kernel_rfl, fd8_defs, hd8_conds⟩
      · have hS := cond_F q87 hS
        have q87l := (or_false_ q87).1
        have q87r := (or_false_ q87).2
        have q87lp : y4.2 = 0 := eq_of_bne_false_ q87l
        refine xB 1 [] [(1, vp bd8 0), (16, vb false), (17, vp bd8 0)] ?_
        obtain ⟨y88, hy88, hS⟩ := bindO_T hS
        refine xE (eC 2 (fun g' lr eb ln => c17 g' bd8 d8 Ad8_defs cd8_defs Ad8_conds cd8_conds k4_0_0 (5 : Int) (2 : Int) (by rw [eb]; exact fd8_defs) (by rw [eb]; exact hd8_conds) hy88)) ?_
        rintro _ g89 _ e90 ⟨_, rfl, A88_b_defs, c88_b_defs, A88_b_conds, c88_b_conds, k88_b_conds, rfl, rfl, f88_b_defs, h88_b_conds⟩
        have nf88_b_defs := f88_b_defs.len
        have nh88_b_conds := h88_b_conds.len
        refine xB 2 [] [(1, vp bd8 0), (20, vb (y88.2 != 0))] ?_
        refine xSel [some 0, some 1] ?_
        refine xSub [(1, vp bd8 0), (20, vb (y88.2 != 0))] ?_
        exact hN9 _ (Option.some.inj hS).symm _ _ _ e90 ⟨A88_b_defs, c88_b_defs, A88_b_conds, c88_b_conds, k88_b_conds, by kernel_rfl, by kernel_rfl, f88_b_defs, h88_b_conds⟩

end Go.Proofs.Ytfhchendnfpbkaa
