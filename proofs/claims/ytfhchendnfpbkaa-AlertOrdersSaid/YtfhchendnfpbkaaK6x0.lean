/-
Walks, printed by wip/gen. Conditions: each theorem's own.
-/
import Derived.Test.YtfhchendnfpbkaaA4
namespace Go.Proofs.Ytfhchendnfpbkaa
set_option linter.unusedVariables false
set_option linter.unusedSimpArgs false
open Go.RowKit
def o20_L0 (b : Board) (y1 : (List Int)) (s9 : (List (List UInt8)) × Nat) : Option (Ctl ((List (List UInt8)) × Nat) ((List (List UInt8)))) :=
  (cond (decide (((s9.2 : Nat) : Int) < (((y1).length : Nat) : Int))) (grd (decide (0 ≤ (List.getD y1 s9.2 0) ∧ (List.getD y1 s9.2 0) < (((b.defs).length : Nat) : Int))) (grd (decide (((s9.1).length + (([((List.getD b.defs ((List.getD y1 s9.2 0)).toNat default).name : List UInt8)] : List (List UInt8))).length) * 16 ≤ 140737488355328)) (grd (decide (((s9.2 : Nat) : Int) + 1 ≤ 9223372036854775807)) (some (Ctl.go (((s9.1 ++ ([((List.getD b.defs ((List.getD y1 s9.2 0)).toNat default).name : List UInt8)] : List (List UInt8))) : List (List UInt8)), (s9.2 + 1))))))) (some (Ctl.done ((s9.1 : List (List UInt8))))))
def o20 (b : Board) : Option ((List (List UInt8))) :=
  (bindO (τ := (List Int)) (o19 b) fun y1 => (bindO (τ := (List (List UInt8))) (loopO (σ := (List (List UInt8)) × Nat) (ρ := (List (List UInt8))) fuelN (o20_L0 b y1) (([] : List (List UInt8)), 0)) fun t4 => (some ((t4 : List (List UInt8))))))
set_option maxRecDepth 100000 in
theorem c20 (g : Gh) (a_b : Addr) (b : Board) (Ab_defs : Option Addr) (cb_defs : Nat) (Ab_conds : Option Addr) (cb_conds : Nat) (hc_b : Cells g.r a_b (cBoard b Ab_defs cb_defs Ab_conds cb_conds)) (fb_defs : Arr g.r tyAlertDef Ab_defs cb_defs b.defs) (fb_conds : ArrM g.r g.b tyCnd Ab_conds cb_conds b.conds) {r : (List (List UInt8))} (hS : o20 b = some r) :
    Ctr Try.prog 20 [Value.pointer (some a_b)] g [] (fun v ψ o => ∃ (Ar_0 : Option Addr) (cr_0 : Nat) (kr_0 : Option Bk), v = vs Ar_0 r cr_0 ∧ o = [kr_0] ∧ Buf ψ tyS 9 (.slice Ar_0 (r).length cr_0) kr_0 r) := by
  unfold o20 at hS
  refine xFn Try.f20 (Try.f20.body.getD .skip) 26 ?_
  have nfb_defs := fb_defs.len
  have nfb_conds := fb_conds.len
  refine xSq ?_
  refine xRg ?_
  refine xB 1 [] [(0, Value.pointer (some a_b))] ?_
  refine xRe ?_
  refine wpq_then ?_
  refine xSq ?_
  refine xRg ?_
  refine xB 1 [] [(0, Value.pointer (some a_b)), (3, Value.slice none 0 0)] ?_
  refine xRe ?_
  refine wpq_then ?_
  refine xSq ?_
  refine xSq ?_
  refine xRg ?_
  refine xB 1 [] [(0, Value.pointer (some a_b)), (3, Value.slice none 0 0), (6, Value.pointer (some a_b))] ?_
  obtain ⟨y1, hy1, hS⟩ := bindO_T hS
  refine xE (eC 0 (fun g' lr eb ln => c19 g' a_b b Ab_defs cb_defs Ab_conds cb_conds (hc_b.mono lr) (fb_defs.mono lr) (ArrM.lent fb_conds lr eb) hy1)) ?_
  rintro _ g2 _ e3 ⟨_, rfl, A1_0, c1_0, k1_0, rfl, rfl, h1_0⟩
  have nh1_0 := h1_0.len
  refine xB 2 [] [(0, Value.pointer (some a_b)), (3, Value.slice none 0 0), (7, vs A1_0 y1 c1_0), (8, vi (((y1).length : Nat) : Int)), (9, vi 0)] ?_
  refine xRe ?_
  refine wpq_then ?_
  refine xBindO hS (fun g own sl t4 => ∃ (A4_0 : Option Addr) (c4_0 : Nat) (k4_0 : Option Bk), own = [k4_0] ∧ sl = [(3, vs A4_0 t4 c4_0)] ∧ Buf g.b tyS 9 (.slice A4_0 (t4).length c4_0) k4_0 t4) ?_ ?_
  · rintro g5 _ _ t4 e6 ⟨A4_0, c4_0, k4_0, rfl, rfl, h4_0⟩ hS
    have nh4_0 := h4_0.len
    refine wpq_then ?_
    refine xSq ?_
    refine xRg ?_
    refine xB 2 [] [(2, vs A4_0 t4 c4_0)] ?_
    refine xRe ?_
    refine wpq_then ?_
    have eS := (Option.some.inj hS).symm
    subst eS
    exact xRet [some 0] [2] (e3.trans e6) ⟨A4_0, c4_0, k4_0, by kernel_rfl, by kernel_rfl, h4_0⟩ (fun _ _ h => h)
  · intro uu4 hS hN4
    refine xBl 0 ?_
    refine xSel [none, some 0] ?_
    refine xSub [(0, Value.pointer (some a_b)), (3, Value.slice none 0 0), (7, vs A1_0 y1 c1_0), (8, vi (((y1).length : Nat) : Int)), (9, vi 0)] ?_
    refine xLo hS (fun g own sl s9 => ∃ (A9_0 : Option Addr) (c9_0 : Nat) (k9_0 : Option Bk), own = [k9_0, k1_0] ∧ sl = [(0, Value.pointer (some a_b)), (3, vs A9_0 s9.1 c9_0), (7, vs A1_0 y1 c1_0), (8, vi (((y1).length : Nat) : Int)), (9, vi ((s9.2 : Nat) : Int))] ∧ Buf g.b tyS 9 (.slice A9_0 (s9.1).length c9_0) k9_0 s9.1) ⟨none, 0, none, by kernel_rfl, by kernel_rfl, Buf.nil⟩ ?_
    rintro g10 _ _ s9 uu9 e11 ⟨A9_0, c9_0, k9_0, rfl, rfl, h9_0⟩ hS Qr9 hN9 hD9
    have nh9_0 := h9_0.len
    unfold o20_L0 at hS
    refine xSq ?_
    refine xRg ?_
    refine xB 1 [] [(0, Value.pointer (some a_b)), (3, vs A9_0 s9.1 c9_0), (7, vs A1_0 y1 c1_0), (8, vi (((y1).length : Nat) : Int)), (9, vi ((s9.2 : Nat) : Int)), (10, vb (decide (((s9.2 : Nat) : Int) < (((y1).length : Nat) : Int))))] ?_
    refine xRe ?_
    refine wpq_then ?_
    refine xSq ?_
    refine xCd (decide (((s9.2 : Nat) : Int) < (((y1).length : Nat) : Int))) (fun h12 => ?_) (fun h12 => ?_)
    · have hS := cond_T h12 hS
      have h12p := of_decide_eq_true h12
      refine xSk ?_
      refine wpq_then ?_
      refine xSub [(0, Value.pointer (some a_b)), (3, vs A9_0 s9.1 c9_0), (7, vs A1_0 y1 c1_0), (8, vi (((y1).length : Nat) : Int)), (9, vi ((s9.2 : Nat) : Int))] ?_
      refine xSq ?_
      refine xBl 1 ?_
      refine xSq ?_
      refine xRg ?_
      have h1_0 := h1_0.mono e11.b
      have i14 : s9.2 < (y1).length := by omega
      obtain ⟨kc13, cs13, hA13, hk13, hr13, hw13⟩ := h1_0.open_ i14 0
      obtain ⟨kb13, rfl⟩ : ∃ z, z = kc13 := ⟨_, rfl⟩
      subst hk13
      have hr13 : cs13 = [vi (List.getD y1 s9.2 0)] := hr13
      subst hr13
      refine xV (qIxB s9.2 1 kb13.g hA13 rfl i14) ?_
      refine xV (qLdB s9.2 1 0 1 hw13) ?_
      refine xB 1 [] [(0, Value.pointer (some a_b)), (3, vs A9_0 s9.1 c9_0), (5, vi (List.getD y1 s9.2 0)), (7, vs A1_0 y1 c1_0), (8, vi (((y1).length : Nat) : Int)), (9, vi ((s9.2 : Nat) : Int))] ?_
      refine xRe ?_
      refine wpq_then ?_
      refine xRg ?_
      have hc_b := hc_b.mono (e3.trans e11).r
      refine xB 4 [] [(0, Value.pointer (some a_b)), (3, vs A9_0 s9.1 c9_0), (5, vi (List.getD y1 s9.2 0)), (7, vs A1_0 y1 c1_0), (8, vi (((y1).length : Nat) : Int)), (9, vi ((s9.2 : Nat) : Int)), (13, vs A9_0 s9.1 c9_0), (16, Value.pointer (some a_b))] ?_
      refine xV (qLdP a_b 0 hc_b) ?_
      have fb_defs := fb_defs.mono (e3.trans e11).r
      obtain ⟨q16, hS⟩ := grd_T hS
      have q16p := of_decide_eq_true q16
      have i17 : ((List.getD y1 s9.2 0)).toNat < (b.defs).length := by omega
      obtain ⟨ad15, cs15, hA15, hr15, hc15⟩ := fb_defs.at_ (get_getD (d := default) i17)
      obtain ⟨rfl⟩ := hr15
      refine xB 1 [] [(0, Value.pointer (some a_b)), (3, vs A9_0 s9.1 c9_0), (7, vs A1_0 y1 c1_0), (8, vi (((y1).length : Nat) : Int)), (9, vi ((s9.2 : Nat) : Int)), (13, vs A9_0 s9.1 c9_0), (17, vs Ab_defs b.defs cb_defs), (18, vi (List.getD y1 s9.2 0))] ?_
      refine xV (qIx ((List.getD y1 s9.2 0)).toNat 3 hA15 (show ((List.getD y1 s9.2 0) : Int) = _ from by omega) i17) ?_
      refine xB 1 [] [(0, Value.pointer (some a_b)), (3, vs A9_0 s9.1 c9_0), (7, vs A1_0 y1 c1_0), (8, vi (((y1).length : Nat) : Int)), (9, vi ((s9.2 : Nat) : Int)), (13, vs A9_0 s9.1 c9_0), (20, Value.pointer (some (Addr.add ad15 (((List.getD y1 s9.2 0)).toNat * 3))))] ?_
      refine xV (qLdP (Addr.add ad15 (((List.getD y1 s9.2 0)).toNat * 3)) 0 hc15) ?_
      refine xE (eBs (T := tyS) (p := g10.b) (et := 9) (xs := ([((List.getD b.defs ((List.getD y1 s9.2 0)).toNat default).name : List UInt8)] : List (List UInt8))) (reps_cons (c := [vt ((List.getD b.defs ((List.getD y1 s9.2 0)).toNat default).name)]) (show tyS.rep _ _ _ from rfl) reps_nil) (by simp)) ?_
      rintro _ _ _ - ⟨A18, c18, k18, rfl, rfl, rfl, h18⟩
      obtain ⟨nw19, hp19, hs19⟩ := h18.srcO (g := g10)
      obtain ⟨q20, hS⟩ := grd_T hS
      have q20p := of_decide_eq_true q20
      refine xE (eApp (T := tyS) (p := g10.b) (et := 9) (bytes := 16) (xs := (s9.1 : List (List UInt8))) (ys := (([((List.getD b.defs ((List.getD y1 s9.2 0)).toNat default).name : List UInt8)] : List (List UInt8)) : List (List UInt8))) 1 h9_0 rfl (fun w hs => hs19 0 w _ hs (by kernel_rfl)) hp19 (by first | omega | (simp only [List.length_cons, List.length_nil] at *; omega)) (by first | omega | (simp only [List.length_cons, List.length_nil] at *; omega))) ?_
      rintro _ _ _ - ⟨A19, c19, k19, rfl, rfl, rfl, h19⟩
      have nh19 := h19.len
      have hz19 : ((s9.1 ++ ([((List.getD b.defs ((List.getD y1 s9.2 0)).toNat default).name : List UInt8)] : List (List UInt8))) : List (List UInt8)).length = (s9.1).length + (([((List.getD b.defs ((List.getD y1 s9.2 0)).toNat default).name : List UInt8)] : List (List UInt8))).length := List.length_append
      refine xB 1 [] [(0, Value.pointer (some a_b)), (3, vs A19 (s9.1 ++ ([((List.getD b.defs ((List.getD y1 s9.2 0)).toNat default).name : List UInt8)] : List (List UInt8))) c19), (7, vs A1_0 y1 c1_0), (8, vi (((y1).length : Nat) : Int)), (9, vi ((s9.2 : Nat) : Int))] ?_
      refine xRe ?_
      refine wpq_blockN ?_
      refine wpq_then ?_
      refine xRg ?_
      obtain ⟨q21, hS⟩ := grd_T hS
      have q21p := of_decide_eq_true q21
      refine xV (qAdd .i64 (((s9.2 : Nat) : Int)) (1) (wr64 (by omega))) ?_
      refine xB 1 [] [(0, Value.pointer (some a_b)), (3, vs A19 (s9.1 ++ ([((List.getD b.defs ((List.getD y1 s9.2 0)).toNat default).name : List UInt8)] : List (List UInt8))) c19), (7, vs A1_0 y1 c1_0), (8, vi (((y1).length : Nat) : Int)), (9, vi (((s9.2 : Nat) : Int) + 1))] ?_
      refine xRe ?_
      refine wpq_thenN ?_
      refine xSel [some 1, some 2] ?_
      refine xSub [(0, Value.pointer (some a_b)), (3, vs A19 (s9.1 ++ ([((List.getD b.defs ((List.getD y1 s9.2 0)).toNat default).name : List UInt8)] : List (List UInt8))) c19), (7, vs A1_0 y1 c1_0), (8, vi (((y1).length : Nat) : Int)), (9, vi (((s9.2 : Nat) : Int) + 1))] ?_
      have eS := (Option.some.inj hS).symm
      exact hN9 _ eS _ _ _ (Gh.le.refl _) ⟨A19, c19, k19, by kernel_rfl, by kernel_rfl, h19⟩
    · have hS := cond_F h12 hS
      have h12p := of_decide_eq_false h12
      refine xEx 0 ?_
      refine wpq_thenX ?_
      refine wpq_thenX ?_
      refine wpq_blockE ?_
      refine xSel [some 0] ?_
      refine xSub [(3, vs A9_0 s9.1 c9_0)] ?_
      have eS := (Option.some.inj hS).symm
      have eS := (hD9 _ eS).symm
      exact hN4 _ eS _ _ _ e11 ⟨A9_0, c9_0, k9_0, by kernel_rfl, by kernel_rfl, h9_0⟩

def o6_L1 (y5 : (List AlertDef)) (y32 : Board × Int) (t35 : (List Int)) (y38 : (List Int)) (y41 : (List (List UInt8))) (s53 : Nat) : Option (Ctl (Nat) (Ctl (Unit) (Ctl (Board × (List Int)) (Ctl (Nat × (List Int) × Board) (Ctl (Unit) (Bool)))))) :=
  (cond (decide (((s53 : Nat) : Int) < (((y38).length : Nat) : Int))) (joinO (τ := Unit) (ρ := Ctl (Nat) (Ctl (Unit) (Ctl (Board × (List Int)) (Ctl (Nat × (List Int) × Board) (Ctl (Unit) (Bool)))))) (bindO (τ := Bool) (cond ((decide ((List.getD y38 s53 0) < 0) || decide ((List.getD y38 s53 0) > 15))) (some (true)) (grd (decide (s53 < (y41).length)) (grd (decide (0 ≤ (List.getD y38 s53 0) ∧ (List.getD y38 s53 0) < (((y5).length : Nat) : Int))) (some (!((List.getD y41 s53 []) == (List.getD y5 ((List.getD y38 s53 0)).toNat default).name)))))) fun t64 => (bindO (τ := Bool) (cond (t64) (some (true)) (bindO (τ := Bool) (cond ((((s53 : Nat) : Int) == 0)) (grd (decide (0 ≤ (List.getD y38 s53 0) ∧ (List.getD y38 s53 0) < (((y5).length : Nat) : Int))) (bindO (τ := Int) (o21 y32.1) fun y125 => (some (y125 != (List.getD y5 ((List.getD y38 s53 0)).toNat default).level)))) (some (false))) fun t118 => (some (t118)))) fun t67 => (cond (t67) (some (Ctl.done (Ctl.done (Ctl.done (Ctl.done (Ctl.done (Ctl.done ((false))))))))) (cond ((((s53 : Nat) : Int) == 0)) (some (Ctl.go ())) (grd (decide (0 ≤ (IntKind.i64.wrap (((s53 : Nat) : Int) - 1)) ∧ (IntKind.i64.wrap (((s53 : Nat) : Int) - 1)) < (((y38).length : Nat) : Int))) (grd (decide (0 ≤ (List.getD y38 ((IntKind.i64.wrap (((s53 : Nat) : Int) - 1))).toNat 0) ∧ (List.getD y38 ((IntKind.i64.wrap (((s53 : Nat) : Int) - 1))).toNat 0) < (((y5).length : Nat) : Int))) (grd (decide (0 ≤ (List.getD y38 s53 0) ∧ (List.getD y38 s53 0) < (((y5).length : Nat) : Int))) (bindO (τ := Bool) (cond (decide ((List.getD y5 ((List.getD y38 ((IntKind.i64.wrap (((s53 : Nat) : Int) - 1))).toNat 0)).toNat default).level > (List.getD y5 ((List.getD y38 s53 0)).toNat default).level)) (some (true)) (grd (decide (0 ≤ (List.getD y38 ((IntKind.i64.wrap (((s53 : Nat) : Int) - 1))).toNat 0) ∧ (List.getD y38 ((IntKind.i64.wrap (((s53 : Nat) : Int) - 1))).toNat 0) < (((y5).length : Nat) : Int))) (grd (decide (0 ≤ (List.getD y38 s53 0) ∧ (List.getD y38 s53 0) < (((y5).length : Nat) : Int))) (bindO (τ := Bool) (cond (((List.getD y5 ((List.getD y38 ((IntKind.i64.wrap (((s53 : Nat) : Int) - 1))).toNat 0)).toNat default).level == (List.getD y5 ((List.getD y38 s53 0)).toNat default).level)) (grd (decide (0 ≤ (List.getD y38 ((IntKind.i64.wrap (((s53 : Nat) : Int) - 1))).toNat 0) ∧ (List.getD y38 ((IntKind.i64.wrap (((s53 : Nat) : Int) - 1))).toNat 0) < 16)) (grd (decide (0 ≤ (List.getD y38 s53 0) ∧ (List.getD y38 s53 0) < 16)) (bindO (τ := Bool) (cond (decide ((List.getD t35 ((List.getD y38 ((IntKind.i64.wrap (((s53 : Nat) : Int) - 1))).toNat 0)).toNat 0) < (List.getD t35 ((List.getD y38 s53 0)).toNat 0))) (some (true)) (grd (decide (0 ≤ (List.getD y38 ((IntKind.i64.wrap (((s53 : Nat) : Int) - 1))).toNat 0) ∧ (List.getD y38 ((IntKind.i64.wrap (((s53 : Nat) : Int) - 1))).toNat 0) < 16)) (grd (decide (0 ≤ (List.getD y38 s53 0) ∧ (List.getD y38 s53 0) < 16)) (some (((List.getD t35 ((List.getD y38 ((IntKind.i64.wrap (((s53 : Nat) : Int) - 1))).toNat 0)).toNat 0) == (List.getD t35 ((List.getD y38 s53 0)).toNat 0)) && decide ((List.getD y38 ((IntKind.i64.wrap (((s53 : Nat) : Int) - 1))).toNat 0) ≥ (List.getD y38 s53 0))))))) fun t104 => (some (t104))))) (some (false))) fun t92 => (some (t92)))))) fun t81 => (cond (t81) (some (Ctl.done (Ctl.done (Ctl.done (Ctl.done (Ctl.done (Ctl.done ((false))))))))) (some (Ctl.go ()))))))))))) fun t57 => (grd (decide (((s53 : Nat) : Int) + 1 ≤ 9223372036854775807)) (some (Ctl.go (s53 + 1))))) (some (Ctl.done (Ctl.go ()))))
def o6_L2 (acts : List Act) (s21 : Nat × (List Int) × Board) (s140 : Nat × (List Int)) : Option (Ctl (Nat × (List Int)) ((List Int))) :=
  (cond (decide (((s140.1 : Nat) : Int) < 16)) (bindO (τ := (List Int)) (cond (((landK .u16 (shrK .u16 (List.getD acts s21.1 default).conds ((s140.1 : Nat) : Int)) 1) == 0)) (some (((List.set s140.2 s140.1 (0 : Int)) : List Int))) (bindO (τ := (List Int)) (cond (((List.getD s140.2 s140.1 0) == 0)) (grd (decide (((s21.1 : Nat) : Int) + 1 ≤ 9223372036854775807)) (some (((List.set s140.2 s140.1 ((((s21.1 : Nat) : Int) + 1) : Int)) : List Int)))) (some ((s140.2 : List Int)))) fun t158 => (some ((t158 : List Int))))) fun t146 => (grd (decide (((s140.1 : Nat) : Int) + 1 ≤ 9223372036854775807)) (some (Ctl.go ((s140.1 + 1), (t146 : List Int)))))) (some (Ctl.done ((s140.2 : List Int)))))
def o6_L0 (acts : List Act) (y5 : (List AlertDef)) (s21 : Nat × (List Int) × Board) : Option (Ctl (Nat × (List Int) × Board) (Ctl (Unit) (Bool))) :=
  (cond ((decide (((s21.1 : Nat) : Int) < (((acts).length : Nat) : Int)) && decide (((s21.1 : Nat) : Int) < 20))) (joinO (τ := Board × (List Int)) (ρ := Ctl (Nat × (List Int) × Board) (Ctl (Unit) (Bool))) (bindO (τ := Board × Int) (o17 s21.2.2 ((List.getD acts s21.1 default).conds : Int) (4 : Int)) fun y32 => (bindO (τ := (List Int)) (loopO (σ := Nat × (List Int)) (ρ := (List Int)) fuelN (o6_L2 acts s21) (0, (s21.2.1 : List Int))) fun t35 => (bindO (τ := (List Int)) (o19 y32.1) fun y38 => (bindO (τ := (List (List UInt8))) (o20 y32.1) fun y41 => (bindO (τ := Bool) (cond (((((y38).length : Nat) : Int) != (((y41).length : Nat) : Int))) (some (true)) (bindO (τ := Int) (o21 y32.1) fun y135 => (some (!(((((y38).length : Nat) : Int) == 0) == (y135 == 0)))))) fun t44 => (cond (t44) (some (Ctl.done (Ctl.done (Ctl.done ((false)))))) (joinO (τ := Unit) (ρ := Ctl (Board × (List Int)) (Ctl (Nat × (List Int) × Board) (Ctl (Unit) (Bool)))) (loopO (σ := Nat) (ρ := Ctl (Unit) (Ctl (Board × (List Int)) (Ctl (Nat × (List Int) × Board) (Ctl (Unit) (Bool))))) fuelN (o6_L1 y5 y32 t35 y38 y41) (0)) fun t48 => (some (Ctl.go ((y32.1 : Board), (t35 : List Int))))))))))) fun t26 => (grd (decide (((s21.1 : Nat) : Int) + 1 ≤ 9223372036854775807)) (some (Ctl.go ((s21.1 + 1), (t26.2 : List Int), (t26.1 : Board)))))) (some (Ctl.done (Ctl.go ()))))
def o6 (acts : List Act) : Option (Bool) :=
  (bindO (τ := Bool) (o10) fun y1 => (cond ((!y1)) (some ((false))) (bindO (τ := (List AlertDef)) (o15) fun y5 => (bindO (τ := (Option Board) × Int) (o12 (y5 : List AlertDef)) fun y8 => (cond (((y8.2 != 0) || (Option.isNone (y8.1)))) (some ((false))) (joinO (τ := Unit) (ρ := Bool) (bindO (τ := Board) (y8.1) fun d18 => (loopO (σ := Nat × (List Int) × Board) (ρ := Ctl (Unit) (Bool)) fuelN (o6_L0 acts y5) (0, ((List.replicate 16 (0 : Int)) : List Int), (d18 : Board)))) fun t15 => (some ((true)))))))))
set_option maxRecDepth 100000 in
theorem c6 (g : Gh) (acts : List Act) (Aacts : Option Addr) (cacts : Nat) (facts : Arr g.r tyAct Aacts cacts acts) {r : Bool} (hS : o6 acts = some r) :
    Ctr Try.prog 6 [vs Aacts acts cacts] g [] (fun v ψ o => v = vb r ∧ o = []) := by
  unfold o6 at hS
  refine xFn Try.f6 (Try.f6.body.getD .skip) 180 ?_
  have nfacts := facts.len
  refine xSq ?_
  refine xRg ?_
  refine xB 1 [] [(0, vs Aacts acts cacts)] ?_
  refine xRe ?_
  refine wpq_then ?_
  refine xSq ?_
  refine xSq ?_
  refine xRg ?_
  obtain ⟨y1, hy1, hS⟩ := bindO_T hS
  refine xE (eC 0 (fun g' lr eb ln => c10 g'  hy1)) ?_
  rintro _ g2 _ e3 ⟨_, rfl, rfl, rfl⟩
  refine xB 1 [] [(0, vs Aacts acts cacts), (15, vb (!y1))] ?_
  refine xRe ?_
  refine wpq_then ?_
  refine xCd ((!y1)) (fun h4 => ?_) (fun h4 => ?_)
  · have hS := cond_T h4 hS
    have h4n := not_eq_true_ h4
    refine xSq ?_
    refine xRg ?_
    refine xB 1 [] [(2, vb false)] ?_
    refine xRe ?_
    refine wpq_then ?_
    have eS := (Option.some.inj hS).symm
    subst eS
    exact xRet [] [2] e3 ⟨by kernel_rfl, by kernel_rfl⟩ (fun _ _ h => h)
  · have hS := cond_F h4 hS
    have h4n := not_eq_false_ h4
    refine xSk ?_
    refine wpq_then ?_
    refine xSub [(0, vs Aacts acts cacts)] ?_
    refine xSq ?_
    refine xRg ?_
    obtain ⟨y5, hy5, hS⟩ := bindO_T hS
    refine xE (eC 0 (fun g' lr eb ln => c15 g'  hy5)) ?_
    rintro _ g6 _ e7 ⟨_, rfl, A5_0, c5_0, k5_0, rfl, rfl, h5_0⟩
    have nh5_0 := h5_0.len
    refine xB 1 [] [(0, vs Aacts acts cacts), (3, vs A5_0 y5 c5_0)] ?_
    refine xRe ?_
    refine wpq_then ?_
    refine xSq ?_
    refine xRg ?_
    refine xB 1 [] [(0, vs Aacts acts cacts), (3, vs A5_0 y5 c5_0), (18, vs A5_0 y5 c5_0)] ?_
    obtain ⟨y8, hy8, hS⟩ := bindO_T hS
    refine xE (eC 0 (fun g' lr eb ln => c12 g' (y5 : List AlertDef) A5_0 c5_0 (arrm_of_buf h5_0 eb (lentk 0 (by kernel_rfl) ln)) hy8)) ?_
    rintro _ g9 _ e10 ⟨_, rfl, v8_0, k8_0, k8_0_0, rfl, rfl, hn8_0, hs8_0⟩
    refine xB 5 [] [(0, vs Aacts acts cacts), (3, vs A5_0 y5 c5_0), (4, v8_0), (5, vi y8.2)] ?_
    refine xRe ?_
    refine wpq_then ?_
    refine xSq ?_
    refine xSq ?_
    refine xRg ?_
    refine xB 3 [] [(0, vs Aacts acts cacts), (3, vs A5_0 y5 c5_0), (4, v8_0), (24, vb (y8.2 != 0))] ?_
    refine wpr_grp 6 [(0, vs Aacts acts cacts), (3, vs A5_0 y5 c5_0), (4, v8_0), (27, vb ((y8.2 != 0) || (Option.isNone (y8.1))))] (fun hk2 => ?_) ?_
    · refine wpq_split 24 (b := (y8.2 != 0)) (by kernel_rfl) (fun q11 => ?_) (fun q11 => ?_)
      · have q11p : ¬ (y8.2 = 0) := ne_of_bne_ q11
        refine xB 3 [] [(0, vs Aacts acts cacts), (3, vs A5_0 y5 c5_0), (4, v8_0), (27, vb true)] ?_
        refine wpq_re 27 (v := vb true) (Value.bool (((y8.2 != 0) || (Option.isNone (y8.1))))) (by kernel_rfl) (re_or1 q11) ?_
        exact wpq_sub _ (by kernel_rfl) hk2
      · have q11p : y8.2 = 0 := eq_of_bne_false_ q11
        refine xB 1 [] [(0, vs Aacts acts cacts), (3, vs A5_0 y5 c5_0), (4, v8_0), (24, vb false), (25, v8_0)] ?_
        refine xV (qPn hn8_0 (fun d h => by obtain ⟨_, _, _, _, _, _, h1, _⟩ := hs8_0 d h; exact ⟨_, h1⟩)) ?_
        refine xB 1 [] [(0, vs Aacts acts cacts), (3, vs A5_0 y5 c5_0), (4, v8_0), (27, vb (Option.isNone (y8.1)))] ?_
        refine wpq_re 27 (v := vb (Option.isNone (y8.1))) (Value.bool (((y8.2 != 0) || (Option.isNone (y8.1))))) (by kernel_rfl) (re_or0 q11) ?_
        exact wpq_sub _ (by kernel_rfl) hk2
    · refine xRe ?_
      refine wpq_then ?_
      refine xCd (((y8.2 != 0) || (Option.isNone (y8.1)))) (fun h12 => ?_) (fun h12 => ?_)
      · have hS := cond_T h12 hS
        refine xSq ?_
        refine xRg ?_
        refine xB 1 [] [(2, vb false)] ?_
        refine xRe ?_
        refine wpq_then ?_
        have eS := (Option.some.inj hS).symm
        subst eS
        exact xRet [] [2] (e3.trans (e7.trans e10)) ⟨by kernel_rfl, by kernel_rfl⟩ (fun _ _ h => h)
      · have hS := cond_F h12 hS
        have h12l := (or_false_ h12).1
        have h12r := (or_false_ h12).2
        have h12lp : y8.2 = 0 := eq_of_bne_false_ h12l
        refine xSk ?_
        refine wpq_then ?_
        refine xSub [(0, vs Aacts acts cacts), (3, vs A5_0 y5 c5_0), (4, v8_0)] ?_
        refine xSq ?_
        refine xRg ?_
        refine xE eB ?_
        rintro _ _ _ - ⟨b13, rfl, rfl, rfl⟩
        refine wpq_name (T := (tyI .i64)) (p := g9.b) (et := 45) (v := .slice (some ⟨b13, 0, none⟩) 16 16) (xs := (List.replicate 16 (0 : Int))) 0 (k := some ⟨b13, 45, (List.replicate 16 [vi 0]).flatten⟩) (by kernel_rfl) (buf_zeros (show (tyI .i64).rep _ _ _ from rfl) (by decide)) (fun k14 h14 => ?_)
        have hz14 : 16 = ((List.replicate 16 (0 : Int))).length := h14.leneq
        refine wpq_addnone ?_
        refine xRe ?_
        refine wpq_then ?_
        refine xSq ?_
        refine xSq ?_
        refine xRg ?_
        refine xB 1 [] [(0, vs Aacts acts cacts), (3, vs A5_0 y5 c5_0), (4, v8_0), (6, vp b13 0), (7, vi 0)] ?_
        refine xRe ?_
        refine wpq_then ?_
        refine xJoinO hS (fun g own sl t15 => own = [] ∧ sl = []) ?_ ?_
        · rintro g16 _ _ t15 e17 ⟨rfl, rfl⟩ hS
          refine wpq_then ?_
          refine xSq ?_
          refine xRg ?_
          refine xB 1 [] [(2, vb true)] ?_
          refine xRe ?_
          refine wpq_then ?_
          have eS := (Option.some.inj hS).symm
          subst eS
          exact xRet [] [2] (e3.trans (e7.trans (e10.trans e17))) ⟨by kernel_rfl, by kernel_rfl⟩ (fun _ _ h => h)
        · intro uu15 hS hN15 hD15
          refine xBl 0 ?_
          obtain ⟨d18, ed18, hS⟩ := bindO_T hS
          obtain ⟨bd18, Ad18_defs, cd18_defs, Ad18_conds, cd18_conds, kd18_conds, rfl, rfl, rfl, fd18_defs, hd18_conds⟩ := hs8_0 d18 ed18
          have nfd18_defs := fd18_defs.len
          have nhd18_conds := hd18_conds.len
          refine xSel [none, some 2, some 4, some 1, some 3] ?_
          refine xSub [(0, vs Aacts acts cacts), (3, vs A5_0 y5 c5_0), (4, vp bd18 0), (6, vp b13 0), (7, vi 0)] ?_
          refine xLo hS (fun g own sl s21 => ∃ (k21_1 : Option Bk) (A21_2_defs : Option Addr) (c21_2_defs : Nat) (A21_2_conds : Option Addr) (c21_2_conds : Nat) (k21_2_conds : Option Bk), own = [none, some ⟨bd18, 71, (cBoard s21.2.2 A21_2_defs c21_2_defs A21_2_conds c21_2_conds)⟩, k5_0, k21_1, k21_2_conds] ∧ sl = [(0, vs Aacts acts cacts), (3, vs A5_0 y5 c5_0), (4, vp bd18 0), (6, vp b13 0), (7, vi ((s21.1 : Nat) : Int))] ∧ Buf g.b (tyI .i64) 45 (.slice (some ⟨b13, 0, none⟩) (s21.2.1).length 16) k21_1 s21.2.1 ∧ Arr g.b tyAlertDef A21_2_defs c21_2_defs s21.2.2.defs ∧ Buf g.b tyCnd 79 (.slice A21_2_conds (s21.2.2.conds).length c21_2_conds) k21_2_conds s21.2.2.conds ∧ 16 = (s21.2.1).length) ⟨k14, Ad18_defs, cd18_defs, Ad18_conds, cd18_conds, k8_0_0, by kernel_rfl, by kernel_rfl, (Buf.re h14 hz14 rfl), fd18_defs, hd18_conds, hz14⟩ ?_
          rintro g22 _ _ s21 uu21 e23 ⟨k21_1, A21_2_defs, c21_2_defs, A21_2_conds, c21_2_conds, k21_2_conds, rfl, rfl, h21_1, f21_2_defs, h21_2_conds, hz21_v0⟩ hS Qr21 hN21 hD21
          have nh21_1 := h21_1.len
          have nf21_2_defs := f21_2_defs.len
          have nh21_2_conds := h21_2_conds.len
          unfold o6_L0 at hS
          refine xSq ?_
          refine xSq ?_
          refine xRg ?_
          refine xB 5 [] [(0, vs Aacts acts cacts), (3, vs A5_0 y5 c5_0), (4, vp bd18 0), (6, vp b13 0), (7, vi ((s21.1 : Nat) : Int)), (32, vb (decide (((s21.1 : Nat) : Int) < (((acts).length : Nat) : Int))))] ?_
          refine wpr_grp 8 [(0, vs Aacts acts cacts), (3, vs A5_0 y5 c5_0), (4, vp bd18 0), (6, vp b13 0), (7, vi ((s21.1 : Nat) : Int)), (35, vb (decide (((s21.1 : Nat) : Int) < (((acts).length : Nat) : Int)) && decide (((s21.1 : Nat) : Int) < 20)))] (fun hk4 => ?_) ?_
          · refine wpq_split 32 (b := decide (((s21.1 : Nat) : Int) < (((acts).length : Nat) : Int))) (by kernel_rfl) (fun q24 => ?_) (fun q24 => ?_)
            · have q24p := of_decide_eq_true q24
              refine xB 3 [] [(0, vs Aacts acts cacts), (3, vs A5_0 y5 c5_0), (4, vp bd18 0), (6, vp b13 0), (7, vi ((s21.1 : Nat) : Int)), (35, vb (decide (((s21.1 : Nat) : Int) < 20)))] ?_
              refine wpq_re 35 (v := vb (decide (((s21.1 : Nat) : Int) < 20))) (Value.bool ((decide (((s21.1 : Nat) : Int) < (((acts).length : Nat) : Int)) && decide (((s21.1 : Nat) : Int) < 20)))) (by kernel_rfl) (re_and1 q24) ?_
              exact wpq_sub _ (by kernel_rfl) hk4
            · have q24p := of_decide_eq_false q24
              refine xB 3 [] [(0, vs Aacts acts cacts), (3, vs A5_0 y5 c5_0), (4, vp bd18 0), (6, vp b13 0), (7, vi ((s21.1 : Nat) : Int)), (35, vb false)] ?_
              refine wpq_re 35 (v := vb false) (Value.bool ((decide (((s21.1 : Nat) : Int) < (((acts).length : Nat) : Int)) && decide (((s21.1 : Nat) : Int) < 20)))) (by kernel_rfl) (re_and0 q24) ?_
              exact wpq_sub _ (by kernel_rfl) hk4
          · refine xRe ?_
            refine wpq_then ?_
            refine xCd ((decide (((s21.1 : Nat) : Int) < (((acts).length : Nat) : Int)) && decide (((s21.1 : Nat) : Int) < 20))) (fun h25 => ?_) (fun h25 => ?_)
            · have hS := cond_T h25 hS
              have h25l := (and_true_ h25).1
              have h25r := (and_true_ h25).2
              have h25lp := of_decide_eq_true h25l
              have h25rp := of_decide_eq_true h25r
              refine xSk ?_
              refine wpq_then ?_
              refine xSub [(0, vs Aacts acts cacts), (3, vs A5_0 y5 c5_0), (4, vp bd18 0), (6, vp b13 0), (7, vi ((s21.1 : Nat) : Int))] ?_
              refine xSq ?_
              refine xJoinO hS (fun g own sl t26 => ∃ (A26_0_defs : Option Addr) (c26_0_defs : Nat) (A26_0_conds : Option Addr) (c26_0_conds : Nat) (k26_0_conds : Option Bk) (k26_1 : Option Bk), own = [some ⟨bd18, 71, (cBoard t26.1 A26_0_defs c26_0_defs A26_0_conds c26_0_conds)⟩, none, k5_0, k26_0_conds, k26_1] ∧ sl = [(0, vs Aacts acts cacts), (3, vs A5_0 y5 c5_0), (4, vp bd18 0), (6, vp b13 0), (7, vi ((s21.1 : Nat) : Int))] ∧ Arr g.b tyAlertDef A26_0_defs c26_0_defs t26.1.defs ∧ Buf g.b tyCnd 79 (.slice A26_0_conds (t26.1.conds).length c26_0_conds) k26_0_conds t26.1.conds ∧ Buf g.b (tyI .i64) 45 (.slice (some ⟨b13, 0, none⟩) (t26.2).length 16) k26_1 t26.2 ∧ 16 = (t26.2).length) ?_ ?_
              · rintro g27 _ _ t26 e28 ⟨A26_0_defs, c26_0_defs, A26_0_conds, c26_0_conds, k26_0_conds, k26_1, rfl, rfl, f26_0_defs, h26_0_conds, h26_1, hz26_v0⟩ hS
                have nf26_0_defs := f26_0_defs.len
                have nh26_0_conds := h26_0_conds.len
                have nh26_1 := h26_1.len
                refine wpq_then ?_
                refine xRg ?_
                obtain ⟨q29, hS⟩ := grd_T hS
                have q29p := of_decide_eq_true q29
                refine xB 1 [] [(0, vs Aacts acts cacts), (3, vs A5_0 y5 c5_0), (4, vp bd18 0), (6, vp b13 0), (7, vi ((s21.1 : Nat) : Int)), (36, vi ((s21.1 : Nat) : Int))] ?_
                refine xV (qAdd .i64 (((s21.1 : Nat) : Int)) (1) (wr64 (by omega))) ?_
                refine xB 1 [] [(0, vs Aacts acts cacts), (3, vs A5_0 y5 c5_0), (4, vp bd18 0), (6, vp b13 0), (7, vi (((s21.1 : Nat) : Int) + 1))] ?_
                refine xRe ?_
                refine wpq_thenN ?_
                refine xSel [none, some 0, some 2, some 4, some 3] ?_
                refine xSub [(0, vs Aacts acts cacts), (3, vs A5_0 y5 c5_0), (4, vp bd18 0), (6, vp b13 0), (7, vi (((s21.1 : Nat) : Int) + 1))] ?_
                have eS := (Option.some.inj hS).symm
                exact hN21 _ eS _ _ _ e28 ⟨k26_1, A26_0_defs, c26_0_defs, A26_0_conds, c26_0_conds, k26_0_conds, by kernel_rfl, by kernel_rfl, h26_1, f26_0_defs, h26_0_conds, hz26_v0⟩
              · intro uu26 hS hN26 hD26
                refine xBl 1 ?_
                refine xSq ?_
                refine xRg ?_
                have facts := facts.mono (e3.trans (e7.trans (e10.trans e23))).r
                have i31 : s21.1 < (acts).length := by omega
                obtain ⟨ad30, cs30, hA30, hr30, hc30⟩ := facts.at_ (get_getD (d := default) i31)
                obtain ⟨rfl⟩ := hr30
                refine xB 3 [] [(0, vs Aacts acts cacts), (3, vs A5_0 y5 c5_0), (4, vp bd18 0), (6, vp b13 0), (7, vi ((s21.1 : Nat) : Int)), (38, vp bd18 0), (39, vs Aacts acts cacts), (40, vi ((s21.1 : Nat) : Int))] ?_
                refine xV (qIx s21.1 4 hA30 rfl i31) ?_
                refine xB 1 [] [(0, vs Aacts acts cacts), (3, vs A5_0 y5 c5_0), (4, vp bd18 0), (6, vp b13 0), (7, vi ((s21.1 : Nat) : Int)), (38, vp bd18 0), (42, Value.pointer (some (Addr.add (Addr.add ad30 (s21.1 * 4)) 1)))] ?_
                refine xV (qLdP (Addr.add ad30 (s21.1 * 4)) 1 hc30) ?_
                refine xSel [some 1, some 4, some 0, some 2, some 3] ?_
                obtain ⟨y32, hy32, hS⟩ := bindO_T hS
                refine xE (eC 2 (fun g' lr eb ln => c17 g' bd18 s21.2.2 A21_2_defs c21_2_defs A21_2_conds c21_2_conds k21_2_conds ((List.getD acts s21.1 default).conds : Int) (4 : Int) (by rw [eb]; exact f21_2_defs) (by rw [eb]; exact h21_2_conds) hy32)) ?_
                rintro _ g33 _ e34 ⟨_, rfl, A32_b_defs, c32_b_defs, A32_b_conds, c32_b_conds, k32_b_conds, rfl, rfl, f32_b_defs, h32_b_conds⟩
                have nf32_b_defs := f32_b_defs.len
                have nh32_b_conds := h32_b_conds.len
                refine xRe ?_
                refine wpq_then ?_
                refine xSub [(0, vs Aacts acts cacts), (3, vs A5_0 y5 c5_0), (4, vp bd18 0), (6, vp b13 0), (7, vi ((s21.1 : Nat) : Int))] ?_
                refine xSq ?_
                refine xSq ?_
                refine xRg ?_
                refine xB 1 [] [(0, vs Aacts acts cacts), (3, vs A5_0 y5 c5_0), (4, vp bd18 0), (6, vp b13 0), (7, vi ((s21.1 : Nat) : Int)), (45, vi 0)] ?_
                refine xRe ?_
                refine wpq_then ?_
                refine xBindO hS (fun g own sl t35 => ∃ (k35_0 : Option Bk), own = [some ⟨bd18, 71, (cBoard y32.1 A32_b_defs c32_b_defs A32_b_conds c32_b_conds)⟩, none, k5_0, k32_b_conds, k35_0] ∧ sl = [(0, vs Aacts acts cacts), (3, vs A5_0 y5 c5_0), (4, vp bd18 0), (6, vp b13 0), (7, vi ((s21.1 : Nat) : Int))] ∧ Buf g.b (tyI .i64) 45 (.slice (some ⟨b13, 0, none⟩) (t35).length 16) k35_0 t35 ∧ 16 = (t35).length) ?_ ?_
                · rintro g36 _ _ t35 e37 ⟨k35_0, rfl, rfl, h35_0, hz35_v0⟩ hS
                  have nh35_0 := h35_0.len
                  refine wpq_then ?_
                  refine xSq ?_
                  refine xRg ?_
                  refine xB 1 [] [(0, vs Aacts acts cacts), (3, vs A5_0 y5 c5_0), (4, vp bd18 0), (6, vp b13 0), (7, vi ((s21.1 : Nat) : Int)), (68, vp bd18 0)] ?_
                  have f32_b_defs := f32_b_defs.mono e37.b
                  have h32_b_conds := h32_b_conds.mono e37.b
                  obtain ⟨y38, hy38, hS⟩ := bindO_T hS
                  refine xE (eC 0 (fun g' lr eb ln => c19 g' ⟨bd18, 0, none⟩ y32.1 A32_b_defs c32_b_defs A32_b_conds c32_b_conds (cells_lent' 0 bd18 0 (cBoard y32.1 A32_b_defs c32_b_defs A32_b_conds c32_b_conds) ln) ((f32_b_defs.mono g36.br).mono lr) (arrm_of_buf h32_b_conds eb (lentk 3 (by kernel_rfl) ln)) hy38)) ?_
                  rintro _ g39 _ e40 ⟨_, rfl, A38_0, c38_0, k38_0, rfl, rfl, h38_0⟩
                  have nh38_0 := h38_0.len
                  refine xB 1 [] [(0, vs Aacts acts cacts), (3, vs A5_0 y5 c5_0), (4, vp bd18 0), (6, vp b13 0), (7, vi ((s21.1 : Nat) : Int)), (69, vs A38_0 y38 c38_0), (70, vp bd18 0)] ?_
                  have f32_b_defs := f32_b_defs.mono e40.b
                  have h32_b_conds := h32_b_conds.mono e40.b
                  obtain ⟨y41, hy41, hS⟩ := bindO_T hS
                  refine xE (eC 0 (fun g' lr eb ln => c20 g' ⟨bd18, 0, none⟩ y32.1 A32_b_defs c32_b_defs A32_b_conds c32_b_conds (cells_lent' 1 bd18 0 (cBoard y32.1 A32_b_defs c32_b_defs A32_b_conds c32_b_conds) ln) ((f32_b_defs.mono g39.br).mono lr) (arrm_of_buf h32_b_conds eb (lentk 4 (by kernel_rfl) ln)) hy41)) ?_
                  rintro _ g42 _ e43 ⟨_, rfl, A41_0, c41_0, k41_0, rfl, rfl, h41_0⟩
                  have nh41_0 := h41_0.len
                  refine xB 2 [] [(0, vs Aacts acts cacts), (3, vs A5_0 y5 c5_0), (4, vp bd18 0), (6, vp b13 0), (7, vi ((s21.1 : Nat) : Int)), (9, vs A38_0 y38 c38_0), (10, vs A41_0 y41 c41_0)] ?_
                  refine xRe ?_
                  refine wpq_then ?_
                  refine xSq ?_
                  refine xSq ?_
                  refine xRg ?_
                  refine xB 6 [] [(0, vs Aacts acts cacts), (3, vs A5_0 y5 c5_0), (4, vp bd18 0), (6, vp b13 0), (7, vi ((s21.1 : Nat) : Int)), (9, vs A38_0 y38 c38_0), (10, vs A41_0 y41 c41_0), (77, vb ((((y38).length : Nat) : Int) != (((y41).length : Nat) : Int)))] ?_
                  refine xGJo hS 14 (fun g own sl t44 => own = [some ⟨bd18, 71, (cBoard y32.1 A32_b_defs c32_b_defs A32_b_conds c32_b_conds)⟩, none, k5_0, k38_0, k41_0, k32_b_conds, k35_0] ∧ sl = [(0, vs Aacts acts cacts), (3, vs A5_0 y5 c5_0), (4, vp bd18 0), (6, vp b13 0), (7, vi ((s21.1 : Nat) : Int)), (9, vs A38_0 y38 c38_0), (10, vs A41_0 y41 c41_0), (85, vb t44)]) ?_ ?_
                  · rintro g45 _ _ t44 e46 ⟨rfl, rfl⟩ hS
                    refine xRe ?_
                    refine wpq_then ?_
                    refine xCd (t44) (fun h47 => ?_) (fun h47 => ?_)
                    · have hS := cond_T h47 hS
                      refine xSq ?_
                      refine xRg ?_
                      refine xB 1 [] [(2, vb false)] ?_
                      refine xRe ?_
                      refine wpq_then ?_
                      have eS := (Option.some.inj hS).symm
                      have eS := (hD26 _ eS).symm
                      have eS := (hD21 _ eS).symm
                      have eS := (hD15 _ eS).symm
                      subst eS
                      exact xRet [] [2] (e3.trans (e7.trans (e10.trans (e23.trans (e34.trans (e37.trans (e40.trans (e43.trans e46)))))))) ⟨by kernel_rfl, by kernel_rfl⟩ (fun _ _ h => h)
                    · have hS := cond_F h47 hS
                      refine xSk ?_
                      refine wpq_then ?_
                      refine xSub [(0, vs Aacts acts cacts), (3, vs A5_0 y5 c5_0), (4, vp bd18 0), (6, vp b13 0), (7, vi ((s21.1 : Nat) : Int)), (9, vs A38_0 y38 c38_0), (10, vs A41_0 y41 c41_0)] ?_
                      refine xSq ?_
                      refine xRg ?_
                      refine xB 3 [] [(0, vs Aacts acts cacts), (3, vs A5_0 y5 c5_0), (4, vp bd18 0), (6, vp b13 0), (7, vi ((s21.1 : Nat) : Int)), (9, vs A38_0 y38 c38_0), (10, vs A41_0 y41 c41_0), (86, vs A38_0 y38 c38_0), (87, vi (((y38).length : Nat) : Int)), (88, vi 0)] ?_
                      refine xRe ?_
                      refine wpq_then ?_
                      refine xJoinO hS (fun g own sl t48 => own = [some ⟨bd18, 71, (cBoard y32.1 A32_b_defs c32_b_defs A32_b_conds c32_b_conds)⟩, none, k5_0, k32_b_conds, k35_0] ∧ sl = [(0, vs Aacts acts cacts), (3, vs A5_0 y5 c5_0), (4, vp bd18 0), (6, vp b13 0), (7, vi ((s21.1 : Nat) : Int))]) ?_ ?_
                      · rintro g49 _ _ t48 e50 ⟨rfl, rfl⟩ hS
                        refine wpq_blockN ?_
                        have f32_b_defs := f32_b_defs.mono (e43.trans (e46.trans e50)).b
                        have h32_b_conds := h32_b_conds.mono (e43.trans (e46.trans e50)).b
                        have h35_0 := h35_0.mono (e40.trans (e43.trans (e46.trans e50))).b
                        refine xSel [some 0, none, some 2, some 3, some 4] ?_
                        refine xSub [(0, vs Aacts acts cacts), (3, vs A5_0 y5 c5_0), (4, vp bd18 0), (6, vp b13 0), (7, vi ((s21.1 : Nat) : Int))] ?_
                        have eS := (Option.some.inj hS).symm
                        exact hN26 _ eS _ _ _ (e34.trans (e37.trans (e40.trans (e43.trans (e46.trans e50))))) ⟨A32_b_defs, c32_b_defs, A32_b_conds, c32_b_conds, k32_b_conds, k35_0, by kernel_rfl, by kernel_rfl, f32_b_defs, h32_b_conds, h35_0, hz35_v0⟩
                      · intro uu48 hS hN48 hD48
                        refine xBl 4 ?_
                        refine xSel [some 0, none, some 2, some 3, some 4, some 5, some 6] ?_
                        refine xSub [(0, vs Aacts acts cacts), (3, vs A5_0 y5 c5_0), (4, vp bd18 0), (6, vp b13 0), (7, vi ((s21.1 : Nat) : Int)), (9, vs A38_0 y38 c38_0), (10, vs A41_0 y41 c41_0), (86, vs A38_0 y38 c38_0), (87, vi (((y38).length : Nat) : Int)), (88, vi 0)] ?_
                        refine xLo hS (fun g own sl s53 => own = [some ⟨bd18, 71, (cBoard y32.1 A32_b_defs c32_b_defs A32_b_conds c32_b_conds)⟩, none, k5_0, k38_0, k41_0, k32_b_conds, k35_0] ∧ sl = [(0, vs Aacts acts cacts), (3, vs A5_0 y5 c5_0), (4, vp bd18 0), (6, vp b13 0), (7, vi ((s21.1 : Nat) : Int)), (9, vs A38_0 y38 c38_0), (10, vs A41_0 y41 c41_0), (86, vs A38_0 y38 c38_0), (87, vi (((y38).length : Nat) : Int)), (88, vi ((s53 : Nat) : Int))]) ⟨by kernel_rfl, by kernel_rfl⟩ ?_
                        rintro g54 _ _ s53 uu53 e55 ⟨rfl, rfl⟩ hS Qr53 hN53 hD53
                        unfold o6_L1 at hS
                        refine xSq ?_
                        refine xRg ?_
                        refine xB 1 [] [(0, vs Aacts acts cacts), (3, vs A5_0 y5 c5_0), (4, vp bd18 0), (6, vp b13 0), (7, vi ((s21.1 : Nat) : Int)), (9, vs A38_0 y38 c38_0), (10, vs A41_0 y41 c41_0), (86, vs A38_0 y38 c38_0), (87, vi (((y38).length : Nat) : Int)), (88, vi ((s53 : Nat) : Int)), (89, vb (decide (((s53 : Nat) : Int) < (((y38).length : Nat) : Int))))] ?_
                        refine xRe ?_
                        refine wpq_then ?_
                        refine xSq ?_
                        refine xCd (decide (((s53 : Nat) : Int) < (((y38).length : Nat) : Int))) (fun h56 => ?_) (fun h56 => ?_)
                        · have hS := cond_T h56 hS
                          have h56p := of_decide_eq_true h56
                          refine xSk ?_
                          refine wpq_then ?_
                          refine xSub [(0, vs Aacts acts cacts), (3, vs A5_0 y5 c5_0), (4, vp bd18 0), (6, vp b13 0), (7, vi ((s21.1 : Nat) : Int)), (9, vs A38_0 y38 c38_0), (10, vs A41_0 y41 c41_0), (86, vs A38_0 y38 c38_0), (87, vi (((y38).length : Nat) : Int)), (88, vi ((s53 : Nat) : Int))] ?_
                          refine xSq ?_
                          refine xJoinO hS (fun g own sl t57 => own = [some ⟨bd18, 71, (cBoard y32.1 A32_b_defs c32_b_defs A32_b_conds c32_b_conds)⟩, none, k5_0, k38_0, k41_0, k32_b_conds, k35_0] ∧ sl = [(0, vs Aacts acts cacts), (3, vs A5_0 y5 c5_0), (4, vp bd18 0), (6, vp b13 0), (7, vi ((s21.1 : Nat) : Int)), (9, vs A38_0 y38 c38_0), (10, vs A41_0 y41 c41_0), (86, vs A38_0 y38 c38_0), (87, vi (((y38).length : Nat) : Int)), (88, vi ((s53 : Nat) : Int))]) ?_ ?_
                          · rintro g58 _ _ t57 e59 ⟨rfl, rfl⟩ hS
                            refine wpq_then ?_
                            refine xRg ?_
                            obtain ⟨q60, hS⟩ := grd_T hS
                            have q60p := of_decide_eq_true q60
                            refine xV (qAdd .i64 (((s53 : Nat) : Int)) (1) (wr64 (by omega))) ?_
                            refine xB 1 [] [(0, vs Aacts acts cacts), (3, vs A5_0 y5 c5_0), (4, vp bd18 0), (6, vp b13 0), (7, vi ((s21.1 : Nat) : Int)), (9, vs A38_0 y38 c38_0), (10, vs A41_0 y41 c41_0), (86, vs A38_0 y38 c38_0), (87, vi (((y38).length : Nat) : Int)), (88, vi (((s53 : Nat) : Int) + 1))] ?_
                            refine xRe ?_
                            refine wpq_thenN ?_
                            refine xSel [some 0, none, some 2, some 3, some 4, some 5, some 6] ?_
                            refine xSub [(0, vs Aacts acts cacts), (3, vs A5_0 y5 c5_0), (4, vp bd18 0), (6, vp b13 0), (7, vi ((s21.1 : Nat) : Int)), (9, vs A38_0 y38 c38_0), (10, vs A41_0 y41 c41_0), (86, vs A38_0 y38 c38_0), (87, vi (((y38).length : Nat) : Int)), (88, vi (((s53 : Nat) : Int) + 1))] ?_
                            have eS := (Option.some.inj hS).symm
                            exact hN53 _ eS _ _ _ e59 ⟨by kernel_rfl, by kernel_rfl⟩
                          · intro uu57 hS hN57 hD57
                            refine xBl 5 ?_
                            refine xSq ?_
                            refine xRg ?_
                            have h38_0 := h38_0.mono (e43.trans (e46.trans e55)).b
                            have i62 : s53 < (y38).length := by omega
                            obtain ⟨kc61, cs61, hA61, hk61, hr61, hw61⟩ := h38_0.open_ i62 0
                            obtain ⟨kb61, rfl⟩ : ∃ z, z = kc61 := ⟨_, rfl⟩
                            subst hk61
                            have hr61 : cs61 = [vi (List.getD y38 s53 0)] := hr61
                            subst hr61
                            refine xB 1 [] [(0, vs Aacts acts cacts), (3, vs A5_0 y5 c5_0), (4, vp bd18 0), (6, vp b13 0), (7, vi ((s21.1 : Nat) : Int)), (9, vs A38_0 y38 c38_0), (10, vs A41_0 y41 c41_0), (86, vs A38_0 y38 c38_0), (87, vi (((y38).length : Nat) : Int)), (88, vi ((s53 : Nat) : Int)), (90, vi ((s53 : Nat) : Int))] ?_
                            refine xV (qIxB s53 1 kb61.g hA61 rfl i62) ?_
                            refine xV (qLdB s53 1 0 3 hw61) ?_
                            refine xB 2 [] [(0, vs Aacts acts cacts), (3, vs A5_0 y5 c5_0), (4, vp bd18 0), (6, vp b13 0), (7, vi ((s21.1 : Nat) : Int)), (9, vs A38_0 y38 c38_0), (10, vs A41_0 y41 c41_0), (11, vi ((s53 : Nat) : Int)), (12, vi (List.getD y38 s53 0)), (86, vs A38_0 y38 c38_0), (87, vi (((y38).length : Nat) : Int)), (88, vi ((s53 : Nat) : Int))] ?_
                            refine xRe ?_
                            refine wpq_then ?_
                            refine xSq ?_
                            refine xSq ?_
                            refine xDr 0 [10, 15, 28] [] [k5_0, k41_0] 32 (fun RG => ?_) (fun _ _ _ _ _ h => h)
                            refine xT 29 [0, 1, 2] [] [some 2, some 4] [(0, vs Aacts acts cacts), (3, vs A5_0 y5 c5_0), (4, vp bd18 0), (6, vp b13 0), (7, vi ((s21.1 : Nat) : Int)), (9, vs A38_0 y38 c38_0), (10, vs A41_0 y41 c41_0), (11, vi ((s53 : Nat) : Int)), (12, vi (List.getD y38 s53 0)), (86, vs A38_0 y38 c38_0), (87, vi (((y38).length : Nat) : Int)), (88, vi ((s53 : Nat) : Int)), (95, vb (decide ((List.getD y38 s53 0) < 0)))] RG (Psi.le.refl _) ?_
                            refine wpa_grp 26 [true, true, true, true, true, true, false, false, false, false, false, false, false, false, false, false, false, false, false, false, false, false, false, false, false, false, false, false, false, false, false, false] [(0, vs Aacts acts cacts), (3, vs A5_0 y5 c5_0), (4, vp bd18 0), (6, vp b13 0), (7, vi ((s21.1 : Nat) : Int)), (9, vs A38_0 y38 c38_0), (10, vs A41_0 y41 c41_0), (11, vi ((s53 : Nat) : Int)), (12, vi (List.getD y38 s53 0)), (86, vs A38_0 y38 c38_0), (87, vi (((y38).length : Nat) : Int)), (88, vi ((s53 : Nat) : Int)), (98, vb (decide ((List.getD y38 s53 0) < 0) || decide ((List.getD y38 s53 0) > 15)))] (fun hk2 => ?_) ?_
                            · refine wpq_split 95 (b := decide ((List.getD y38 s53 0) < 0)) (by kernel_rfl) (fun q63 => ?_) (fun q63 => ?_)
                              · have q63p := of_decide_eq_true q63
                                refine xT 26 [3, 4, 5] [] [some 2, some 4] [(0, vs Aacts acts cacts), (3, vs A5_0 y5 c5_0), (4, vp bd18 0), (6, vp b13 0), (7, vi ((s21.1 : Nat) : Int)), (9, vs A38_0 y38 c38_0), (10, vs A41_0 y41 c41_0), (11, vi ((s53 : Nat) : Int)), (12, vi (List.getD y38 s53 0)), (86, vs A38_0 y38 c38_0), (87, vi (((y38).length : Nat) : Int)), (88, vi ((s53 : Nat) : Int)), (98, vb true)] RG (Psi.le.refl _) ?_
                                refine wpq_re 98 (v := vb true) (Value.bool ((decide ((List.getD y38 s53 0) < 0) || decide ((List.getD y38 s53 0) > 15)))) (by kernel_rfl) (re_or1 q63) ?_
                                exact wpq_sub _ (by kernel_rfl) hk2
                              · have q63p := of_decide_eq_false q63
                                refine xT 26 [3, 4, 5] [] [some 2, some 4] [(0, vs Aacts acts cacts), (3, vs A5_0 y5 c5_0), (4, vp bd18 0), (6, vp b13 0), (7, vi ((s21.1 : Nat) : Int)), (9, vs A38_0 y38 c38_0), (10, vs A41_0 y41 c41_0), (11, vi ((s53 : Nat) : Int)), (12, vi (List.getD y38 s53 0)), (86, vs A38_0 y38 c38_0), (87, vi (((y38).length : Nat) : Int)), (88, vi ((s53 : Nat) : Int)), (98, vb (decide ((List.getD y38 s53 0) > 15)))] RG (Psi.le.refl _) ?_
                                refine wpq_re 98 (v := vb (decide ((List.getD y38 s53 0) > 15))) (Value.bool ((decide ((List.getD y38 s53 0) < 0) || decide ((List.getD y38 s53 0) > 15)))) (by kernel_rfl) (re_or0 q63) ?_
                                exact wpq_sub _ (by kernel_rfl) hk2
                            · refine xT 25 [6] [] [some 2, some 4] [(0, vs Aacts acts cacts), (3, vs A5_0 y5 c5_0), (4, vp bd18 0), (6, vp b13 0), (7, vi ((s21.1 : Nat) : Int)), (9, vs A38_0 y38 c38_0), (10, vs A41_0 y41 c41_0), (11, vi ((s53 : Nat) : Int)), (12, vi (List.getD y38 s53 0)), (86, vs A38_0 y38 c38_0), (87, vi (((y38).length : Nat) : Int)), (88, vi ((s53 : Nat) : Int)), (99, vb (decide ((List.getD y38 s53 0) < 0) || decide ((List.getD y38 s53 0) > 15)))] RG (Psi.le.refl _) ?_
                              refine xGJoA hS 14 [true, true, true, true, true, true, true, true, true, true, true, true, true, true, true, true, true, true, false, false, false, false, false, false, false, false, false, false, false, false, false, false] (fun g own sl t64 => own = [some ⟨bd18, 71, (cBoard y32.1 A32_b_defs c32_b_defs A32_b_conds c32_b_conds)⟩, none, k5_0, (some kb61), k41_0, k32_b_conds, k35_0] ∧ sl = [(0, vs Aacts acts cacts), (3, vs A5_0 y5 c5_0), (4, vp bd18 0), (6, vp b13 0), (7, vi ((s21.1 : Nat) : Int)), (9, vs A38_0 y38 c38_0), (10, vs A41_0 y41 c41_0), (11, vi ((s53 : Nat) : Int)), (12, vi (List.getD y38 s53 0)), (86, vs A38_0 y38 c38_0), (87, vi (((y38).length : Nat) : Int)), (88, vi ((s53 : Nat) : Int)), (110, vb t64)]) ?_ ?_
                              · rintro g65 _ _ t64 e66 ⟨rfl, rfl⟩ hS
                                refine xT 13 [18] [] [some 2, some 4] [(0, vs Aacts acts cacts), (3, vs A5_0 y5 c5_0), (4, vp bd18 0), (6, vp b13 0), (7, vi ((s21.1 : Nat) : Int)), (9, vs A38_0 y38 c38_0), (10, vs A41_0 y41 c41_0), (11, vi ((s53 : Nat) : Int)), (12, vi (List.getD y38 s53 0)), (86, vs A38_0 y38 c38_0), (87, vi (((y38).length : Nat) : Int)), (88, vi ((s53 : Nat) : Int)), (111, vb t64)] RG e66.r ?_
                                refine xGJoA hS 0 [true, true, true, true, true, true, true, true, true, true, true, true, true, true, true, true, true, true, true, true, true, true, true, true, true, true, true, true, true, true, true, true] (fun g own sl t67 => own = [some ⟨bd18, 71, (cBoard y32.1 A32_b_defs c32_b_defs A32_b_conds c32_b_conds)⟩, none, k5_0, (some kb61), k41_0, k32_b_conds, k35_0] ∧ sl = [(0, vs Aacts acts cacts), (3, vs A5_0 y5 c5_0), (4, vp bd18 0), (6, vp b13 0), (7, vi ((s21.1 : Nat) : Int)), (9, vs A38_0 y38 c38_0), (10, vs A41_0 y41 c41_0), (11, vi ((s53 : Nat) : Int)), (12, vi (List.getD y38 s53 0)), (86, vs A38_0 y38 c38_0), (87, vi (((y38).length : Nat) : Int)), (88, vi ((s53 : Nat) : Int)), (124, vb t67)]) ?_ ?_
                                · rintro g68 _ _ t67 e69 ⟨rfl, rfl⟩ hS
                                  refine xAe (lds := [10, 15, 28]) ?_
                                  refine wpq_then ?_
                                  refine xCd (t67) (fun h70 => ?_) (fun h70 => ?_)
                                  · have hS := cond_T h70 hS
                                    refine xSq ?_
                                    refine xRg ?_
                                    refine xB 1 [] [(2, vb false)] ?_
                                    refine xRe ?_
                                    refine wpq_then ?_
                                    have eS := (Option.some.inj hS).symm
                                    have eS := (hD57 _ eS).symm
                                    have eS := (hD53 _ eS).symm
                                    have eS := (hD48 _ eS).symm
                                    have eS := (hD26 _ eS).symm
                                    have eS := (hD21 _ eS).symm
                                    have eS := (hD15 _ eS).symm
                                    subst eS
                                    exact xRet [] [2] (e3.trans (e7.trans (e10.trans (e23.trans (e34.trans (e37.trans (e40.trans (e43.trans (e46.trans (e55.trans (e66.trans e69))))))))))) ⟨by kernel_rfl, by kernel_rfl⟩ (fun _ _ h => h)
                                  · have hS := cond_F h70 hS
                                    refine xSk ?_
                                    refine wpq_then ?_
                                    refine xSub [(0, vs Aacts acts cacts), (3, vs A5_0 y5 c5_0), (4, vp bd18 0), (6, vp b13 0), (7, vi ((s21.1 : Nat) : Int)), (9, vs A38_0 y38 c38_0), (10, vs A41_0 y41 c41_0), (11, vi ((s53 : Nat) : Int)), (12, vi (List.getD y38 s53 0)), (86, vs A38_0 y38 c38_0), (87, vi (((y38).length : Nat) : Int)), (88, vi ((s53 : Nat) : Int))] ?_
                                    refine xSq ?_
                                    refine xSq ?_
                                    refine xRg ?_
                                    refine xB 2 [] [(0, vs Aacts acts cacts), (3, vs A5_0 y5 c5_0), (4, vp bd18 0), (6, vp b13 0), (7, vi ((s21.1 : Nat) : Int)), (9, vs A38_0 y38 c38_0), (10, vs A41_0 y41 c41_0), (11, vi ((s53 : Nat) : Int)), (12, vi (List.getD y38 s53 0)), (86, vs A38_0 y38 c38_0), (87, vi (((y38).length : Nat) : Int)), (88, vi ((s53 : Nat) : Int)), (126, vb (((s53 : Nat) : Int) == 0))] ?_
                                    refine xRe ?_
                                    refine wpq_then ?_
                                    refine xCd ((((s53 : Nat) : Int) == 0)) (fun h71 => ?_) (fun h71 => ?_)
                                    · have hS := cond_T h71 hS
                                      have h71p : ((s53 : Nat) : Int) = 0 := eq_of_beq h71
                                      refine xEx 5 ?_
                                      refine wpq_thenX ?_
                                      refine wpq_blockE ?_
                                      refine xSel [some 0, none, some 2, some 3, some 4, some 5, some 6] ?_
                                      refine xSub [(0, vs Aacts acts cacts), (3, vs A5_0 y5 c5_0), (4, vp bd18 0), (6, vp b13 0), (7, vi ((s21.1 : Nat) : Int)), (9, vs A38_0 y38 c38_0), (10, vs A41_0 y41 c41_0), (86, vs A38_0 y38 c38_0), (87, vi (((y38).length : Nat) : Int)), (88, vi ((s53 : Nat) : Int))] ?_
                                      have eS := (Option.some.inj hS).symm
                                      exact hN57 _ eS _ _ _ (e66.trans e69) ⟨by kernel_rfl, by kernel_rfl⟩
                                    · have hS := cond_F h71 hS
                                      have h71p : ¬ (((s53 : Nat) : Int) = 0) := ne_of_beq_false_ h71
                                      refine xSk ?_
                                      refine wpq_then ?_
                                      refine xSub [(0, vs Aacts acts cacts), (3, vs A5_0 y5 c5_0), (4, vp bd18 0), (6, vp b13 0), (7, vi ((s21.1 : Nat) : Int)), (9, vs A38_0 y38 c38_0), (10, vs A41_0 y41 c41_0), (11, vi ((s53 : Nat) : Int)), (12, vi (List.getD y38 s53 0)), (86, vs A38_0 y38 c38_0), (87, vi (((y38).length : Nat) : Int)), (88, vi ((s53 : Nat) : Int))] ?_
                                      refine xSq ?_
                                      refine xRg ?_
                                      have z192 := i64_in_ (((s53 : Nat) : Int) - 1)
                                      have h38_0 := h38_0.mono (e66.trans e69).b
                                      obtain ⟨q73, hS⟩ := grd_T hS
                                      have q73p := of_decide_eq_true q73
                                      have i74 : ((IntKind.i64.wrap (((s53 : Nat) : Int) - 1))).toNat < (y38).length := by omega
                                      obtain ⟨kc72, cs72, hA72, hk72, hr72, hw72⟩ := h38_0.open_ i74 0
                                      cases hk72
                                      have hr72 : cs72 = [vi (List.getD y38 ((IntKind.i64.wrap (((s53 : Nat) : Int) - 1))).toNat 0)] := hr72
                                      subst hr72
                                      refine xB 3 [] [(0, vs Aacts acts cacts), (3, vs A5_0 y5 c5_0), (4, vp bd18 0), (6, vp b13 0), (7, vi ((s21.1 : Nat) : Int)), (9, vs A38_0 y38 c38_0), (10, vs A41_0 y41 c41_0), (12, vi (List.getD y38 s53 0)), (86, vs A38_0 y38 c38_0), (87, vi (((y38).length : Nat) : Int)), (88, vi ((s53 : Nat) : Int)), (127, vs A38_0 y38 c38_0), (129, vi (IntKind.i64.wrap (((s53 : Nat) : Int) - 1)))] ?_
                                      refine xV (qIxB ((IntKind.i64.wrap (((s53 : Nat) : Int) - 1))).toNat 1 kb61.g hA72 (show ((IntKind.i64.wrap (((s53 : Nat) : Int) - 1)) : Int) = _ from by omega) i74) ?_
                                      refine xV (qLdB ((IntKind.i64.wrap (((s53 : Nat) : Int) - 1))).toNat 1 0 3 hw72) ?_
                                      refine xB 1 [] [(0, vs Aacts acts cacts), (3, vs A5_0 y5 c5_0), (4, vp bd18 0), (6, vp b13 0), (7, vi ((s21.1 : Nat) : Int)), (9, vs A38_0 y38 c38_0), (10, vs A41_0 y41 c41_0), (12, vi (List.getD y38 s53 0)), (13, vi (List.getD y38 ((IntKind.i64.wrap (((s53 : Nat) : Int) - 1))).toNat 0)), (86, vs A38_0 y38 c38_0), (87, vi (((y38).length : Nat) : Int)), (88, vi ((s53 : Nat) : Int))] ?_
                                      refine xRe ?_
                                      refine wpq_then ?_
                                      refine xSq ?_
                                      refine xDr 0 [4, 9, 16, 21, 26, 29, 34, 37] [] [some ⟨bd18, 71, (cBoard y32.1 A32_b_defs c32_b_defs A32_b_conds c32_b_conds)⟩, k5_0, k35_0] 47 (fun RG => ?_) (fun _ _ _ _ _ h => h)
                                      have h5_0 := h5_0.mono (e10.trans (e23.trans (e34.trans (e37.trans (e40.trans (e43.trans (e46.trans (e55.trans (e66.trans e69))))))))).b
                                      obtain ⟨q76, hS⟩ := grd_T hS
                                      have q76p := of_decide_eq_true q76
                                      have i77 : ((List.getD y38 ((IntKind.i64.wrap (((s53 : Nat) : Int) - 1))).toNat 0)).toNat < (y5).length := by omega
                                      obtain ⟨kc75, cs75, hA75, hk75, hr75, hw75⟩ := h5_0.open_ i77 default
                                      obtain ⟨kb75, rfl⟩ : ∃ z, z = kc75 := ⟨_, rfl⟩
                                      subst hk75
                                      obtain ⟨rfl⟩ := hr75
                                      refine xT 45 [0, 1] [] [some 0, some 2, some 6] [(0, vs Aacts acts cacts), (3, vs A5_0 y5 c5_0), (4, vp bd18 0), (6, vp b13 0), (7, vi ((s21.1 : Nat) : Int)), (9, vs A38_0 y38 c38_0), (10, vs A41_0 y41 c41_0), (12, vi (List.getD y38 s53 0)), (13, vi (List.getD y38 ((IntKind.i64.wrap (((s53 : Nat) : Int) - 1))).toNat 0)), (86, vs A38_0 y38 c38_0), (87, vi (((y38).length : Nat) : Int)), (88, vi ((s53 : Nat) : Int)), (132, vs A5_0 y5 c5_0), (133, vi (List.getD y38 ((IntKind.i64.wrap (((s53 : Nat) : Int) - 1))).toNat 0))] RG (Psi.le.refl _) ?_
                                      refine xTp 2 RG (fun _ => (qIxB ((List.getD y38 ((IntKind.i64.wrap (((s53 : Nat) : Int) - 1))).toNat 0)).toNat 3 kb75.g hA75 (show ((List.getD y38 ((IntKind.i64.wrap (((s53 : Nat) : Int) - 1))).toNat 0) : Int) = _ from by omega) i77)) ?_
                                      refine xT 43 [3] [] [some 0, some 2, some 6] [(0, vs Aacts acts cacts), (3, vs A5_0 y5 c5_0), (4, vp bd18 0), (6, vp b13 0), (7, vi ((s21.1 : Nat) : Int)), (9, vs A38_0 y38 c38_0), (10, vs A41_0 y41 c41_0), (12, vi (List.getD y38 s53 0)), (13, vi (List.getD y38 ((IntKind.i64.wrap (((s53 : Nat) : Int) - 1))).toNat 0)), (86, vs A38_0 y38 c38_0), (87, vi (((y38).length : Nat) : Int)), (88, vi ((s53 : Nat) : Int)), (135, Value.pointer (some ⟨kb75.g, ((List.getD y38 ((IntKind.i64.wrap (((s53 : Nat) : Int) - 1))).toNat 0)).toNat * 3 + 1, none⟩))] RG (Psi.le.refl _) ?_
                                      refine xTv 4 [some 0, some 2, some 6] RG (Psi.le.refl _) (qLdB ((List.getD y38 ((IntKind.i64.wrap (((s53 : Nat) : Int) - 1))).toNat 0)).toNat 3 1 1 hw75) ?_
                                      obtain ⟨q79, hS⟩ := grd_T hS
                                      have q79p := of_decide_eq_true q79
                                      have i80 : ((List.getD y38 s53 0)).toNat < (y5).length := by omega
                                      obtain ⟨kc78, cs78, hA78, hk78, hr78, hw78⟩ := h5_0.open_ i80 default
                                      cases hk78
                                      obtain ⟨rfl⟩ := hr78
                                      refine xT 40 [5, 6] [] [some 0, some 2, some 6] [(0, vs Aacts acts cacts), (3, vs A5_0 y5 c5_0), (4, vp bd18 0), (6, vp b13 0), (7, vi ((s21.1 : Nat) : Int)), (9, vs A38_0 y38 c38_0), (10, vs A41_0 y41 c41_0), (12, vi (List.getD y38 s53 0)), (13, vi (List.getD y38 ((IntKind.i64.wrap (((s53 : Nat) : Int) - 1))).toNat 0)), (86, vs A38_0 y38 c38_0), (87, vi (((y38).length : Nat) : Int)), (88, vi ((s53 : Nat) : Int)), (136, vy ((List.getD y5 ((List.getD y38 ((IntKind.i64.wrap (((s53 : Nat) : Int) - 1))).toNat 0)).toNat default).level)), (137, vs A5_0 y5 c5_0), (138, vi (List.getD y38 s53 0))] RG (Psi.le.refl _) ?_
                                      refine xTp 7 RG (fun _ => (qIxB ((List.getD y38 s53 0)).toNat 3 kb75.g hA78 (show ((List.getD y38 s53 0) : Int) = _ from by omega) i80)) ?_
                                      refine xT 38 [8] [] [some 0, some 2, some 6] [(0, vs Aacts acts cacts), (3, vs A5_0 y5 c5_0), (4, vp bd18 0), (6, vp b13 0), (7, vi ((s21.1 : Nat) : Int)), (9, vs A38_0 y38 c38_0), (10, vs A41_0 y41 c41_0), (12, vi (List.getD y38 s53 0)), (13, vi (List.getD y38 ((IntKind.i64.wrap (((s53 : Nat) : Int) - 1))).toNat 0)), (86, vs A38_0 y38 c38_0), (87, vi (((y38).length : Nat) : Int)), (88, vi ((s53 : Nat) : Int)), (136, vy ((List.getD y5 ((List.getD y38 ((IntKind.i64.wrap (((s53 : Nat) : Int) - 1))).toNat 0)).toNat default).level)), (140, Value.pointer (some ⟨kb75.g, ((List.getD y38 s53 0)).toNat * 3 + 1, none⟩))] RG (Psi.le.refl _) ?_
                                      refine xTv 9 [some 0, some 2, some 6] RG (Psi.le.refl _) (qLdB ((List.getD y38 s53 0)).toNat 3 1 1 hw78) ?_
                                      refine xT 35 [10, 11] [] [some 0, some 2, some 6] [(0, vs Aacts acts cacts), (3, vs A5_0 y5 c5_0), (4, vp bd18 0), (6, vp b13 0), (7, vi ((s21.1 : Nat) : Int)), (9, vs A38_0 y38 c38_0), (10, vs A41_0 y41 c41_0), (12, vi (List.getD y38 s53 0)), (13, vi (List.getD y38 ((IntKind.i64.wrap (((s53 : Nat) : Int) - 1))).toNat 0)), (86, vs A38_0 y38 c38_0), (87, vi (((y38).length : Nat) : Int)), (88, vi ((s53 : Nat) : Int)), (143, vb (decide ((List.getD y5 ((List.getD y38 ((IntKind.i64.wrap (((s53 : Nat) : Int) - 1))).toNat 0)).toNat default).level > (List.getD y5 ((List.getD y38 s53 0)).toNat default).level)))] RG (Psi.le.refl _) ?_
                                      refine xGJoA hS 0 [true, true, true, true, true, true, true, true, true, true, true, true, true, true, true, true, true, true, true, true, true, true, true, true, true, true, true, true, true, true, true, true, true, true, true, true, true, true, true, true, true, true, true, true, true, true, true] (fun g own sl t81 => own = [some ⟨bd18, 71, (cBoard y32.1 A32_b_defs c32_b_defs A32_b_conds c32_b_conds)⟩, none, (some kb75), (some kb61), k41_0, k32_b_conds, k35_0] ∧ sl = [(0, vs Aacts acts cacts), (3, vs A5_0 y5 c5_0), (4, vp bd18 0), (6, vp b13 0), (7, vi ((s21.1 : Nat) : Int)), (9, vs A38_0 y38 c38_0), (10, vs A41_0 y41 c41_0), (86, vs A38_0 y38 c38_0), (87, vi (((y38).length : Nat) : Int)), (88, vi ((s53 : Nat) : Int)), (178, vb t81)]) ?_ ?_
                                      · rintro g82 _ _ t81 e83 ⟨rfl, rfl⟩ hS
                                        refine xAe (lds := [4, 9, 16, 21, 26, 29, 34, 37]) ?_
                                        refine wpq_then ?_
                                        refine xCd (t81) (fun h84 => ?_) (fun h84 => ?_)
                                        · have hS := cond_T h84 hS
                                          refine xSq ?_
                                          refine xRg ?_
                                          refine xB 1 [] [(2, vb false)] ?_
                                          refine xRe ?_
                                          refine wpq_then ?_
                                          have eS := (Option.some.inj hS).symm
                                          have eS := (hD57 _ eS).symm
                                          have eS := (hD53 _ eS).symm
                                          have eS := (hD48 _ eS).symm
                                          have eS := (hD26 _ eS).symm
                                          have eS := (hD21 _ eS).symm
                                          have eS := (hD15 _ eS).symm
                                          subst eS
                                          exact xRet [] [2] (e3.trans (e7.trans (e10.trans (e23.trans (e34.trans (e37.trans (e40.trans (e43.trans (e46.trans (e55.trans (e66.trans (e69.trans e83)))))))))))) ⟨by kernel_rfl, by kernel_rfl⟩ (fun _ _ h => h)
                                        · have hS := cond_F h84 hS
                                          refine xSk ?_
                                          refine wpq_blockN ?_
                                          refine xSel [some 0, none, some 2, some 3, some 4, some 5, some 6] ?_
                                          refine xSub [(0, vs Aacts acts cacts), (3, vs A5_0 y5 c5_0), (4, vp bd18 0), (6, vp b13 0), (7, vi ((s21.1 : Nat) : Int)), (9, vs A38_0 y38 c38_0), (10, vs A41_0 y41 c41_0), (86, vs A38_0 y38 c38_0), (87, vi (((y38).length : Nat) : Int)), (88, vi ((s53 : Nat) : Int))] ?_
                                          have eS := (Option.some.inj hS).symm
                                          exact hN57 _ eS _ _ _ (e66.trans (e69.trans e83)) ⟨by kernel_rfl, by kernel_rfl⟩
                                      · intro uu81 hS hN81
                                        refine wpq_split 143 (b := decide ((List.getD y5 ((List.getD y38 ((IntKind.i64.wrap (((s53 : Nat) : Int) - 1))).toNat 0)).toNat default).level > (List.getD y5 ((List.getD y38 s53 0)).toNat default).level)) (by kernel_rfl) (fun q85 => ?_) (fun q85 => ?_)
                                        · have hS := cond_T q85 hS
                                          have q85p := of_decide_eq_true q85
                                          refine xT 0 [12, 13, 14, 15, 16, 17, 18, 19, 20, 21, 22, 23, 24, 25, 26, 27, 28, 29, 30, 31, 32, 33, 34, 35, 36, 37, 38, 39, 40, 41, 42, 43, 44, 45, 46] [] [some 0, some 2, some 6] [(0, vs Aacts acts cacts), (3, vs A5_0 y5 c5_0), (4, vp bd18 0), (6, vp b13 0), (7, vi ((s21.1 : Nat) : Int)), (9, vs A38_0 y38 c38_0), (10, vs A41_0 y41 c41_0), (86, vs A38_0 y38 c38_0), (87, vi (((y38).length : Nat) : Int)), (88, vi ((s53 : Nat) : Int)), (178, vb true)] RG (Psi.le.refl _) ?_
                                          refine xSel [some 0, none, some 2, some 3, some 4, some 5, some 6] ?_
                                          refine xSub [(0, vs Aacts acts cacts), (3, vs A5_0 y5 c5_0), (4, vp bd18 0), (6, vp b13 0), (7, vi ((s21.1 : Nat) : Int)), (9, vs A38_0 y38 c38_0), (10, vs A41_0 y41 c41_0), (86, vs A38_0 y38 c38_0), (87, vi (((y38).length : Nat) : Int)), (88, vi ((s53 : Nat) : Int)), (178, vb true)] ?_
                                          exact hN81 _ (Option.some.inj hS).symm _ _ _ (Gh.le.refl _) ⟨by kernel_rfl, by kernel_rfl⟩
                                        · have hS := cond_F q85 hS
                                          have q85p := of_decide_eq_false q85
                                          obtain ⟨q87, hS⟩ := grd_T hS
                                          have q87p := of_decide_eq_true q87
                                          have i88 : ((List.getD y38 ((IntKind.i64.wrap (((s53 : Nat) : Int) - 1))).toNat 0)).toNat < (y5).length := by omega
                                          obtain ⟨kc86, cs86, hA86, hk86, hr86, hw86⟩ := h5_0.open_ i88 default
                                          cases hk86
                                          obtain ⟨rfl⟩ := hr86
                                          refine xT 33 [12, 13] [] [some 0, some 2, some 6] [(0, vs Aacts acts cacts), (3, vs A5_0 y5 c5_0), (4, vp bd18 0), (6, vp b13 0), (7, vi ((s21.1 : Nat) : Int)), (9, vs A38_0 y38 c38_0), (10, vs A41_0 y41 c41_0), (12, vi (List.getD y38 s53 0)), (13, vi (List.getD y38 ((IntKind.i64.wrap (((s53 : Nat) : Int) - 1))).toNat 0)), (86, vs A38_0 y38 c38_0), (87, vi (((y38).length : Nat) : Int)), (88, vi ((s53 : Nat) : Int)), (143, vb false), (144, vs A5_0 y5 c5_0), (145, vi (List.getD y38 ((IntKind.i64.wrap (((s53 : Nat) : Int) - 1))).toNat 0))] RG (Psi.le.refl _) ?_
                                          refine xTp 14 RG (fun _ => (qIxB ((List.getD y38 ((IntKind.i64.wrap (((s53 : Nat) : Int) - 1))).toNat 0)).toNat 3 kb75.g hA86 (show ((List.getD y38 ((IntKind.i64.wrap (((s53 : Nat) : Int) - 1))).toNat 0) : Int) = _ from by omega) i88)) ?_
                                          refine xT 31 [15] [] [some 0, some 2, some 6] [(0, vs Aacts acts cacts), (3, vs A5_0 y5 c5_0), (4, vp bd18 0), (6, vp b13 0), (7, vi ((s21.1 : Nat) : Int)), (9, vs A38_0 y38 c38_0), (10, vs A41_0 y41 c41_0), (12, vi (List.getD y38 s53 0)), (13, vi (List.getD y38 ((IntKind.i64.wrap (((s53 : Nat) : Int) - 1))).toNat 0)), (86, vs A38_0 y38 c38_0), (87, vi (((y38).length : Nat) : Int)), (88, vi ((s53 : Nat) : Int)), (143, vb false), (147, Value.pointer (some ⟨kb75.g, ((List.getD y38 ((IntKind.i64.wrap (((s53 : Nat) : Int) - 1))).toNat 0)).toNat * 3 + 1, none⟩))] RG (Psi.le.refl _) ?_
                                          refine xTv 16 [some 0, some 2, some 6] RG (Psi.le.refl _) (qLdB ((List.getD y38 ((IntKind.i64.wrap (((s53 : Nat) : Int) - 1))).toNat 0)).toNat 3 1 1 hw86) ?_
                                          obtain ⟨q90, hS⟩ := grd_T hS
                                          have q90p := of_decide_eq_true q90
                                          have i91 : ((List.getD y38 s53 0)).toNat < (y5).length := by omega
                                          obtain ⟨kc89, cs89, hA89, hk89, hr89, hw89⟩ := h5_0.open_ i91 default
                                          cases hk89
                                          obtain ⟨rfl⟩ := hr89
                                          refine xT 28 [17, 18] [] [some 0, some 2, some 6] [(0, vs Aacts acts cacts), (3, vs A5_0 y5 c5_0), (4, vp bd18 0), (6, vp b13 0), (7, vi ((s21.1 : Nat) : Int)), (9, vs A38_0 y38 c38_0), (10, vs A41_0 y41 c41_0), (12, vi (List.getD y38 s53 0)), (13, vi (List.getD y38 ((IntKind.i64.wrap (((s53 : Nat) : Int) - 1))).toNat 0)), (86, vs A38_0 y38 c38_0), (87, vi (((y38).length : Nat) : Int)), (88, vi ((s53 : Nat) : Int)), (143, vb false), (148, vy ((List.getD y5 ((List.getD y38 ((IntKind.i64.wrap (((s53 : Nat) : Int) - 1))).toNat 0)).toNat default).level)), (149, vs A5_0 y5 c5_0), (150, vi (List.getD y38 s53 0))] RG (Psi.le.refl _) ?_
                                          refine xTp 19 RG (fun _ => (qIxB ((List.getD y38 s53 0)).toNat 3 kb75.g hA89 (show ((List.getD y38 s53 0) : Int) = _ from by omega) i91)) ?_
                                          refine xT 26 [20] [] [some 0, some 2, some 6] [(0, vs Aacts acts cacts), (3, vs A5_0 y5 c5_0), (4, vp bd18 0), (6, vp b13 0), (7, vi ((s21.1 : Nat) : Int)), (9, vs A38_0 y38 c38_0), (10, vs A41_0 y41 c41_0), (12, vi (List.getD y38 s53 0)), (13, vi (List.getD y38 ((IntKind.i64.wrap (((s53 : Nat) : Int) - 1))).toNat 0)), (86, vs A38_0 y38 c38_0), (87, vi (((y38).length : Nat) : Int)), (88, vi ((s53 : Nat) : Int)), (143, vb false), (148, vy ((List.getD y5 ((List.getD y38 ((IntKind.i64.wrap (((s53 : Nat) : Int) - 1))).toNat 0)).toNat default).level)), (152, Value.pointer (some ⟨kb75.g, ((List.getD y38 s53 0)).toNat * 3 + 1, none⟩))] RG (Psi.le.refl _) ?_
                                          refine xTv 21 [some 0, some 2, some 6] RG (Psi.le.refl _) (qLdB ((List.getD y38 s53 0)).toNat 3 1 1 hw89) ?_
                                          refine xT 23 [22, 23] [] [some 0, some 2, some 6] [(0, vs Aacts acts cacts), (3, vs A5_0 y5 c5_0), (4, vp bd18 0), (6, vp b13 0), (7, vi ((s21.1 : Nat) : Int)), (9, vs A38_0 y38 c38_0), (10, vs A41_0 y41 c41_0), (12, vi (List.getD y38 s53 0)), (13, vi (List.getD y38 ((IntKind.i64.wrap (((s53 : Nat) : Int) - 1))).toNat 0)), (86, vs A38_0 y38 c38_0), (87, vi (((y38).length : Nat) : Int)), (88, vi ((s53 : Nat) : Int)), (143, vb false), (155, vb ((List.getD y5 ((List.getD y38 ((IntKind.i64.wrap (((s53 : Nat) : Int) - 1))).toNat 0)).toNat default).level == (List.getD y5 ((List.getD y38 s53 0)).toNat default).level))] RG (Psi.le.refl _) ?_
                                          refine xGJoA hS 1 [true, true, true, true, true, true, true, true, true, true, true, true, true, true, true, true, true, true, true, true, true, true, true, true, true, true, true, true, true, true, true, true, true, true, true, true, true, true, true, true, true, true, true, true, true, true, false] (fun g own sl t92 => own = [some ⟨bd18, 71, (cBoard y32.1 A32_b_defs c32_b_defs A32_b_conds c32_b_conds)⟩, none, (some kb75), (some kb61), k41_0, k32_b_conds, k35_0] ∧ sl = [(0, vs Aacts acts cacts), (3, vs A5_0 y5 c5_0), (4, vp bd18 0), (6, vp b13 0), (7, vi ((s21.1 : Nat) : Int)), (9, vs A38_0 y38 c38_0), (10, vs A41_0 y41 c41_0), (86, vs A38_0 y38 c38_0), (87, vi (((y38).length : Nat) : Int)), (88, vi ((s53 : Nat) : Int)), (143, vb false), (177, vb t92)]) ?_ ?_
                                          · rintro g93 _ _ t92 e94 ⟨rfl, rfl⟩ hS
                                            refine xT 0 [46] [] [some 0, some 2, some 6] [(0, vs Aacts acts cacts), (3, vs A5_0 y5 c5_0), (4, vp bd18 0), (6, vp b13 0), (7, vi ((s21.1 : Nat) : Int)), (9, vs A38_0 y38 c38_0), (10, vs A41_0 y41 c41_0), (86, vs A38_0 y38 c38_0), (87, vi (((y38).length : Nat) : Int)), (88, vi ((s53 : Nat) : Int)), (178, vb t92)] RG e94.r ?_
                                            refine xSel [some 0, none, some 2, some 3, some 4, some 5, some 6] ?_
                                            refine xSub [(0, vs Aacts acts cacts), (3, vs A5_0 y5 c5_0), (4, vp bd18 0), (6, vp b13 0), (7, vi ((s21.1 : Nat) : Int)), (9, vs A38_0 y38 c38_0), (10, vs A41_0 y41 c41_0), (86, vs A38_0 y38 c38_0), (87, vi (((y38).length : Nat) : Int)), (88, vi ((s53 : Nat) : Int)), (178, vb t92)] ?_
                                            exact hN81 _ (Option.some.inj hS).symm _ _ _ e94 ⟨by kernel_rfl, by kernel_rfl⟩
                                          · intro uu92 hS hN92
                                            refine wpq_split 155 (b := ((List.getD y5 ((List.getD y38 ((IntKind.i64.wrap (((s53 : Nat) : Int) - 1))).toNat 0)).toNat default).level == (List.getD y5 ((List.getD y38 s53 0)).toNat default).level)) (by kernel_rfl) (fun q95 => ?_) (fun q95 => ?_)
                                            · have hS := cond_T q95 hS
                                              have q95p : (List.getD y5 ((List.getD y38 ((IntKind.i64.wrap (((s53 : Nat) : Int) - 1))).toNat 0)).toNat default).level = (List.getD y5 ((List.getD y38 s53 0)).toNat default).level := eq_of_beq q95
                                              have h35_0 := h35_0.mono (e40.trans (e43.trans (e46.trans (e55.trans (e66.trans e69))))).b
                                              obtain ⟨q97, hS⟩ := grd_T hS
                                              have q97p := of_decide_eq_true q97
                                              have i98 : ((List.getD y38 ((IntKind.i64.wrap (((s53 : Nat) : Int) - 1))).toNat 0)).toNat < 16 := by omega
                                              have i99 : ((List.getD y38 ((IntKind.i64.wrap (((s53 : Nat) : Int) - 1))).toNat 0)).toNat < (t35).length := by omega
                                              obtain ⟨kc96, cs96, hA96, hk96, hr96, hw96⟩ := h35_0.open_ i99 0
                                              obtain ⟨kb96, rfl⟩ : ∃ z, z = kc96 := ⟨_, rfl⟩
                                              subst hk96
                                              have hr96 : cs96 = [vi (List.getD t35 ((List.getD y38 ((IntKind.i64.wrap (((s53 : Nat) : Int) - 1))).toNat 0)).toNat 0)] := hr96
                                              subst hr96
                                              refine xT 22 [24] [] [some 0, some 2, some 6] [(0, vs Aacts acts cacts), (3, vs A5_0 y5 c5_0), (4, vp bd18 0), (6, vp b13 0), (7, vi ((s21.1 : Nat) : Int)), (9, vs A38_0 y38 c38_0), (10, vs A41_0 y41 c41_0), (12, vi (List.getD y38 s53 0)), (13, vi (List.getD y38 ((IntKind.i64.wrap (((s53 : Nat) : Int) - 1))).toNat 0)), (86, vs A38_0 y38 c38_0), (87, vi (((y38).length : Nat) : Int)), (88, vi ((s53 : Nat) : Int)), (143, vb false), (155, vb true), (156, vi (List.getD y38 ((IntKind.i64.wrap (((s53 : Nat) : Int) - 1))).toNat 0))] RG (Psi.le.refl _) ?_
                                              refine xTp 25 RG (fun _ => (qIxRA ((List.getD y38 ((IntKind.i64.wrap (((s53 : Nat) : Int) - 1))).toNat 0)).toNat 1 kb96.g hA96 (show ((List.getD y38 ((IntKind.i64.wrap (((s53 : Nat) : Int) - 1))).toNat 0) : Int) = _ from by omega) i98)) ?_
                                              refine xTv 26 [some 0, some 2, some 6] RG (Psi.le.refl _) (qLdB ((List.getD y38 ((IntKind.i64.wrap (((s53 : Nat) : Int) - 1))).toNat 0)).toNat 1 0 2 hw96) ?_
                                              obtain ⟨q101, hS⟩ := grd_T hS
                                              have q101p := of_decide_eq_true q101
                                              have i102 : ((List.getD y38 s53 0)).toNat < 16 := by omega
                                              have i103 : ((List.getD y38 s53 0)).toNat < (t35).length := by omega
                                              obtain ⟨kc100, cs100, hA100, hk100, hr100, hw100⟩ := h35_0.open_ i103 0
                                              cases hk100
                                              have hr100 : cs100 = [vi (List.getD t35 ((List.getD y38 s53 0)).toNat 0)] := hr100
                                              subst hr100
                                              refine xT 19 [27] [] [some 0, some 2, some 6] [(0, vs Aacts acts cacts), (3, vs A5_0 y5 c5_0), (4, vp bd18 0), (6, vp b13 0), (7, vi ((s21.1 : Nat) : Int)), (9, vs A38_0 y38 c38_0), (10, vs A41_0 y41 c41_0), (12, vi (List.getD y38 s53 0)), (13, vi (List.getD y38 ((IntKind.i64.wrap (((s53 : Nat) : Int) - 1))).toNat 0)), (86, vs A38_0 y38 c38_0), (87, vi (((y38).length : Nat) : Int)), (88, vi ((s53 : Nat) : Int)), (143, vb false), (155, vb true), (158, vi (List.getD t35 ((List.getD y38 ((IntKind.i64.wrap (((s53 : Nat) : Int) - 1))).toNat 0)).toNat 0)), (159, vi (List.getD y38 s53 0))] RG (Psi.le.refl _) ?_
                                              refine xTp 28 RG (fun _ => (qIxRA ((List.getD y38 s53 0)).toNat 1 kb96.g hA100 (show ((List.getD y38 s53 0) : Int) = _ from by omega) i102)) ?_
                                              refine xTv 29 [some 0, some 2, some 6] RG (Psi.le.refl _) (qLdB ((List.getD y38 s53 0)).toNat 1 0 2 hw100) ?_
                                              refine xT 15 [30, 31] [] [some 0, some 2, some 6] [(0, vs Aacts acts cacts), (3, vs A5_0 y5 c5_0), (4, vp bd18 0), (6, vp b13 0), (7, vi ((s21.1 : Nat) : Int)), (9, vs A38_0 y38 c38_0), (10, vs A41_0 y41 c41_0), (12, vi (List.getD y38 s53 0)), (13, vi (List.getD y38 ((IntKind.i64.wrap (((s53 : Nat) : Int) - 1))).toNat 0)), (86, vs A38_0 y38 c38_0), (87, vi (((y38).length : Nat) : Int)), (88, vi ((s53 : Nat) : Int)), (143, vb false), (155, vb true), (163, vb (decide ((List.getD t35 ((List.getD y38 ((IntKind.i64.wrap (((s53 : Nat) : Int) - 1))).toNat 0)).toNat 0) < (List.getD t35 ((List.getD y38 s53 0)).toNat 0))))] RG (Psi.le.refl _) ?_
                                              refine xGJoA hS 2 [true, true, true, true, true, true, true, true, true, true, true, true, true, true, true, true, true, true, true, true, true, true, true, true, true, true, true, true, true, true, true, true, true, true, true, true, true, true, true, true, true, true, true, true, true, false, false] (fun g own sl t104 => own = [some ⟨bd18, 71, (cBoard y32.1 A32_b_defs c32_b_defs A32_b_conds c32_b_conds)⟩, none, (some kb75), (some kb61), k41_0, k32_b_conds, (some kb96)] ∧ sl = [(0, vs Aacts acts cacts), (3, vs A5_0 y5 c5_0), (4, vp bd18 0), (6, vp b13 0), (7, vi ((s21.1 : Nat) : Int)), (9, vs A38_0 y38 c38_0), (10, vs A41_0 y41 c41_0), (86, vs A38_0 y38 c38_0), (87, vi (((y38).length : Nat) : Int)), (88, vi ((s53 : Nat) : Int)), (143, vb false), (155, vb true), (176, vb t104)]) ?_ ?_
                                              · rintro g105 _ _ t104 e106 ⟨rfl, rfl⟩ hS
                                                refine xT 1 [45] [] [some 0, some 2, some 6] [(0, vs Aacts acts cacts), (3, vs A5_0 y5 c5_0), (4, vp bd18 0), (6, vp b13 0), (7, vi ((s21.1 : Nat) : Int)), (9, vs A38_0 y38 c38_0), (10, vs A41_0 y41 c41_0), (86, vs A38_0 y38 c38_0), (87, vi (((y38).length : Nat) : Int)), (88, vi ((s53 : Nat) : Int)), (143, vb false), (177, vb t104)] RG e106.r ?_
                                                refine xSel [some 0, none, some 2, some 3, some 4, some 5, some 6] ?_
                                                refine xSub [(0, vs Aacts acts cacts), (3, vs A5_0 y5 c5_0), (4, vp bd18 0), (6, vp b13 0), (7, vi ((s21.1 : Nat) : Int)), (9, vs A38_0 y38 c38_0), (10, vs A41_0 y41 c41_0), (86, vs A38_0 y38 c38_0), (87, vi (((y38).length : Nat) : Int)), (88, vi ((s53 : Nat) : Int)), (143, vb false), (177, vb t104)] ?_
                                                exact hN92 _ (Option.some.inj hS).symm _ _ _ e106 ⟨by kernel_rfl, by kernel_rfl⟩
                                              · intro uu104 hS hN104
                                                refine wpq_split 163 (b := decide ((List.getD t35 ((List.getD y38 ((IntKind.i64.wrap (((s53 : Nat) : Int) - 1))).toNat 0)).toNat 0) < (List.getD t35 ((List.getD y38 s53 0)).toNat 0))) (by kernel_rfl) (fun q107 => ?_) (fun q107 => ?_)
                                                · have hS := cond_T q107 hS
                                                  have q107p := of_decide_eq_true q107
                                                  refine xT 2 [32, 33, 34, 35, 36, 37, 38, 39, 40, 41, 42, 43, 44] [] [some 0, some 2, some 6] [(0, vs Aacts acts cacts), (3, vs A5_0 y5 c5_0), (4, vp bd18 0), (6, vp b13 0), (7, vi ((s21.1 : Nat) : Int)), (9, vs A38_0 y38 c38_0), (10, vs A41_0 y41 c41_0), (86, vs A38_0 y38 c38_0), (87, vi (((y38).length : Nat) : Int)), (88, vi ((s53 : Nat) : Int)), (143, vb false), (155, vb true), (176, vb true)] RG (Psi.le.refl _) ?_
                                                  refine xSel [some 0, none, some 2, some 3, some 4, some 5, some 6] ?_
                                                  refine xSub [(0, vs Aacts acts cacts), (3, vs A5_0 y5 c5_0), (4, vp bd18 0), (6, vp b13 0), (7, vi ((s21.1 : Nat) : Int)), (9, vs A38_0 y38 c38_0), (10, vs A41_0 y41 c41_0), (86, vs A38_0 y38 c38_0), (87, vi (((y38).length : Nat) : Int)), (88, vi ((s53 : Nat) : Int)), (143, vb false), (155, vb true), (176, vb true)] ?_
                                                  exact hN104 _ (Option.some.inj hS).symm _ _ _ (Gh.le.refl _) ⟨by kernel_rfl, by kernel_rfl⟩
                                                · have hS := cond_F q107 hS
                                                  have q107p := of_decide_eq_false q107
                                                  obtain ⟨q109, hS⟩ := grd_T hS
                                                  have q109p := of_decide_eq_true q109
                                                  have i110 : ((List.getD y38 ((IntKind.i64.wrap (((s53 : Nat) : Int) - 1))).toNat 0)).toNat < 16 := by omega
                                                  have i111 : ((List.getD y38 ((IntKind.i64.wrap (((s53 : Nat) : Int) - 1))).toNat 0)).toNat < (t35).length := by omega
                                                  obtain ⟨kc108, cs108, hA108, hk108, hr108, hw108⟩ := h35_0.open_ i111 0
                                                  cases hk108
                                                  have hr108 : cs108 = [vi (List.getD t35 ((List.getD y38 ((IntKind.i64.wrap (((s53 : Nat) : Int) - 1))).toNat 0)).toNat 0)] := hr108
                                                  subst hr108
                                                  refine xT 14 [32] [] [some 0, some 2, some 6] [(0, vs Aacts acts cacts), (3, vs A5_0 y5 c5_0), (4, vp bd18 0), (6, vp b13 0), (7, vi ((s21.1 : Nat) : Int)), (9, vs A38_0 y38 c38_0), (10, vs A41_0 y41 c41_0), (12, vi (List.getD y38 s53 0)), (13, vi (List.getD y38 ((IntKind.i64.wrap (((s53 : Nat) : Int) - 1))).toNat 0)), (86, vs A38_0 y38 c38_0), (87, vi (((y38).length : Nat) : Int)), (88, vi ((s53 : Nat) : Int)), (143, vb false), (155, vb true), (163, vb false), (164, vi (List.getD y38 ((IntKind.i64.wrap (((s53 : Nat) : Int) - 1))).toNat 0))] RG (Psi.le.refl _) ?_
                                                  refine xTp 33 RG (fun _ => (qIxRA ((List.getD y38 ((IntKind.i64.wrap (((s53 : Nat) : Int) - 1))).toNat 0)).toNat 1 kb96.g hA108 (show ((List.getD y38 ((IntKind.i64.wrap (((s53 : Nat) : Int) - 1))).toNat 0) : Int) = _ from by omega) i110)) ?_
                                                  refine xTv 34 [some 0, some 2, some 6] RG (Psi.le.refl _) (qLdB ((List.getD y38 ((IntKind.i64.wrap (((s53 : Nat) : Int) - 1))).toNat 0)).toNat 1 0 2 hw108) ?_
                                                  obtain ⟨q113, hS⟩ := grd_T hS
                                                  have q113p := of_decide_eq_true q113
                                                  have i114 : ((List.getD y38 s53 0)).toNat < 16 := by omega
                                                  have i115 : ((List.getD y38 s53 0)).toNat < (t35).length := by omega
                                                  obtain ⟨kc112, cs112, hA112, hk112, hr112, hw112⟩ := h35_0.open_ i115 0
                                                  cases hk112
                                                  have hr112 : cs112 = [vi (List.getD t35 ((List.getD y38 s53 0)).toNat 0)] := hr112
                                                  subst hr112
                                                  refine xT 11 [35] [] [some 0, some 2, some 6] [(0, vs Aacts acts cacts), (3, vs A5_0 y5 c5_0), (4, vp bd18 0), (6, vp b13 0), (7, vi ((s21.1 : Nat) : Int)), (9, vs A38_0 y38 c38_0), (10, vs A41_0 y41 c41_0), (12, vi (List.getD y38 s53 0)), (13, vi (List.getD y38 ((IntKind.i64.wrap (((s53 : Nat) : Int) - 1))).toNat 0)), (86, vs A38_0 y38 c38_0), (87, vi (((y38).length : Nat) : Int)), (88, vi ((s53 : Nat) : Int)), (143, vb false), (155, vb true), (163, vb false), (166, vi (List.getD t35 ((List.getD y38 ((IntKind.i64.wrap (((s53 : Nat) : Int) - 1))).toNat 0)).toNat 0)), (167, vi (List.getD y38 s53 0))] RG (Psi.le.refl _) ?_
                                                  refine xTp 36 RG (fun _ => (qIxRA ((List.getD y38 s53 0)).toNat 1 kb96.g hA112 (show ((List.getD y38 s53 0) : Int) = _ from by omega) i114)) ?_
                                                  refine xTv 37 [some 0, some 2, some 6] RG (Psi.le.refl _) (qLdB ((List.getD y38 s53 0)).toNat 1 0 2 hw112) ?_
                                                  refine xT 7 [38, 39] [] [some 0, some 2, some 6] [(0, vs Aacts acts cacts), (3, vs A5_0 y5 c5_0), (4, vp bd18 0), (6, vp b13 0), (7, vi ((s21.1 : Nat) : Int)), (9, vs A38_0 y38 c38_0), (10, vs A41_0 y41 c41_0), (12, vi (List.getD y38 s53 0)), (13, vi (List.getD y38 ((IntKind.i64.wrap (((s53 : Nat) : Int) - 1))).toNat 0)), (86, vs A38_0 y38 c38_0), (87, vi (((y38).length : Nat) : Int)), (88, vi ((s53 : Nat) : Int)), (143, vb false), (155, vb true), (163, vb false), (171, vb ((List.getD t35 ((List.getD y38 ((IntKind.i64.wrap (((s53 : Nat) : Int) - 1))).toNat 0)).toNat 0) == (List.getD t35 ((List.getD y38 s53 0)).toNat 0)))] RG (Psi.le.refl _) ?_
                                                  refine wpa_grp 3 [true, true, true, true, true, true, true, true, true, true, true, true, true, true, true, true, true, true, true, true, true, true, true, true, true, true, true, true, true, true, true, true, true, true, true, true, true, true, true, true, true, true, true, true, false, false, false] [(0, vs Aacts acts cacts), (3, vs A5_0 y5 c5_0), (4, vp bd18 0), (6, vp b13 0), (7, vi ((s21.1 : Nat) : Int)), (9, vs A38_0 y38 c38_0), (10, vs A41_0 y41 c41_0), (86, vs A38_0 y38 c38_0), (87, vi (((y38).length : Nat) : Int)), (88, vi ((s53 : Nat) : Int)), (143, vb false), (155, vb true), (163, vb false), (175, vb (((List.getD t35 ((List.getD y38 ((IntKind.i64.wrap (((s53 : Nat) : Int) - 1))).toNat 0)).toNat 0) == (List.getD t35 ((List.getD y38 s53 0)).toNat 0)) && decide ((List.getD y38 ((IntKind.i64.wrap (((s53 : Nat) : Int) - 1))).toNat 0) ≥ (List.getD y38 s53 0))))] (fun hk39 => ?_) ?_
                                                  · refine wpq_split 171 (b := ((List.getD t35 ((List.getD y38 ((IntKind.i64.wrap (((s53 : Nat) : Int) - 1))).toNat 0)).toNat 0) == (List.getD t35 ((List.getD y38 s53 0)).toNat 0))) (by kernel_rfl) (fun q116 => ?_) (fun q116 => ?_)
                                                    · have q116p : (List.getD t35 ((List.getD y38 ((IntKind.i64.wrap (((s53 : Nat) : Int) - 1))).toNat 0)).toNat 0) = (List.getD t35 ((List.getD y38 s53 0)).toNat 0) := eq_of_beq q116
                                                      refine xT 3 [40, 41, 42, 43] [] [some 0, some 2, some 6] [(0, vs Aacts acts cacts), (3, vs A5_0 y5 c5_0), (4, vp bd18 0), (6, vp b13 0), (7, vi ((s21.1 : Nat) : Int)), (9, vs A38_0 y38 c38_0), (10, vs A41_0 y41 c41_0), (86, vs A38_0 y38 c38_0), (87, vi (((y38).length : Nat) : Int)), (88, vi ((s53 : Nat) : Int)), (143, vb false), (155, vb true), (163, vb false), (175, vb (decide ((List.getD y38 ((IntKind.i64.wrap (((s53 : Nat) : Int) - 1))).toNat 0) ≥ (List.getD y38 s53 0))))] RG (Psi.le.refl _) ?_
                                                      refine wpq_re 175 (v := vb (decide ((List.getD y38 ((IntKind.i64.wrap (((s53 : Nat) : Int) - 1))).toNat 0) ≥ (List.getD y38 s53 0)))) (Value.bool ((((List.getD t35 ((List.getD y38 ((IntKind.i64.wrap (((s53 : Nat) : Int) - 1))).toNat 0)).toNat 0) == (List.getD t35 ((List.getD y38 s53 0)).toNat 0)) && decide ((List.getD y38 ((IntKind.i64.wrap (((s53 : Nat) : Int) - 1))).toNat 0) ≥ (List.getD y38 s53 0))))) (by kernel_rfl) (re_and1 q116) ?_
                                                      exact wpq_sub _ (by kernel_rfl) hk39
                                                    · have q116p : ¬ ((List.getD t35 ((List.getD y38 ((IntKind.i64.wrap (((s53 : Nat) : Int) - 1))).toNat 0)).toNat 0) = (List.getD t35 ((List.getD y38 s53 0)).toNat 0)) := ne_of_beq_false_ q116
                                                      refine xT 3 [40, 41, 42, 43] [] [some 0, some 2, some 6] [(0, vs Aacts acts cacts), (3, vs A5_0 y5 c5_0), (4, vp bd18 0), (6, vp b13 0), (7, vi ((s21.1 : Nat) : Int)), (9, vs A38_0 y38 c38_0), (10, vs A41_0 y41 c41_0), (86, vs A38_0 y38 c38_0), (87, vi (((y38).length : Nat) : Int)), (88, vi ((s53 : Nat) : Int)), (143, vb false), (155, vb true), (163, vb false), (175, vb false)] RG (Psi.le.refl _) ?_
                                                      refine wpq_re 175 (v := vb false) (Value.bool ((((List.getD t35 ((List.getD y38 ((IntKind.i64.wrap (((s53 : Nat) : Int) - 1))).toNat 0)).toNat 0) == (List.getD t35 ((List.getD y38 s53 0)).toNat 0)) && decide ((List.getD y38 ((IntKind.i64.wrap (((s53 : Nat) : Int) - 1))).toNat 0) ≥ (List.getD y38 s53 0))))) (by kernel_rfl) (re_and0 q116) ?_
                                                      exact wpq_sub _ (by kernel_rfl) hk39
                                                  · refine xT 2 [44] [] [some 0, some 2, some 6] [(0, vs Aacts acts cacts), (3, vs A5_0 y5 c5_0), (4, vp bd18 0), (6, vp b13 0), (7, vi ((s21.1 : Nat) : Int)), (9, vs A38_0 y38 c38_0), (10, vs A41_0 y41 c41_0), (86, vs A38_0 y38 c38_0), (87, vi (((y38).length : Nat) : Int)), (88, vi ((s53 : Nat) : Int)), (143, vb false), (155, vb true), (176, vb (((List.getD t35 ((List.getD y38 ((IntKind.i64.wrap (((s53 : Nat) : Int) - 1))).toNat 0)).toNat 0) == (List.getD t35 ((List.getD y38 s53 0)).toNat 0)) && decide ((List.getD y38 ((IntKind.i64.wrap (((s53 : Nat) : Int) - 1))).toNat 0) ≥ (List.getD y38 s53 0))))] RG (Psi.le.refl _) ?_
                                                    refine xSel [some 0, none, some 2, some 3, some 4, some 5, some 6] ?_
                                                    refine xSub [(0, vs Aacts acts cacts), (3, vs A5_0 y5 c5_0), (4, vp bd18 0), (6, vp b13 0), (7, vi ((s21.1 : Nat) : Int)), (9, vs A38_0 y38 c38_0), (10, vs A41_0 y41 c41_0), (86, vs A38_0 y38 c38_0), (87, vi (((y38).length : Nat) : Int)), (88, vi ((s53 : Nat) : Int)), (143, vb false), (155, vb true), (176, vb (((List.getD t35 ((List.getD y38 ((IntKind.i64.wrap (((s53 : Nat) : Int) - 1))).toNat 0)).toNat 0) == (List.getD t35 ((List.getD y38 s53 0)).toNat 0)) && decide ((List.getD y38 ((IntKind.i64.wrap (((s53 : Nat) : Int) - 1))).toNat 0) ≥ (List.getD y38 s53 0))))] ?_
                                                    exact hN104 _ (Option.some.inj hS).symm _ _ _ (Gh.le.refl _) ⟨by kernel_rfl, by kernel_rfl⟩
                                            · have hS := cond_F q95 hS
                                              have q95p : ¬ ((List.getD y5 ((List.getD y38 ((IntKind.i64.wrap (((s53 : Nat) : Int) - 1))).toNat 0)).toNat default).level = (List.getD y5 ((List.getD y38 s53 0)).toNat default).level) := ne_of_beq_false_ q95
                                              refine xT 1 [24, 25, 26, 27, 28, 29, 30, 31, 32, 33, 34, 35, 36, 37, 38, 39, 40, 41, 42, 43, 44, 45] [] [some 0, some 2, some 6] [(0, vs Aacts acts cacts), (3, vs A5_0 y5 c5_0), (4, vp bd18 0), (6, vp b13 0), (7, vi ((s21.1 : Nat) : Int)), (9, vs A38_0 y38 c38_0), (10, vs A41_0 y41 c41_0), (86, vs A38_0 y38 c38_0), (87, vi (((y38).length : Nat) : Int)), (88, vi ((s53 : Nat) : Int)), (143, vb false), (177, vb false)] RG (Psi.le.refl _) ?_
                                              refine xSel [some 0, none, some 2, some 3, some 4, some 5, some 6] ?_
                                              refine xSub [(0, vs Aacts acts cacts), (3, vs A5_0 y5 c5_0), (4, vp bd18 0), (6, vp b13 0), (7, vi ((s21.1 : Nat) : Int)), (9, vs A38_0 y38 c38_0), (10, vs A41_0 y41 c41_0), (86, vs A38_0 y38 c38_0), (87, vi (((y38).length : Nat) : Int)), (88, vi ((s53 : Nat) : Int)), (143, vb false), (177, vb false)] ?_
                                              exact hN92 _ (Option.some.inj hS).symm _ _ _ (Gh.le.refl _) ⟨by kernel_rfl, by kernel_rfl⟩
                                · intro uu67 hS hN67
                                  refine wpq_split 111 (b := t64) (by kernel_rfl) (fun q117 => ?_) (fun q117 => ?_)
                                  · have hS := cond_T q117 hS
                                    refine xT 4 [19, 20, 21, 22, 24, 25, 26, 27, 28] [] [some 2, some 4] [(0, vs Aacts acts cacts), (3, vs A5_0 y5 c5_0), (4, vp bd18 0), (6, vp b13 0), (7, vi ((s21.1 : Nat) : Int)), (9, vs A38_0 y38 c38_0), (10, vs A41_0 y41 c41_0), (11, vi ((s53 : Nat) : Int)), (12, vi (List.getD y38 s53 0)), (86, vs A38_0 y38 c38_0), (87, vi (((y38).length : Nat) : Int)), (88, vi ((s53 : Nat) : Int)), (111, vb true), (114, undef), (115, undef), (121, undef)] RG e66.r ?_
                                    refine xO1 (lds := [10, 15, 28]) 23 ?_
                                    refine xIb (lds := [10, 15, 28]) [] ?_
                                    refine xT 0 [29, 30, 31] [] [some 2, some 4] [(0, vs Aacts acts cacts), (3, vs A5_0 y5 c5_0), (4, vp bd18 0), (6, vp b13 0), (7, vi ((s21.1 : Nat) : Int)), (9, vs A38_0 y38 c38_0), (10, vs A41_0 y41 c41_0), (11, vi ((s53 : Nat) : Int)), (12, vi (List.getD y38 s53 0)), (86, vs A38_0 y38 c38_0), (87, vi (((y38).length : Nat) : Int)), (88, vi ((s53 : Nat) : Int)), (124, vb true)] RG e66.r ?_
                                    refine xSel [some 0, none, some 2, some 3, some 4, some 5, some 6] ?_
                                    refine xSub [(0, vs Aacts acts cacts), (3, vs A5_0 y5 c5_0), (4, vp bd18 0), (6, vp b13 0), (7, vi ((s21.1 : Nat) : Int)), (9, vs A38_0 y38 c38_0), (10, vs A41_0 y41 c41_0), (11, vi ((s53 : Nat) : Int)), (12, vi (List.getD y38 s53 0)), (86, vs A38_0 y38 c38_0), (87, vi (((y38).length : Nat) : Int)), (88, vi ((s53 : Nat) : Int)), (124, vb true)] ?_
                                    exact hN67 _ (Option.some.inj hS).symm _ _ _ (Gh.le.refl _) ⟨by kernel_rfl, by kernel_rfl⟩
                                  · have hS := cond_F q117 hS
                                    refine xT 10 [19, 20, 21] [] [some 2, some 4] [(0, vs Aacts acts cacts), (3, vs A5_0 y5 c5_0), (4, vp bd18 0), (6, vp b13 0), (7, vi ((s21.1 : Nat) : Int)), (9, vs A38_0 y38 c38_0), (10, vs A41_0 y41 c41_0), (11, vi ((s53 : Nat) : Int)), (12, vi (List.getD y38 s53 0)), (86, vs A38_0 y38 c38_0), (87, vi (((y38).length : Nat) : Int)), (88, vi ((s53 : Nat) : Int)), (111, vb false), (114, vb (((s53 : Nat) : Int) == 0))] RG e66.r ?_
                                    refine xGJoA hS 1 [true, true, true, true, true, true, true, true, true, true, true, true, true, true, true, true, true, true, true, true, true, true, true, true, true, true, true, true, true, true, true, false] (fun g own sl t118 => own = [some ⟨bd18, 71, (cBoard y32.1 A32_b_defs c32_b_defs A32_b_conds c32_b_conds)⟩, none, k5_0, (some kb61), k41_0, k32_b_conds, k35_0] ∧ sl = [(0, vs Aacts acts cacts), (3, vs A5_0 y5 c5_0), (4, vp bd18 0), (6, vp b13 0), (7, vi ((s21.1 : Nat) : Int)), (9, vs A38_0 y38 c38_0), (10, vs A41_0 y41 c41_0), (11, vi ((s53 : Nat) : Int)), (12, vi (List.getD y38 s53 0)), (86, vs A38_0 y38 c38_0), (87, vi (((y38).length : Nat) : Int)), (88, vi ((s53 : Nat) : Int)), (111, vb false), (123, vb t118)]) ?_ ?_
                                    · rintro g119 _ _ t118 e120 ⟨rfl, rfl⟩ hS
                                      refine xT 0 [31] [] [some 2, some 4] [(0, vs Aacts acts cacts), (3, vs A5_0 y5 c5_0), (4, vp bd18 0), (6, vp b13 0), (7, vi ((s21.1 : Nat) : Int)), (9, vs A38_0 y38 c38_0), (10, vs A41_0 y41 c41_0), (11, vi ((s53 : Nat) : Int)), (12, vi (List.getD y38 s53 0)), (86, vs A38_0 y38 c38_0), (87, vi (((y38).length : Nat) : Int)), (88, vi ((s53 : Nat) : Int)), (124, vb t118)] RG (e66.trans e120).r ?_
                                      refine xSel [some 0, none, some 2, some 3, some 4, some 5, some 6] ?_
                                      refine xSub [(0, vs Aacts acts cacts), (3, vs A5_0 y5 c5_0), (4, vp bd18 0), (6, vp b13 0), (7, vi ((s21.1 : Nat) : Int)), (9, vs A38_0 y38 c38_0), (10, vs A41_0 y41 c41_0), (11, vi ((s53 : Nat) : Int)), (12, vi (List.getD y38 s53 0)), (86, vs A38_0 y38 c38_0), (87, vi (((y38).length : Nat) : Int)), (88, vi ((s53 : Nat) : Int)), (124, vb t118)] ?_
                                      exact hN67 _ (Option.some.inj hS).symm _ _ _ e120 ⟨by kernel_rfl, by kernel_rfl⟩
                                    · intro uu118 hS hN118
                                      refine wpq_split 114 (b := (((s53 : Nat) : Int) == 0)) (by kernel_rfl) (fun q121 => ?_) (fun q121 => ?_)
                                      · have hS := cond_T q121 hS
                                        have q121p : ((s53 : Nat) : Int) = 0 := eq_of_beq q121
                                        have h5_0 := h5_0.mono (e10.trans (e23.trans (e34.trans (e37.trans (e40.trans (e43.trans (e46.trans e55))))))).b
                                        obtain ⟨q123, hS⟩ := grd_T hS
                                        have q123p := of_decide_eq_true q123
                                        have i124 : ((List.getD y38 s53 0)).toNat < (y5).length := by omega
                                        obtain ⟨kc122, cs122, hA122, hk122, hr122, hw122⟩ := h5_0.open_ i124 default
                                        obtain ⟨kb122, rfl⟩ : ∃ z, z = kc122 := ⟨_, rfl⟩
                                        subst hk122
                                        obtain ⟨rfl⟩ := hr122
                                        refine xT 7 [22, 24, 25] [] [some 2, some 4] [(0, vs Aacts acts cacts), (3, vs A5_0 y5 c5_0), (4, vp bd18 0), (6, vp b13 0), (7, vi ((s21.1 : Nat) : Int)), (9, vs A38_0 y38 c38_0), (10, vs A41_0 y41 c41_0), (11, vi ((s53 : Nat) : Int)), (12, vi (List.getD y38 s53 0)), (86, vs A38_0 y38 c38_0), (87, vi (((y38).length : Nat) : Int)), (88, vi ((s53 : Nat) : Int)), (111, vb false), (114, vb true), (115, vp bd18 0), (117, vs A5_0 y5 c5_0), (118, vi (List.getD y38 s53 0))] RG e66.r ?_
                                        refine xTp 26 RG (fun _ => (qIxB ((List.getD y38 s53 0)).toNat 3 kb122.g hA122 (show ((List.getD y38 s53 0) : Int) = _ from by omega) i124)) ?_
                                        refine xT 5 [27] [] [some 2, some 4] [(0, vs Aacts acts cacts), (3, vs A5_0 y5 c5_0), (4, vp bd18 0), (6, vp b13 0), (7, vi ((s21.1 : Nat) : Int)), (9, vs A38_0 y38 c38_0), (10, vs A41_0 y41 c41_0), (11, vi ((s53 : Nat) : Int)), (12, vi (List.getD y38 s53 0)), (86, vs A38_0 y38 c38_0), (87, vi (((y38).length : Nat) : Int)), (88, vi ((s53 : Nat) : Int)), (111, vb false), (114, vb true), (115, vp bd18 0), (120, Value.pointer (some ⟨kb122.g, ((List.getD y38 s53 0)).toNat * 3 + 1, none⟩))] RG e66.r ?_
                                        refine xTv 28 [some 2, some 4] RG e66.r (qLdB ((List.getD y38 s53 0)).toNat 3 1 0 hw122) ?_
                                        have f32_b_defs := f32_b_defs.mono (e43.trans (e46.trans (e55.trans e66))).b
                                        have h32_b_conds := h32_b_conds.mono (e43.trans (e46.trans (e55.trans e66))).b
                                        obtain ⟨y125, hy125, hS⟩ := bindO_T hS
                                        refine xO1 (lds := [10, 15, 28]) 23 ?_
                                        refine xIe (lds := [10, 15, 28]) e66.r (eC 0 (fun g' lr eb ln => c21 g' ⟨bd18, 0, none⟩ y32.1 A32_b_defs c32_b_defs A32_b_conds c32_b_conds (cells_lent' 0 bd18 0 (cBoard y32.1 A32_b_defs c32_b_defs A32_b_conds c32_b_conds) ln) ((f32_b_defs.mono g65.br).mono lr) (arrm_of_buf h32_b_conds eb (lentk 5 (by kernel_rfl) ln)) hy125)) ?_
                                        rintro _ g126 _ e127 ⟨_, rfl, rfl, rfl⟩
                                        refine kk [some 2, some 4] ?_
                                        refine xT 1 [29, 30] [] [some 2, some 4] [(0, vs Aacts acts cacts), (3, vs A5_0 y5 c5_0), (4, vp bd18 0), (6, vp b13 0), (7, vi ((s21.1 : Nat) : Int)), (9, vs A38_0 y38 c38_0), (10, vs A41_0 y41 c41_0), (11, vi ((s53 : Nat) : Int)), (12, vi (List.getD y38 s53 0)), (86, vs A38_0 y38 c38_0), (87, vi (((y38).length : Nat) : Int)), (88, vi ((s53 : Nat) : Int)), (111, vb false), (123, vb (y125 != (List.getD y5 ((List.getD y38 s53 0)).toNat default).level))] RG (e66.trans e127).r ?_
                                        refine xSel [some 0, none, some 2, some 3, some 4, some 5, some 6] ?_
                                        refine xSub [(0, vs Aacts acts cacts), (3, vs A5_0 y5 c5_0), (4, vp bd18 0), (6, vp b13 0), (7, vi ((s21.1 : Nat) : Int)), (9, vs A38_0 y38 c38_0), (10, vs A41_0 y41 c41_0), (11, vi ((s53 : Nat) : Int)), (12, vi (List.getD y38 s53 0)), (86, vs A38_0 y38 c38_0), (87, vi (((y38).length : Nat) : Int)), (88, vi ((s53 : Nat) : Int)), (111, vb false), (123, vb (y125 != (List.getD y5 ((List.getD y38 s53 0)).toNat default).level))] ?_
                                        exact hN118 _ (Option.some.inj hS).symm _ _ _ e127 ⟨by kernel_rfl, by kernel_rfl⟩
                                      · have hS := cond_F q121 hS
                                        have q121p : ¬ (((s53 : Nat) : Int) = 0) := ne_of_beq_false_ q121
                                        refine xT 4 [22, 24, 25, 26, 27, 28] [] [some 2, some 4] [(0, vs Aacts acts cacts), (3, vs A5_0 y5 c5_0), (4, vp bd18 0), (6, vp b13 0), (7, vi ((s21.1 : Nat) : Int)), (9, vs A38_0 y38 c38_0), (10, vs A41_0 y41 c41_0), (11, vi ((s53 : Nat) : Int)), (12, vi (List.getD y38 s53 0)), (86, vs A38_0 y38 c38_0), (87, vi (((y38).length : Nat) : Int)), (88, vi ((s53 : Nat) : Int)), (111, vb false), (114, vb false), (115, undef), (121, undef)] RG e66.r ?_
                                        refine xO1 (lds := [10, 15, 28]) 23 ?_
                                        refine xIb (lds := [10, 15, 28]) [] ?_
                                        refine xT 1 [29, 30] [] [some 2, some 4] [(0, vs Aacts acts cacts), (3, vs A5_0 y5 c5_0), (4, vp bd18 0), (6, vp b13 0), (7, vi ((s21.1 : Nat) : Int)), (9, vs A38_0 y38 c38_0), (10, vs A41_0 y41 c41_0), (11, vi ((s53 : Nat) : Int)), (12, vi (List.getD y38 s53 0)), (86, vs A38_0 y38 c38_0), (87, vi (((y38).length : Nat) : Int)), (88, vi ((s53 : Nat) : Int)), (111, vb false), (123, vb false)] RG e66.r ?_
                                        refine xSel [some 0, none, some 2, some 3, some 4, some 5, some 6] ?_
                                        refine xSub [(0, vs Aacts acts cacts), (3, vs A5_0 y5 c5_0), (4, vp bd18 0), (6, vp b13 0), (7, vi ((s21.1 : Nat) : Int)), (9, vs A38_0 y38 c38_0), (10, vs A41_0 y41 c41_0), (11, vi ((s53 : Nat) : Int)), (12, vi (List.getD y38 s53 0)), (86, vs A38_0 y38 c38_0), (87, vi (((y38).length : Nat) : Int)), (88, vi ((s53 : Nat) : Int)), (111, vb false), (123, vb false)] ?_
                                        exact hN118 _ (Option.some.inj hS).symm _ _ _ (Gh.le.refl _) ⟨by kernel_rfl, by kernel_rfl⟩
                              · intro uu64 hS hN64
                                refine wpq_split 99 (b := (decide ((List.getD y38 s53 0) < 0) || decide ((List.getD y38 s53 0) > 15))) (by kernel_rfl) (fun q128 => ?_) (fun q128 => ?_)
                                · have hS := cond_T q128 hS
                                  refine xT 14 [7, 8, 9, 10, 11, 12, 13, 14, 15, 16, 17] [] [some 2, some 4] [(0, vs Aacts acts cacts), (3, vs A5_0 y5 c5_0), (4, vp bd18 0), (6, vp b13 0), (7, vi ((s21.1 : Nat) : Int)), (9, vs A38_0 y38 c38_0), (10, vs A41_0 y41 c41_0), (11, vi ((s53 : Nat) : Int)), (12, vi (List.getD y38 s53 0)), (86, vs A38_0 y38 c38_0), (87, vi (((y38).length : Nat) : Int)), (88, vi ((s53 : Nat) : Int)), (110, vb true)] RG (Psi.le.refl _) ?_
                                  refine xSel [some 0, none, some 2, some 3, some 4, some 5, some 6] ?_
                                  refine xSub [(0, vs Aacts acts cacts), (3, vs A5_0 y5 c5_0), (4, vp bd18 0), (6, vp b13 0), (7, vi ((s21.1 : Nat) : Int)), (9, vs A38_0 y38 c38_0), (10, vs A41_0 y41 c41_0), (11, vi ((s53 : Nat) : Int)), (12, vi (List.getD y38 s53 0)), (86, vs A38_0 y38 c38_0), (87, vi (((y38).length : Nat) : Int)), (88, vi ((s53 : Nat) : Int)), (110, vb true)] ?_
                                  exact hN64 _ (Option.some.inj hS).symm _ _ _ (Gh.le.refl _) ⟨by kernel_rfl, by kernel_rfl⟩
                                · have hS := cond_F q128 hS
                                  have q128l := (or_false_ q128).1
                                  have q128r := (or_false_ q128).2
                                  have q128lp := of_decide_eq_false q128l
                                  have q128rp := of_decide_eq_false q128r
                                  have h41_0 := h41_0.mono (e46.trans e55).b
                                  obtain ⟨q130, hS⟩ := grd_T hS
                                  have q130p := of_decide_eq_true q130
                                  obtain ⟨kc129, cs129, hA129, hk129, hr129, hw129⟩ := h41_0.open_ q130p []
                                  obtain ⟨kb129, rfl⟩ : ∃ z, z = kc129 := ⟨_, rfl⟩
                                  subst hk129
                                  have hr129 : cs129 = [vt (List.getD y41 s53 [])] := hr129
                                  subst hr129
                                  refine xT 23 [7, 8] [] [some 2, some 4] [(0, vs Aacts acts cacts), (3, vs A5_0 y5 c5_0), (4, vp bd18 0), (6, vp b13 0), (7, vi ((s21.1 : Nat) : Int)), (9, vs A38_0 y38 c38_0), (10, vs A41_0 y41 c41_0), (11, vi ((s53 : Nat) : Int)), (12, vi (List.getD y38 s53 0)), (86, vs A38_0 y38 c38_0), (87, vi (((y38).length : Nat) : Int)), (88, vi ((s53 : Nat) : Int)), (99, vb false), (100, vs A41_0 y41 c41_0), (101, vi ((s53 : Nat) : Int))] RG (Psi.le.refl _) ?_
                                  refine xTp 9 RG (fun _ => (qIxB s53 1 kb129.g hA129 rfl q130p)) ?_
                                  refine xTv 10 [some 2, some 4] RG (Psi.le.refl _) (qLdB s53 1 0 1 hw129) ?_
                                  have h5_0 := h5_0.mono (e10.trans (e23.trans (e34.trans (e37.trans (e40.trans (e43.trans (e46.trans e55))))))).b
                                  obtain ⟨q132, hS⟩ := grd_T hS
                                  have q132p := of_decide_eq_true q132
                                  have i133 : ((List.getD y38 s53 0)).toNat < (y5).length := by omega
                                  obtain ⟨kc131, cs131, hA131, hk131, hr131, hw131⟩ := h5_0.open_ i133 default
                                  obtain ⟨kb131, rfl⟩ : ∃ z, z = kc131 := ⟨_, rfl⟩
                                  subst hk131
                                  obtain ⟨rfl⟩ := hr131
                                  refine xT 19 [11, 12] [] [some 2, some 4] [(0, vs Aacts acts cacts), (3, vs A5_0 y5 c5_0), (4, vp bd18 0), (6, vp b13 0), (7, vi ((s21.1 : Nat) : Int)), (9, vs A38_0 y38 c38_0), (10, vs A41_0 y41 c41_0), (11, vi ((s53 : Nat) : Int)), (12, vi (List.getD y38 s53 0)), (86, vs A38_0 y38 c38_0), (87, vi (((y38).length : Nat) : Int)), (88, vi ((s53 : Nat) : Int)), (99, vb false), (103, vt (List.getD y41 s53 [])), (104, vs A5_0 y5 c5_0), (105, vi (List.getD y38 s53 0))] RG (Psi.le.refl _) ?_
                                  refine xTp 13 RG (fun _ => (qIxB ((List.getD y38 s53 0)).toNat 3 kb131.g hA131 (show ((List.getD y38 s53 0) : Int) = _ from by omega) i133)) ?_
                                  refine xT 17 [14] [] [some 2, some 4] [(0, vs Aacts acts cacts), (3, vs A5_0 y5 c5_0), (4, vp bd18 0), (6, vp b13 0), (7, vi ((s21.1 : Nat) : Int)), (9, vs A38_0 y38 c38_0), (10, vs A41_0 y41 c41_0), (11, vi ((s53 : Nat) : Int)), (12, vi (List.getD y38 s53 0)), (86, vs A38_0 y38 c38_0), (87, vi (((y38).length : Nat) : Int)), (88, vi ((s53 : Nat) : Int)), (99, vb false), (103, vt (List.getD y41 s53 [])), (107, Value.pointer (some ⟨kb131.g, ((List.getD y38 s53 0)).toNat * 3 + 0, none⟩))] RG (Psi.le.refl _) ?_
                                  refine xTv 15 [some 2, some 4] RG (Psi.le.refl _) (qLdB ((List.getD y38 s53 0)).toNat 3 0 0 hw131) ?_
                                  refine xTp 16 RG (fun _ => (qNeS ((List.getD y41 s53 [])) ((List.getD y5 ((List.getD y38 s53 0)).toNat default).name))) ?_
                                  refine xT 14 [17] [] [some 2, some 4] [(0, vs Aacts acts cacts), (3, vs A5_0 y5 c5_0), (4, vp bd18 0), (6, vp b13 0), (7, vi ((s21.1 : Nat) : Int)), (9, vs A38_0 y38 c38_0), (10, vs A41_0 y41 c41_0), (11, vi ((s53 : Nat) : Int)), (12, vi (List.getD y38 s53 0)), (86, vs A38_0 y38 c38_0), (87, vi (((y38).length : Nat) : Int)), (88, vi ((s53 : Nat) : Int)), (110, vb (!((List.getD y41 s53 []) == (List.getD y5 ((List.getD y38 s53 0)).toNat default).name)))] RG (Psi.le.refl _) ?_
                                  refine xSel [some 0, none, some 2, some 3, some 4, some 5, some 6] ?_
                                  refine xSub [(0, vs Aacts acts cacts), (3, vs A5_0 y5 c5_0), (4, vp bd18 0), (6, vp b13 0), (7, vi ((s21.1 : Nat) : Int)), (9, vs A38_0 y38 c38_0), (10, vs A41_0 y41 c41_0), (11, vi ((s53 : Nat) : Int)), (12, vi (List.getD y38 s53 0)), (86, vs A38_0 y38 c38_0), (87, vi (((y38).length : Nat) : Int)), (88, vi ((s53 : Nat) : Int)), (110, vb (!((List.getD y41 s53 []) == (List.getD y5 ((List.getD y38 s53 0)).toNat default).name)))] ?_
                                  exact hN64 _ (Option.some.inj hS).symm _ _ _ (Gh.le.refl _) ⟨by kernel_rfl, by kernel_rfl⟩
                        · have hS := cond_F h56 hS
                          have h56p := of_decide_eq_false h56
                          refine xEx 4 ?_
                          refine wpq_thenX ?_
                          refine wpq_thenX ?_
                          refine wpq_blockE ?_
                          refine xSel [some 0, none, some 2, some 5, some 6] ?_
                          refine xSub [(0, vs Aacts acts cacts), (3, vs A5_0 y5 c5_0), (4, vp bd18 0), (6, vp b13 0), (7, vi ((s21.1 : Nat) : Int))] ?_
                          have eS := (Option.some.inj hS).symm
                          have eS := (hD53 _ eS).symm
                          exact hN48 _ eS _ _ _ e55 ⟨by kernel_rfl, by kernel_rfl⟩
                  · intro uu44 hS hN44
                    refine wpq_split 77 (b := ((((y38).length : Nat) : Int) != (((y41).length : Nat) : Int))) (by kernel_rfl) (fun q134 => ?_) (fun q134 => ?_)
                    · have hS := cond_T q134 hS
                      have q134p : ¬ ((((y38).length : Nat) : Int) = (((y41).length : Nat) : Int)) := ne_of_bne_ q134
                      refine xB 8 [] [(0, vs Aacts acts cacts), (3, vs A5_0 y5 c5_0), (4, vp bd18 0), (6, vp b13 0), (7, vi ((s21.1 : Nat) : Int)), (9, vs A38_0 y38 c38_0), (10, vs A41_0 y41 c41_0), (85, vb true)] ?_
                      refine xSel [some 2, none, some 4, some 1, some 0, some 5, some 6] ?_
                      refine xSub [(0, vs Aacts acts cacts), (3, vs A5_0 y5 c5_0), (4, vp bd18 0), (6, vp b13 0), (7, vi ((s21.1 : Nat) : Int)), (9, vs A38_0 y38 c38_0), (10, vs A41_0 y41 c41_0), (85, vb true)] ?_
                      exact hN44 _ (Option.some.inj hS).symm _ _ _ (Gh.le.refl _) ⟨by kernel_rfl, by kernel_rfl⟩
                    · have hS := cond_F q134 hS
                      have q134p : (((y38).length : Nat) : Int) = (((y41).length : Nat) : Int) := eq_of_bne_false_ q134
                      refine xB 4 [] [(0, vs Aacts acts cacts), (3, vs A5_0 y5 c5_0), (4, vp bd18 0), (6, vp b13 0), (7, vi ((s21.1 : Nat) : Int)), (9, vs A38_0 y38 c38_0), (10, vs A41_0 y41 c41_0), (77, vb false), (80, vb ((((y38).length : Nat) : Int) == 0)), (81, vp bd18 0)] ?_
                      have f32_b_defs := f32_b_defs.mono e43.b
                      have h32_b_conds := h32_b_conds.mono e43.b
                      obtain ⟨y135, hy135, hS⟩ := bindO_T hS
                      refine xE (eC 0 (fun g' lr eb ln => c21 g' ⟨bd18, 0, none⟩ y32.1 A32_b_defs c32_b_defs A32_b_conds c32_b_conds (cells_lent' 2 bd18 0 (cBoard y32.1 A32_b_defs c32_b_defs A32_b_conds c32_b_conds) ln) ((f32_b_defs.mono g42.br).mono lr) (arrm_of_buf h32_b_conds eb (lentk 5 (by kernel_rfl) ln)) hy135)) ?_
                      rintro _ g136 _ e137 ⟨_, rfl, rfl, rfl⟩
                      refine xB 3 [] [(0, vs Aacts acts cacts), (3, vs A5_0 y5 c5_0), (4, vp bd18 0), (6, vp b13 0), (7, vi ((s21.1 : Nat) : Int)), (9, vs A38_0 y38 c38_0), (10, vs A41_0 y41 c41_0), (85, vb (!(((((y38).length : Nat) : Int) == 0) == (y135 == 0))))] ?_
                      refine xSel [some 2, none, some 4, some 1, some 0, some 5, some 6] ?_
                      refine xSub [(0, vs Aacts acts cacts), (3, vs A5_0 y5 c5_0), (4, vp bd18 0), (6, vp b13 0), (7, vi ((s21.1 : Nat) : Int)), (9, vs A38_0 y38 c38_0), (10, vs A41_0 y41 c41_0), (85, vb (!(((((y38).length : Nat) : Int) == 0) == (y135 == 0))))] ?_
                      exact hN44 _ (Option.some.inj hS).symm _ _ _ e137 ⟨by kernel_rfl, by kernel_rfl⟩
                · intro uu35 hS hN35
                  refine xBl 2 ?_
                  have h21_1 := h21_1.mono e34.b
                  refine xSel [some 0, none, some 3, some 1, some 4] ?_
                  refine xSub [(0, vs Aacts acts cacts), (3, vs A5_0 y5 c5_0), (4, vp bd18 0), (6, vp b13 0), (7, vi ((s21.1 : Nat) : Int)), (45, vi 0)] ?_
                  refine xLo hS (fun g own sl s140 => ∃ (k140_1 : Option Bk), own = [some ⟨bd18, 71, (cBoard y32.1 A32_b_defs c32_b_defs A32_b_conds c32_b_conds)⟩, none, k5_0, k32_b_conds, k140_1] ∧ sl = [(0, vs Aacts acts cacts), (3, vs A5_0 y5 c5_0), (4, vp bd18 0), (6, vp b13 0), (7, vi ((s21.1 : Nat) : Int)), (45, vi ((s140.1 : Nat) : Int))] ∧ Buf g.b (tyI .i64) 45 (.slice (some ⟨b13, 0, none⟩) (s140.2).length 16) k140_1 s140.2 ∧ 16 = (s140.2).length) ⟨k21_1, by kernel_rfl, by kernel_rfl, h21_1, hz21_v0⟩ ?_
                  rintro g141 _ _ s140 uu140 e142 ⟨k140_1, rfl, rfl, h140_1, hz140_v0⟩ hS Qr140 hN140 hD140
                  have nh140_1 := h140_1.len
                  unfold o6_L2 at hS
                  refine xSq ?_
                  refine xRg ?_
                  refine xB 1 [] [(0, vs Aacts acts cacts), (3, vs A5_0 y5 c5_0), (4, vp bd18 0), (6, vp b13 0), (7, vi ((s21.1 : Nat) : Int)), (45, vi ((s140.1 : Nat) : Int)), (46, vb (decide (((s140.1 : Nat) : Int) < 16)))] ?_
                  refine xRe ?_
                  refine wpq_then ?_
                  refine xSq ?_
                  refine xCd (decide (((s140.1 : Nat) : Int) < 16)) (fun h143 => ?_) (fun h143 => ?_)
                  · have hS := cond_T h143 hS
                    have h143p := of_decide_eq_true h143
                    refine xSk ?_
                    refine wpq_then ?_
                    refine xSub [(0, vs Aacts acts cacts), (3, vs A5_0 y5 c5_0), (4, vp bd18 0), (6, vp b13 0), (7, vi ((s21.1 : Nat) : Int)), (45, vi ((s140.1 : Nat) : Int))] ?_
                    refine xSq ?_
                    refine xBl 3 ?_
                    refine xSq ?_
                    refine xRg ?_
                    refine xB 2 [] [(0, vs Aacts acts cacts), (3, vs A5_0 y5 c5_0), (4, vp bd18 0), (6, vp b13 0), (7, vi ((s21.1 : Nat) : Int)), (8, vi ((s140.1 : Nat) : Int)), (45, vi ((s140.1 : Nat) : Int))] ?_
                    refine xRe ?_
                    refine wpq_then ?_
                    refine xSq ?_
                    refine xRg ?_
                    have facts := facts.mono (e34.trans e142).r
                    have i145 : s21.1 < (acts).length := by omega
                    obtain ⟨ad144, cs144, hA144, hr144, hc144⟩ := facts.at_ (get_getD (d := default) i145)
                    obtain ⟨rfl⟩ := hr144
                    refine xB 2 [] [(0, vs Aacts acts cacts), (3, vs A5_0 y5 c5_0), (4, vp bd18 0), (6, vp b13 0), (7, vi ((s21.1 : Nat) : Int)), (8, vi ((s140.1 : Nat) : Int)), (45, vi ((s140.1 : Nat) : Int)), (48, vs Aacts acts cacts), (49, vi ((s21.1 : Nat) : Int))] ?_
                    refine xV (qIx s21.1 4 hA144 rfl i145) ?_
                    refine xB 1 [] [(0, vs Aacts acts cacts), (3, vs A5_0 y5 c5_0), (4, vp bd18 0), (6, vp b13 0), (7, vi ((s21.1 : Nat) : Int)), (8, vi ((s140.1 : Nat) : Int)), (45, vi ((s140.1 : Nat) : Int)), (51, Value.pointer (some (Addr.add (Addr.add ad144 (s21.1 * 4)) 1)))] ?_
                    refine xV (qLdP (Addr.add ad144 (s21.1 * 4)) 1 hc144) ?_
                    refine xB 1 [] [(0, vs Aacts acts cacts), (3, vs A5_0 y5 c5_0), (4, vp bd18 0), (6, vp b13 0), (7, vi ((s21.1 : Nat) : Int)), (8, vi ((s140.1 : Nat) : Int)), (45, vi ((s140.1 : Nat) : Int)), (52, Value.int .u16 ((List.getD acts s21.1 default).conds)), (53, vi ((s140.1 : Nat) : Int))] ?_
                    refine xV (qShr .u16 .i64 ((List.getD acts s21.1 default).conds) (((s140.1 : Nat) : Int)) (by omega)) ?_
                    refine xB 2 [] [(0, vs Aacts acts cacts), (3, vs A5_0 y5 c5_0), (4, vp bd18 0), (6, vp b13 0), (7, vi ((s21.1 : Nat) : Int)), (8, vi ((s140.1 : Nat) : Int)), (45, vi ((s140.1 : Nat) : Int)), (56, vb ((landK .u16 (shrK .u16 (List.getD acts s21.1 default).conds ((s140.1 : Nat) : Int)) 1) == 0))] ?_
                    refine xRe ?_
                    refine wpq_then ?_
                    refine xBindO hS (fun g own sl t146 => ∃ (k146_0 : Option Bk), own = [some ⟨bd18, 71, (cBoard y32.1 A32_b_defs c32_b_defs A32_b_conds c32_b_conds)⟩, none, k5_0, k32_b_conds, k146_0] ∧ sl = [(0, vs Aacts acts cacts), (3, vs A5_0 y5 c5_0), (4, vp bd18 0), (6, vp b13 0), (7, vi ((s21.1 : Nat) : Int)), (45, vi ((s140.1 : Nat) : Int))] ∧ Buf g.b (tyI .i64) 45 (.slice (some ⟨b13, 0, none⟩) (t146).length 16) k146_0 t146 ∧ 16 = (t146).length) ?_ ?_
                    · rintro g147 _ _ t146 e148 ⟨k146_0, rfl, rfl, h146_0, hz146_v0⟩ hS
                      have nh146_0 := h146_0.len
                      refine wpq_blockN ?_
                      refine wpq_then ?_
                      refine xRg ?_
                      obtain ⟨q149, hS⟩ := grd_T hS
                      have q149p := of_decide_eq_true q149
                      refine xV (qAdd .i64 (((s140.1 : Nat) : Int)) (1) (wr64 (by omega))) ?_
                      refine xB 1 [] [(0, vs Aacts acts cacts), (3, vs A5_0 y5 c5_0), (4, vp bd18 0), (6, vp b13 0), (7, vi ((s21.1 : Nat) : Int)), (45, vi (((s140.1 : Nat) : Int) + 1))] ?_
                      refine xRe ?_
                      refine wpq_thenN ?_
                      refine xSel [some 0, none, some 2, some 3, some 4] ?_
                      refine xSub [(0, vs Aacts acts cacts), (3, vs A5_0 y5 c5_0), (4, vp bd18 0), (6, vp b13 0), (7, vi ((s21.1 : Nat) : Int)), (45, vi (((s140.1 : Nat) : Int) + 1))] ?_
                      have eS := (Option.some.inj hS).symm
                      exact hN140 _ eS _ _ _ e148 ⟨k146_0, by kernel_rfl, by kernel_rfl, h146_0, hz146_v0⟩
                    · intro uu146 hS hN146
                      refine xCd (((landK .u16 (shrK .u16 (List.getD acts s21.1 default).conds ((s140.1 : Nat) : Int)) 1) == 0)) (fun h150 => ?_) (fun h150 => ?_)
                      · have hS := cond_T h150 hS
                        have h150p : (landK .u16 (shrK .u16 (List.getD acts s21.1 default).conds ((s140.1 : Nat) : Int)) 1) = 0 := eq_of_beq h150
                        refine xRg ?_
                        have i152 : s140.1 < 16 := by omega
                        have i153 : s140.1 < (s140.2).length := by omega
                        obtain ⟨kc151, cs151, hA151, hk151, hr151, hw151⟩ := h140_1.open_ i153 0
                        obtain ⟨kb151, rfl⟩ : ∃ z, z = kc151 := ⟨_, rfl⟩
                        subst hk151
                        have hr151 : cs151 = [vi (List.getD s140.2 s140.1 0)] := hr151
                        subst hr151
                        refine xB 1 [] [(0, vs Aacts acts cacts), (3, vs A5_0 y5 c5_0), (4, vp bd18 0), (6, vp b13 0), (7, vi ((s21.1 : Nat) : Int)), (45, vi ((s140.1 : Nat) : Int)), (57, vi ((s140.1 : Nat) : Int))] ?_
                        refine xV (qIxRA s140.1 1 kb151.g hA151 rfl i152) ?_
                        refine xD (eStB s140.1 1 0 4 [vi 0] h140_1 rfl hw151 (show (tyI .i64).rep _ _ _ from rfl) i153) ?_
                        rintro _ _ _ - ⟨k154, rfl, rfl, h154⟩
                        have hz154 : (s140.2).length = ((List.set s140.2 s140.1 (0 : Int))).length := by simp
                        have hz154_1 : 16 = ((List.set s140.2 s140.1 (0 : Int))).length := hz140_v0.trans hz154
                        refine xRe ?_
                        refine xSel [some 0, none, some 2, some 3, some 4] ?_
                        refine xSub [(0, vs Aacts acts cacts), (3, vs A5_0 y5 c5_0), (4, vp bd18 0), (6, vp b13 0), (7, vi ((s21.1 : Nat) : Int)), (45, vi ((s140.1 : Nat) : Int))] ?_
                        have eS := (Option.some.inj hS).symm
                        exact hN146 _ eS _ _ _ (Gh.le.refl _) ⟨k154, by kernel_rfl, by kernel_rfl, (Buf.re h154 hz154 rfl), hz154_1⟩
                      · have hS := cond_F h150 hS
                        have h150p : ¬ ((landK .u16 (shrK .u16 (List.getD acts s21.1 default).conds ((s140.1 : Nat) : Int)) 1) = 0) := ne_of_beq_false_ h150
                        refine xSq ?_
                        refine xRg ?_
                        have i156 : s140.1 < 16 := by omega
                        have i157 : s140.1 < (s140.2).length := by omega
                        obtain ⟨kc155, cs155, hA155, hk155, hr155, hw155⟩ := h140_1.open_ i157 0
                        obtain ⟨kb155, rfl⟩ : ∃ z, z = kc155 := ⟨_, rfl⟩
                        subst hk155
                        have hr155 : cs155 = [vi (List.getD s140.2 s140.1 0)] := hr155
                        subst hr155
                        refine xB 1 [] [(0, vs Aacts acts cacts), (3, vs A5_0 y5 c5_0), (4, vp bd18 0), (6, vp b13 0), (7, vi ((s21.1 : Nat) : Int)), (8, vi ((s140.1 : Nat) : Int)), (45, vi ((s140.1 : Nat) : Int)), (59, vi ((s140.1 : Nat) : Int))] ?_
                        refine xV (qIxRA s140.1 1 kb155.g hA155 rfl i156) ?_
                        refine xV (qLdB s140.1 1 0 4 hw155) ?_
                        refine xB 1 [] [(0, vs Aacts acts cacts), (3, vs A5_0 y5 c5_0), (4, vp bd18 0), (6, vp b13 0), (7, vi ((s21.1 : Nat) : Int)), (8, vi ((s140.1 : Nat) : Int)), (45, vi ((s140.1 : Nat) : Int)), (62, vb ((List.getD s140.2 s140.1 0) == 0))] ?_
                        refine xRe ?_
                        refine wpq_then ?_
                        refine xBindO hS (fun g own sl t158 => ∃ (k158_0 : Option Bk), own = [some ⟨bd18, 71, (cBoard y32.1 A32_b_defs c32_b_defs A32_b_conds c32_b_conds)⟩, none, k5_0, k32_b_conds, k158_0] ∧ sl = [(0, vs Aacts acts cacts), (3, vs A5_0 y5 c5_0), (4, vp bd18 0), (6, vp b13 0), (7, vi ((s21.1 : Nat) : Int)), (45, vi ((s140.1 : Nat) : Int))] ∧ Buf g.b (tyI .i64) 45 (.slice (some ⟨b13, 0, none⟩) (t158).length 16) k158_0 t158 ∧ 16 = (t158).length) ?_ ?_
                        · rintro g159 _ _ t158 e160 ⟨k158_0, rfl, rfl, h158_0, hz158_v0⟩ hS
                          have nh158_0 := h158_0.len
                          refine xSel [some 0, none, some 2, some 3, some 4] ?_
                          refine xSub [(0, vs Aacts acts cacts), (3, vs A5_0 y5 c5_0), (4, vp bd18 0), (6, vp b13 0), (7, vi ((s21.1 : Nat) : Int)), (45, vi ((s140.1 : Nat) : Int))] ?_
                          have eS := (Option.some.inj hS).symm
                          exact hN146 _ eS _ _ _ e160 ⟨k158_0, by kernel_rfl, by kernel_rfl, h158_0, hz158_v0⟩
                        · intro uu158 hS hN158
                          refine xCd (((List.getD s140.2 s140.1 0) == 0)) (fun h161 => ?_) (fun h161 => ?_)
                          · have hS := cond_T h161 hS
                            have h161p : (List.getD s140.2 s140.1 0) = 0 := eq_of_beq h161
                            refine xRg ?_
                            obtain ⟨q162, hS⟩ := grd_T hS
                            have q162p := of_decide_eq_true q162
                            refine xB 2 [] [(0, vs Aacts acts cacts), (3, vs A5_0 y5 c5_0), (4, vp bd18 0), (6, vp b13 0), (7, vi ((s21.1 : Nat) : Int)), (45, vi ((s140.1 : Nat) : Int)), (63, vi ((s140.1 : Nat) : Int)), (64, vi ((s21.1 : Nat) : Int))] ?_
                            refine xV (qAdd .i64 (((s21.1 : Nat) : Int)) (1) (wr64 (by omega))) ?_
                            have i164 : s140.1 < 16 := by omega
                            have i165 : s140.1 < (s140.2).length := by omega
                            obtain ⟨kc163, cs163, hA163, hk163, hr163, hw163⟩ := h140_1.open_ i165 0
                            cases hk163
                            have hr163 : cs163 = [vi (List.getD s140.2 s140.1 0)] := hr163
                            subst hr163
                            refine xV (qIxRA s140.1 1 kb155.g hA163 rfl i164) ?_
                            refine xD (eStB s140.1 1 0 4 [vi (((s21.1 : Nat) : Int) + 1)] h140_1 rfl hw163 (show (tyI .i64).rep _ _ _ from rfl) i165) ?_
                            rintro _ _ _ - ⟨k166, rfl, rfl, h166⟩
                            have hz166 : (s140.2).length = ((List.set s140.2 s140.1 ((((s21.1 : Nat) : Int) + 1) : Int))).length := by simp
                            have hz166_1 : 16 = ((List.set s140.2 s140.1 ((((s21.1 : Nat) : Int) + 1) : Int))).length := hz140_v0.trans hz166
                            refine xRe ?_
                            refine xSel [some 0, none, some 2, some 3, some 4] ?_
                            refine xSub [(0, vs Aacts acts cacts), (3, vs A5_0 y5 c5_0), (4, vp bd18 0), (6, vp b13 0), (7, vi ((s21.1 : Nat) : Int)), (45, vi ((s140.1 : Nat) : Int))] ?_
                            have eS := (Option.some.inj hS).symm
                            exact hN158 _ eS _ _ _ (Gh.le.refl _) ⟨k166, by kernel_rfl, by kernel_rfl, (Buf.re h166 hz166 rfl), hz166_1⟩
                          · have hS := cond_F h161 hS
                            have h161p : ¬ ((List.getD s140.2 s140.1 0) = 0) := ne_of_beq_false_ h161
                            refine xSk ?_
                            refine xSel [some 0, none, some 2, some 3, some 4] ?_
                            refine xSub [(0, vs Aacts acts cacts), (3, vs A5_0 y5 c5_0), (4, vp bd18 0), (6, vp b13 0), (7, vi ((s21.1 : Nat) : Int)), (45, vi ((s140.1 : Nat) : Int))] ?_
                            have eS := (Option.some.inj hS).symm
                            exact hN158 _ eS _ _ _ (Gh.le.refl _) ⟨(some kb155), by kernel_rfl, by kernel_rfl, h140_1, hz140_v0⟩
                  · have hS := cond_F h143 hS
                    have h143p := of_decide_eq_false h143
                    refine xEx 2 ?_
                    refine wpq_thenX ?_
                    refine wpq_thenX ?_
                    refine wpq_blockE ?_
                    refine xSel [some 0, none, some 2, some 3, some 4] ?_
                    refine xSub [(0, vs Aacts acts cacts), (3, vs A5_0 y5 c5_0), (4, vp bd18 0), (6, vp b13 0), (7, vi ((s21.1 : Nat) : Int))] ?_
                    have eS := (Option.some.inj hS).symm
                    have eS := (hD140 _ eS).symm
                    exact hN35 _ eS _ _ _ e142 ⟨k140_1, by kernel_rfl, by kernel_rfl, h140_1, hz140_v0⟩
            · have hS := cond_F h25 hS
              refine xEx 0 ?_
              refine wpq_thenX ?_
              refine wpq_thenX ?_
              refine wpq_blockE ?_
              refine xSel [] ?_
              refine xSub [] ?_
              have eS := (Option.some.inj hS).symm
              have eS := (hD21 _ eS).symm
              exact hN15 _ eS _ _ _ e23 ⟨by kernel_rfl, by kernel_rfl⟩

end Go.Proofs.Ytfhchendnfpbkaa
