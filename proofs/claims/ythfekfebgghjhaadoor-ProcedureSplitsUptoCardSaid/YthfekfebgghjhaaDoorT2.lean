/-
Walks, printed by wip/gen. Conditions: each theorem's own.
-/
import Derived.Test.YthfekfebgghjhaaDoorT1
namespace Go.Proofs.YthfekfebgghjhaaDoor
set_option linter.unusedVariables false
set_option linter.unusedSimpArgs false
open Go.RowKit
def o13_L0 (p : Proc) (s26 : Nat) : Option (Ctl (Nat) (Ctl (Unit) (Int))) :=
  (cond (decide (((s26 : Nat) : Int) < (((p.parts).length : Nat) : Int))) (bindO (τ := Int) (o37 p (((s26 : Nat) : Int) : Int)) fun y30 => (cond ((y30 != 0)) (some (Ctl.done (Ctl.done ((y30 : Int))))) (grd (decide (((s26 : Nat) : Int) + 1 ≤ 9223372036854775807)) (some (Ctl.go (s26 + 1)))))) (some (Ctl.done (Ctl.go ()))))
def o13 (p : Proc) : Option (Int) :=
  (bindO (τ := Bool) (o35 p.airport (6 : Int)) fun y2 => (bindO (τ := Bool) (cond ((!y2)) (some (true)) (bindO (τ := Bool) (o35 p.name (8 : Int)) fun y36 => (some (!y36)))) fun t5 => (cond (t5) (some ((5 : Int))) (letJ (τ := (List UInt8)) (o36 (p.kind : Int)) fun y9 => (cond ((List.isEmpty y9)) (some ((17 : Int))) (cond (decide ((((p.parts).length : Nat) : Int) > 12)) (some ((3 : Int))) (joinO (τ := Unit) (ρ := Int) (loopO (σ := Nat) (ρ := Ctl (Unit) (Int)) fuelN (o13_L0 p) (0)) fun t14 => (cond (((((p.parts).length : Nat) : Int) == 0)) (some ((6 : Int))) (bindO (τ := Part × Bool) (o17 p (2 : Int) []) fun y18 => (cond (((p.kind == 3) && (!y18.2))) (some ((6 : Int))) (some ((0 : Int)))))))))))))
set_option maxRecDepth 100000 in
theorem C13 (g : Gh) (p : Proc) (Ap_parts : Option Addr) (cp_parts : Nat) (fp_parts : ArrM g.r g.b tyPart Ap_parts cp_parts p.parts) (fG0 : Arr g.r (tyI .u16) (some ⟨0, 0, none⟩) 18 usesL) {r : Int} (hS : o13 p = some r) :
    Ctr Tryd.prog 13 [Value.agg #[vt p.airport, vt p.name, vy p.kind, vs Ap_parts p.parts cp_parts]] g [] (fun v ψ o => v = vi r ∧ o = []) := by
  unfold o13 at hS
  refine xFn Tryd.f13 (Tryd.f13.body.getD .skip) 57 ?_
  have hlG0 := hlUses
  have nfp_parts := fp_parts.len
  have nfG0 := fG0.len
  refine xSq ?_
  refine xRg ?_
  refine xE eB ?_
  rintro _ _ _ - ⟨b1, rfl, rfl, rfl⟩
  refine xB 1 [] [(1, vp b1 0)] ?_
  refine xRe ?_
  refine wpq_then ?_
  refine xSq ?_
  refine xBl 0 ?_
  refine xSq ?_
  refine xRg ?_
  refine xB 2 [(1, 0)] [(1, vp b1 0), (9, vt p.airport)] ?_
  obtain ⟨y2, hy2, hS⟩ := bindO_T hS
  refine xE (eC 0 (fun g' lr eb ln => C35 g' p.airport (6 : Int) hy2)) ?_
  rintro _ g3 _ e4 ⟨_, rfl, rfl, rfl⟩
  refine xB 2 [] [(1, vp b1 0), (12, vb (!y2))] ?_
  refine xGJo hS 10 (fun g own sl t5 => own = [some ⟨b1, 25, (cProc p Ap_parts cp_parts)⟩] ∧ sl = [(1, vp b1 0), (17, vb t5)]) ?_ ?_
  · rintro g6 _ _ t5 e7 ⟨rfl, rfl⟩ hS
    refine xB 1 [] [(1, vp b1 0), (7, vb t5)] ?_
    refine xRe ?_
    refine wpq_then ?_
    refine xCd (t5) (fun h8 => ?_) (fun h8 => ?_)
    · have hS := cond_T h8 hS
      refine xSq ?_
      refine xRg ?_
      refine xB 1 [] [(2, vi 5)] ?_
      refine xRe ?_
      refine wpq_then ?_
      have eS := (Option.some.inj hS).symm
      subst eS
      exact xRet [] [2] (e4.trans e7) ⟨by kernel_rfl, by kernel_rfl⟩ (fun _ _ h => h)
    · have hS := cond_F h8 hS
      refine xSq ?_
      refine xRg ?_
      refine xB 2 [(1, 0)] [(1, vp b1 0), (20, vy p.kind)] ?_
      obtain ⟨y9, hy9, hS⟩ := letJ_T hS
      refine xE (eC 0 (fun g' lr eb ln => C36 g' (p.kind : Int) hy9)) ?_
      rintro _ g10 _ e11 ⟨_, rfl, A9_0, c9_0, k9_0, rfl, rfl, h9_0, hq9_0⟩
      have nh9_0 := h9_0.len
      refine xV (qNilE A9_0 (Buf.isNone_eq h9_0 hq9_0)) ?_
      refine xB 1 [] [(1, vp b1 0), (18, vb (List.isEmpty y9))] ?_
      refine xRe ?_
      refine wpq_then ?_
      refine xCd ((List.isEmpty y9)) (fun h12 => ?_) (fun h12 => ?_)
      · have hS := cond_T h12 hS
        refine xSq ?_
        refine xRg ?_
        refine xB 1 [] [(2, vi 17)] ?_
        refine xRe ?_
        refine wpq_then ?_
        have eS := (Option.some.inj hS).symm
        subst eS
        exact xRet [] [2] (e4.trans (e7.trans e11)) ⟨by kernel_rfl, by kernel_rfl⟩ (fun _ _ h => h)
      · have hS := cond_F h12 hS
        refine xSq ?_
        refine xRg ?_
        refine xB 5 [(1, 1)] [(1, vp b1 0), (23, vb (decide ((((p.parts).length : Nat) : Int) > 12)))] ?_
        refine xRe ?_
        refine wpq_then ?_
        refine xCd (decide ((((p.parts).length : Nat) : Int) > 12)) (fun h13 => ?_) (fun h13 => ?_)
        · have hS := cond_T h13 hS
          have h13p := of_decide_eq_true h13
          refine xSq ?_
          refine xRg ?_
          refine xB 1 [] [(2, vi 3)] ?_
          refine xRe ?_
          refine wpq_then ?_
          have eS := (Option.some.inj hS).symm
          subst eS
          exact xRet [] [2] (e4.trans (e7.trans e11)) ⟨by kernel_rfl, by kernel_rfl⟩ (fun _ _ h => h)
        · have hS := cond_F h13 hS
          have h13p := of_decide_eq_false h13
          refine xSk ?_
          refine wpq_blockN ?_
          refine wpq_then ?_
          refine xSub [(1, vp b1 0)] ?_
          refine xSq ?_
          refine xSq ?_
          refine xRg ?_
          refine xB 4 [(1, 1)] [(1, vp b1 0), (30, vi (((p.parts).length : Nat) : Int)), (31, vi 0)] ?_
          refine xRe ?_
          refine wpq_then ?_
          refine xJoinO hS (fun g own sl t14 => own = [some ⟨b1, 25, (cProc p Ap_parts cp_parts)⟩] ∧ sl = [(1, vp b1 0)]) ?_ ?_
          · rintro g15 _ _ t14 e16 ⟨rfl, rfl⟩ hS
            refine wpq_then ?_
            refine xSq ?_
            refine xSq ?_
            refine xRg ?_
            refine xB 4 [(1, 0)] [(1, vp b1 0), (44, vb ((((p.parts).length : Nat) : Int) == 0))] ?_
            refine xRe ?_
            refine wpq_then ?_
            refine xCd (((((p.parts).length : Nat) : Int) == 0)) (fun h17 => ?_) (fun h17 => ?_)
            · have hS := cond_T h17 hS
              have h17p : (((p.parts).length : Nat) : Int) = 0 := eq_of_beq h17
              refine xSq ?_
              refine xRg ?_
              refine xB 1 [] [(2, vi 6)] ?_
              refine xRe ?_
              refine wpq_then ?_
              have eS := (Option.some.inj hS).symm
              subst eS
              exact xRet [] [2] (e4.trans (e7.trans (e11.trans e16))) ⟨by kernel_rfl, by kernel_rfl⟩ (fun _ _ h => h)
            · have hS := cond_F h17 hS
              have h17p : ¬ ((((p.parts).length : Nat) : Int) = 0) := ne_of_beq_false_ h17
              refine xSk ?_
              refine wpq_then ?_
              refine xSub [(1, vp b1 0)] ?_
              refine xSq ?_
              refine xSq ?_
              refine xRg ?_
              refine xB 1 [(0, 0)] [(1, vp b1 0), (46, Value.agg #[vt p.airport, vt p.name, vy p.kind, vs Ap_parts p.parts cp_parts])] ?_
              have fp_parts := fp_parts.mono (e4.trans (e7.trans (e11.trans e16))).r (e4.trans (e7.trans (e11.trans e16))).b
              obtain ⟨y18, hy18, hS⟩ := bindO_T hS
              refine xE (eC 0 (fun g' lr eb ln => C17 g' p Ap_parts cp_parts (2 : Int) [] (ArrM.lent fp_parts lr eb) hy18)) ?_
              rintro _ g19 _ e20 ⟨_, rfl, A18_0_legs, c18_0_legs, rfl, rfl, f18_0_legs⟩
              have nf18_0_legs := f18_0_legs.len
              refine xB 3 [] [(1, vp b1 0), (48, Value.agg #[vy y18.1.kind, vt y18.1.name, vs A18_0_legs y18.1.legs c18_0_legs]), (49, vb y18.2)] ?_
              refine xE eB ?_
              rintro _ _ _ - ⟨b21, rfl, rfl, rfl⟩
              refine xBo 2 [(6, 0)] [some ⟨b21, 35, [vy y18.1.kind, vt y18.1.name, vs A18_0_legs y18.1.legs c18_0_legs]⟩, some ⟨b1, 25, (cProc p Ap_parts cp_parts)⟩] [(1, vp b1 0), (6, vb y18.2)] ?_
              refine xRe ?_
              refine wpq_then ?_
              refine xSq ?_
              refine xRg ?_
              refine xB 4 [(1, 1)] [(6, vb y18.2), (53, vb (p.kind == 3))] ?_
              refine wpr_grp 7 [(56, vb ((p.kind == 3) && (!y18.2)))] (fun hk3 => ?_) ?_
              · refine wpq_split 53 (b := (p.kind == 3)) (by kernel_rfl) (fun q22 => ?_) (fun q22 => ?_)
                · have q22p : p.kind = 3 := eq_of_beq q22
                  refine xB 3 [] [(56, vb (!y18.2))] ?_
                  refine wpq_re 56 (v := vb (!y18.2)) (Value.bool (((p.kind == 3) && (!y18.2)))) (by kernel_rfl) (re_and1 q22) ?_
                  exact wpq_sub _ (by kernel_rfl) hk3
                · have q22p : ¬ (p.kind = 3) := ne_of_beq_false_ q22
                  refine xB 3 [] [(56, vb false)] ?_
                  refine wpq_re 56 (v := vb false) (Value.bool (((p.kind == 3) && (!y18.2)))) (by kernel_rfl) (re_and0 q22) ?_
                  exact wpq_sub _ (by kernel_rfl) hk3
              · refine xRe ?_
                refine wpq_then ?_
                refine xCd (((p.kind == 3) && (!y18.2))) (fun h23 => ?_) (fun h23 => ?_)
                · have hS := cond_T h23 hS
                  have h23l := (and_true_ h23).1
                  have h23r := (and_true_ h23).2
                  have h23lp : p.kind = 3 := eq_of_beq h23l
                  have h23rn := not_eq_true_ h23r
                  refine xSq ?_
                  refine xRg ?_
                  refine xB 1 [] [(2, vi 6)] ?_
                  refine xRe ?_
                  refine wpq_then ?_
                  have eS := (Option.some.inj hS).symm
                  subst eS
                  exact xRet [] [2] (e4.trans (e7.trans (e11.trans (e16.trans e20)))) ⟨by kernel_rfl, by kernel_rfl⟩ (fun _ _ h => h)
                · have hS := cond_F h23 hS
                  refine xSk ?_
                  refine wpq_then ?_
                  refine xSub [] ?_
                  refine xSq ?_
                  refine xRg ?_
                  refine xB 1 [] [(2, vi 0)] ?_
                  refine xRe ?_
                  refine wpq_then ?_
                  have eS := (Option.some.inj hS).symm
                  subst eS
                  exact xRet [] [2] (e4.trans (e7.trans (e11.trans (e16.trans e20)))) ⟨by kernel_rfl, by kernel_rfl⟩ (fun _ _ h => h)
          · intro uu14 hS hN14 hD14
            refine xBl 1 ?_
            refine xSel [some 1] ?_
            refine xSub [(1, vp b1 0), (30, vi (((p.parts).length : Nat) : Int)), (31, vi 0)] ?_
            refine xLo hS (fun g own sl s26 => own = [some ⟨b1, 25, (cProc p Ap_parts cp_parts)⟩] ∧ sl = [(1, vp b1 0), (30, vi (((p.parts).length : Nat) : Int)), (31, vi ((s26 : Nat) : Int))]) ⟨by kernel_rfl, by kernel_rfl⟩ ?_
            rintro g27 _ _ s26 uu26 e28 ⟨rfl, rfl⟩ hS Qr26 hN26 hD26
            unfold o13_L0 at hS
            refine xSq ?_
            refine xRg ?_
            refine xB 1 [] [(1, vp b1 0), (30, vi (((p.parts).length : Nat) : Int)), (31, vi ((s26 : Nat) : Int)), (32, vb (decide (((s26 : Nat) : Int) < (((p.parts).length : Nat) : Int))))] ?_
            refine xRe ?_
            refine wpq_then ?_
            refine xSq ?_
            refine xCd (decide (((s26 : Nat) : Int) < (((p.parts).length : Nat) : Int))) (fun h29 => ?_) (fun h29 => ?_)
            · have hS := cond_T h29 hS
              have h29p := of_decide_eq_true h29
              refine xSk ?_
              refine wpq_then ?_
              refine xSub [(1, vp b1 0), (30, vi (((p.parts).length : Nat) : Int)), (31, vi ((s26 : Nat) : Int))] ?_
              refine xSq ?_
              refine xBl 2 ?_
              refine xSq ?_
              refine xRg ?_
              refine xB 2 [] [(1, vp b1 0), (3, vi ((s26 : Nat) : Int)), (30, vi (((p.parts).length : Nat) : Int)), (31, vi ((s26 : Nat) : Int))] ?_
              refine xRe ?_
              refine wpq_then ?_
              refine xSq ?_
              refine xRg ?_
              refine xB 2 [(0, 0)] [(1, vp b1 0), (30, vi (((p.parts).length : Nat) : Int)), (31, vi ((s26 : Nat) : Int)), (34, Value.agg #[vt p.airport, vt p.name, vy p.kind, vs Ap_parts p.parts cp_parts]), (35, vi ((s26 : Nat) : Int))] ?_
              have fp_parts := fp_parts.mono (e4.trans (e7.trans (e11.trans e28))).r (e4.trans (e7.trans (e11.trans e28))).b
              have fG0 := fG0.mono (e4.trans (e7.trans (e11.trans e28))).r
              obtain ⟨y30, hy30, hS⟩ := bindO_T hS
              refine xE (eC 0 (fun g' lr eb ln => C37 g' p Ap_parts cp_parts (((s26 : Nat) : Int) : Int) ((fp_parts.toArr g27.br).mono lr) (fG0.mono lr) hy30)) ?_
              rintro _ g31 _ e32 ⟨_, rfl, rfl, rfl⟩
              refine xB 1 [] [(1, vp b1 0), (4, vi y30), (30, vi (((p.parts).length : Nat) : Int)), (31, vi ((s26 : Nat) : Int))] ?_
              refine xRe ?_
              refine wpq_then ?_
              refine xSq ?_
              refine xRg ?_
              refine xB 2 [] [(1, vp b1 0), (4, vi y30), (30, vi (((p.parts).length : Nat) : Int)), (31, vi ((s26 : Nat) : Int)), (38, vb (y30 != 0))] ?_
              refine xRe ?_
              refine wpq_then ?_
              refine xCd ((y30 != 0)) (fun h33 => ?_) (fun h33 => ?_)
              · have hS := cond_T h33 hS
                have h33p : ¬ (y30 = 0) := ne_of_bne_ h33
                refine xSq ?_
                refine xRg ?_
                refine xB 2 [] [(2, vi y30)] ?_
                refine xRe ?_
                refine wpq_then ?_
                have eS := (Option.some.inj hS).symm
                have eS := (hD26 _ eS).symm
                have eS := (hD14 _ eS).symm
                subst eS
                exact xRet [] [2] (e4.trans (e7.trans (e11.trans (e28.trans e32)))) ⟨by kernel_rfl, by kernel_rfl⟩ (fun _ _ h => h)
              · have hS := cond_F h33 hS
                have h33p : y30 = 0 := eq_of_bne_false_ h33
                refine xSk ?_
                refine wpq_blockN ?_
                refine wpq_then ?_
                refine xSub [(1, vp b1 0), (30, vi (((p.parts).length : Nat) : Int)), (31, vi ((s26 : Nat) : Int))] ?_
                refine xRg ?_
                obtain ⟨q34, hS⟩ := grd_T hS
                have q34p := of_decide_eq_true q34
                refine xV (qAdd .i64 (((s26 : Nat) : Int)) (1) (wr64 (by omega))) ?_
                refine xB 1 [] [(1, vp b1 0), (30, vi (((p.parts).length : Nat) : Int)), (31, vi (((s26 : Nat) : Int) + 1))] ?_
                refine xRe ?_
                refine wpq_thenN ?_
                refine xSub [(1, vp b1 0), (30, vi (((p.parts).length : Nat) : Int)), (31, vi (((s26 : Nat) : Int) + 1))] ?_
                have eS := (Option.some.inj hS).symm
                exact hN26 _ eS _ _ _ e32 ⟨by kernel_rfl, by kernel_rfl⟩
            · have hS := cond_F h29 hS
              have h29p := of_decide_eq_false h29
              refine xEx 1 ?_
              refine wpq_thenX ?_
              refine wpq_thenX ?_
              refine wpq_blockE ?_
              refine xSub [(1, vp b1 0)] ?_
              have eS := (Option.some.inj hS).symm
              have eS := (hD26 _ eS).symm
              exact hN14 _ eS _ _ _ e28 ⟨by kernel_rfl, by kernel_rfl⟩
  · intro uu5 hS hN5
    refine wpq_split 12 (b := (!y2)) (by kernel_rfl) (fun q35 => ?_) (fun q35 => ?_)
    · have hS := cond_T q35 hS
      have q35n := not_eq_true_ q35
      refine xB 5 [] [(1, vp b1 0), (17, vb true)] ?_
      refine xSub [(1, vp b1 0), (17, vb true)] ?_
      exact hN5 _ (Option.some.inj hS).symm _ _ _ (Gh.le.refl _) ⟨by kernel_rfl, by kernel_rfl⟩
    · have hS := cond_F q35 hS
      have q35n := not_eq_false_ q35
      refine xB 2 [(6, 0)] [(1, vp b1 0), (12, vb false), (14, vt p.name)] ?_
      obtain ⟨y36, hy36, hS⟩ := bindO_T hS
      refine xE (eC 0 (fun g' lr eb ln => C35 g' p.name (8 : Int) hy36)) ?_
      rintro _ g37 _ e38 ⟨_, rfl, rfl, rfl⟩
      refine xB 2 [] [(1, vp b1 0), (17, vb (!y36))] ?_
      refine xSub [(1, vp b1 0), (17, vb (!y36))] ?_
      exact hN5 _ (Option.some.inj hS).symm _ _ _ e38 ⟨by kernel_rfl, by kernel_rfl⟩

def o15_L0 (p : Proc) (k : Int) (s7 : (List (List UInt8)) × Nat) : Option (Ctl ((List (List UInt8)) × Nat) ((List (List UInt8)))) :=
  (cond (decide (((s7.2 : Nat) : Int) < (((p.parts).length : Nat) : Int))) (bindO (τ := (List (List UInt8))) (cond (((List.getD p.parts s7.2 default).kind == k)) (grd (decide (((s7.1).length + (([((List.getD p.parts s7.2 default).name : List UInt8)] : List (List UInt8))).length) * 16 ≤ 140737488355328)) (some (((s7.1 ++ ([((List.getD p.parts s7.2 default).name : List UInt8)] : List (List UInt8))) : List (List UInt8))))) (some ((s7.1 : List (List UInt8))))) fun t14 => (grd (decide (((s7.2 : Nat) : Int) + 1 ≤ 9223372036854775807)) (some (Ctl.go ((t14 : List (List UInt8)), (s7.2 + 1)))))) (some (Ctl.done ((s7.1 : List (List UInt8))))))
def o15 (p : Proc) (k : Int) : Option ((List (List UInt8))) :=
  (bindO (τ := (List (List UInt8))) (loopO (σ := (List (List UInt8)) × Nat) (ρ := (List (List UInt8))) fuelN (o15_L0 p k) (([] : List (List UInt8)), 0)) fun t2 => (some ((t2 : List (List UInt8)))))
set_option maxRecDepth 100000 in
theorem C15 (g : Gh) (p : Proc) (Ap_parts : Option Addr) (cp_parts : Nat) (k : Int) (fp_parts : Arr g.r tyPart Ap_parts cp_parts p.parts) {r : (List (List UInt8))} (hS : o15 p k = some r) :
    Ctr Tryd.prog 15 [Value.agg #[vt p.airport, vt p.name, vy p.kind, vs Ap_parts p.parts cp_parts], vy k] g [] (fun v ψ o => ∃ (Ar_0 : Option Addr) (cr_0 : Nat) (kr_0 : Option Bk), v = vs Ar_0 r cr_0 ∧ o = [kr_0] ∧ Buf ψ tyS 9 (.slice Ar_0 (r).length cr_0) kr_0 r) := by
  unfold o15 at hS
  refine xFn Tryd.f15 (Tryd.f15.body.getD .skip) 26 ?_
  have nfp_parts := fp_parts.len
  refine xSq ?_
  refine xRg ?_
  refine xE eB ?_
  rintro _ _ _ - ⟨b1, rfl, rfl, rfl⟩
  refine xB 1 [] [(1, vy k), (2, vp b1 0)] ?_
  refine xRe ?_
  refine wpq_then ?_
  refine xSq ?_
  refine xRg ?_
  refine xB 1 [] [(1, vy k), (2, vp b1 0), (5, Value.slice none 0 0)] ?_
  refine xRe ?_
  refine wpq_then ?_
  refine xSq ?_
  refine xSq ?_
  refine xRg ?_
  refine xB 4 [(1, 0)] [(1, vy k), (5, Value.slice none 0 0), (9, vs Ap_parts p.parts cp_parts), (10, vi (((p.parts).length : Nat) : Int)), (11, vi 0)] ?_
  refine xRe ?_
  refine wpq_then ?_
  refine xBindO hS (fun g own sl t2 => ∃ (A2_0 : Option Addr) (c2_0 : Nat) (k2_0 : Option Bk), own = [k2_0] ∧ sl = [(5, vs A2_0 t2 c2_0)] ∧ Buf g.b tyS 9 (.slice A2_0 (t2).length c2_0) k2_0 t2) ?_ ?_
  · rintro g3 _ _ t2 e4 ⟨A2_0, c2_0, k2_0, rfl, rfl, h2_0⟩ hS
    have nh2_0 := h2_0.len
    refine wpq_then ?_
    refine xSq ?_
    refine xRg ?_
    refine xB 2 [] [(4, vs A2_0 t2 c2_0)] ?_
    refine xRe ?_
    refine wpq_then ?_
    have eS := (Option.some.inj hS).symm
    subst eS
    exact xRet [some 0] [4] e4 ⟨A2_0, c2_0, k2_0, by kernel_rfl, by kernel_rfl, h2_0⟩ (fun _ _ h => h)
  · intro uu2 hS hN2
    refine xBl 0 ?_
    refine xSel [none] ?_
    refine xSub [(1, vy k), (5, Value.slice none 0 0), (9, vs Ap_parts p.parts cp_parts), (10, vi (((p.parts).length : Nat) : Int)), (11, vi 0)] ?_
    refine xLo hS (fun g own sl s7 => ∃ (A7_0 : Option Addr) (c7_0 : Nat) (k7_0 : Option Bk), own = [k7_0] ∧ sl = [(1, vy k), (5, vs A7_0 s7.1 c7_0), (9, vs Ap_parts p.parts cp_parts), (10, vi (((p.parts).length : Nat) : Int)), (11, vi ((s7.2 : Nat) : Int))] ∧ Buf g.b tyS 9 (.slice A7_0 (s7.1).length c7_0) k7_0 s7.1) ⟨none, 0, none, by kernel_rfl, by kernel_rfl, Buf.nil⟩ ?_
    rintro g8 _ _ s7 uu7 e9 ⟨A7_0, c7_0, k7_0, rfl, rfl, h7_0⟩ hS Qr7 hN7 hD7
    have nh7_0 := h7_0.len
    unfold o15_L0 at hS
    refine xSq ?_
    refine xRg ?_
    refine xB 1 [] [(1, vy k), (5, vs A7_0 s7.1 c7_0), (9, vs Ap_parts p.parts cp_parts), (10, vi (((p.parts).length : Nat) : Int)), (11, vi ((s7.2 : Nat) : Int)), (12, vb (decide (((s7.2 : Nat) : Int) < (((p.parts).length : Nat) : Int))))] ?_
    refine xRe ?_
    refine wpq_then ?_
    refine xSq ?_
    refine xCd (decide (((s7.2 : Nat) : Int) < (((p.parts).length : Nat) : Int))) (fun h10 => ?_) (fun h10 => ?_)
    · have hS := cond_T h10 hS
      have h10p := of_decide_eq_true h10
      refine xSk ?_
      refine wpq_then ?_
      refine xSub [(1, vy k), (5, vs A7_0 s7.1 c7_0), (9, vs Ap_parts p.parts cp_parts), (10, vi (((p.parts).length : Nat) : Int)), (11, vi ((s7.2 : Nat) : Int))] ?_
      refine xSq ?_
      refine xBl 1 ?_
      refine xSq ?_
      refine xRg ?_
      have fp_parts := fp_parts.mono e9.r
      have i12 : s7.2 < (p.parts).length := by omega
      obtain ⟨ad11, cs11, hA11, hr11, hc11⟩ := fp_parts.at_ (get_getD (d := default) i12)
      obtain ⟨A11_legs, c11_legs, rfl, f11_legs⟩ := hr11
      have nf11_legs := f11_legs.len
      refine xV (qIx s7.2 3 hA11 rfl i12) ?_
      refine xV (qLdP (Addr.add ad11 (s7.2 * 3)) 0 hc11) ?_
      refine xE eB ?_
      rintro _ _ _ - ⟨b13, rfl, rfl, rfl⟩
      refine xBo 1 [(3, 0)] [some ⟨b13, 35, [vy ((List.getD p.parts s7.2 default).kind), vt ((List.getD p.parts s7.2 default).name), vs A11_legs ((List.getD p.parts s7.2 default).legs) c11_legs]⟩, k7_0] [(1, vy k), (5, vs A7_0 s7.1 c7_0), (7, vp b13 0), (9, vs Ap_parts p.parts cp_parts), (10, vi (((p.parts).length : Nat) : Int)), (11, vi ((s7.2 : Nat) : Int))] ?_
      refine xRe ?_
      refine wpq_then ?_
      refine xSq ?_
      refine xRg ?_
      refine xB 4 [(1, 0)] [(1, vy k), (5, vs A7_0 s7.1 c7_0), (7, vp b13 0), (9, vs Ap_parts p.parts cp_parts), (10, vi (((p.parts).length : Nat) : Int)), (11, vi ((s7.2 : Nat) : Int)), (18, vb ((List.getD p.parts s7.2 default).kind == k))] ?_
      refine xRe ?_
      refine wpq_then ?_
      refine xBindO hS (fun g own sl t14 => ∃ (A14_0 : Option Addr) (c14_0 : Nat) (k14_0 : Option Bk), own = [k14_0] ∧ sl = [(1, vy k), (5, vs A14_0 t14 c14_0), (9, vs Ap_parts p.parts cp_parts), (10, vi (((p.parts).length : Nat) : Int)), (11, vi ((s7.2 : Nat) : Int))] ∧ Buf g.b tyS 9 (.slice A14_0 (t14).length c14_0) k14_0 t14) ?_ ?_
      · rintro g15 _ _ t14 e16 ⟨A14_0, c14_0, k14_0, rfl, rfl, h14_0⟩ hS
        have nh14_0 := h14_0.len
        refine wpq_blockN ?_
        refine wpq_then ?_
        refine xRg ?_
        obtain ⟨q17, hS⟩ := grd_T hS
        have q17p := of_decide_eq_true q17
        refine xV (qAdd .i64 (((s7.2 : Nat) : Int)) (1) (wr64 (by omega))) ?_
        refine xB 1 [] [(1, vy k), (5, vs A14_0 t14 c14_0), (9, vs Ap_parts p.parts cp_parts), (10, vi (((p.parts).length : Nat) : Int)), (11, vi (((s7.2 : Nat) : Int) + 1))] ?_
        refine xRe ?_
        refine wpq_thenN ?_
        refine xSub [(1, vy k), (5, vs A14_0 t14 c14_0), (9, vs Ap_parts p.parts cp_parts), (10, vi (((p.parts).length : Nat) : Int)), (11, vi (((s7.2 : Nat) : Int) + 1))] ?_
        have eS := (Option.some.inj hS).symm
        exact hN7 _ eS _ _ _ e16 ⟨A14_0, c14_0, k14_0, by kernel_rfl, by kernel_rfl, h14_0⟩
      · intro uu14 hS hN14
        refine xCd (((List.getD p.parts s7.2 default).kind == k)) (fun h18 => ?_) (fun h18 => ?_)
        · have hS := cond_T h18 hS
          have h18p : (List.getD p.parts s7.2 default).kind = k := eq_of_beq h18
          refine xRg ?_
          refine xB 3 [(2, 0)] [(1, vy k), (5, vs A7_0 s7.1 c7_0), (9, vs Ap_parts p.parts cp_parts), (10, vi (((p.parts).length : Nat) : Int)), (11, vi ((s7.2 : Nat) : Int)), (19, vs A7_0 s7.1 c7_0), (21, vt ((List.getD p.parts s7.2 default).name))] ?_
          refine xE (eBs (T := tyS) (p := g8.b) (et := 9) (xs := ([((List.getD p.parts s7.2 default).name : List UInt8)] : List (List UInt8))) (reps_cons (c := [vt ((List.getD p.parts s7.2 default).name)]) (show tyS.rep _ _ _ from rfl) reps_nil) (by simp)) ?_
          rintro _ _ _ - ⟨A19, c19, k19, rfl, rfl, rfl, h19⟩
          obtain ⟨nw20, hp20, hs20⟩ := h19.srcO (g := g8)
          obtain ⟨q21, hS⟩ := grd_T hS
          have q21p := of_decide_eq_true q21
          refine xE (eApp (T := tyS) (p := g8.b) (et := 9) (bytes := 16) (xs := (s7.1 : List (List UInt8))) (ys := (([((List.getD p.parts s7.2 default).name : List UInt8)] : List (List UInt8)) : List (List UInt8))) 2 h7_0 rfl (fun w hs => hs20 0 w _ hs (by kernel_rfl)) hp20 (by first | omega | (simp only [List.length_cons, List.length_nil] at *; omega)) (by first | omega | (simp only [List.length_cons, List.length_nil] at *; omega))) ?_
          rintro _ _ _ - ⟨A20, c20, k20, rfl, rfl, rfl, h20⟩
          have nh20 := h20.len
          have hz20 : ((s7.1 ++ ([((List.getD p.parts s7.2 default).name : List UInt8)] : List (List UInt8))) : List (List UInt8)).length = (s7.1).length + (([((List.getD p.parts s7.2 default).name : List UInt8)] : List (List UInt8))).length := List.length_append
          refine xB 1 [] [(1, vy k), (5, vs A20 (s7.1 ++ ([((List.getD p.parts s7.2 default).name : List UInt8)] : List (List UInt8))) c20), (9, vs Ap_parts p.parts cp_parts), (10, vi (((p.parts).length : Nat) : Int)), (11, vi ((s7.2 : Nat) : Int))] ?_
          refine xRe ?_
          refine xSel [some 2] ?_
          refine xSub [(1, vy k), (5, vs A20 (s7.1 ++ ([((List.getD p.parts s7.2 default).name : List UInt8)] : List (List UInt8))) c20), (9, vs Ap_parts p.parts cp_parts), (10, vi (((p.parts).length : Nat) : Int)), (11, vi ((s7.2 : Nat) : Int))] ?_
          have eS := (Option.some.inj hS).symm
          exact hN14 _ eS _ _ _ (Gh.le.refl _) ⟨A20, c20, k20, by kernel_rfl, by kernel_rfl, h20⟩
        · have hS := cond_F h18 hS
          have h18p : ¬ ((List.getD p.parts s7.2 default).kind = k) := ne_of_beq_false_ h18
          refine xSk ?_
          refine xSel [some 1] ?_
          refine xSub [(1, vy k), (5, vs A7_0 s7.1 c7_0), (9, vs Ap_parts p.parts cp_parts), (10, vi (((p.parts).length : Nat) : Int)), (11, vi ((s7.2 : Nat) : Int))] ?_
          have eS := (Option.some.inj hS).symm
          exact hN14 _ eS _ _ _ (Gh.le.refl _) ⟨A7_0, c7_0, k7_0, by kernel_rfl, by kernel_rfl, h7_0⟩
    · have hS := cond_F h10 hS
      have h10p := of_decide_eq_false h10
      refine xEx 0 ?_
      refine wpq_thenX ?_
      refine wpq_thenX ?_
      refine wpq_blockE ?_
      refine xSub [(5, vs A7_0 s7.1 c7_0)] ?_
      have eS := (Option.some.inj hS).symm
      have eS := (hD7 _ eS).symm
      exact hN2 _ eS _ _ _ e9 ⟨A7_0, c7_0, k7_0, by kernel_rfl, by kernel_rfl, h7_0⟩

def o23_L0 (t20 : (List (Int × List Leg))) (y23 : (List UInt8)) (s32 : (List Leg) × Nat) : Option (Ctl ((List Leg) × Nat) ((List Leg))) :=
  (cond (decide (((s32.2 : Nat) : Int) < (((y23).length : Nat) : Int))) (bindO (τ := (List Leg)) (o21 (s32.1 : List Leg) ((mapGet [] t20 ((List.getD y23 s32.2 0).toNat : Int)) : List Leg)) fun y39 => (grd (decide (((s32.2 : Nat) : Int) + 1 ≤ 9223372036854775807)) (some (Ctl.go ((y39 : List Leg), (s32.2 + 1)))))) (some (Ctl.done ((s32.1 : List Leg)))))
def o23 (p : Proc) (runway : List UInt8) (transition : List UInt8) : Option ((List Leg) × Int) :=
  (bindO (τ := Int) (o13 p) fun y2 => (cond ((y2 != 0)) (some ((([] : List Leg), (y2 : Int)))) (bindO (τ := (List (List UInt8))) (o15 p (1 : Int)) fun y7 => (joinO (τ := (List (Int × List Leg))) (ρ := (List Leg) × Int) (cond (decide ((((y7).length : Nat) : Int) > 0)) (bindO (τ := Part × Bool) (o17 p (1 : Int) runway) fun y53 => (cond ((!y53.2)) (some (Ctl.done ((([] : List Leg), (6 : Int))))) (some (Ctl.go ((mapPut ([] : List (Int × List Leg)) y53.1.kind (y53.1.legs : List Leg)) : List (Int × List Leg)))))) (some (Ctl.go (([] : List (Int × List Leg)) : List (Int × List Leg))))) fun t10 => (joinO (τ := (List (Int × List Leg))) (ρ := (List Leg) × Int) (cond ((!(transition == []))) (bindO (τ := Part × Bool) (o17 p (3 : Int) transition) fun y46 => (cond ((!y46.2)) (some (Ctl.done ((([] : List Leg), (6 : Int))))) (some (Ctl.go ((mapPut t10 y46.1.kind (y46.1.legs : List Leg)) : List (Int × List Leg)))))) (some (Ctl.go (t10 : List (Int × List Leg))))) fun t13 => (bindO (τ := Part × Bool) (o17 p (2 : Int) []) fun y16 => (letJ (τ := (List (Int × List Leg))) (cond (y16.2) (((mapPut t13 y16.1.kind (y16.1.legs : List Leg)) : List (Int × List Leg))) ((t13 : List (Int × List Leg)))) fun t20 => (letJ (τ := (List UInt8)) (o36 (p.kind : Int)) fun y23 => (bindO (τ := (List Leg)) (loopO (σ := (List Leg) × Nat) (ρ := (List Leg)) fuelN (o23_L0 t20 y23) (([] : List Leg), 0)) fun t26 => (cond (((((t26).length : Nat) : Int) == 0)) (some ((([] : List Leg), (6 : Int)))) (some (((t26 : List Leg), (0 : Int))))))))))))))
set_option maxRecDepth 100000 in
theorem C23 (g : Gh) (p : Proc) (Ap_parts : Option Addr) (cp_parts : Nat) (runway : List UInt8) (transition : List UInt8) (fp_parts : ArrM g.r g.b tyPart Ap_parts cp_parts p.parts) (fG0 : Arr g.r (tyI .u16) (some ⟨0, 0, none⟩) 18 usesL) {r : (List Leg) × Int} (hS : o23 p runway transition = some r) :
    Ctr Tryd.prog 23 [Value.agg #[vt p.airport, vt p.name, vy p.kind, vs Ap_parts p.parts cp_parts], vt runway, vt transition] g [] (fun v ψ o => ∃ (Ar_0 : Option Addr) (cr_0 : Nat) (kr_0 : Option Bk), v = Value.tuple #[vs Ar_0 r.1 cr_0, vi r.2] ∧ o = [kr_0] ∧ Buf ψ tyLeg 46 (.slice Ar_0 (r.1).length cr_0) kr_0 r.1) := by
  unfold o23 at hS
  refine xFn Tryd.f23 (Tryd.f23.body.getD .skip) 86 ?_
  have hlG0 := hlUses
  have nfp_parts := fp_parts.len
  have nfG0 := fG0.len
  refine xSq ?_
  refine xRg ?_
  refine xE eB ?_
  rintro _ _ _ - ⟨b1, rfl, rfl, rfl⟩
  refine xB 2 [] [(1, vt runway), (2, vt transition), (3, vp b1 0)] ?_
  refine xRe ?_
  refine wpq_then ?_
  refine xSq ?_
  refine xSq ?_
  refine xRg ?_
  refine xB 1 [(0, 0)] [(1, vt runway), (2, vt transition), (3, vp b1 0), (19, Value.agg #[vt p.airport, vt p.name, vy p.kind, vs Ap_parts p.parts cp_parts])] ?_
  obtain ⟨y2, hy2, hS⟩ := bindO_T hS
  refine xE (eC 0 (fun g' lr eb ln => C13 g' p Ap_parts cp_parts (ArrM.lent fp_parts lr eb) (fG0.mono lr) hy2)) ?_
  rintro _ g3 _ e4 ⟨_, rfl, rfl, rfl⟩
  refine xB 1 [] [(1, vt runway), (2, vt transition), (3, vp b1 0), (8, vi y2)] ?_
  refine xRe ?_
  refine wpq_then ?_
  refine xSq ?_
  refine xRg ?_
  refine xB 2 [] [(1, vt runway), (2, vt transition), (3, vp b1 0), (8, vi y2), (22, vb (y2 != 0))] ?_
  refine xRe ?_
  refine wpq_then ?_
  refine xCd ((y2 != 0)) (fun h5 => ?_) (fun h5 => ?_)
  · have hS := cond_T h5 hS
    have h5p : ¬ (y2 = 0) := ne_of_bne_ h5
    refine xSq ?_
    refine xRg ?_
    refine xB 3 [] [(6, Value.slice none 0 0), (7, vi y2)] ?_
    refine xRe ?_
    refine wpq_then ?_
    have eS := (Option.some.inj hS).symm
    subst eS
    exact xRet [none] [6, 7] e4 ⟨none, 0, none, by kernel_rfl, by kernel_rfl, Buf.nil⟩ (fun _ _ h => h)
  · have hS := cond_F h5 hS
    have h5p : y2 = 0 := eq_of_bne_false_ h5
    refine xSk ?_
    refine wpq_then ?_
    refine xSub [(1, vt runway), (2, vt transition), (3, vp b1 0)] ?_
    refine xSq ?_
    refine xRg ?_
    refine xE (eMkMap tyLeg) ?_
    rintro _ _ _ - ⟨vm6, km6, rfl, rfl, rfl, hm6⟩
    refine xB 1 [] [(1, vt runway), (2, vt transition), (3, vp b1 0), (9, vm6)] ?_
    refine xRe ?_
    refine wpq_then ?_
    refine xSq ?_
    refine xSq ?_
    refine xRg ?_
    refine xB 1 [(0, 1)] [(1, vt runway), (2, vt transition), (3, vp b1 0), (9, vm6), (25, Value.agg #[vt p.airport, vt p.name, vy p.kind, vs Ap_parts p.parts cp_parts])] ?_
    have fp_parts := fp_parts.mono e4.r e4.b
    obtain ⟨y7, hy7, hS⟩ := bindO_T hS
    refine xE (eC 0 (fun g' lr eb ln => C15 g' p Ap_parts cp_parts (1 : Int) ((fp_parts.toArr g3.br).mono lr) hy7)) ?_
    rintro _ g8 _ e9 ⟨_, rfl, A7_0, c7_0, k7_0, rfl, rfl, h7_0⟩
    have nh7_0 := h7_0.len
    refine xB 2 [] [(1, vt runway), (2, vt transition), (3, vp b1 0), (9, vm6), (28, vb (decide ((((y7).length : Nat) : Int) > 0)))] ?_
    refine xRe ?_
    refine wpq_then ?_
    refine xJoinO hS (fun g own sl t10 => ∃ (k10_0 : Option Bk), own = [some ⟨b1, 25, (cProc p Ap_parts cp_parts)⟩, k10_0] ∧ sl = [(2, vt transition), (3, vp b1 0), (9, vm6)] ∧ MBuf g.b tyLeg vm6 k10_0 t10) ?_ ?_
    · rintro g11 _ _ t10 e12 ⟨k10_0, rfl, rfl, h10_0⟩ hS
      refine wpq_then ?_
      refine xSq ?_
      refine xSq ?_
      refine xRg ?_
      refine xB 1 [] [(2, vt transition), (3, vp b1 0), (9, vm6), (42, vt transition)] ?_
      refine xV (qNeS (transition) ([])) ?_
      refine xRe ?_
      refine wpq_then ?_
      refine xSub [(2, vt transition), (3, vp b1 0), (9, vm6), (43, vb (!(transition == [])))] ?_
      refine xJoinO hS (fun g own sl t13 => ∃ (k13_0 : Option Bk), own = [some ⟨b1, 25, (cProc p Ap_parts cp_parts)⟩, k13_0] ∧ sl = [(3, vp b1 0), (9, vm6)] ∧ MBuf g.b tyLeg vm6 k13_0 t13) ?_ ?_
      · rintro g14 _ _ t13 e15 ⟨k13_0, rfl, rfl, h13_0⟩ hS
        refine wpq_then ?_
        refine xSq ?_
        refine xSq ?_
        refine xRg ?_
        refine xB 1 [(0, 0)] [(3, vp b1 0), (9, vm6), (58, Value.agg #[vt p.airport, vt p.name, vy p.kind, vs Ap_parts p.parts cp_parts])] ?_
        have fp_parts := fp_parts.mono (e9.trans (e12.trans e15)).r (e9.trans (e12.trans e15)).b
        obtain ⟨y16, hy16, hS⟩ := bindO_T hS
        refine xE (eC 0 (fun g' lr eb ln => C17 g' p Ap_parts cp_parts (2 : Int) [] (ArrM.lent fp_parts lr eb) hy16)) ?_
        rintro _ g17 _ e18 ⟨_, rfl, A16_0_legs, c16_0_legs, rfl, rfl, f16_0_legs⟩
        have nf16_0_legs := f16_0_legs.len
        refine xB 3 [] [(3, vp b1 0), (9, vm6), (60, Value.agg #[vy y16.1.kind, vt y16.1.name, vs A16_0_legs y16.1.legs c16_0_legs]), (61, vb y16.2)] ?_
        refine xE eB ?_
        rintro _ _ _ - ⟨b19, rfl, rfl, rfl⟩
        refine xBo 2 [(6, 0)] [some ⟨b19, 35, [vy y16.1.kind, vt y16.1.name, vs A16_0_legs y16.1.legs c16_0_legs]⟩, some ⟨b1, 25, (cProc p Ap_parts cp_parts)⟩, k13_0] [(3, vp b1 0), (9, vm6), (14, vp b19 0), (15, vb y16.2)] ?_
        refine xRe ?_
        refine wpq_then ?_
        refine xSq ?_
        refine xRg ?_
        refine xB 1 [] [(3, vp b1 0), (9, vm6), (14, vp b19 0), (62, vb y16.2)] ?_
        refine xRe ?_
        refine wpq_then ?_
        refine xLetJ hS (fun g own sl t20 => ∃ (k20_0 : Option Bk), own = [some ⟨b1, 25, (cProc p Ap_parts cp_parts)⟩, k20_0] ∧ sl = [(3, vp b1 0), (9, vm6)] ∧ MBuf g.b tyLeg vm6 k20_0 t20) ?_ ?_
        · rintro g21 _ _ t20 e22 ⟨k20_0, rfl, rfl, h20_0⟩ hS
          refine wpq_then ?_
          refine xSq ?_
          refine xRg ?_
          refine xB 1 [] [(3, vp b1 0), (9, vm6), (16, Value.slice none 0 0)] ?_
          refine xRe ?_
          refine wpq_then ?_
          refine xSq ?_
          refine xSq ?_
          refine xRg ?_
          refine xB 2 [(1, 0)] [(9, vm6), (16, Value.slice none 0 0), (69, vy p.kind)] ?_
          obtain ⟨y23, hy23, hS⟩ := letJ_T hS
          refine xE (eC 0 (fun g' lr eb ln => C36 g' (p.kind : Int) hy23)) ?_
          rintro _ g24 _ e25 ⟨_, rfl, A23_0, c23_0, k23_0, rfl, rfl, h23_0, hq23_0⟩
          have nh23_0 := h23_0.len
          refine xB 2 [] [(9, vm6), (16, Value.slice none 0 0), (70, vs A23_0 y23 c23_0), (71, vi (((y23).length : Nat) : Int)), (72, vi 0)] ?_
          refine xRe ?_
          refine wpq_then ?_
          refine xBindO hS (fun g own sl t26 => ∃ (A26_0 : Option Addr) (c26_0 : Nat) (k26_0 : Option Bk), own = [k26_0] ∧ sl = [(16, vs A26_0 t26 c26_0)] ∧ Buf g.b tyLeg 46 (.slice A26_0 (t26).length c26_0) k26_0 t26) ?_ ?_
          · rintro g27 _ _ t26 e28 ⟨A26_0, c26_0, k26_0, rfl, rfl, h26_0⟩ hS
            have nh26_0 := h26_0.len
            refine wpq_then ?_
            refine xSq ?_
            refine xSq ?_
            refine xRg ?_
            refine xB 3 [] [(16, vs A26_0 t26 c26_0), (84, vb ((((t26).length : Nat) : Int) == 0))] ?_
            refine xRe ?_
            refine wpq_then ?_
            refine xCd (((((t26).length : Nat) : Int) == 0)) (fun h29 => ?_) (fun h29 => ?_)
            · have hS := cond_T h29 hS
              have h29p : (((t26).length : Nat) : Int) = 0 := eq_of_beq h29
              refine xSq ?_
              refine xRg ?_
              refine xB 2 [] [(6, Value.slice none 0 0), (7, vi 6)] ?_
              refine xRe ?_
              refine wpq_then ?_
              have eS := (Option.some.inj hS).symm
              subst eS
              exact xRet [none] [6, 7] (e4.trans (e9.trans (e12.trans (e15.trans (e18.trans (e22.trans (e25.trans e28))))))) ⟨none, 0, none, by kernel_rfl, by kernel_rfl, Buf.nil⟩ (fun _ _ h => h)
            · have hS := cond_F h29 hS
              have h29p : ¬ ((((t26).length : Nat) : Int) = 0) := ne_of_beq_false_ h29
              refine xSk ?_
              refine wpq_then ?_
              refine xSub [(16, vs A26_0 t26 c26_0)] ?_
              refine xSq ?_
              refine xRg ?_
              refine xB 3 [] [(6, vs A26_0 t26 c26_0), (7, vi 0)] ?_
              refine xRe ?_
              refine wpq_then ?_
              have eS := (Option.some.inj hS).symm
              subst eS
              exact xRet [some 0] [6, 7] (e4.trans (e9.trans (e12.trans (e15.trans (e18.trans (e22.trans (e25.trans e28))))))) ⟨A26_0, c26_0, k26_0, by kernel_rfl, by kernel_rfl, h26_0⟩ (fun _ _ h => h)
          · intro uu26 hS hN26
            refine xBl 0 ?_
            refine xSel [some 2, none, some 0] ?_
            refine xSub [(9, vm6), (16, Value.slice none 0 0), (70, vs A23_0 y23 c23_0), (71, vi (((y23).length : Nat) : Int)), (72, vi 0)] ?_
            refine xLo hS (fun g own sl s32 => ∃ (A32_0 : Option Addr) (c32_0 : Nat) (k32_0 : Option Bk), own = [k20_0, k32_0, k23_0] ∧ sl = [(9, vm6), (16, vs A32_0 s32.1 c32_0), (70, vs A23_0 y23 c23_0), (71, vi (((y23).length : Nat) : Int)), (72, vi ((s32.2 : Nat) : Int))] ∧ Buf g.b tyLeg 46 (.slice A32_0 (s32.1).length c32_0) k32_0 s32.1) ⟨none, 0, none, by kernel_rfl, by kernel_rfl, Buf.nil⟩ ?_
            rintro g33 _ _ s32 uu32 e34 ⟨A32_0, c32_0, k32_0, rfl, rfl, h32_0⟩ hS Qr32 hN32 hD32
            have nh32_0 := h32_0.len
            unfold o23_L0 at hS
            refine xSq ?_
            refine xRg ?_
            refine xB 1 [] [(9, vm6), (16, vs A32_0 s32.1 c32_0), (70, vs A23_0 y23 c23_0), (71, vi (((y23).length : Nat) : Int)), (72, vi ((s32.2 : Nat) : Int)), (73, vb (decide (((s32.2 : Nat) : Int) < (((y23).length : Nat) : Int))))] ?_
            refine xRe ?_
            refine wpq_then ?_
            refine xSq ?_
            refine xCd (decide (((s32.2 : Nat) : Int) < (((y23).length : Nat) : Int))) (fun h35 => ?_) (fun h35 => ?_)
            · have hS := cond_T h35 hS
              have h35p := of_decide_eq_true h35
              refine xSk ?_
              refine wpq_then ?_
              refine xSub [(9, vm6), (16, vs A32_0 s32.1 c32_0), (70, vs A23_0 y23 c23_0), (71, vi (((y23).length : Nat) : Int)), (72, vi ((s32.2 : Nat) : Int))] ?_
              refine xSq ?_
              refine xBl 1 ?_
              refine xSq ?_
              refine xRg ?_
              have h23_0 := h23_0.mono e34.b
              have i37 : s32.2 < (y23).length := by omega
              obtain ⟨kc36, cs36, hA36, hk36, hr36, hw36⟩ := h23_0.open_ i37 0
              obtain ⟨kb36, rfl⟩ : ∃ z, z = kc36 := ⟨_, rfl⟩
              subst hk36
              have hr36 : cs36 = [vy ((List.getD y23 s32.2 0).toNat : Int)] := hr36
              subst hr36
              have nb36 := UInt8.toNat_lt (List.getD y23 s32.2 0)
              refine xV (qIxB s32.2 1 kb36.g hA36 rfl i37) ?_
              refine xV (qLdB s32.2 1 0 2 hw36) ?_
              refine xB 1 [] [(9, vm6), (16, vs A32_0 s32.1 c32_0), (18, vy ((List.getD y23 s32.2 0).toNat : Int)), (70, vs A23_0 y23 c23_0), (71, vi (((y23).length : Nat) : Int)), (72, vi ((s32.2 : Nat) : Int))] ?_
              refine xRe ?_
              refine wpq_then ?_
              refine xRg ?_
              refine xB 3 [] [(9, vm6), (16, vs A32_0 s32.1 c32_0), (70, vs A23_0 y23 c23_0), (71, vi (((y23).length : Nat) : Int)), (72, vi ((s32.2 : Nat) : Int)), (76, vs A32_0 s32.1 c32_0), (77, vm6), (78, vy ((List.getD y23 s32.2 0).toNat : Int))] ?_
              have h20_0 := h20_0.mono (e25.trans e34).b
              refine xE (eLkp (kk := ((List.getD y23 s32.2 0).toNat : Int)) 0 h20_0) ?_
              rintro _ _ _ - ⟨Al38, cl38, rfl, rfl, rfl, fl38⟩
              have nfl38 := fl38.len
              obtain ⟨y39, hy39, hS⟩ := bindO_T hS
              refine xE (eC 0 (fun g' lr eb ln => C21 g' (s32.1 : List Leg) A32_0 c32_0 ((mapGet [] t20 ((List.getD y23 s32.2 0).toNat : Int)) : List Leg) Al38 cl38 (arrm_of_buf h32_0 eb (lentk 1 (by kernel_rfl) ln)) (by rw [eb]; exact fl38) hy39)) ?_
              rintro _ g40 _ e41 ⟨_, rfl, A39_0, c39_0, k39_0, rfl, rfl, h39_0⟩
              have nh39_0 := h39_0.len
              refine xB 1 [] [(9, vm6), (16, vs A39_0 y39 c39_0), (70, vs A23_0 y23 c23_0), (71, vi (((y23).length : Nat) : Int)), (72, vi ((s32.2 : Nat) : Int))] ?_
              refine xRe ?_
              refine wpq_blockN ?_
              refine wpq_then ?_
              refine xRg ?_
              obtain ⟨q42, hS⟩ := grd_T hS
              have q42p := of_decide_eq_true q42
              refine xV (qAdd .i64 (((s32.2 : Nat) : Int)) (1) (wr64 (by omega))) ?_
              refine xB 1 [] [(9, vm6), (16, vs A39_0 y39 c39_0), (70, vs A23_0 y23 c23_0), (71, vi (((y23).length : Nat) : Int)), (72, vi (((s32.2 : Nat) : Int) + 1))] ?_
              refine xRe ?_
              refine wpq_thenN ?_
              refine xSel [some 1, some 0, some 3] ?_
              refine xSub [(9, vm6), (16, vs A39_0 y39 c39_0), (70, vs A23_0 y23 c23_0), (71, vi (((y23).length : Nat) : Int)), (72, vi (((s32.2 : Nat) : Int) + 1))] ?_
              have eS := (Option.some.inj hS).symm
              exact hN32 _ eS _ _ _ e41 ⟨A39_0, c39_0, k39_0, by kernel_rfl, by kernel_rfl, h39_0⟩
            · have hS := cond_F h35 hS
              have h35p := of_decide_eq_false h35
              refine xEx 0 ?_
              refine wpq_thenX ?_
              refine wpq_thenX ?_
              refine wpq_blockE ?_
              refine xSel [some 1] ?_
              refine xSub [(16, vs A32_0 s32.1 c32_0)] ?_
              have eS := (Option.some.inj hS).symm
              have eS := (hD32 _ eS).symm
              exact hN26 _ eS _ _ _ e34 ⟨A32_0, c32_0, k32_0, by kernel_rfl, by kernel_rfl, h32_0⟩
        · intro uu20 hS hN20
          refine xCd (y16.2) (fun h43 => ?_) (fun h43 => ?_)
          · have hS := cond_T h43 hS
            refine xRg ?_
            refine xB 5 [(2, 0), (4, 0)] [(3, vp b1 0), (9, vm6), (63, vm6), (65, vy y16.1.kind), (67, vs A16_0_legs y16.1.legs c16_0_legs)] ?_
            have h13_0 := h13_0.mono e18.b
            refine xD (eMapUpd (kk := y16.1.kind) (y := (y16.1.legs : List Leg)) 2 h13_0 ⟨A16_0_legs, c16_0_legs, rfl, f16_0_legs⟩) ?_
            rintro _ _ _ - ⟨km44, rfl, rfl, hm44⟩
            refine xRe ?_
            refine xSel [some 1, some 2] ?_
            refine xSub [(3, vp b1 0), (9, vm6)] ?_
            have eS := hS.symm
            exact hN20 _ eS _ _ _ (Gh.le.refl _) ⟨km44, by kernel_rfl, by kernel_rfl, hm44⟩
          · have hS := cond_F h43 hS
            refine xSk ?_
            have h13_0 := h13_0.mono e18.b
            refine xSel [some 1, some 2] ?_
            refine xSub [(3, vp b1 0), (9, vm6)] ?_
            have eS := hS.symm
            exact hN20 _ eS _ _ _ (Gh.le.refl _) ⟨k13_0, by kernel_rfl, by kernel_rfl, h13_0⟩
      · intro uu13 hS hN13 hD13
        refine xCd ((!(transition == []))) (fun h45 => ?_) (fun h45 => ?_)
        · have hS := cond_T h45 hS
          have h45n := not_eq_true_ h45
          have h45np : ¬ (transition = []) := ne_of_beq_false_ h45n
          refine xSq ?_
          refine xRg ?_
          refine xB 2 [(0, 0)] [(3, vp b1 0), (9, vm6), (45, Value.agg #[vt p.airport, vt p.name, vy p.kind, vs Ap_parts p.parts cp_parts]), (46, vt transition)] ?_
          have fp_parts := fp_parts.mono (e9.trans e12).r (e9.trans e12).b
          obtain ⟨y46, hy46, hS⟩ := bindO_T hS
          refine xE (eC 0 (fun g' lr eb ln => C17 g' p Ap_parts cp_parts (3 : Int) transition (ArrM.lent fp_parts lr eb) hy46)) ?_
          rintro _ g47 _ e48 ⟨_, rfl, A46_0_legs, c46_0_legs, rfl, rfl, f46_0_legs⟩
          have nf46_0_legs := f46_0_legs.len
          refine xB 3 [] [(3, vp b1 0), (9, vm6), (48, Value.agg #[vy y46.1.kind, vt y46.1.name, vs A46_0_legs y46.1.legs c46_0_legs]), (49, vb y46.2)] ?_
          refine xE eB ?_
          rintro _ _ _ - ⟨b49, rfl, rfl, rfl⟩
          refine xBo 2 [(7, 0)] [some ⟨b49, 35, [vy y46.1.kind, vt y46.1.name, vs A46_0_legs y46.1.legs c46_0_legs]⟩, some ⟨b1, 25, (cProc p Ap_parts cp_parts)⟩, k10_0] [(3, vp b1 0), (9, vm6), (12, vp b49 0), (13, vb y46.2)] ?_
          refine xRe ?_
          refine wpq_then ?_
          refine xSq ?_
          refine xSq ?_
          refine xRg ?_
          refine xB 2 [] [(3, vp b1 0), (9, vm6), (12, vp b49 0), (51, vb (!y46.2))] ?_
          refine xRe ?_
          refine wpq_then ?_
          refine xCd ((!y46.2)) (fun h50 => ?_) (fun h50 => ?_)
          · have hS := cond_T h50 hS
            have h50n := not_eq_true_ h50
            refine xSq ?_
            refine xRg ?_
            refine xB 2 [] [(6, Value.slice none 0 0), (7, vi 6)] ?_
            refine xRe ?_
            refine wpq_then ?_
            have eS := (Option.some.inj hS).symm
            have eS := (hD13 _ eS).symm
            subst eS
            exact xRet [none] [6, 7] (e4.trans (e9.trans (e12.trans e48))) ⟨none, 0, none, by kernel_rfl, by kernel_rfl, Buf.nil⟩ (fun _ _ h => h)
          · have hS := cond_F h50 hS
            have h50n := not_eq_false_ h50
            refine xSk ?_
            refine wpq_then ?_
            refine xSub [(3, vp b1 0), (9, vm6), (12, vp b49 0)] ?_
            refine xRg ?_
            refine xB 5 [(2, 0), (4, 0)] [(3, vp b1 0), (9, vm6), (52, vm6), (54, vy y46.1.kind), (56, vs A46_0_legs y46.1.legs c46_0_legs)] ?_
            have h10_0 := h10_0.mono e48.b
            refine xD (eMapUpd (kk := y46.1.kind) (y := (y46.1.legs : List Leg)) 2 h10_0 ⟨A46_0_legs, c46_0_legs, rfl, f46_0_legs⟩) ?_
            rintro _ _ _ - ⟨km51, rfl, rfl, hm51⟩
            refine xRe ?_
            refine xSel [some 1, some 2] ?_
            refine xSub [(3, vp b1 0), (9, vm6)] ?_
            have eS := (Option.some.inj hS).symm
            exact hN13 _ eS _ _ _ e48 ⟨km51, by kernel_rfl, by kernel_rfl, hm51⟩
        · have hS := cond_F h45 hS
          have h45n := not_eq_false_ h45
          have h45np : transition = [] := eq_of_beq h45n
          refine xSk ?_
          refine xSub [(3, vp b1 0), (9, vm6)] ?_
          have eS := (Option.some.inj hS).symm
          exact hN13 _ eS _ _ _ (Gh.le.refl _) ⟨k10_0, by kernel_rfl, by kernel_rfl, h10_0⟩
    · intro uu10 hS hN10 hD10
      refine xCd (decide ((((y7).length : Nat) : Int) > 0)) (fun h52 => ?_) (fun h52 => ?_)
      · have hS := cond_T h52 hS
        have h52p := of_decide_eq_true h52
        refine xSq ?_
        refine xRg ?_
        refine xB 2 [(0, 2)] [(2, vt transition), (3, vp b1 0), (9, vm6), (30, Value.agg #[vt p.airport, vt p.name, vy p.kind, vs Ap_parts p.parts cp_parts]), (31, vt runway)] ?_
        have fp_parts := fp_parts.mono e9.r e9.b
        obtain ⟨y53, hy53, hS⟩ := bindO_T hS
        refine xE (eC 0 (fun g' lr eb ln => C17 g' p Ap_parts cp_parts (1 : Int) runway (ArrM.lent fp_parts lr eb) hy53)) ?_
        rintro _ g54 _ e55 ⟨_, rfl, A53_0_legs, c53_0_legs, rfl, rfl, f53_0_legs⟩
        have nf53_0_legs := f53_0_legs.len
        refine xB 3 [] [(2, vt transition), (3, vp b1 0), (9, vm6), (33, Value.agg #[vy y53.1.kind, vt y53.1.name, vs A53_0_legs y53.1.legs c53_0_legs]), (34, vb y53.2)] ?_
        refine xE eB ?_
        rintro _ _ _ - ⟨b56, rfl, rfl, rfl⟩
        refine xBo 2 [(7, 0)] [some ⟨b56, 35, [vy y53.1.kind, vt y53.1.name, vs A53_0_legs y53.1.legs c53_0_legs]⟩, k7_0, km6, some ⟨b1, 25, (cProc p Ap_parts cp_parts)⟩] [(2, vt transition), (3, vp b1 0), (9, vm6), (10, vp b56 0), (11, vb y53.2)] ?_
        refine xRe ?_
        refine wpq_then ?_
        refine xSq ?_
        refine xSq ?_
        refine xRg ?_
        refine xB 2 [] [(2, vt transition), (3, vp b1 0), (9, vm6), (10, vp b56 0), (36, vb (!y53.2))] ?_
        refine xRe ?_
        refine wpq_then ?_
        refine xCd ((!y53.2)) (fun h57 => ?_) (fun h57 => ?_)
        · have hS := cond_T h57 hS
          have h57n := not_eq_true_ h57
          refine xSq ?_
          refine xRg ?_
          refine xB 2 [] [(6, Value.slice none 0 0), (7, vi 6)] ?_
          refine xRe ?_
          refine wpq_then ?_
          have eS := (Option.some.inj hS).symm
          have eS := (hD10 _ eS).symm
          subst eS
          exact xRet [none] [6, 7] (e4.trans (e9.trans e55)) ⟨none, 0, none, by kernel_rfl, by kernel_rfl, Buf.nil⟩ (fun _ _ h => h)
        · have hS := cond_F h57 hS
          have h57n := not_eq_false_ h57
          refine xSk ?_
          refine wpq_then ?_
          refine xSub [(2, vt transition), (3, vp b1 0), (9, vm6), (10, vp b56 0)] ?_
          refine xRg ?_
          refine xB 5 [(2, 0), (4, 0)] [(2, vt transition), (3, vp b1 0), (9, vm6), (37, vm6), (39, vy y53.1.kind), (41, vs A53_0_legs y53.1.legs c53_0_legs)] ?_
          have hm6 := hm6.mono (e9.trans e55).b
          refine xD (eMapUpd (kk := y53.1.kind) (y := (y53.1.legs : List Leg)) 2 hm6 ⟨A53_0_legs, c53_0_legs, rfl, f53_0_legs⟩) ?_
          rintro _ _ _ - ⟨km58, rfl, rfl, hm58⟩
          refine xRe ?_
          refine xSel [some 3, some 2] ?_
          refine xSub [(2, vt transition), (3, vp b1 0), (9, vm6)] ?_
          have eS := (Option.some.inj hS).symm
          exact hN10 _ eS _ _ _ e55 ⟨km58, by kernel_rfl, by kernel_rfl, hm58⟩
      · have hS := cond_F h52 hS
        have h52p := of_decide_eq_false h52
        refine xSk ?_
        have hm6 := hm6.mono e9.b
        refine xSel [some 2, some 1] ?_
        refine xSub [(2, vt transition), (3, vp b1 0), (9, vm6)] ?_
        have eS := (Option.some.inj hS).symm
        exact hN10 _ eS _ _ _ (Gh.le.refl _) ⟨km6, by kernel_rfl, by kernel_rfl, hm6⟩

def o64 (a : List UInt8) (b : List UInt8) : Int :=
  (((Lib.compareBytes a b) : Int))
set_option maxRecDepth 100000 in
theorem C64 (g : Gh) (a : List UInt8) (b : List UInt8) {r : Int} (hS : o64 a b = r) :
    Ctr Tryd.prog 64 [vt a, vt b] g [] (fun v ψ o => v = vi r ∧ o = []) := by
  unfold o64 at hS
  refine xFn Tryd.f64 (Tryd.f64.body.getD .skip) 8 ?_
  refine xSq ?_
  refine xRg ?_
  refine xB 1 [] [(0, vt a), (1, vt b)] ?_
  refine xRe ?_
  refine wpq_then ?_
  refine xSq ?_
  refine xRg ?_
  refine xB 2 [] [(5, vt a), (6, vt b)] ?_
  refine xV (qXcs (xs := a) (ys := b) (f := 72) (fn := Tryd.f72) Tryd.func72 rfl rfl (by kernel_rfl) (by kernel_rfl)) ?_
  refine xB 1 [] [(4, vi (Lib.compareBytes a b))] ?_
  refine xRe ?_
  refine wpq_then ?_
  have eS := hS.symm
  subst eS
  exact xRet [] [4] (Gh.le.refl _) ⟨by kernel_rfl, by kernel_rfl⟩ (fun _ _ h => h)

def o51 (a : List UInt8) (b : List UInt8) : Int :=
  (letJ (τ := Int) (o64 a b) fun y1 => ((y1 : Int)))
set_option maxRecDepth 100000 in
theorem C51 (g : Gh) (a : List UInt8) (b : List UInt8) {r : Int} (hS : o51 a b = r) :
    Ctr Tryd.prog 51 [vt a, vt b] g [] (fun v ψ o => v = vi r ∧ o = []) := by
  unfold o51 at hS
  refine xFn Tryd.f51 (Tryd.f51.body.getD .skip) 8 ?_
  refine xSq ?_
  refine xRg ?_
  refine xB 1 [] [(0, vt a), (1, vt b)] ?_
  refine xRe ?_
  refine wpq_then ?_
  refine xSq ?_
  refine xRg ?_
  refine xB 2 [] [(5, vt a), (6, vt b)] ?_
  obtain ⟨y1, hy1, hS⟩ := letJ_T hS
  refine xE (eC 0 (fun g' lr eb ln => C64 g' a b hy1)) ?_
  rintro _ g2 _ e3 ⟨_, rfl, rfl, rfl⟩
  refine xB 1 [] [(4, vi y1)] ?_
  refine xRe ?_
  refine wpq_then ?_
  have eS := hS.symm
  subst eS
  exact xRet [] [4] e3 ⟨by kernel_rfl, by kernel_rfl⟩ (fun _ _ h => h)

def o65 (x : Int) : Bool :=
  (((x != x)))
set_option maxRecDepth 100000 in
theorem C65 (g : Gh) (x : Int) {r : Bool} (hS : o65 x = r) :
    Ctr Tryd.prog 65 [vy x] g [] (fun v ψ o => v = vb r ∧ o = []) := by
  unfold o65 at hS
  refine xFn Tryd.f65 (Tryd.f65.body.getD .skip) 6 ?_
  refine xSq ?_
  refine xRg ?_
  refine xB 1 [] [(0, vy x)] ?_
  refine xRe ?_
  refine wpq_then ?_
  refine xSq ?_
  refine xRg ?_
  refine xB 4 [] [(2, vb (x != x))] ?_
  refine xRe ?_
  refine wpq_then ?_
  have eS := hS.symm
  subst eS
  exact xRet [] [2] (Gh.le.refl _) ⟨by kernel_rfl, by kernel_rfl⟩ (fun _ _ h => h)

def o52 (x : Int) (y : Int) : Int :=
  (letJ (τ := Bool) (o65 (x : Int)) fun y1 => (letJ (τ := Bool) (o65 (y : Int)) fun y4 => (cond (y1) (cond (y4) ((0 : Int)) ((-1 : Int))) (cond (y4) ((1 : Int)) (cond (decide (x < y)) ((-1 : Int)) (cond (decide (x > y)) ((1 : Int)) ((0 : Int))))))))
set_option maxRecDepth 100000 in
theorem C52 (g : Gh) (x : Int) (y : Int) {r : Int} (hS : o52 x y = r) :
    Ctr Tryd.prog 52 [vy x, vy y] g [] (fun v ψ o => v = vi r ∧ o = []) := by
  unfold o52 at hS
  refine xFn Tryd.f52 (Tryd.f52.body.getD .skip) 20 ?_
  refine xSq ?_
  refine xRg ?_
  refine xB 1 [] [(0, vy x), (1, vy y)] ?_
  refine xRe ?_
  refine wpq_then ?_
  refine xSq ?_
  refine xRg ?_
  refine xB 1 [] [(0, vy x), (1, vy y), (7, vy x)] ?_
  obtain ⟨y1, hy1, hS⟩ := letJ_T hS
  refine xE (eC 0 (fun g' lr eb ln => C65 g' (x : Int) hy1)) ?_
  rintro _ g2 _ e3 ⟨_, rfl, rfl, rfl⟩
  refine xB 1 [] [(0, vy x), (1, vy y), (5, vb y1)] ?_
  refine xRe ?_
  refine wpq_then ?_
  refine xSq ?_
  refine xRg ?_
  refine xB 1 [] [(0, vy x), (1, vy y), (5, vb y1), (9, vy y)] ?_
  obtain ⟨y4, hy4, hS⟩ := letJ_T hS
  refine xE (eC 0 (fun g' lr eb ln => C65 g' (y : Int) hy4)) ?_
  rintro _ g5 _ e6 ⟨_, rfl, rfl, rfl⟩
  refine xB 1 [] [(0, vy x), (1, vy y), (5, vb y1), (6, vb y4)] ?_
  refine xRe ?_
  refine wpq_then ?_
  refine xSq ?_
  refine xSq ?_
  refine xRg ?_
  refine xB 1 [] [(0, vy x), (1, vy y), (6, vb y4), (11, vb y1)] ?_
  refine xRe ?_
  refine wpq_then ?_
  refine xCd (y1) (fun h7 => ?_) (fun h7 => ?_)
  · have hS := cond_T h7 hS
    refine xSq ?_
    refine xSq ?_
    refine xRg ?_
    refine xB 1 [] [(12, vb y4)] ?_
    refine xRe ?_
    refine wpq_then ?_
    refine xCd (y4) (fun h8 => ?_) (fun h8 => ?_)
    · have hS := cond_T h8 hS
      refine xSq ?_
      refine xRg ?_
      refine xB 1 [] [(4, vi 0)] ?_
      refine xRe ?_
      refine wpq_then ?_
      have eS := hS.symm
      subst eS
      exact xRet [] [4] (e3.trans e6) ⟨by kernel_rfl, by kernel_rfl⟩ (fun _ _ h => h)
    · have hS := cond_F h8 hS
      refine xSk ?_
      refine wpq_then ?_
      refine xSub [] ?_
      refine xSq ?_
      refine xRg ?_
      refine xB 1 [] [(4, vi (-1))] ?_
      refine xRe ?_
      refine wpq_then ?_
      have eS := hS.symm
      subst eS
      exact xRet [] [4] (e3.trans e6) ⟨by kernel_rfl, by kernel_rfl⟩ (fun _ _ h => h)
  · have hS := cond_F h7 hS
    refine xSk ?_
    refine wpq_then ?_
    refine xSub [(0, vy x), (1, vy y), (6, vb y4)] ?_
    refine xSq ?_
    refine xSq ?_
    refine xRg ?_
    refine xB 1 [] [(0, vy x), (1, vy y), (13, vb y4)] ?_
    refine xRe ?_
    refine wpq_then ?_
    refine xCd (y4) (fun h9 => ?_) (fun h9 => ?_)
    · have hS := cond_T h9 hS
      refine xSq ?_
      refine xRg ?_
      refine xB 1 [] [(4, vi 1)] ?_
      refine xRe ?_
      refine wpq_then ?_
      have eS := hS.symm
      subst eS
      exact xRet [] [4] (e3.trans e6) ⟨by kernel_rfl, by kernel_rfl⟩ (fun _ _ h => h)
    · have hS := cond_F h9 hS
      refine xSk ?_
      refine wpq_then ?_
      refine xSub [(0, vy x), (1, vy y)] ?_
      refine xSq ?_
      refine xSq ?_
      refine xRg ?_
      refine xB 3 [] [(0, vy x), (1, vy y), (16, vb (decide (x < y)))] ?_
      refine xRe ?_
      refine wpq_then ?_
      refine xCd (decide (x < y)) (fun h10 => ?_) (fun h10 => ?_)
      · have hS := cond_T h10 hS
        have h10p := of_decide_eq_true h10
        refine xSq ?_
        refine xRg ?_
        refine xB 1 [] [(4, vi (-1))] ?_
        refine xRe ?_
        refine wpq_then ?_
        have eS := hS.symm
        subst eS
        exact xRet [] [4] (e3.trans e6) ⟨by kernel_rfl, by kernel_rfl⟩ (fun _ _ h => h)
      · have hS := cond_F h10 hS
        have h10p := of_decide_eq_false h10
        refine xSk ?_
        refine wpq_then ?_
        refine xSub [(0, vy x), (1, vy y)] ?_
        refine xSq ?_
        refine xSq ?_
        refine xRg ?_
        refine xB 3 [] [(19, vb (decide (x > y)))] ?_
        refine xRe ?_
        refine wpq_then ?_
        refine xCd (decide (x > y)) (fun h11 => ?_) (fun h11 => ?_)
        · have hS := cond_T h11 hS
          have h11p := of_decide_eq_true h11
          refine xSq ?_
          refine xRg ?_
          refine xB 1 [] [(4, vi 1)] ?_
          refine xRe ?_
          refine wpq_then ?_
          have eS := hS.symm
          subst eS
          exact xRet [] [4] (e3.trans e6) ⟨by kernel_rfl, by kernel_rfl⟩ (fun _ _ h => h)
        · have hS := cond_F h11 hS
          have h11p := of_decide_eq_false h11
          refine xSk ?_
          refine wpq_then ?_
          refine xSub [] ?_
          refine xSq ?_
          refine xRg ?_
          refine xB 1 [] [(4, vi 0)] ?_
          refine xRe ?_
          refine wpq_then ?_
          have eS := hS.symm
          subst eS
          exact xRet [] [4] (e3.trans e6) ⟨by kernel_rfl, by kernel_rfl⟩ (fun _ _ h => h)

def o50_L0 (vals : List Int) (s6 : Nat) : Option (Ctl (Nat) (Ctl (Unit) (Int))) :=
  (cond (decide (((s6 : Nat) : Int) < (((vals).length : Nat) : Int))) (cond (((List.getD vals s6 0) != 0)) (some (Ctl.done (Ctl.done (((List.getD vals s6 0) : Int))))) (grd (decide (((s6 : Nat) : Int) + 1 ≤ 9223372036854775807)) (some (Ctl.go (s6 + 1))))) (some (Ctl.done (Ctl.go ()))))
def o50 (vals : List Int) : Option (Int) :=
  (joinO (τ := Unit) (ρ := Int) (loopO (σ := Nat) (ρ := Ctl (Unit) (Int)) fuelN (o50_L0 vals) (0)) fun t1 => (some ((0 : Int))))
set_option maxRecDepth 100000 in
theorem C50 (g : Gh) (vals : List Int) (Avals : Option Addr) (cvals : Nat) (fvals : Arr g.r (tyI .i64) Avals cvals vals) {r : Int} (hS : o50 vals = some r) :
    Ctr Tryd.prog 50 [vs Avals vals cvals] g [] (fun v ψ o => v = vi r ∧ o = []) := by
  unfold o50 at hS
  refine xFn Tryd.f50 (Tryd.f50.body.getD .skip) 18 ?_
  have nfvals := fvals.len
  refine xSq ?_
  refine xRg ?_
  refine xB 1 [] [(0, vs Avals vals cvals)] ?_
  refine xRe ?_
  refine wpq_then ?_
  refine xSq ?_
  refine xRg ?_
  refine xB 1 [] [(0, vs Avals vals cvals), (3, vi 0)] ?_
  refine xRe ?_
  refine wpq_then ?_
  refine xSq ?_
  refine xSq ?_
  refine xRg ?_
  refine xB 3 [] [(3, vi 0), (6, vs Avals vals cvals), (7, vi (((vals).length : Nat) : Int)), (8, vi 0)] ?_
  refine xRe ?_
  refine wpq_then ?_
  refine xJoinO hS (fun g own sl t1 => own = [] ∧ sl = [(3, vi 0)]) ?_ ?_
  · rintro g2 _ _ t1 e3 ⟨rfl, rfl⟩ hS
    refine wpq_then ?_
    refine xSq ?_
    refine xRg ?_
    refine xB 2 [] [(2, vi 0)] ?_
    refine xRe ?_
    refine wpq_then ?_
    have eS := (Option.some.inj hS).symm
    subst eS
    exact xRet [] [2] e3 ⟨by kernel_rfl, by kernel_rfl⟩ (fun _ _ h => h)
  · intro uu1 hS hN1 hD1
    refine xBl 0 ?_
    refine xSub [(3, vi 0), (6, vs Avals vals cvals), (7, vi (((vals).length : Nat) : Int)), (8, vi 0)] ?_
    refine xLo hS (fun g own sl s6 => own = [] ∧ sl = [(3, vi 0), (6, vs Avals vals cvals), (7, vi (((vals).length : Nat) : Int)), (8, vi ((s6 : Nat) : Int))]) ⟨by kernel_rfl, by kernel_rfl⟩ ?_
    rintro g7 _ _ s6 uu6 e8 ⟨rfl, rfl⟩ hS Qr6 hN6 hD6
    unfold o50_L0 at hS
    refine xSq ?_
    refine xRg ?_
    refine xB 1 [] [(3, vi 0), (6, vs Avals vals cvals), (7, vi (((vals).length : Nat) : Int)), (8, vi ((s6 : Nat) : Int)), (9, vb (decide (((s6 : Nat) : Int) < (((vals).length : Nat) : Int))))] ?_
    refine xRe ?_
    refine wpq_then ?_
    refine xSq ?_
    refine xCd (decide (((s6 : Nat) : Int) < (((vals).length : Nat) : Int))) (fun h9 => ?_) (fun h9 => ?_)
    · have hS := cond_T h9 hS
      have h9p := of_decide_eq_true h9
      refine xSk ?_
      refine wpq_then ?_
      refine xSub [(3, vi 0), (6, vs Avals vals cvals), (7, vi (((vals).length : Nat) : Int)), (8, vi ((s6 : Nat) : Int))] ?_
      refine xSq ?_
      refine xBl 1 ?_
      refine xSq ?_
      refine xRg ?_
      have fvals := fvals.mono e8.r
      have i11 : s6 < (vals).length := by omega
      obtain ⟨ad10, cs10, hA10, hr10, hc10⟩ := fvals.at_ (get_getD (d := 0) i11)
      have hr10 : cs10 = [vi (List.getD vals s6 0)] := hr10
      subst hr10
      refine xV (qIx s6 1 hA10 rfl i11) ?_
      refine xV (qLdP (Addr.add ad10 (s6 * 1)) 0 hc10) ?_
      refine xB 1 [] [(3, vi 0), (5, vi (List.getD vals s6 0)), (6, vs Avals vals cvals), (7, vi (((vals).length : Nat) : Int)), (8, vi ((s6 : Nat) : Int))] ?_
      refine xRe ?_
      refine wpq_then ?_
      refine xSq ?_
      refine xRg ?_
      refine xB 3 [] [(3, vi 0), (5, vi (List.getD vals s6 0)), (6, vs Avals vals cvals), (7, vi (((vals).length : Nat) : Int)), (8, vi ((s6 : Nat) : Int)), (14, vb ((List.getD vals s6 0) != 0))] ?_
      refine xRe ?_
      refine wpq_then ?_
      refine xCd (((List.getD vals s6 0) != 0)) (fun h12 => ?_) (fun h12 => ?_)
      · have hS := cond_T h12 hS
        have h12p : ¬ ((List.getD vals s6 0) = 0) := ne_of_bne_ h12
        refine xSq ?_
        refine xRg ?_
        refine xB 2 [] [(2, vi (List.getD vals s6 0))] ?_
        refine xRe ?_
        refine wpq_then ?_
        have eS := (Option.some.inj hS).symm
        have eS := (hD6 _ eS).symm
        have eS := (hD1 _ eS).symm
        subst eS
        exact xRet [] [2] e8 ⟨by kernel_rfl, by kernel_rfl⟩ (fun _ _ h => h)
      · have hS := cond_F h12 hS
        have h12p : (List.getD vals s6 0) = 0 := eq_of_bne_false_ h12
        refine xSk ?_
        refine wpq_blockN ?_
        refine wpq_then ?_
        refine xSub [(3, vi 0), (6, vs Avals vals cvals), (7, vi (((vals).length : Nat) : Int)), (8, vi ((s6 : Nat) : Int))] ?_
        refine xRg ?_
        obtain ⟨q13, hS⟩ := grd_T hS
        have q13p := of_decide_eq_true q13
        refine xV (qAdd .i64 (((s6 : Nat) : Int)) (1) (wr64 (by omega))) ?_
        refine xB 1 [] [(3, vi 0), (6, vs Avals vals cvals), (7, vi (((vals).length : Nat) : Int)), (8, vi (((s6 : Nat) : Int) + 1))] ?_
        refine xRe ?_
        refine wpq_thenN ?_
        refine xSub [(3, vi 0), (6, vs Avals vals cvals), (7, vi (((vals).length : Nat) : Int)), (8, vi (((s6 : Nat) : Int) + 1))] ?_
        have eS := (Option.some.inj hS).symm
        exact hN6 _ eS _ _ _ (Gh.le.refl _) ⟨by kernel_rfl, by kernel_rfl⟩
    · have hS := cond_F h9 hS
      have h9p := of_decide_eq_false h9
      refine xEx 0 ?_
      refine wpq_thenX ?_
      refine wpq_thenX ?_
      refine wpq_blockE ?_
      refine xSub [(3, vi 0)] ?_
      have eS := (Option.some.inj hS).symm
      have eS := (hD6 _ eS).symm
      exact hN1 _ eS _ _ _ e8 ⟨by kernel_rfl, by kernel_rfl⟩

def o29 (p : Proc) (q : Proc) : Option (Int) :=
  (letJ (τ := Int) (o51 p.airport q.airport) fun y3 => (letJ (τ := Int) (o52 (p.kind : Int) (q.kind : Int)) fun y6 => (letJ (τ := Int) (o51 p.name q.name) fun y9 => (bindO (τ := Int) (o50 (([(y3 : Int), (y6 : Int), (y9 : Int)] : List Int) : List Int)) fun y13 => (some ((y13 : Int)))))))
set_option maxRecDepth 100000 in
theorem C29 (g : Gh) (p : Proc) (Ap_parts : Option Addr) (cp_parts : Nat) (q : Proc) (Aq_parts : Option Addr) (cq_parts : Nat) (fp_parts : Arr g.r tyPart Ap_parts cp_parts p.parts) (fq_parts : Arr g.r tyPart Aq_parts cq_parts q.parts) {r : Int} (hS : o29 p q = some r) :
    Ctr Tryd.prog 29 [Value.agg #[vt p.airport, vt p.name, vy p.kind, vs Ap_parts p.parts cp_parts], Value.agg #[vt q.airport, vt q.name, vy q.kind, vs Aq_parts q.parts cq_parts]] g [] (fun v ψ o => v = vi r ∧ o = []) := by
  unfold o29 at hS
  refine xFn Tryd.f29 (Tryd.f29.body.getD .skip) 22 ?_
  have nfp_parts := fp_parts.len
  have nfq_parts := fq_parts.len
  refine xSq ?_
  refine xRg ?_
  refine xE eB ?_
  rintro _ _ _ - ⟨b1, rfl, rfl, rfl⟩
  refine xE eB ?_
  rintro _ _ _ - ⟨b2, rfl, rfl, rfl⟩
  refine xB 1 [] [(2, vp b1 0), (3, vp b2 0)] ?_
  refine xRe ?_
  refine wpq_then ?_
  refine xSq ?_
  refine xDr 0 [1, 3, 6, 8, 11, 13] [17] [some ⟨b2, 25, (cProc q Aq_parts cq_parts)⟩, some ⟨b1, 25, (cProc p Ap_parts cp_parts)⟩] 18 (fun RG => ?_) (fun _ _ _ _ _ h => h)
  refine xT 6 [0, 1, 2, 3, 5, 6, 7, 8, 10, 11, 12, 13] [(1, 1), (3, 0), (6, 1), (8, 0), (11, 1), (13, 0)] [some 0, some 1] [(6, vt p.airport), (8, vt q.airport), (11, vy p.kind), (13, vy q.kind), (16, vt p.name), (18, vt q.name)] RG (Psi.le.refl _) ?_
  obtain ⟨y3, hy3, hS⟩ := letJ_T hS
  refine xO1 (lds := [1, 3, 6, 8, 11, 13]) 4 ?_
  refine xIe (lds := [1, 3, 6, 8, 11, 13]) (Psi.le.refl _) (eC 0 (fun g' lr eb ln => C51 g' p.airport q.airport hy3)) ?_
  rintro _ g4 _ e5 ⟨_, rfl, rfl, rfl⟩
  refine kk [some 0, some 1] ?_
  obtain ⟨y6, hy6, hS⟩ := letJ_T hS
  refine xO1 (lds := [1, 3, 6, 8, 11, 13]) 9 ?_
  refine xIe (lds := [1, 3, 6, 8, 11, 13]) e5.r (eC 0 (fun g' lr eb ln => C52 g' (p.kind : Int) (q.kind : Int) hy6)) ?_
  rintro _ g7 _ e8 ⟨_, rfl, rfl, rfl⟩
  refine kk [some 0, some 1] ?_
  obtain ⟨y9, hy9, hS⟩ := letJ_T hS
  refine xO1 (lds := [1, 3, 6, 8, 11, 13]) 14 ?_
  refine xIe (lds := [1, 3, 6, 8, 11, 13]) (e5.trans e8).r (eC 0 (fun g' lr eb ln => C51 g' p.name q.name hy9)) ?_
  rintro _ g10 _ e11 ⟨_, rfl, rfl, rfl⟩
  refine kk [some 0, some 1] ?_
  refine xO1 (lds := [1, 3, 6, 8, 11, 13]) 15 ?_
  refine xIe (lds := [1, 3, 6, 8, 11, 13]) (e5.trans (e8.trans e11)).r (eBs (T := (tyI .i64)) (p := g10.b) (et := 3) (xs := ([(y3 : Int), (y6 : Int), (y9 : Int)] : List Int)) (reps_cons (c := [vi y3]) (show (tyI .i64).rep _ _ _ from rfl) (reps_cons (c := [vi y6]) (show (tyI .i64).rep _ _ _ from rfl) (reps_cons (c := [vi y9]) (show (tyI .i64).rep _ _ _ from rfl) reps_nil))) (by simp)) ?_
  rintro _ _ _ - ⟨A12, c12, k12, rfl, rfl, rfl, h12⟩
  refine kk [some 1, some 2] ?_
  obtain ⟨y13, hy13, hS⟩ := bindO_T hS
  refine xO1 (lds := [1, 3, 6, 8, 11, 13]) 16 ?_
  refine xIe (lds := [1, 3, 6, 8, 11, 13]) (e5.trans (e8.trans e11)).r (eC 0 (fun g' lr eb ln => C50 g' (([(y3 : Int), (y6 : Int), (y9 : Int)] : List Int) : List Int) A12 c12 (arr_of_buf h12 (Psi.le_b eb) (lentk 0 (by kernel_rfl) ln)) hy13)) ?_
  rintro _ g14 _ e15 ⟨_, rfl, rfl, rfl⟩
  refine kk [some 1, some 2] ?_
  refine xT 0 [17] [] [some 1, some 2] [(4, vi y13)] RG (e5.trans (e8.trans (e11.trans e15))).r ?_
  refine xAe (lds := [1, 3, 6, 8, 11, 13]) ?_
  refine wpq_then ?_
  have eS := (Option.some.inj hS).symm
  subst eS
  exact xRet [] [4] (e5.trans (e8.trans (e11.trans e15))) ⟨by kernel_rfl, by kernel_rfl⟩ (fun _ _ h => h)

def o12 : Option (Bool) :=
  (letJ (τ := Leg) (o34 (1 : Int) ([65, 47, 48, 48])) fun y1 => (letJ (τ := Leg) (o34 (2 : Int) ([66, 47, 48, 48])) fun y4 => (letJ (τ := Leg) (o34 (1 : Int) ([66, 47, 48, 48])) fun y8 => (letJ (τ := Leg) (o34 (2 : Int) ([67, 47, 48, 48])) fun y11 => (letJ (τ := Leg) (o34 (1 : Int) ([68, 47, 48, 48])) fun y15 => (letJ (τ := Leg) (o34 (2 : Int) ([67, 47, 48, 48])) fun y18 => (bindO (τ := (List Leg)) (o21 (([y1, y4] : List Leg) : List Leg) (([y8, y11] : List Leg) : List Leg)) fun y35 => (bindO (τ := Bool) (o20 (y35 : List Leg) (([(List.getD ([y1, y4] : List Leg) 0 default), (List.getD ([y1, y4] : List Leg) 1 default), (List.getD ([y8, y11] : List Leg) 1 default)] : List Leg) : List Leg)) fun y237 => (bindO (τ := Bool) (cond ((!y237)) (some (true)) (bindO (τ := (List Leg)) (o21 (([y1, y4] : List Leg) : List Leg) (([y15, y18] : List Leg) : List Leg)) fun y291 => (some ((((y291).length : Nat) : Int) != 4)))) fun t240 => (cond (t240) (some ((false))) (bindO (τ := (List Leg) × Int) (o23 (⟨([75, 83, 69, 65] : List UInt8), ([83, 85, 77, 77, 65, 50] : List UInt8), 1, ([(⟨2, ([] : List UInt8), ([y1, y4] : List Leg)⟩ : Part), (⟨3, ([67] : List UInt8), ([y8, y11] : List Leg)⟩ : Part)] : List Part)⟩ : Proc) ([82, 87, 49, 54, 76]) [67]) fun y252 => (bindO (τ := (List Leg) × Int) (o23 (⟨([75, 83, 69, 65] : List UInt8), ([83, 85, 77, 77, 65, 50] : List UInt8), 1, ([(⟨2, ([] : List UInt8), ([y1, y4] : List Leg)⟩ : Part), (⟨3, ([67] : List UInt8), ([y8, y11] : List Leg)⟩ : Part)] : List Part)⟩ : Proc) ([82, 87, 49, 54, 76]) [66]) fun y255 => (letJ (τ := Bool) (cond (((y252.2 == 0) && ((((y252.1).length : Nat) : Int) == 3))) (((List.getD y252.1 2 default).type_ == (List.getD ([y8, y11] : List Leg) 1 default).type_) && ((strEq (List.getD y252.1 2 default).fix (List.getD ([y8, y11] : List Leg) 1 default).fix) && ((strEq (List.getD y252.1 2 default).center (List.getD ([y8, y11] : List Leg) 1 default).center) && (((List.getD y252.1 2 default).turn == (List.getD ([y8, y11] : List Leg) 1 default).turn) && (((List.getD y252.1 2 default).over == (List.getD ([y8, y11] : List Leg) 1 default).over) && (((List.getD y252.1 2 default).course == (List.getD ([y8, y11] : List Leg) 1 default).course) && (((List.getD y252.1 2 default).dist == (List.getD ([y8, y11] : List Leg) 1 default).dist) && (((List.getD y252.1 2 default).radius == (List.getD ([y8, y11] : List Leg) 1 default).radius) && (((List.getD y252.1 2 default).theta == (List.getD ([y8, y11] : List Leg) 1 default).theta) && ((((List.getD y252.1 2 default).alt.lo == (List.getD ([y8, y11] : List Leg) 1 default).alt.lo) && ((List.getD y252.1 2 default).alt.hi == (List.getD ([y8, y11] : List Leg) 1 default).alt.hi)) && (((List.getD y252.1 2 default).speed == (List.getD ([y8, y11] : List Leg) 1 default).speed) && ((List.getD y252.1 2 default).rnp == (List.getD ([y8, y11] : List Leg) 1 default).rnp)))))))))))) (false)) fun t260 => (bindO (τ := Bool) (cond ((t260 && (y255.2 == 6))) (bindO (τ := Int) (o13 (⟨([75, 83, 69, 65] : List UInt8), ([83, 85, 77, 77, 65, 50] : List UInt8), 1, ([(⟨2, ([] : List UInt8), ([y1, y4] : List Leg)⟩ : Part), (⟨3, ([67] : List UInt8), ([y8, y11] : List Leg)⟩ : Part)] : List Part)⟩ : Proc)) fun y282 => (some (y282 == 0))) (some (false))) fun t264 => (bindO (τ := Bool) (cond (t264) (bindO (τ := Int) (o13 (⟨([75, 83, 69, 65] : List UInt8), ([83, 85, 77, 77, 65, 50] : List UInt8), 2, ([(⟨2, ([] : List UInt8), ([y1, y4] : List Leg)⟩ : Part), (⟨3, ([67] : List UInt8), ([y8, y11] : List Leg)⟩ : Part)] : List Part)⟩ : Proc)) fun y278 => (some (y278 == 9))) (some (false))) fun t267 => (bindO (τ := Bool) (cond (t267) (bindO (τ := Int) (o29 (⟨([75, 83, 69, 65] : List UInt8), ([83, 85, 77, 77, 65, 50] : List UInt8), 1, ([(⟨2, ([] : List UInt8), ([y1, y4] : List Leg)⟩ : Part), (⟨3, ([67] : List UInt8), ([y8, y11] : List Leg)⟩ : Part)] : List Part)⟩ : Proc) (⟨([75, 83, 69, 65] : List UInt8), ([83, 85, 77, 77, 65, 50] : List UInt8), 2, ([(⟨2, ([] : List UInt8), ([y1, y4] : List Leg)⟩ : Part), (⟨3, ([67] : List UInt8), ([y8, y11] : List Leg)⟩ : Part)] : List Part)⟩ : Proc)) fun y274 => (some (y274 == -1))) (some (false))) fun t270 => (some ((t270)))))))))))))))))))
set_option maxRecDepth 100000 in
theorem C12 (g : Gh)  (fG0 : Arr g.r (tyI .u16) (some ⟨0, 0, none⟩) 18 usesL) {r : Bool} (hS : o12 = some r) :
    Ctr Tryd.prog 12 [] g [] (fun v ψ o => v = vb r ∧ o = []) := by
  unfold o12 at hS
  refine xFn Tryd.f12 (Tryd.f12.body.getD .skip) 95 ?_
  have hlG0 := hlUses
  have nfG0 := fG0.len
  refine xSq ?_
  refine xRg ?_
  refine xB 1 [] [] ?_
  refine xRe ?_
  refine wpq_then ?_
  refine xSq ?_
  refine xRg ?_
  obtain ⟨y1, hy1, hS⟩ := letJ_T hS
  refine xE (eC 0 (fun g' lr eb ln => C34 g' (1 : Int) ([65, 47, 48, 48]) hy1)) ?_
  rintro _ g2 _ e3 ⟨_, rfl, rfl, rfl⟩
  obtain ⟨y4, hy4, hS⟩ := letJ_T hS
  refine xE (eC 0 (fun g' lr eb ln => C34 g' (2 : Int) ([66, 47, 48, 48]) hy4)) ?_
  rintro _ g5 _ e6 ⟨_, rfl, rfl, rfl⟩
  refine xE (eBs (T := tyLeg) (p := g5.b) (et := 46) (xs := ([y1, y4] : List Leg)) (reps_cons (c := [vy y1.type_, vt y1.fix, vt y1.center, vy y1.turn, vb y1.over, vi y1.course, vi y1.dist, vi y1.radius, vi y1.theta, vi y1.alt.lo, vi y1.alt.hi, vi y1.speed, vi y1.rnp]) (show tyLeg.rep _ _ y1 from rfl) (reps_cons (c := [vy y4.type_, vt y4.fix, vt y4.center, vy y4.turn, vb y4.over, vi y4.course, vi y4.dist, vi y4.radius, vi y4.theta, vi y4.alt.lo, vi y4.alt.hi, vi y4.speed, vi y4.rnp]) (show tyLeg.rep _ _ y4 from rfl) reps_nil)) (by simp)) ?_
  rintro _ _ _ - ⟨A7, c7, k7, rfl, rfl, rfl, h7⟩
  refine xB 1 [] [(1, vs A7 ([y1, y4] : List Leg) c7)] ?_
  refine xRe ?_
  refine wpq_then ?_
  refine xSq ?_
  refine xRg ?_
  obtain ⟨y8, hy8, hS⟩ := letJ_T hS
  refine xE (eC 0 (fun g' lr eb ln => C34 g' (1 : Int) ([66, 47, 48, 48]) hy8)) ?_
  rintro _ g9 _ e10 ⟨_, rfl, rfl, rfl⟩
  obtain ⟨y11, hy11, hS⟩ := letJ_T hS
  refine xE (eC 0 (fun g' lr eb ln => C34 g' (2 : Int) ([67, 47, 48, 48]) hy11)) ?_
  rintro _ g12 _ e13 ⟨_, rfl, rfl, rfl⟩
  refine xE (eBs (T := tyLeg) (p := g12.b) (et := 46) (xs := ([y8, y11] : List Leg)) (reps_cons (c := [vy y8.type_, vt y8.fix, vt y8.center, vy y8.turn, vb y8.over, vi y8.course, vi y8.dist, vi y8.radius, vi y8.theta, vi y8.alt.lo, vi y8.alt.hi, vi y8.speed, vi y8.rnp]) (show tyLeg.rep _ _ y8 from rfl) (reps_cons (c := [vy y11.type_, vt y11.fix, vt y11.center, vy y11.turn, vb y11.over, vi y11.course, vi y11.dist, vi y11.radius, vi y11.theta, vi y11.alt.lo, vi y11.alt.hi, vi y11.speed, vi y11.rnp]) (show tyLeg.rep _ _ y11 from rfl) reps_nil)) (by simp)) ?_
  rintro _ _ _ - ⟨A14, c14, k14, rfl, rfl, rfl, h14⟩
  refine xB 1 [] [(1, vs A7 ([y1, y4] : List Leg) c7), (2, vs A14 ([y8, y11] : List Leg) c14)] ?_
  refine xRe ?_
  refine wpq_then ?_
  refine xSq ?_
  refine xRg ?_
  obtain ⟨y15, hy15, hS⟩ := letJ_T hS
  refine xE (eC 0 (fun g' lr eb ln => C34 g' (1 : Int) ([68, 47, 48, 48]) hy15)) ?_
  rintro _ g16 _ e17 ⟨_, rfl, rfl, rfl⟩
  obtain ⟨y18, hy18, hS⟩ := letJ_T hS
  refine xE (eC 0 (fun g' lr eb ln => C34 g' (2 : Int) ([67, 47, 48, 48]) hy18)) ?_
  rintro _ g19 _ e20 ⟨_, rfl, rfl, rfl⟩
  refine xE (eBs (T := tyLeg) (p := g19.b) (et := 46) (xs := ([y15, y18] : List Leg)) (reps_cons (c := [vy y15.type_, vt y15.fix, vt y15.center, vy y15.turn, vb y15.over, vi y15.course, vi y15.dist, vi y15.radius, vi y15.theta, vi y15.alt.lo, vi y15.alt.hi, vi y15.speed, vi y15.rnp]) (show tyLeg.rep _ _ y15 from rfl) (reps_cons (c := [vy y18.type_, vt y18.fix, vt y18.center, vy y18.turn, vb y18.over, vi y18.course, vi y18.dist, vi y18.radius, vi y18.theta, vi y18.alt.lo, vi y18.alt.hi, vi y18.speed, vi y18.rnp]) (show tyLeg.rep _ _ y18 from rfl) reps_nil)) (by simp)) ?_
  rintro _ _ _ - ⟨A21, c21, k21, rfl, rfl, rfl, h21⟩
  refine xB 1 [] [(1, vs A7 ([y1, y4] : List Leg) c7), (2, vs A14 ([y8, y11] : List Leg) c14), (3, vs A21 ([y15, y18] : List Leg) c21)] ?_
  refine xRe ?_
  refine wpq_then ?_
  refine xSq ?_
  refine xSq ?_
  have h14 := h14.mono (e17.trans e20).b
  refine wpq_freeze 1 (by kernel_rfl) h14 (fun g22 e23 f24 => ?_)
  have h21 := h21.mono e23.b
  refine wpq_freeze 0 (by kernel_rfl) h21 (fun g25 e26 f27 => ?_)
  refine xDr 0 [5, 8, 11] [] [k7] 22 (fun RG => ?_) (fun _ _ _ _ _ h => h)
  have h7 := h7.mono (e10.trans (e13.trans (e17.trans (e20.trans (e23.trans e26))))).b
  have i29 : 0 < (([y1, y4] : List Leg)).length := by simp
  obtain ⟨kc28, cs28, hA28, hk28, hr28, hw28⟩ := h7.open_ i29 default
  obtain ⟨kb28, rfl⟩ : ∃ z, z = kc28 := ⟨_, rfl⟩
  subst hk28
  obtain ⟨rfl⟩ := hr28
  refine xT 19 [0, 1, 3] [] [some 2] [(1, vs A7 ([y1, y4] : List Leg) c7), (2, vs A14 ([y8, y11] : List Leg) c14), (3, vs A21 ([y15, y18] : List Leg) c21), (19, vs A7 ([y1, y4] : List Leg) c7), (20, vs A14 ([y8, y11] : List Leg) c14), (22, vs A7 ([y1, y4] : List Leg) c7)] RG (Psi.le.refl _) ?_
  refine xTp 4 RG (fun _ => (qIxB 0 13 kb28.g hA28 rfl i29)) ?_
  refine xTv 5 [some 2] RG (Psi.le.refl _) (qLdB 0 13 0 0 hw28) ?_
  have i31 : 1 < (([y1, y4] : List Leg)).length := by simp
  obtain ⟨kc30, cs30, hA30, hk30, hr30, hw30⟩ := h7.open_ i31 default
  cases hk30
  obtain ⟨rfl⟩ := hr30
  refine xT 16 [6] [] [some 2] [(1, vs A7 ([y1, y4] : List Leg) c7), (2, vs A14 ([y8, y11] : List Leg) c14), (3, vs A21 ([y15, y18] : List Leg) c21), (19, vs A7 ([y1, y4] : List Leg) c7), (20, vs A14 ([y8, y11] : List Leg) c14), (24, Value.agg #[vy ((List.getD ([y1, y4] : List Leg) 0 default).type_), vt ((List.getD ([y1, y4] : List Leg) 0 default).fix), vt ((List.getD ([y1, y4] : List Leg) 0 default).center), vy ((List.getD ([y1, y4] : List Leg) 0 default).turn), vb ((List.getD ([y1, y4] : List Leg) 0 default).over), vi ((List.getD ([y1, y4] : List Leg) 0 default).course), vi ((List.getD ([y1, y4] : List Leg) 0 default).dist), vi ((List.getD ([y1, y4] : List Leg) 0 default).radius), vi ((List.getD ([y1, y4] : List Leg) 0 default).theta), vi ((List.getD ([y1, y4] : List Leg) 0 default).alt.lo), vi ((List.getD ([y1, y4] : List Leg) 0 default).alt.hi), vi ((List.getD ([y1, y4] : List Leg) 0 default).speed), vi ((List.getD ([y1, y4] : List Leg) 0 default).rnp)]), (25, vs A7 ([y1, y4] : List Leg) c7)] RG (Psi.le.refl _) ?_
  refine xTp 7 RG (fun _ => (qIxB 1 13 kb28.g hA30 rfl i31)) ?_
  refine xTv 8 [some 2] RG (Psi.le.refl _) (qLdB 1 13 0 0 hw30) ?_
  have f24 := f24.mono e26.b
  have i33 : 1 < (([y8, y11] : List Leg)).length := by simp
  obtain ⟨ad32, cs32, hA32, hr32, hc32⟩ := f24.at_ (get_getD (d := default) i33)
  obtain ⟨rfl⟩ := hr32
  refine xT 13 [9] [] [some 2] [(1, vs A7 ([y1, y4] : List Leg) c7), (2, vs A14 ([y8, y11] : List Leg) c14), (3, vs A21 ([y15, y18] : List Leg) c21), (19, vs A7 ([y1, y4] : List Leg) c7), (20, vs A14 ([y8, y11] : List Leg) c14), (24, Value.agg #[vy ((List.getD ([y1, y4] : List Leg) 0 default).type_), vt ((List.getD ([y1, y4] : List Leg) 0 default).fix), vt ((List.getD ([y1, y4] : List Leg) 0 default).center), vy ((List.getD ([y1, y4] : List Leg) 0 default).turn), vb ((List.getD ([y1, y4] : List Leg) 0 default).over), vi ((List.getD ([y1, y4] : List Leg) 0 default).course), vi ((List.getD ([y1, y4] : List Leg) 0 default).dist), vi ((List.getD ([y1, y4] : List Leg) 0 default).radius), vi ((List.getD ([y1, y4] : List Leg) 0 default).theta), vi ((List.getD ([y1, y4] : List Leg) 0 default).alt.lo), vi ((List.getD ([y1, y4] : List Leg) 0 default).alt.hi), vi ((List.getD ([y1, y4] : List Leg) 0 default).speed), vi ((List.getD ([y1, y4] : List Leg) 0 default).rnp)]), (27, Value.agg #[vy ((List.getD ([y1, y4] : List Leg) 1 default).type_), vt ((List.getD ([y1, y4] : List Leg) 1 default).fix), vt ((List.getD ([y1, y4] : List Leg) 1 default).center), vy ((List.getD ([y1, y4] : List Leg) 1 default).turn), vb ((List.getD ([y1, y4] : List Leg) 1 default).over), vi ((List.getD ([y1, y4] : List Leg) 1 default).course), vi ((List.getD ([y1, y4] : List Leg) 1 default).dist), vi ((List.getD ([y1, y4] : List Leg) 1 default).radius), vi ((List.getD ([y1, y4] : List Leg) 1 default).theta), vi ((List.getD ([y1, y4] : List Leg) 1 default).alt.lo), vi ((List.getD ([y1, y4] : List Leg) 1 default).alt.hi), vi ((List.getD ([y1, y4] : List Leg) 1 default).speed), vi ((List.getD ([y1, y4] : List Leg) 1 default).rnp)]), (28, vs A14 ([y8, y11] : List Leg) c14)] RG (Psi.le.refl _) ?_
  refine xTp 10 RG (fun _ => (qIx 1 13 hA32 rfl i33)) ?_
  refine xTv 11 [some 2] RG (Psi.le.refl _) (qLdP (Addr.add ad32 (1 * 13)) 0 (hc32.mono g25.br)) ?_
  obtain ⟨y35, hy35, hS⟩ := bindO_T hS
  refine wpa_meet (fun g own sl => ∃ (A35_0 : Option Addr) (c35_0 : Nat) (k35_0 : Option Bk) (A38 : Option Addr) (c38 : Nat) (k38 : Option Bk), own = [k38, k35_0, none, none, (some kb28)] ∧ sl = [(1, vs A7 ([y1, y4] : List Leg) c7), (2, vs A14 ([y8, y11] : List Leg) c14), (3, vs A21 ([y15, y18] : List Leg) c21), (21, vs A35_0 y35 c35_0), (31, vs A38 ([(List.getD ([y1, y4] : List Leg) 0 default), (List.getD ([y1, y4] : List Leg) 1 default), (List.getD ([y8, y11] : List Leg) 1 default)] : List Leg) c38)] ∧ Buf g.b tyLeg 46 (.slice A35_0 (y35).length c35_0) k35_0 y35 ∧ Buf g.b tyLeg 46 (.slice A38 (([(List.getD ([y1, y4] : List Leg) 0 default), (List.getD ([y1, y4] : List Leg) 1 default), (List.getD ([y8, y11] : List Leg) 1 default)] : List Leg)).length c38) k38 ([(List.getD ([y1, y4] : List Leg) 0 default), (List.getD ([y1, y4] : List Leg) 1 default), (List.getD ([y8, y11] : List Leg) 1 default)] : List Leg)) 9 [true, true, true, true, true, true, true, true, true, true, true, true, true, false, false, false, false, false, false, false, false, false] ?_ (fun hD34 => ?_)
  · rintro g235 _ _ e236 ⟨A35_0, c35_0, k35_0, A38, c38, k38, rfl, rfl, h35_0, h38⟩
    have nh35_0 := h35_0.len
    have nh38 := h38.len
    obtain ⟨y237, hy237, hS⟩ := bindO_T hS
    refine xO1 (lds := [5, 8, 11]) 13 ?_
    refine xIe (lds := [5, 8, 11]) e236.r (eC 0 (fun g' lr eb ln => C20 g' (y35 : List Leg) A35_0 c35_0 (([(List.getD ([y1, y4] : List Leg) 0 default), (List.getD ([y1, y4] : List Leg) 1 default), (List.getD ([y8, y11] : List Leg) 1 default)] : List Leg) : List Leg) A38 c38 (arr_of_buf h35_0 (Psi.le_b eb) (lentk 1 (by kernel_rfl) ln)) (arr_of_buf h38 (Psi.le_b eb) (lentk 0 (by kernel_rfl) ln)) hy237)) ?_
    rintro _ g238 _ e239 ⟨_, rfl, rfl, rfl⟩
    refine kk [some 4] ?_
    refine xT 6 [14, 15] [] [some 4] [(1, vs A7 ([y1, y4] : List Leg) c7), (2, vs A14 ([y8, y11] : List Leg) c14), (3, vs A21 ([y15, y18] : List Leg) c21), (34, vb (!y237))] RG (e236.trans e239).r ?_
    refine xGJoA hS 0 [true, true, true, true, true, true, true, true, true, true, true, true, true, true, true, true, true, true, true, true, true, true] (fun g own sl t240 => own = [(some kb28)] ∧ sl = [(1, vs A7 ([y1, y4] : List Leg) c7), (2, vs A14 ([y8, y11] : List Leg) c14), (40, vb t240)]) ?_ ?_
    · rintro g241 _ _ t240 e242 ⟨rfl, rfl⟩ hS
      refine xAe (lds := [5, 8, 11]) ?_
      refine wpq_then ?_
      refine xCd (t240) (fun h243 => ?_) (fun h243 => ?_)
      · have hS := cond_T h243 hS
        refine xSq ?_
        refine xRg ?_
        refine xB 1 [] [(0, vb false)] ?_
        refine xRe ?_
        refine wpq_then ?_
        have eS := (Option.some.inj hS).symm
        subst eS
        exact xRet [] [0] (e3.trans (e6.trans (e10.trans (e13.trans (e17.trans (e20.trans (e23.trans (e26.trans (e236.trans (e239.trans e242)))))))))) ⟨by kernel_rfl, by kernel_rfl⟩ (fun _ _ h => h)
      · have hS := cond_F h243 hS
        refine xSk ?_
        refine wpq_then ?_
        refine xSub [(1, vs A7 ([y1, y4] : List Leg) c7), (2, vs A14 ([y8, y11] : List Leg) c14)] ?_
        refine xSq ?_
        refine xRg ?_
        refine xB 4 [] [(2, vs A14 ([y8, y11] : List Leg) c14), (42, Value.agg #[vy 2, vt ([]), vs A7 ([y1, y4] : List Leg) c7]), (44, Value.agg #[vy 3, vt ([67]), vs A14 ([y8, y11] : List Leg) c14])] ?_
        have h7 := h7.mono (e236.trans (e239.trans e242)).b
        refine wpq_freeze 0 (by kernel_rfl) h7 (fun g244 e245 f246 => ?_)
        have f24 := f24.mono (e236.trans (e239.trans (e242.trans e245))).b
        refine xE (eBs (T := tyPart) (p := g244.b) (et := 35) (xs := ([(⟨2, ([] : List UInt8), ([y1, y4] : List Leg)⟩ : Part), (⟨3, ([67] : List UInt8), ([y8, y11] : List Leg)⟩ : Part)] : List Part)) (reps_cons (c := [vy 2, vt ([]), vs A7 ([y1, y4] : List Leg) c7]) (show tyPart.rep _ _ (⟨2, ([] : List UInt8), ([y1, y4] : List Leg)⟩ : Part) from ⟨A7, c7, rfl, f246⟩) (reps_cons (c := [vy 3, vt ([67]), vs A14 ([y8, y11] : List Leg) c14]) (show tyPart.rep _ _ (⟨3, ([67] : List UInt8), ([y8, y11] : List Leg)⟩ : Part) from ⟨A14, c14, rfl, f24⟩) reps_nil)) (by simp)) ?_
        rintro _ _ _ - ⟨A247, c247, k247, rfl, rfl, rfl, h247⟩
        refine xB 1 [] [(2, vs A14 ([y8, y11] : List Leg) c14), (46, Value.agg #[vt ([75, 83, 69, 65]), vt ([83, 85, 77, 77, 65, 50]), vy 1, vs A247 ([(⟨2, ([] : List UInt8), ([y1, y4] : List Leg)⟩ : Part), (⟨3, ([67] : List UInt8), ([y8, y11] : List Leg)⟩ : Part)] : List Part) c247])] ?_
        refine xE eB ?_
        rintro _ _ _ - ⟨b248, rfl, rfl, rfl⟩
        refine xBo 1 [(7, 0)] [some ⟨b248, 25, (cProc (⟨([75, 83, 69, 65] : List UInt8), ([83, 85, 77, 77, 65, 50] : List UInt8), 1, ([(⟨2, ([] : List UInt8), ([y1, y4] : List Leg)⟩ : Part), (⟨3, ([67] : List UInt8), ([y8, y11] : List Leg)⟩ : Part)] : List Part)⟩ : Proc) A247 c247)⟩, k247, none] [(2, vs A14 ([y8, y11] : List Leg) c14), (4, vp b248 0)] ?_
        refine xRe ?_
        refine wpq_then ?_
        refine xSq ?_
        refine xRg ?_
        refine xB 1 [(0, 0)] [(2, vs A14 ([y8, y11] : List Leg) c14), (4, vp b248 0), (48, Value.agg #[vt ([75, 83, 69, 65]), vt ([83, 85, 77, 77, 65, 50]), vy 1, vs A247 ([(⟨2, ([] : List UInt8), ([y1, y4] : List Leg)⟩ : Part), (⟨3, ([67] : List UInt8), ([y8, y11] : List Leg)⟩ : Part)] : List Part) c247])] ?_
        refine wpq_freeze 1 (by kernel_rfl) h247 (fun g249 e250 f251 => ?_)
        have fG0 := fG0.mono (e3.trans (e6.trans (e10.trans (e13.trans (e17.trans (e20.trans (e23.trans (e26.trans (e236.trans (e239.trans (e242.trans (e245.trans e250)))))))))))).r
        obtain ⟨y252, hy252, hS⟩ := bindO_T hS
        refine xE (eC 0 (fun g' lr eb ln => C23 g' (⟨([75, 83, 69, 65] : List UInt8), ([83, 85, 77, 77, 65, 50] : List UInt8), 1, ([(⟨2, ([] : List UInt8), ([y1, y4] : List Leg)⟩ : Part), (⟨3, ([67] : List UInt8), ([y8, y11] : List Leg)⟩ : Part)] : List Part)⟩ : Proc) A247 c247 ([82, 87, 49, 54, 76]) [67] (ArrM.lent (f251.toM g249.br) lr eb) (fG0.mono lr) hy252)) ?_
        rintro _ g253 _ e254 ⟨_, rfl, A252_0, c252_0, k252_0, rfl, rfl, h252_0⟩
        have nh252_0 := h252_0.len
        refine xB 5 [] [(2, vs A14 ([y8, y11] : List Leg) c14), (4, vp b248 0), (5, vs A252_0 y252.1 c252_0), (6, vi y252.2)] ?_
        refine xRe ?_
        refine wpq_then ?_
        refine xSq ?_
        refine xRg ?_
        refine xB 1 [(0, 1)] [(2, vs A14 ([y8, y11] : List Leg) c14), (4, vp b248 0), (5, vs A252_0 y252.1 c252_0), (6, vi y252.2), (53, Value.agg #[vt ([75, 83, 69, 65]), vt ([83, 85, 77, 77, 65, 50]), vy 1, vs A247 ([(⟨2, ([] : List UInt8), ([y1, y4] : List Leg)⟩ : Part), (⟨3, ([67] : List UInt8), ([y8, y11] : List Leg)⟩ : Part)] : List Part) c247])] ?_
        have f251 := f251.mono e254.b
        have fG0 := fG0.mono e254.r
        obtain ⟨y255, hy255, hS⟩ := bindO_T hS
        refine xE (eC 0 (fun g' lr eb ln => C23 g' (⟨([75, 83, 69, 65] : List UInt8), ([83, 85, 77, 77, 65, 50] : List UInt8), 1, ([(⟨2, ([] : List UInt8), ([y1, y4] : List Leg)⟩ : Part), (⟨3, ([67] : List UInt8), ([y8, y11] : List Leg)⟩ : Part)] : List Part)⟩ : Proc) A247 c247 ([82, 87, 49, 54, 76]) [66] (ArrM.lent (f251.toM g253.br) lr eb) (fG0.mono lr) hy255)) ?_
        rintro _ g256 _ e257 ⟨_, rfl, A255_0, c255_0, k255_0, rfl, rfl, h255_0⟩
        have nh255_0 := h255_0.len
        refine xB 5 [] [(2, vs A14 ([y8, y11] : List Leg) c14), (4, vp b248 0), (5, vs A252_0 y252.1 c252_0), (6, vi y252.2), (8, vi y255.2)] ?_
        refine xRe ?_
        refine wpq_then ?_
        refine xSq ?_
        refine xRg ?_
        refine xB 1 [(0, 2)] [(2, vs A14 ([y8, y11] : List Leg) c14), (4, vp b248 0), (5, vs A252_0 y252.1 c252_0), (6, vi y252.2), (8, vi y255.2), (57, Value.agg #[vt ([75, 83, 69, 65]), vt ([83, 85, 77, 77, 65, 50]), vy 1, vs A247 ([(⟨2, ([] : List UInt8), ([y1, y4] : List Leg)⟩ : Part), (⟨3, ([67] : List UInt8), ([y8, y11] : List Leg)⟩ : Part)] : List Part) c247])] ?_
        refine xE eB ?_
        rintro _ _ _ - ⟨b258, rfl, rfl, rfl⟩
        refine xBo 1 [(2, 0)] [some ⟨b258, 25, (cProc (⟨([75, 83, 69, 65] : List UInt8), ([83, 85, 77, 77, 65, 50] : List UInt8), 1, ([(⟨2, ([] : List UInt8), ([y1, y4] : List Leg)⟩ : Part), (⟨3, ([67] : List UInt8), ([y8, y11] : List Leg)⟩ : Part)] : List Part)⟩ : Proc) A247 c247)⟩, k255_0, k252_0, some ⟨b248, 25, (cProc (⟨([75, 83, 69, 65] : List UInt8), ([83, 85, 77, 77, 65, 50] : List UInt8), 1, ([(⟨2, ([] : List UInt8), ([y1, y4] : List Leg)⟩ : Part), (⟨3, ([67] : List UInt8), ([y8, y11] : List Leg)⟩ : Part)] : List Part)⟩ : Proc) A247 c247)⟩, none, none] [(2, vs A14 ([y8, y11] : List Leg) c14), (4, vp b248 0), (5, vs A252_0 y252.1 c252_0), (6, vi y252.2), (8, vi y255.2), (9, vp b258 0)] ?_
        refine xRe ?_
        refine wpq_then ?_
        refine xSq ?_
        refine xRg ?_
        refine xBo 2 [(1, 0)] [some ⟨b258, 25, (cProc (⟨([75, 83, 69, 65] : List UInt8), ([83, 85, 77, 77, 65, 50] : List UInt8), 2, ([(⟨2, ([] : List UInt8), ([y1, y4] : List Leg)⟩ : Part), (⟨3, ([67] : List UInt8), ([y8, y11] : List Leg)⟩ : Part)] : List Part)⟩ : Proc) A247 c247)⟩, k255_0, k252_0, some ⟨b248, 25, (cProc (⟨([75, 83, 69, 65] : List UInt8), ([83, 85, 77, 77, 65, 50] : List UInt8), 1, ([(⟨2, ([] : List UInt8), ([y1, y4] : List Leg)⟩ : Part), (⟨3, ([67] : List UInt8), ([y8, y11] : List Leg)⟩ : Part)] : List Part)⟩ : Proc) A247 c247)⟩, none, none] [(2, vs A14 ([y8, y11] : List Leg) c14), (4, vp b248 0), (5, vs A252_0 y252.1 c252_0), (6, vi y252.2), (8, vi y255.2), (9, vp b258 0)] ?_
        refine xRe ?_
        refine wpq_then ?_
        refine xSq ?_
        refine xDr 0 [10, 13, 21, 26, 31, 32] [36] [some ⟨b258, 25, (cProc (⟨([75, 83, 69, 65] : List UInt8), ([83, 85, 77, 77, 65, 50] : List UInt8), 2, ([(⟨2, ([] : List UInt8), ([y1, y4] : List Leg)⟩ : Part), (⟨3, ([67] : List UInt8), ([y8, y11] : List Leg)⟩ : Part)] : List Part)⟩ : Proc) A247 c247)⟩, k252_0, some ⟨b248, 25, (cProc (⟨([75, 83, 69, 65] : List UInt8), ([83, 85, 77, 77, 65, 50] : List UInt8), 1, ([(⟨2, ([] : List UInt8), ([y1, y4] : List Leg)⟩ : Part), (⟨3, ([67] : List UInt8), ([y8, y11] : List Leg)⟩ : Part)] : List Part)⟩ : Proc) A247 c247)⟩] 37 (fun RG => ?_) (fun _ _ _ _ _ h => h)
        refine xT 34 [0, 1, 2] [] [some 0, some 2, some 3] [(2, vs A14 ([y8, y11] : List Leg) c14), (4, vp b248 0), (5, vs A252_0 y252.1 c252_0), (8, vi y255.2), (9, vp b258 0), (61, vb (y252.2 == 0))] RG (Psi.le.refl _) ?_
        refine wpa_grp 30 [true, true, true, true, true, true, true, false, false, false, false, false, false, false, false, false, false, false, false, false, false, false, false, false, false, false, false, false, false, false, false, false, false, false, false, false, false] [(2, vs A14 ([y8, y11] : List Leg) c14), (4, vp b248 0), (5, vs A252_0 y252.1 c252_0), (8, vi y255.2), (9, vp b258 0), (65, vb ((y252.2 == 0) && ((((y252.1).length : Nat) : Int) == 3)))] (fun hk2 => ?_) ?_
        · refine wpq_split 61 (b := (y252.2 == 0)) (by kernel_rfl) (fun q259 => ?_) (fun q259 => ?_)
          · have q259p : y252.2 = 0 := eq_of_beq q259
            refine xT 30 [3, 4, 5, 6] [] [some 0, some 2, some 3] [(2, vs A14 ([y8, y11] : List Leg) c14), (4, vp b248 0), (5, vs A252_0 y252.1 c252_0), (8, vi y255.2), (9, vp b258 0), (65, vb ((((y252.1).length : Nat) : Int) == 3))] RG (Psi.le.refl _) ?_
            refine xSel [some 0, some 1, some 2, some 3, none, none] ?_
            refine wpq_re 65 (v := vb ((((y252.1).length : Nat) : Int) == 3)) (Value.bool (((y252.2 == 0) && ((((y252.1).length : Nat) : Int) == 3)))) (by kernel_rfl) (re_and1 q259) ?_
            exact wpq_sub _ (by kernel_rfl) hk2
          · have q259p : ¬ (y252.2 = 0) := ne_of_beq_false_ q259
            refine xT 30 [3, 4, 5, 6] [] [some 0, some 2, some 3] [(2, vs A14 ([y8, y11] : List Leg) c14), (4, vp b248 0), (5, vs A252_0 y252.1 c252_0), (8, vi y255.2), (9, vp b258 0), (65, vb false)] RG (Psi.le.refl _) ?_
            refine xSel [some 0, some 1, some 2, some 3, none, none] ?_
            refine wpq_re 65 (v := vb false) (Value.bool (((y252.2 == 0) && ((((y252.1).length : Nat) : Int) == 3)))) (by kernel_rfl) (re_and0 q259) ?_
            exact wpq_sub _ (by kernel_rfl) hk2
        · refine xT 29 [7] [] [some 0, some 2, some 3] [(2, vs A14 ([y8, y11] : List Leg) c14), (4, vp b248 0), (5, vs A252_0 y252.1 c252_0), (8, vi y255.2), (9, vp b258 0), (66, vb ((y252.2 == 0) && ((((y252.1).length : Nat) : Int) == 3)))] RG (Psi.le.refl _) ?_
          refine xGJlA hS 21 [true, true, true, true, true, true, true, true, true, true, true, true, true, true, true, true, false, false, false, false, false, false, false, false, false, false, false, false, false, false, false, false, false, false, false, false, false] (fun g own sl t260 => own = [some ⟨b258, 25, (cProc (⟨([75, 83, 69, 65] : List UInt8), ([83, 85, 77, 77, 65, 50] : List UInt8), 2, ([(⟨2, ([] : List UInt8), ([y1, y4] : List Leg)⟩ : Part), (⟨3, ([67] : List UInt8), ([y8, y11] : List Leg)⟩ : Part)] : List Part)⟩ : Proc) A247 c247)⟩, some ⟨b248, 25, (cProc (⟨([75, 83, 69, 65] : List UInt8), ([83, 85, 77, 77, 65, 50] : List UInt8), 1, ([(⟨2, ([] : List UInt8), ([y1, y4] : List Leg)⟩ : Part), (⟨3, ([67] : List UInt8), ([y8, y11] : List Leg)⟩ : Part)] : List Part)⟩ : Proc) A247 c247)⟩, k252_0] ∧ sl = [(4, vp b248 0), (8, vi y255.2), (9, vp b258 0), (74, vb t260)]) ?_ ?_
          · rintro g261 _ _ t260 e262 ⟨rfl, rfl⟩ hS
            refine xT 20 [16] [] [some 0, some 2, some 1] [(4, vp b248 0), (8, vi y255.2), (9, vp b258 0), (75, vb t260)] RG e262.r ?_
            refine wpa_grp 17 [true, true, true, true, true, true, true, true, true, true, true, true, true, true, true, true, true, true, true, true, false, false, false, false, false, false, false, false, false, false, false, false, false, false, false, false, false] [(4, vp b248 0), (9, vp b258 0), (78, vb (t260 && (y255.2 == 6)))] (fun hk16 => ?_) ?_
            · refine wpq_split 75 (b := t260) (by kernel_rfl) (fun q263 => ?_) (fun q263 => ?_)
              · refine xT 17 [17, 18, 19] [] [some 0, some 2, some 1] [(4, vp b248 0), (9, vp b258 0), (78, vb (y255.2 == 6))] RG e262.r ?_
                refine wpq_re 78 (v := vb (y255.2 == 6)) (Value.bool ((t260 && (y255.2 == 6)))) (by kernel_rfl) (re_and1 q263) ?_
                exact wpq_sub _ (by kernel_rfl) hk16
              · refine xT 17 [17, 18, 19] [] [some 0, some 2, some 1] [(4, vp b248 0), (9, vp b258 0), (78, vb false)] RG e262.r ?_
                refine wpq_re 78 (v := vb false) (Value.bool ((t260 && (y255.2 == 6)))) (by kernel_rfl) (re_and0 q263) ?_
                exact wpq_sub _ (by kernel_rfl) hk16
            · refine xT 16 [20] [] [some 0, some 2, some 1] [(4, vp b248 0), (9, vp b258 0), (79, vb (t260 && (y255.2 == 6)))] RG e262.r ?_
              refine xGJoA hS 12 [true, true, true, true, true, true, true, true, true, true, true, true, true, true, true, true, true, true, true, true, true, true, true, true, true, false, false, false, false, false, false, false, false, false, false, false, false] (fun g own sl t264 => own = [some ⟨b258, 25, (cProc (⟨([75, 83, 69, 65] : List UInt8), ([83, 85, 77, 77, 65, 50] : List UInt8), 2, ([(⟨2, ([] : List UInt8), ([y1, y4] : List Leg)⟩ : Part), (⟨3, ([67] : List UInt8), ([y8, y11] : List Leg)⟩ : Part)] : List Part)⟩ : Proc) A247 c247)⟩, some ⟨b248, 25, (cProc (⟨([75, 83, 69, 65] : List UInt8), ([83, 85, 77, 77, 65, 50] : List UInt8), 1, ([(⟨2, ([] : List UInt8), ([y1, y4] : List Leg)⟩ : Part), (⟨3, ([67] : List UInt8), ([y8, y11] : List Leg)⟩ : Part)] : List Part)⟩ : Proc) A247 c247)⟩, k252_0] ∧ sl = [(4, vp b248 0), (9, vp b258 0), (83, vb t264)]) ?_ ?_
              · rintro g265 _ _ t264 e266 ⟨rfl, rfl⟩ hS
                refine xT 11 [25] [] [some 0, some 2, some 1] [(4, vp b248 0), (9, vp b258 0), (84, vb t264)] RG (e262.trans e266).r ?_
                refine xGJoA hS 7 [true, true, true, true, true, true, true, true, true, true, true, true, true, true, true, true, true, true, true, true, true, true, true, true, true, true, true, true, true, true, false, false, false, false, false, false, false] (fun g own sl t267 => own = [some ⟨b258, 25, (cProc (⟨([75, 83, 69, 65] : List UInt8), ([83, 85, 77, 77, 65, 50] : List UInt8), 2, ([(⟨2, ([] : List UInt8), ([y1, y4] : List Leg)⟩ : Part), (⟨3, ([67] : List UInt8), ([y8, y11] : List Leg)⟩ : Part)] : List Part)⟩ : Proc) A247 c247)⟩, some ⟨b248, 25, (cProc (⟨([75, 83, 69, 65] : List UInt8), ([83, 85, 77, 77, 65, 50] : List UInt8), 1, ([(⟨2, ([] : List UInt8), ([y1, y4] : List Leg)⟩ : Part), (⟨3, ([67] : List UInt8), ([y8, y11] : List Leg)⟩ : Part)] : List Part)⟩ : Proc) A247 c247)⟩, k252_0] ∧ sl = [(4, vp b248 0), (9, vp b258 0), (88, vb t267)]) ?_ ?_
                · rintro g268 _ _ t267 e269 ⟨rfl, rfl⟩ hS
                  refine xT 6 [30] [] [some 0, some 2, some 1] [(4, vp b248 0), (9, vp b258 0), (89, vb t267)] RG (e262.trans (e266.trans e269)).r ?_
                  refine xGJoA hS 1 [true, true, true, true, true, true, true, true, true, true, true, true, true, true, true, true, true, true, true, true, true, true, true, true, true, true, true, true, true, true, true, true, true, true, true, true, false] (fun g own sl t270 => own = [some ⟨b258, 25, (cProc (⟨([75, 83, 69, 65] : List UInt8), ([83, 85, 77, 77, 65, 50] : List UInt8), 2, ([(⟨2, ([] : List UInt8), ([y1, y4] : List Leg)⟩ : Part), (⟨3, ([67] : List UInt8), ([y8, y11] : List Leg)⟩ : Part)] : List Part)⟩ : Proc) A247 c247)⟩, some ⟨b248, 25, (cProc (⟨([75, 83, 69, 65] : List UInt8), ([83, 85, 77, 77, 65, 50] : List UInt8), 1, ([(⟨2, ([] : List UInt8), ([y1, y4] : List Leg)⟩ : Part), (⟨3, ([67] : List UInt8), ([y8, y11] : List Leg)⟩ : Part)] : List Part)⟩ : Proc) A247 c247)⟩, k252_0] ∧ sl = [(94, vb t270)]) ?_ ?_
                  · rintro g271 _ _ t270 e272 ⟨rfl, rfl⟩ hS
                    refine xT 0 [36] [] [some 0, some 2, some 1] [(0, vb t270)] RG (e262.trans (e266.trans (e269.trans e272))).r ?_
                    refine xAe (lds := [10, 13, 21, 26, 31, 32]) ?_
                    refine wpq_then ?_
                    have eS := (Option.some.inj hS).symm
                    subst eS
                    exact xRet [] [0] (e3.trans (e6.trans (e10.trans (e13.trans (e17.trans (e20.trans (e23.trans (e26.trans (e236.trans (e239.trans (e242.trans (e245.trans (e250.trans (e254.trans (e257.trans (e262.trans (e266.trans (e269.trans e272)))))))))))))))))) ⟨by kernel_rfl, by kernel_rfl⟩ (fun _ _ h => h)
                  · intro uu270 hS hN270
                    refine wpq_split 89 (b := t267) (by kernel_rfl) (fun q273 => ?_) (fun q273 => ?_)
                    · have hS := cond_T q273 hS
                      refine xT 4 [31, 32] [(31, 2), (32, 0)] [some 0, some 2, some 1] [(89, vb true), (90, Value.agg #[vt ([75, 83, 69, 65]), vt ([83, 85, 77, 77, 65, 50]), vy 1, vs A247 ([(⟨2, ([] : List UInt8), ([y1, y4] : List Leg)⟩ : Part), (⟨3, ([67] : List UInt8), ([y8, y11] : List Leg)⟩ : Part)] : List Part) c247]), (91, Value.agg #[vt ([75, 83, 69, 65]), vt ([83, 85, 77, 77, 65, 50]), vy 2, vs A247 ([(⟨2, ([] : List UInt8), ([y1, y4] : List Leg)⟩ : Part), (⟨3, ([67] : List UInt8), ([y8, y11] : List Leg)⟩ : Part)] : List Part) c247])] RG (e262.trans (e266.trans e269)).r ?_
                      have f251 := f251.mono (e257.trans (e262.trans (e266.trans e269))).b
                      obtain ⟨y274, hy274, hS⟩ := bindO_T hS
                      refine xO1 (lds := [10, 13, 21, 26, 31, 32]) 33 ?_
                      refine xIe (lds := [10, 13, 21, 26, 31, 32]) (e262.trans (e266.trans e269)).r (eC 0 (fun g' lr eb ln => C29 g' (⟨([75, 83, 69, 65] : List UInt8), ([83, 85, 77, 77, 65, 50] : List UInt8), 1, ([(⟨2, ([] : List UInt8), ([y1, y4] : List Leg)⟩ : Part), (⟨3, ([67] : List UInt8), ([y8, y11] : List Leg)⟩ : Part)] : List Part)⟩ : Proc) A247 c247 (⟨([75, 83, 69, 65] : List UInt8), ([83, 85, 77, 77, 65, 50] : List UInt8), 2, ([(⟨2, ([] : List UInt8), ([y1, y4] : List Leg)⟩ : Part), (⟨3, ([67] : List UInt8), ([y8, y11] : List Leg)⟩ : Part)] : List Part)⟩ : Proc) A247 c247 ((f251.mono g268.br).mono lr) ((f251.mono g268.br).mono lr) hy274)) ?_
                      rintro _ g275 _ e276 ⟨_, rfl, rfl, rfl⟩
                      refine kk [some 0, some 2, some 1] ?_
                      refine xT 1 [34, 35] [] [some 0, some 2, some 1] [(94, vb (y274 == -1))] RG (e262.trans (e266.trans (e269.trans e276))).r ?_
                      refine xSub [(94, vb (y274 == -1))] ?_
                      exact hN270 _ (Option.some.inj hS).symm _ _ _ e276 ⟨by kernel_rfl, by kernel_rfl⟩
                    · have hS := cond_F q273 hS
                      refine xT 4 [31, 32] [] [some 0, some 2, some 1] [(89, vb false), (90, undef), (91, undef)] RG (e262.trans (e266.trans e269)).r ?_
                      refine xO1 (lds := [10, 13, 21, 26, 31, 32]) 33 ?_
                      refine xIb (lds := [10, 13, 21, 26, 31, 32]) [] ?_
                      refine xT 1 [34, 35] [] [some 0, some 2, some 1] [(94, vb false)] RG (e262.trans (e266.trans e269)).r ?_
                      refine xSub [(94, vb false)] ?_
                      exact hN270 _ (Option.some.inj hS).symm _ _ _ (Gh.le.refl _) ⟨by kernel_rfl, by kernel_rfl⟩
                · intro uu267 hS hN267
                  refine wpq_split 84 (b := t264) (by kernel_rfl) (fun q277 => ?_) (fun q277 => ?_)
                  · have hS := cond_T q277 hS
                    refine xT 10 [26] [(26, 0)] [some 0, some 2, some 1] [(4, vp b248 0), (9, vp b258 0), (84, vb true), (85, Value.agg #[vt ([75, 83, 69, 65]), vt ([83, 85, 77, 77, 65, 50]), vy 2, vs A247 ([(⟨2, ([] : List UInt8), ([y1, y4] : List Leg)⟩ : Part), (⟨3, ([67] : List UInt8), ([y8, y11] : List Leg)⟩ : Part)] : List Part) c247])] RG (e262.trans e266).r ?_
                    have Ef251 := f251.mono e257.b
                    have f251 := f251.mono (e257.trans (e262.trans e266)).b
                    have EfG0 := fG0.mono e257.r
                    have fG0 := fG0.mono (e257.trans (e262.trans e266)).r
                    obtain ⟨y278, hy278, hS⟩ := bindO_T hS
                    refine xO1 (lds := [10, 13, 21, 26, 31, 32]) 27 ?_
                    refine xIe (lds := [10, 13, 21, 26, 31, 32]) (e262.trans e266).r (eC 0 (fun g' lr eb ln => C13 g' (⟨([75, 83, 69, 65] : List UInt8), ([83, 85, 77, 77, 65, 50] : List UInt8), 2, ([(⟨2, ([] : List UInt8), ([y1, y4] : List Leg)⟩ : Part), (⟨3, ([67] : List UInt8), ([y8, y11] : List Leg)⟩ : Part)] : List Part)⟩ : Proc) A247 c247 (ArrM.lent (f251.toM g265.br) lr eb) (fG0.mono lr) hy278)) ?_
                    rintro _ g279 _ e280 ⟨_, rfl, rfl, rfl⟩
                    refine kk [some 0, some 2, some 1] ?_
                    refine xT 7 [28, 29] [] [some 0, some 2, some 1] [(4, vp b248 0), (9, vp b258 0), (88, vb (y278 == 9))] RG (e262.trans (e266.trans e280)).r ?_
                    refine xSub [(4, vp b248 0), (9, vp b258 0), (88, vb (y278 == 9))] ?_
                    exact hN267 _ (Option.some.inj hS).symm _ _ _ e280 ⟨by kernel_rfl, by kernel_rfl⟩
                  · have hS := cond_F q277 hS
                    refine xT 10 [26] [] [some 0, some 2, some 1] [(4, vp b248 0), (9, vp b258 0), (84, vb false), (85, undef)] RG (e262.trans e266).r ?_
                    refine xO1 (lds := [10, 13, 21, 26, 31, 32]) 27 ?_
                    refine xIb (lds := [10, 13, 21, 26, 31, 32]) [] ?_
                    refine xT 7 [28, 29] [] [some 0, some 2, some 1] [(4, vp b248 0), (9, vp b258 0), (88, vb false)] RG (e262.trans e266).r ?_
                    refine xSub [(4, vp b248 0), (9, vp b258 0), (88, vb false)] ?_
                    exact hN267 _ (Option.some.inj hS).symm _ _ _ (Gh.le.refl _) ⟨by kernel_rfl, by kernel_rfl⟩
              · intro uu264 hS hN264
                refine wpq_split 79 (b := (t260 && (y255.2 == 6))) (by kernel_rfl) (fun q281 => ?_) (fun q281 => ?_)
                · have hS := cond_T q281 hS
                  have q281l := (and_true_ q281).1
                  have q281r := (and_true_ q281).2
                  have q281rp : y255.2 = 6 := eq_of_beq q281r
                  refine xT 15 [21] [(21, 2)] [some 0, some 2, some 1] [(4, vp b248 0), (9, vp b258 0), (79, vb true), (80, Value.agg #[vt ([75, 83, 69, 65]), vt ([83, 85, 77, 77, 65, 50]), vy 1, vs A247 ([(⟨2, ([] : List UInt8), ([y1, y4] : List Leg)⟩ : Part), (⟨3, ([67] : List UInt8), ([y8, y11] : List Leg)⟩ : Part)] : List Part) c247])] RG e262.r ?_
                  have Ef251 := f251.mono e257.b
                  have f251 := f251.mono (e257.trans e262).b
                  have EfG0 := fG0.mono e257.r
                  have fG0 := fG0.mono (e257.trans e262).r
                  obtain ⟨y282, hy282, hS⟩ := bindO_T hS
                  refine xO1 (lds := [10, 13, 21, 26, 31, 32]) 22 ?_
                  refine xIe (lds := [10, 13, 21, 26, 31, 32]) e262.r (eC 0 (fun g' lr eb ln => C13 g' (⟨([75, 83, 69, 65] : List UInt8), ([83, 85, 77, 77, 65, 50] : List UInt8), 1, ([(⟨2, ([] : List UInt8), ([y1, y4] : List Leg)⟩ : Part), (⟨3, ([67] : List UInt8), ([y8, y11] : List Leg)⟩ : Part)] : List Part)⟩ : Proc) A247 c247 (ArrM.lent (f251.toM g261.br) lr eb) (fG0.mono lr) hy282)) ?_
                  rintro _ g283 _ e284 ⟨_, rfl, rfl, rfl⟩
                  refine kk [some 0, some 2, some 1] ?_
                  refine xT 12 [23, 24] [] [some 0, some 2, some 1] [(4, vp b248 0), (9, vp b258 0), (83, vb (y282 == 0))] RG (e262.trans e284).r ?_
                  refine xSub [(4, vp b248 0), (9, vp b258 0), (83, vb (y282 == 0))] ?_
                  exact hN264 _ (Option.some.inj hS).symm _ _ _ e284 ⟨by kernel_rfl, by kernel_rfl⟩
                · have hS := cond_F q281 hS
                  refine xT 15 [21] [] [some 0, some 2, some 1] [(4, vp b248 0), (9, vp b258 0), (79, vb false), (80, undef)] RG e262.r ?_
                  refine xO1 (lds := [10, 13, 21, 26, 31, 32]) 22 ?_
                  refine xIb (lds := [10, 13, 21, 26, 31, 32]) [] ?_
                  refine xT 12 [23, 24] [] [some 0, some 2, some 1] [(4, vp b248 0), (9, vp b258 0), (83, vb false)] RG e262.r ?_
                  refine xSub [(4, vp b248 0), (9, vp b258 0), (83, vb false)] ?_
                  exact hN264 _ (Option.some.inj hS).symm _ _ _ (Gh.le.refl _) ⟨by kernel_rfl, by kernel_rfl⟩
          · intro uu260 hS hN260
            refine wpq_split 66 (b := ((y252.2 == 0) && ((((y252.1).length : Nat) : Int) == 3))) (by kernel_rfl) (fun q285 => ?_) (fun q285 => ?_)
            · have hS := cond_T q285 hS
              have q285l := (and_true_ q285).1
              have q285r := (and_true_ q285).2
              have q285lp : y252.2 = 0 := eq_of_beq q285l
              have q285rp : (((y252.1).length : Nat) : Int) = 3 := eq_of_beq q285r
              have h252_0 := h252_0.mono e257.b
              have i287 : 2 < (y252.1).length := by omega
              obtain ⟨kc286, cs286, hA286, hk286, hr286, hw286⟩ := h252_0.open_ i287 default
              obtain ⟨kb286, rfl⟩ : ∃ z, z = kc286 := ⟨_, rfl⟩
              subst hk286
              obtain ⟨rfl⟩ := hr286
              refine xT 28 [8] [] [some 0, some 2, some 3] [(2, vs A14 ([y8, y11] : List Leg) c14), (4, vp b248 0), (8, vi y255.2), (9, vp b258 0), (66, vb true), (67, vs A252_0 y252.1 c252_0)] RG (Psi.le.refl _) ?_
              refine xTp 9 RG (fun _ => (qIxB 2 13 kb286.g hA286 rfl i287)) ?_
              refine xTv 10 [some 0, some 2, some 3] RG (Psi.le.refl _) (qLdB 2 13 0 1 hw286) ?_
              have f24 := f24.mono (e250.trans (e254.trans e257)).b
              have i289 : 1 < (([y8, y11] : List Leg)).length := by simp
              obtain ⟨ad288, cs288, hA288, hr288, hc288⟩ := f24.at_ (get_getD (d := default) i289)
              obtain ⟨rfl⟩ := hr288
              refine xT 25 [11] [] [some 0, some 2, some 3] [(4, vp b248 0), (8, vi y255.2), (9, vp b258 0), (66, vb true), (69, Value.agg #[vy ((List.getD y252.1 2 default).type_), vt ((List.getD y252.1 2 default).fix), vt ((List.getD y252.1 2 default).center), vy ((List.getD y252.1 2 default).turn), vb ((List.getD y252.1 2 default).over), vi ((List.getD y252.1 2 default).course), vi ((List.getD y252.1 2 default).dist), vi ((List.getD y252.1 2 default).radius), vi ((List.getD y252.1 2 default).theta), vi ((List.getD y252.1 2 default).alt.lo), vi ((List.getD y252.1 2 default).alt.hi), vi ((List.getD y252.1 2 default).speed), vi ((List.getD y252.1 2 default).rnp)]), (70, vs A14 ([y8, y11] : List Leg) c14)] RG (Psi.le.refl _) ?_
              refine xTp 12 RG (fun _ => (qIx 1 13 hA288 rfl i289)) ?_
              refine xTv 13 [some 0, some 2, some 3] RG (Psi.le.refl _) (qLdP (Addr.add ad288 (1 * 13)) 0 (hc288.mono g256.br)) ?_
              refine xTp 14 RG (fun _ => (qEqA ((((List.getD y252.1 2 default).type_ == (List.getD ([y8, y11] : List Leg) 1 default).type_) && ((strEq (List.getD y252.1 2 default).fix (List.getD ([y8, y11] : List Leg) 1 default).fix) && ((strEq (List.getD y252.1 2 default).center (List.getD ([y8, y11] : List Leg) 1 default).center) && (((List.getD y252.1 2 default).turn == (List.getD ([y8, y11] : List Leg) 1 default).turn) && (((List.getD y252.1 2 default).over == (List.getD ([y8, y11] : List Leg) 1 default).over) && (((List.getD y252.1 2 default).course == (List.getD ([y8, y11] : List Leg) 1 default).course) && (((List.getD y252.1 2 default).dist == (List.getD ([y8, y11] : List Leg) 1 default).dist) && (((List.getD y252.1 2 default).radius == (List.getD ([y8, y11] : List Leg) 1 default).radius) && (((List.getD y252.1 2 default).theta == (List.getD ([y8, y11] : List Leg) 1 default).theta) && ((((List.getD y252.1 2 default).alt.lo == (List.getD ([y8, y11] : List Leg) 1 default).alt.lo) && ((List.getD y252.1 2 default).alt.hi == (List.getD ([y8, y11] : List Leg) 1 default).alt.hi)) && (((List.getD y252.1 2 default).speed == (List.getD ([y8, y11] : List Leg) 1 default).speed) && ((List.getD y252.1 2 default).rnp == (List.getD ([y8, y11] : List Leg) 1 default).rnp))))))))))))))) ?_
              refine xT 21 [15] [] [some 0, some 2, some 3] [(4, vp b248 0), (8, vi y255.2), (9, vp b258 0), (74, vb (((List.getD y252.1 2 default).type_ == (List.getD ([y8, y11] : List Leg) 1 default).type_) && ((strEq (List.getD y252.1 2 default).fix (List.getD ([y8, y11] : List Leg) 1 default).fix) && ((strEq (List.getD y252.1 2 default).center (List.getD ([y8, y11] : List Leg) 1 default).center) && (((List.getD y252.1 2 default).turn == (List.getD ([y8, y11] : List Leg) 1 default).turn) && (((List.getD y252.1 2 default).over == (List.getD ([y8, y11] : List Leg) 1 default).over) && (((List.getD y252.1 2 default).course == (List.getD ([y8, y11] : List Leg) 1 default).course) && (((List.getD y252.1 2 default).dist == (List.getD ([y8, y11] : List Leg) 1 default).dist) && (((List.getD y252.1 2 default).radius == (List.getD ([y8, y11] : List Leg) 1 default).radius) && (((List.getD y252.1 2 default).theta == (List.getD ([y8, y11] : List Leg) 1 default).theta) && ((((List.getD y252.1 2 default).alt.lo == (List.getD ([y8, y11] : List Leg) 1 default).alt.lo) && ((List.getD y252.1 2 default).alt.hi == (List.getD ([y8, y11] : List Leg) 1 default).alt.hi)) && (((List.getD y252.1 2 default).speed == (List.getD ([y8, y11] : List Leg) 1 default).speed) && ((List.getD y252.1 2 default).rnp == (List.getD ([y8, y11] : List Leg) 1 default).rnp)))))))))))))] RG (Psi.le.refl _) ?_
              refine xSel [some 0, some 3, some 2] ?_
              refine xSub [(4, vp b248 0), (8, vi y255.2), (9, vp b258 0), (74, vb (((List.getD y252.1 2 default).type_ == (List.getD ([y8, y11] : List Leg) 1 default).type_) && ((strEq (List.getD y252.1 2 default).fix (List.getD ([y8, y11] : List Leg) 1 default).fix) && ((strEq (List.getD y252.1 2 default).center (List.getD ([y8, y11] : List Leg) 1 default).center) && (((List.getD y252.1 2 default).turn == (List.getD ([y8, y11] : List Leg) 1 default).turn) && (((List.getD y252.1 2 default).over == (List.getD ([y8, y11] : List Leg) 1 default).over) && (((List.getD y252.1 2 default).course == (List.getD ([y8, y11] : List Leg) 1 default).course) && (((List.getD y252.1 2 default).dist == (List.getD ([y8, y11] : List Leg) 1 default).dist) && (((List.getD y252.1 2 default).radius == (List.getD ([y8, y11] : List Leg) 1 default).radius) && (((List.getD y252.1 2 default).theta == (List.getD ([y8, y11] : List Leg) 1 default).theta) && ((((List.getD y252.1 2 default).alt.lo == (List.getD ([y8, y11] : List Leg) 1 default).alt.lo) && ((List.getD y252.1 2 default).alt.hi == (List.getD ([y8, y11] : List Leg) 1 default).alt.hi)) && (((List.getD y252.1 2 default).speed == (List.getD ([y8, y11] : List Leg) 1 default).speed) && ((List.getD y252.1 2 default).rnp == (List.getD ([y8, y11] : List Leg) 1 default).rnp)))))))))))))] ?_
              exact hN260 _ hS.symm _ _ _ (Gh.le.refl _) ⟨by kernel_rfl, by kernel_rfl⟩
            · have hS := cond_F q285 hS
              refine xT 21 [8, 9, 10, 11, 12, 13, 14, 15] [] [some 0, some 2, some 3] [(4, vp b248 0), (8, vi y255.2), (9, vp b258 0), (74, vb false)] RG (Psi.le.refl _) ?_
              refine xSel [some 0, some 3, some 2] ?_
              refine xSub [(4, vp b248 0), (8, vi y255.2), (9, vp b258 0), (74, vb false)] ?_
              exact hN260 _ hS.symm _ _ _ (Gh.le.refl _) ⟨by kernel_rfl, by kernel_rfl⟩
    · intro uu240 hS hN240
      refine wpq_split 34 (b := (!y237)) (by kernel_rfl) (fun q290 => ?_) (fun q290 => ?_)
      · have hS := cond_T q290 hS
        have q290n := not_eq_true_ q290
        refine xT 4 [16, 17] [] [some 4] [(1, vs A7 ([y1, y4] : List Leg) c7), (2, vs A14 ([y8, y11] : List Leg) c14), (34, vb true), (35, undef), (36, undef)] RG (e236.trans e239).r ?_
        refine xO1 (lds := [5, 8, 11]) 18 ?_
        refine xIb (lds := [5, 8, 11]) [] ?_
        refine xT 0 [19, 20, 21] [] [some 4] [(1, vs A7 ([y1, y4] : List Leg) c7), (2, vs A14 ([y8, y11] : List Leg) c14), (40, vb true)] RG (e236.trans e239).r ?_
        refine xSel [some 4] ?_
        refine xSub [(1, vs A7 ([y1, y4] : List Leg) c7), (2, vs A14 ([y8, y11] : List Leg) c14), (40, vb true)] ?_
        exact hN240 _ (Option.some.inj hS).symm _ _ _ (Gh.le.refl _) ⟨by kernel_rfl, by kernel_rfl⟩
      · have hS := cond_F q290 hS
        have q290n := not_eq_false_ q290
        refine xT 4 [16, 17] [] [some 4] [(1, vs A7 ([y1, y4] : List Leg) c7), (2, vs A14 ([y8, y11] : List Leg) c14), (34, vb false), (35, vs A7 ([y1, y4] : List Leg) c7), (36, vs A21 ([y15, y18] : List Leg) c21)] RG (e236.trans e239).r ?_
        have h7 := h7.mono (e236.trans e239).b
        have f27 := f27.mono (e236.trans e239).b
        obtain ⟨y291, hy291, hS⟩ := bindO_T hS
        refine xO1 (lds := [5, 8, 11]) 18 ?_
        refine xIe (lds := [5, 8, 11]) (e236.trans e239).r (eC 0 (fun g' lr eb ln => C21 g' (([y1, y4] : List Leg) : List Leg) A7 c7 (([y15, y18] : List Leg) : List Leg) A21 c21 (arrm_of_buf h7 eb (lentk 4 (by kernel_rfl) ln)) (by rw [eb]; exact f27) hy291)) ?_
        rintro _ g292 _ e293 ⟨_, rfl, A291_0, c291_0, k291_0, rfl, rfl, h291_0⟩
        refine kk [some 5] ?_
        have nh291_0 := h291_0.len
        refine xT 0 [19, 20, 21] [] [some 5] [(1, vs A7 ([y1, y4] : List Leg) c7), (2, vs A14 ([y8, y11] : List Leg) c14), (40, vb ((((y291).length : Nat) : Int) != 4))] RG (e236.trans (e239.trans e293)).r ?_
        refine xSel [some 5] ?_
        refine xSub [(1, vs A7 ([y1, y4] : List Leg) c7), (2, vs A14 ([y8, y11] : List Leg) c14), (40, vb ((((y291).length : Nat) : Int) != 4))] ?_
        exact hN240 _ (Option.some.inj hS).symm _ _ _ e293 ⟨by kernel_rfl, by kernel_rfl⟩
  · refine xO2 (lds := [5, 8, 11]) 2 12 ?_ ?_
    · refine xIe (lds := [5, 8, 11]) (Psi.le.refl _) (eC 0 (fun g' lr eb ln => C21 g' (([y1, y4] : List Leg) : List Leg) A7 c7 (([y8, y11] : List Leg) : List Leg) A14 c14 (arrm_of_buf h7 eb (lentk 2 (by kernel_rfl) ln)) (by rw [eb]; exact f24) hy35)) ?_
      rintro _ g295 _ e296 ⟨_, rfl, A35_0, c35_0, k35_0, rfl, rfl, h35_0⟩
      refine kk [some 3] ?_
      have nh35_0 := h35_0.len
      refine xO1 (lds := [5, 8, 11]) 12 ?_
      refine xIe (lds := [5, 8, 11]) e296.r (eBs (T := tyLeg) (p := g295.b) (et := 46) (xs := ([(List.getD ([y1, y4] : List Leg) 0 default), (List.getD ([y1, y4] : List Leg) 1 default), (List.getD ([y8, y11] : List Leg) 1 default)] : List Leg)) (reps_cons (c := [vy ((List.getD ([y1, y4] : List Leg) 0 default).type_), vt ((List.getD ([y1, y4] : List Leg) 0 default).fix), vt ((List.getD ([y1, y4] : List Leg) 0 default).center), vy ((List.getD ([y1, y4] : List Leg) 0 default).turn), vb ((List.getD ([y1, y4] : List Leg) 0 default).over), vi ((List.getD ([y1, y4] : List Leg) 0 default).course), vi ((List.getD ([y1, y4] : List Leg) 0 default).dist), vi ((List.getD ([y1, y4] : List Leg) 0 default).radius), vi ((List.getD ([y1, y4] : List Leg) 0 default).theta), vi ((List.getD ([y1, y4] : List Leg) 0 default).alt.lo), vi ((List.getD ([y1, y4] : List Leg) 0 default).alt.hi), vi ((List.getD ([y1, y4] : List Leg) 0 default).speed), vi ((List.getD ([y1, y4] : List Leg) 0 default).rnp)]) (show tyLeg.rep _ _ (List.getD ([y1, y4] : List Leg) 0 default) from rfl) (reps_cons (c := [vy ((List.getD ([y1, y4] : List Leg) 1 default).type_), vt ((List.getD ([y1, y4] : List Leg) 1 default).fix), vt ((List.getD ([y1, y4] : List Leg) 1 default).center), vy ((List.getD ([y1, y4] : List Leg) 1 default).turn), vb ((List.getD ([y1, y4] : List Leg) 1 default).over), vi ((List.getD ([y1, y4] : List Leg) 1 default).course), vi ((List.getD ([y1, y4] : List Leg) 1 default).dist), vi ((List.getD ([y1, y4] : List Leg) 1 default).radius), vi ((List.getD ([y1, y4] : List Leg) 1 default).theta), vi ((List.getD ([y1, y4] : List Leg) 1 default).alt.lo), vi ((List.getD ([y1, y4] : List Leg) 1 default).alt.hi), vi ((List.getD ([y1, y4] : List Leg) 1 default).speed), vi ((List.getD ([y1, y4] : List Leg) 1 default).rnp)]) (show tyLeg.rep _ _ (List.getD ([y1, y4] : List Leg) 1 default) from rfl) (reps_cons (c := [vy ((List.getD ([y8, y11] : List Leg) 1 default).type_), vt ((List.getD ([y8, y11] : List Leg) 1 default).fix), vt ((List.getD ([y8, y11] : List Leg) 1 default).center), vy ((List.getD ([y8, y11] : List Leg) 1 default).turn), vb ((List.getD ([y8, y11] : List Leg) 1 default).over), vi ((List.getD ([y8, y11] : List Leg) 1 default).course), vi ((List.getD ([y8, y11] : List Leg) 1 default).dist), vi ((List.getD ([y8, y11] : List Leg) 1 default).radius), vi ((List.getD ([y8, y11] : List Leg) 1 default).theta), vi ((List.getD ([y8, y11] : List Leg) 1 default).alt.lo), vi ((List.getD ([y8, y11] : List Leg) 1 default).alt.hi), vi ((List.getD ([y8, y11] : List Leg) 1 default).speed), vi ((List.getD ([y8, y11] : List Leg) 1 default).rnp)]) (show tyLeg.rep _ _ (List.getD ([y8, y11] : List Leg) 1 default) from rfl) reps_nil))) (by simp)) ?_
      rintro _ _ _ - ⟨A297, c297, k297, rfl, rfl, rfl, h297⟩
      refine kk [some 4] ?_
      refine xSel [some 0, some 1, none, none, some 4] ?_
      refine xSub [(1, vs A7 ([y1, y4] : List Leg) c7), (2, vs A14 ([y8, y11] : List Leg) c14), (3, vs A21 ([y15, y18] : List Leg) c21), (21, vs A35_0 y35 c35_0), (31, vs A297 ([(List.getD ([y1, y4] : List Leg) 0 default), (List.getD ([y1, y4] : List Leg) 1 default), (List.getD ([y8, y11] : List Leg) 1 default)] : List Leg) c297)] ?_
      exact hD34 _ _ _ e296 ⟨A35_0, c35_0, k35_0, A297, c297, k297, by kernel_rfl, by kernel_rfl, h35_0, h297⟩
    · refine xIe (lds := [5, 8, 11]) (Psi.le.refl _) (eBs (T := tyLeg) (p := g25.b) (et := 46) (xs := ([(List.getD ([y1, y4] : List Leg) 0 default), (List.getD ([y1, y4] : List Leg) 1 default), (List.getD ([y8, y11] : List Leg) 1 default)] : List Leg)) (reps_cons (c := [vy ((List.getD ([y1, y4] : List Leg) 0 default).type_), vt ((List.getD ([y1, y4] : List Leg) 0 default).fix), vt ((List.getD ([y1, y4] : List Leg) 0 default).center), vy ((List.getD ([y1, y4] : List Leg) 0 default).turn), vb ((List.getD ([y1, y4] : List Leg) 0 default).over), vi ((List.getD ([y1, y4] : List Leg) 0 default).course), vi ((List.getD ([y1, y4] : List Leg) 0 default).dist), vi ((List.getD ([y1, y4] : List Leg) 0 default).radius), vi ((List.getD ([y1, y4] : List Leg) 0 default).theta), vi ((List.getD ([y1, y4] : List Leg) 0 default).alt.lo), vi ((List.getD ([y1, y4] : List Leg) 0 default).alt.hi), vi ((List.getD ([y1, y4] : List Leg) 0 default).speed), vi ((List.getD ([y1, y4] : List Leg) 0 default).rnp)]) (show tyLeg.rep _ _ (List.getD ([y1, y4] : List Leg) 0 default) from rfl) (reps_cons (c := [vy ((List.getD ([y1, y4] : List Leg) 1 default).type_), vt ((List.getD ([y1, y4] : List Leg) 1 default).fix), vt ((List.getD ([y1, y4] : List Leg) 1 default).center), vy ((List.getD ([y1, y4] : List Leg) 1 default).turn), vb ((List.getD ([y1, y4] : List Leg) 1 default).over), vi ((List.getD ([y1, y4] : List Leg) 1 default).course), vi ((List.getD ([y1, y4] : List Leg) 1 default).dist), vi ((List.getD ([y1, y4] : List Leg) 1 default).radius), vi ((List.getD ([y1, y4] : List Leg) 1 default).theta), vi ((List.getD ([y1, y4] : List Leg) 1 default).alt.lo), vi ((List.getD ([y1, y4] : List Leg) 1 default).alt.hi), vi ((List.getD ([y1, y4] : List Leg) 1 default).speed), vi ((List.getD ([y1, y4] : List Leg) 1 default).rnp)]) (show tyLeg.rep _ _ (List.getD ([y1, y4] : List Leg) 1 default) from rfl) (reps_cons (c := [vy ((List.getD ([y8, y11] : List Leg) 1 default).type_), vt ((List.getD ([y8, y11] : List Leg) 1 default).fix), vt ((List.getD ([y8, y11] : List Leg) 1 default).center), vy ((List.getD ([y8, y11] : List Leg) 1 default).turn), vb ((List.getD ([y8, y11] : List Leg) 1 default).over), vi ((List.getD ([y8, y11] : List Leg) 1 default).course), vi ((List.getD ([y8, y11] : List Leg) 1 default).dist), vi ((List.getD ([y8, y11] : List Leg) 1 default).radius), vi ((List.getD ([y8, y11] : List Leg) 1 default).theta), vi ((List.getD ([y8, y11] : List Leg) 1 default).alt.lo), vi ((List.getD ([y8, y11] : List Leg) 1 default).alt.hi), vi ((List.getD ([y8, y11] : List Leg) 1 default).speed), vi ((List.getD ([y8, y11] : List Leg) 1 default).rnp)]) (show tyLeg.rep _ _ (List.getD ([y8, y11] : List Leg) 1 default) from rfl) reps_nil))) (by simp)) ?_
      rintro _ _ _ - ⟨A298, c298, k298, rfl, rfl, rfl, h298⟩
      refine kk [some 3] ?_
      refine xO1 (lds := [5, 8, 11]) 2 ?_
      refine xIe (lds := [5, 8, 11]) (Psi.le.refl _) (eC 0 (fun g' lr eb ln => C21 g' (([y1, y4] : List Leg) : List Leg) A7 c7 (([y8, y11] : List Leg) : List Leg) A14 c14 (arrm_of_buf h7 eb (lentk 3 (by kernel_rfl) ln)) (by rw [eb]; exact f24) hy35)) ?_
      rintro _ g300 _ e301 ⟨_, rfl, A35_0, c35_0, k35_0, rfl, rfl, h35_0⟩
      refine kk [some 4] ?_
      have nh35_0 := h35_0.len
      refine xSel [some 1, some 0, none, none, some 4] ?_
      refine xSub [(1, vs A7 ([y1, y4] : List Leg) c7), (2, vs A14 ([y8, y11] : List Leg) c14), (3, vs A21 ([y15, y18] : List Leg) c21), (21, vs A35_0 y35 c35_0), (31, vs A298 ([(List.getD ([y1, y4] : List Leg) 0 default), (List.getD ([y1, y4] : List Leg) 1 default), (List.getD ([y8, y11] : List Leg) 1 default)] : List Leg) c298)] ?_
      have h298 := h298.mono e301.b
      exact hD34 _ _ _ e301 ⟨A35_0, c35_0, k35_0, A298, c298, k298, by kernel_rfl, by kernel_rfl, h35_0, h298⟩

end Go.Proofs.YthfekfebgghjhaaDoor
