/-
Walks, printed by wip/gen. Conditions: each theorem's own.
-/
import Derived.Test.YthfekfebgghjhaaDoorT2
namespace Go.Proofs.YthfekfebgghjhaaDoor
set_option linter.unusedVariables false
set_option linter.unusedSimpArgs false
open Go.RowKit
def o16_L0 (p : Proc) (k : Int) (s7 : (List (List UInt8)) × Nat) : Option (Ctl ((List (List UInt8)) × Nat) ((List (List UInt8)))) :=
  (cond (decide (((s7.2 : Nat) : Int) < (((p.parts).length : Nat) : Int))) (bindO (τ := (List (List UInt8))) (cond (((List.getD p.parts s7.2 default).kind == k)) (grd (decide (((s7.1).length + (([((List.getD p.parts s7.2 default).name : List UInt8)] : List (List UInt8))).length) * 16 ≤ 140737488355328)) (some (((s7.1 ++ ([((List.getD p.parts s7.2 default).name : List UInt8)] : List (List UInt8))) : List (List UInt8))))) (some ((s7.1 : List (List UInt8))))) fun t14 => (grd (decide (((s7.2 : Nat) : Int) + 1 ≤ 9223372036854775807)) (some (Ctl.go ((t14 : List (List UInt8)), (s7.2 + 1)))))) (some (Ctl.done ((s7.1 : List (List UInt8))))))
def o16 (p : Proc) (k : Int) : Option ((List (List UInt8))) :=
  (bindO (τ := (List (List UInt8))) (loopO (σ := (List (List UInt8)) × Nat) (ρ := (List (List UInt8))) fuelN (o16_L0 p k) (([] : List (List UInt8)), 0)) fun t2 => (some ((t2 : List (List UInt8)))))
set_option maxRecDepth 100000 in
theorem C16 (g : Gh) (p : Proc) (Ap_parts : Option Addr) (cp_parts : Nat) (k : Int) (fp_parts : Arr g.r tyPart Ap_parts cp_parts p.parts) {r : (List (List UInt8))} (hS : o16 p k = some r) :
    Ctr Tryd.prog 16 [Value.agg #[vt p.airport, vt p.name, vy p.kind, vs Ap_parts p.parts cp_parts], vy k] g [] (fun v ψ o => ∃ (Ar_0 : Option Addr) (cr_0 : Nat) (kr_0 : Option Bk), v = vs Ar_0 r cr_0 ∧ o = [kr_0] ∧ Buf ψ tyS 9 (.slice Ar_0 (r).length cr_0) kr_0 r) := by
  unfold o16 at hS
  refine xFn Tryd.f16 (Tryd.f16.body.getD .skip) 26 ?_
  have nfp_parts := fp_parts.len
  refine xSq ?_
  refine xRg ?_
  refine xE eB ?_
  rintro _ _ _ - ⟨b1, rfl, rfl, rfl⟩
  refine xB 1 [] [(1, vy k), (2, vp b1 0)] ?_
  refine xRe ?_
  refine wpq_then ?_
  refine xSq ?_
  refine xRg ?_
  refine xB 1 [] [(1, vy k), (2, vp b1 0), (5, Value.slice none 0 0)] ?_
  refine xRe ?_
  refine wpq_then ?_
  refine xSq ?_
  refine xSq ?_
  refine xRg ?_
  refine xB 4 [(1, 0)] [(1, vy k), (5, Value.slice none 0 0), (9, vs Ap_parts p.parts cp_parts), (10, vi (((p.parts).length : Nat) : Int)), (11, vi 0)] ?_
  refine xRe ?_
  refine wpq_then ?_
  refine xBindO hS (fun g own sl t2 => ∃ (A2_0 : Option Addr) (c2_0 : Nat) (k2_0 : Option Bk), own = [k2_0] ∧ sl = [(5, vs A2_0 t2 c2_0)] ∧ Buf g.b tyS 9 (.slice A2_0 (t2).length c2_0) k2_0 t2) ?_ ?_
  · rintro g3 _ _ t2 e4 ⟨A2_0, c2_0, k2_0, rfl, rfl, h2_0⟩ hS
    have nh2_0 := h2_0.len
    refine wpq_then ?_
    refine xSq ?_
    refine xRg ?_
    refine xB 2 [] [(4, vs A2_0 t2 c2_0)] ?_
    refine xRe ?_
    refine wpq_then ?_
    have eS := (Option.some.inj hS).symm
    subst eS
    exact xRet [some 0] [4] e4 ⟨A2_0, c2_0, k2_0, by kernel_rfl, by kernel_rfl, h2_0⟩ (fun _ _ h => h)
  · intro uu2 hS hN2
    refine xBl 0 ?_
    refine xSel [none] ?_
    refine xSub [(1, vy k), (5, Value.slice none 0 0), (9, vs Ap_parts p.parts cp_parts), (10, vi (((p.parts).length : Nat) : Int)), (11, vi 0)] ?_
    refine xLo hS (fun g own sl s7 => ∃ (A7_0 : Option Addr) (c7_0 : Nat) (k7_0 : Option Bk), own = [k7_0] ∧ sl = [(1, vy k), (5, vs A7_0 s7.1 c7_0), (9, vs Ap_parts p.parts cp_parts), (10, vi (((p.parts).length : Nat) : Int)), (11, vi ((s7.2 : Nat) : Int))] ∧ Buf g.b tyS 9 (.slice A7_0 (s7.1).length c7_0) k7_0 s7.1) ⟨none, 0, none, by kernel_rfl, by kernel_rfl, Buf.nil⟩ ?_
    rintro g8 _ _ s7 uu7 e9 ⟨A7_0, c7_0, k7_0, rfl, rfl, h7_0⟩ hS Qr7 hN7 hD7
    have nh7_0 := h7_0.len
    unfold o16_L0 at hS
    refine xSq ?_
    refine xRg ?_
    refine xB 1 [] [(1, vy k), (5, vs A7_0 s7.1 c7_0), (9, vs Ap_parts p.parts cp_parts), (10, vi (((p.parts).length : Nat) : Int)), (11, vi ((s7.2 : Nat) : Int)), (12, vb (decide (((s7.2 : Nat) : Int) < (((p.parts).length : Nat) : Int))))] ?_
    refine xRe ?_
    refine wpq_then ?_
    refine xSq ?_
    refine xCd (decide (((s7.2 : Nat) : Int) < (((p.parts).length : Nat) : Int))) (fun h10 => ?_) (fun h10 => ?_)
    · have hS := cond_T h10 hS
      have h10p := of_decide_eq_true h10
      refine xSk ?_
      refine wpq_then ?_
      refine xSub [(1, vy k), (5, vs A7_0 s7.1 c7_0), (9, vs Ap_parts p.parts cp_parts), (10, vi (((p.parts).length : Nat) : Int)), (11, vi ((s7.2 : Nat) : Int))] ?_
      refine xSq ?_
      refine xBl 1 ?_
      refine xSq ?_
      refine xRg ?_
      have fp_parts := fp_parts.mono e9.r
      have i12 : s7.2 < (p.parts).length := by omega
      obtain ⟨ad11, cs11, hA11, hr11, hc11⟩ := fp_parts.at_ (get_getD (d := default) i12)
      obtain ⟨A11_legs, c11_legs, rfl, f11_legs⟩ := hr11
      have nf11_legs := f11_legs.len
      refine xV (qIx s7.2 3 hA11 rfl i12) ?_
      refine xV (qLdP (Addr.add ad11 (s7.2 * 3)) 0 hc11) ?_
      refine xE eB ?_
      rintro _ _ _ - ⟨b13, rfl, rfl, rfl⟩
      refine xBo 1 [(3, 0)] [some ⟨b13, 35, [vy ((List.getD p.parts s7.2 default).kind), vt ((List.getD p.parts s7.2 default).name), vs A11_legs ((List.getD p.parts s7.2 default).legs) c11_legs]⟩, k7_0] [(1, vy k), (5, vs A7_0 s7.1 c7_0), (7, vp b13 0), (9, vs Ap_parts p.parts cp_parts), (10, vi (((p.parts).length : Nat) : Int)), (11, vi ((s7.2 : Nat) : Int))] ?_
      refine xRe ?_
      refine wpq_then ?_
      refine xSq ?_
      refine xRg ?_
      refine xB 4 [(1, 0)] [(1, vy k), (5, vs A7_0 s7.1 c7_0), (7, vp b13 0), (9, vs Ap_parts p.parts cp_parts), (10, vi (((p.parts).length : Nat) : Int)), (11, vi ((s7.2 : Nat) : Int)), (18, vb ((List.getD p.parts s7.2 default).kind == k))] ?_
      refine xRe ?_
      refine wpq_then ?_
      refine xBindO hS (fun g own sl t14 => ∃ (A14_0 : Option Addr) (c14_0 : Nat) (k14_0 : Option Bk), own = [k14_0] ∧ sl = [(1, vy k), (5, vs A14_0 t14 c14_0), (9, vs Ap_parts p.parts cp_parts), (10, vi (((p.parts).length : Nat) : Int)), (11, vi ((s7.2 : Nat) : Int))] ∧ Buf g.b tyS 9 (.slice A14_0 (t14).length c14_0) k14_0 t14) ?_ ?_
      · rintro g15 _ _ t14 e16 ⟨A14_0, c14_0, k14_0, rfl, rfl, h14_0⟩ hS
        have nh14_0 := h14_0.len
        refine wpq_blockN ?_
        refine wpq_then ?_
        refine xRg ?_
        obtain ⟨q17, hS⟩ := grd_T hS
        have q17p := of_decide_eq_true q17
        refine xV (qAdd .i64 (((s7.2 : Nat) : Int)) (1) (wr64 (by omega))) ?_
        refine xB 1 [] [(1, vy k), (5, vs A14_0 t14 c14_0), (9, vs Ap_parts p.parts cp_parts), (10, vi (((p.parts).length : Nat) : Int)), (11, vi (((s7.2 : Nat) : Int) + 1))] ?_
        refine xRe ?_
        refine wpq_thenN ?_
        refine xSub [(1, vy k), (5, vs A14_0 t14 c14_0), (9, vs Ap_parts p.parts cp_parts), (10, vi (((p.parts).length : Nat) : Int)), (11, vi (((s7.2 : Nat) : Int) + 1))] ?_
        have eS := (Option.some.inj hS).symm
        exact hN7 _ eS _ _ _ e16 ⟨A14_0, c14_0, k14_0, by kernel_rfl, by kernel_rfl, h14_0⟩
      · intro uu14 hS hN14
        refine xCd (((List.getD p.parts s7.2 default).kind == k)) (fun h18 => ?_) (fun h18 => ?_)
        · have hS := cond_T h18 hS
          have h18p : (List.getD p.parts s7.2 default).kind = k := eq_of_beq h18
          refine xRg ?_
          refine xB 3 [(2, 0)] [(1, vy k), (5, vs A7_0 s7.1 c7_0), (9, vs Ap_parts p.parts cp_parts), (10, vi (((p.parts).length : Nat) : Int)), (11, vi ((s7.2 : Nat) : Int)), (19, vs A7_0 s7.1 c7_0), (21, vt ((List.getD p.parts s7.2 default).name))] ?_
          refine xE (eBs (T := tyS) (p := g8.b) (et := 9) (xs := ([((List.getD p.parts s7.2 default).name : List UInt8)] : List (List UInt8))) (reps_cons (c := [vt ((List.getD p.parts s7.2 default).name)]) (show tyS.rep _ _ _ from rfl) reps_nil) (by simp)) ?_
          rintro _ _ _ - ⟨A19, c19, k19, rfl, rfl, rfl, h19⟩
          obtain ⟨nw20, hp20, hs20⟩ := h19.srcO (g := g8)
          obtain ⟨q21, hS⟩ := grd_T hS
          have q21p := of_decide_eq_true q21
          refine xE (eApp (T := tyS) (p := g8.b) (et := 9) (bytes := 16) (xs := (s7.1 : List (List UInt8))) (ys := (([((List.getD p.parts s7.2 default).name : List UInt8)] : List (List UInt8)) : List (List UInt8))) 2 h7_0 rfl (fun w hs => hs20 0 w _ hs (by kernel_rfl)) hp20 (by first | omega | (simp only [List.length_cons, List.length_nil] at *; omega)) (by first | omega | (simp only [List.length_cons, List.length_nil] at *; omega))) ?_
          rintro _ _ _ - ⟨A20, c20, k20, rfl, rfl, rfl, h20⟩
          have nh20 := h20.len
          have hz20 : ((s7.1 ++ ([((List.getD p.parts s7.2 default).name : List UInt8)] : List (List UInt8))) : List (List UInt8)).length = (s7.1).length + (([((List.getD p.parts s7.2 default).name : List UInt8)] : List (List UInt8))).length := List.length_append
          refine xB 1 [] [(1, vy k), (5, vs A20 (s7.1 ++ ([((List.getD p.parts s7.2 default).name : List UInt8)] : List (List UInt8))) c20), (9, vs Ap_parts p.parts cp_parts), (10, vi (((p.parts).length : Nat) : Int)), (11, vi ((s7.2 : Nat) : Int))] ?_
          refine xRe ?_
          refine xSel [some 2] ?_
          refine xSub [(1, vy k), (5, vs A20 (s7.1 ++ ([((List.getD p.parts s7.2 default).name : List UInt8)] : List (List UInt8))) c20), (9, vs Ap_parts p.parts cp_parts), (10, vi (((p.parts).length : Nat) : Int)), (11, vi ((s7.2 : Nat) : Int))] ?_
          have eS := (Option.some.inj hS).symm
          exact hN14 _ eS _ _ _ (Gh.le.refl _) ⟨A20, c20, k20, by kernel_rfl, by kernel_rfl, h20⟩
        · have hS := cond_F h18 hS
          have h18p : ¬ ((List.getD p.parts s7.2 default).kind = k) := ne_of_beq_false_ h18
          refine xSk ?_
          refine xSel [some 1] ?_
          refine xSub [(1, vy k), (5, vs A7_0 s7.1 c7_0), (9, vs Ap_parts p.parts cp_parts), (10, vi (((p.parts).length : Nat) : Int)), (11, vi ((s7.2 : Nat) : Int))] ?_
          have eS := (Option.some.inj hS).symm
          exact hN14 _ eS _ _ _ (Gh.le.refl _) ⟨A7_0, c7_0, k7_0, by kernel_rfl, by kernel_rfl, h7_0⟩
    · have hS := cond_F h10 hS
      have h10p := of_decide_eq_false h10
      refine xEx 0 ?_
      refine wpq_thenX ?_
      refine wpq_thenX ?_
      refine wpq_blockE ?_
      refine xSub [(5, vs A7_0 s7.1 c7_0)] ?_
      have eS := (Option.some.inj hS).symm
      have eS := (hD7 _ eS).symm
      exact hN2 _ eS _ _ _ e9 ⟨A7_0, c7_0, k7_0, by kernel_rfl, by kernel_rfl, h7_0⟩

def o18_L0 (p : Proc) (k : Int) (name : List UInt8) (s8 : Nat) : Option (Ctl (Nat) (Ctl (Unit) (Part × Bool))) :=
  (cond (decide (((s8 : Nat) : Int) < (((p.parts).length : Nat) : Int))) (cond ((((List.getD p.parts s8 default).kind == k) && ((List.getD p.parts s8 default).name == name))) (some (Ctl.done (Ctl.done (((List.getD p.parts s8 default), (true)))))) (grd (decide (((s8 : Nat) : Int) + 1 ≤ 9223372036854775807)) (some (Ctl.go (s8 + 1))))) (some (Ctl.done (Ctl.go ()))))
def o18 (p : Proc) (k : Int) (name : List UInt8) : Option (Part × Bool) :=
  (joinO (τ := Unit) (ρ := Part × Bool) (loopO (σ := Nat) (ρ := Ctl (Unit) (Part × Bool)) fuelN (o18_L0 p k name) (0)) fun t3 => (some (((⟨0, ([] : List UInt8), ([] : List Leg)⟩ : Part), (false)))))
set_option maxRecDepth 100000 in
theorem C18 (g : Gh) (p : Proc) (Ap_parts : Option Addr) (cp_parts : Nat) (k : Int) (name : List UInt8) (fp_parts : Arr g.b tyPart Ap_parts cp_parts p.parts) {r : Part × Bool} (hS : o18 p k name = some r) :
    Ctr Tryd.prog 18 [Value.agg #[vt p.airport, vt p.name, vy p.kind, vs Ap_parts p.parts cp_parts], vy k, vt name] g [] (fun v ψ o => ∃ (Ar_0_legs : Option Addr) (cr_0_legs : Nat), v = Value.tuple #[Value.agg #[vy r.1.kind, vt r.1.name, vs Ar_0_legs r.1.legs cr_0_legs], vb r.2] ∧ o = [] ∧ Arr ψ tyLeg Ar_0_legs cr_0_legs r.1.legs) := by
  unfold o18 at hS
  refine xFn Tryd.f18 (Tryd.f18.body.getD .skip) 30 ?_
  have nfp_parts := fp_parts.len
  refine xSq ?_
  refine xRg ?_
  refine xE eB ?_
  rintro _ _ _ - ⟨b1, rfl, rfl, rfl⟩
  refine xE eB ?_
  rintro _ _ _ - ⟨b2, rfl, rfl, rfl⟩
  refine xB 1 [] [(1, vy k), (2, vt name), (3, vp b1 0), (6, vp b2 0)] ?_
  refine xRe ?_
  refine wpq_then ?_
  refine xSq ?_
  refine xSq ?_
  refine xRg ?_
  refine xB 4 [(1, 1)] [(1, vy k), (2, vt name), (6, vp b2 0), (11, vs Ap_parts p.parts cp_parts), (12, vi (((p.parts).length : Nat) : Int)), (13, vi 0)] ?_
  refine xRe ?_
  refine wpq_then ?_
  refine xJoinO hS (fun g own sl t3 => own = [some ⟨b2, 35, [vy 0, vt ([]), Value.slice none 0 0]⟩] ∧ sl = [(6, vp b2 0)]) ?_ ?_
  · rintro g4 _ _ t3 e5 ⟨rfl, rfl⟩ hS
    refine wpq_then ?_
    refine xSq ?_
    refine xRg ?_
    refine xBo 3 [(1, 0)] [some ⟨b2, 35, [vy 0, vt ([]), Value.slice none 0 0]⟩] [(6, vp b2 0), (7, vb false)] ?_
    refine xRe ?_
    refine wpq_then ?_
    have eS := (Option.some.inj hS).symm
    subst eS
    exact xRetC [] [(6, 0)] e5 ⟨none, 0, by kernel_rfl, by kernel_rfl, Arr.nil⟩ (fun _ _ h => h)
  · intro uu3 hS hN3 hD3
    refine xBl 0 ?_
    refine xSel [some 0] ?_
    refine xSub [(1, vy k), (2, vt name), (6, vp b2 0), (11, vs Ap_parts p.parts cp_parts), (12, vi (((p.parts).length : Nat) : Int)), (13, vi 0)] ?_
    refine xLo hS (fun g own sl s8 => own = [some ⟨b2, 35, [vy 0, vt ([]), Value.slice none 0 0]⟩] ∧ sl = [(1, vy k), (2, vt name), (6, vp b2 0), (11, vs Ap_parts p.parts cp_parts), (12, vi (((p.parts).length : Nat) : Int)), (13, vi ((s8 : Nat) : Int))]) ⟨by kernel_rfl, by kernel_rfl⟩ ?_
    rintro g9 _ _ s8 uu8 e10 ⟨rfl, rfl⟩ hS Qr8 hN8 hD8
    unfold o18_L0 at hS
    refine xSq ?_
    refine xRg ?_
    refine xB 1 [] [(1, vy k), (2, vt name), (6, vp b2 0), (11, vs Ap_parts p.parts cp_parts), (12, vi (((p.parts).length : Nat) : Int)), (13, vi ((s8 : Nat) : Int)), (14, vb (decide (((s8 : Nat) : Int) < (((p.parts).length : Nat) : Int))))] ?_
    refine xRe ?_
    refine wpq_then ?_
    refine xSq ?_
    refine xCd (decide (((s8 : Nat) : Int) < (((p.parts).length : Nat) : Int))) (fun h11 => ?_) (fun h11 => ?_)
    · have hS := cond_T h11 hS
      have h11p := of_decide_eq_true h11
      refine xSk ?_
      refine wpq_then ?_
      refine xSub [(1, vy k), (2, vt name), (6, vp b2 0), (11, vs Ap_parts p.parts cp_parts), (12, vi (((p.parts).length : Nat) : Int)), (13, vi ((s8 : Nat) : Int))] ?_
      refine xSq ?_
      refine xBl 1 ?_
      refine xSq ?_
      refine xRg ?_
      have fp_parts := fp_parts.mono e10.b
      have i13 : s8 < (p.parts).length := by omega
      obtain ⟨ad12, cs12, hA12, hr12, hc12⟩ := fp_parts.at_ (get_getD (d := default) i13)
      obtain ⟨A12_legs, c12_legs, rfl, f12_legs⟩ := hr12
      have nf12_legs := f12_legs.len
      refine xV (qIx s8 3 hA12 rfl i13) ?_
      refine xV (qLdP (Addr.add ad12 (s8 * 3)) 0 (hc12.mono g9.br)) ?_
      refine xE eB ?_
      rintro _ _ _ - ⟨b14, rfl, rfl, rfl⟩
      refine xBo 1 [(3, 0)] [some ⟨b14, 35, [vy ((List.getD p.parts s8 default).kind), vt ((List.getD p.parts s8 default).name), vs A12_legs ((List.getD p.parts s8 default).legs) c12_legs]⟩, some ⟨b2, 35, [vy 0, vt ([]), Value.slice none 0 0]⟩] [(1, vy k), (2, vt name), (6, vp b2 0), (9, vp b14 0), (11, vs Ap_parts p.parts cp_parts), (12, vi (((p.parts).length : Nat) : Int)), (13, vi ((s8 : Nat) : Int))] ?_
      refine xRe ?_
      refine wpq_then ?_
      refine xSq ?_
      refine xRg ?_
      refine xB 5 [(1, 0)] [(1, vy k), (2, vt name), (6, vp b2 0), (9, vp b14 0), (11, vs Ap_parts p.parts cp_parts), (12, vi (((p.parts).length : Nat) : Int)), (13, vi ((s8 : Nat) : Int)), (21, vb ((List.getD p.parts s8 default).kind == k))] ?_
      refine wpr_grp 10 [(1, vy k), (2, vt name), (6, vp b2 0), (9, vp b14 0), (11, vs Ap_parts p.parts cp_parts), (12, vi (((p.parts).length : Nat) : Int)), (13, vi ((s8 : Nat) : Int)), (26, vb (((List.getD p.parts s8 default).kind == k) && ((List.getD p.parts s8 default).name == name)))] (fun hk4 => ?_) ?_
      · refine wpq_split 21 (b := ((List.getD p.parts s8 default).kind == k)) (by kernel_rfl) (fun q15 => ?_) (fun q15 => ?_)
        · have q15p : (List.getD p.parts s8 default).kind = k := eq_of_beq q15
          refine xB 3 [(6, 0)] [(1, vy k), (2, vt name), (6, vp b2 0), (9, vp b14 0), (11, vs Ap_parts p.parts cp_parts), (12, vi (((p.parts).length : Nat) : Int)), (13, vi ((s8 : Nat) : Int)), (21, vb true), (23, vt ((List.getD p.parts s8 default).name)), (24, vt name)] ?_
          refine xV (qEqS ((List.getD p.parts s8 default).name) (name)) ?_
          refine xB 1 [] [(1, vy k), (2, vt name), (6, vp b2 0), (9, vp b14 0), (11, vs Ap_parts p.parts cp_parts), (12, vi (((p.parts).length : Nat) : Int)), (13, vi ((s8 : Nat) : Int)), (26, vb ((List.getD p.parts s8 default).name == name))] ?_
          refine wpq_re 26 (v := vb ((List.getD p.parts s8 default).name == name)) (Value.bool ((((List.getD p.parts s8 default).kind == k) && ((List.getD p.parts s8 default).name == name)))) (by kernel_rfl) (re_and1 q15) ?_
          exact wpq_sub _ (by kernel_rfl) hk4
        · have q15p : ¬ ((List.getD p.parts s8 default).kind = k) := ne_of_beq_false_ q15
          refine xB 5 [] [(1, vy k), (2, vt name), (6, vp b2 0), (9, vp b14 0), (11, vs Ap_parts p.parts cp_parts), (12, vi (((p.parts).length : Nat) : Int)), (13, vi ((s8 : Nat) : Int)), (26, vb false)] ?_
          refine wpq_re 26 (v := vb false) (Value.bool ((((List.getD p.parts s8 default).kind == k) && ((List.getD p.parts s8 default).name == name)))) (by kernel_rfl) (re_and0 q15) ?_
          exact wpq_sub _ (by kernel_rfl) hk4
      · refine xRe ?_
        refine wpq_then ?_
        refine xCd ((((List.getD p.parts s8 default).kind == k) && ((List.getD p.parts s8 default).name == name))) (fun h16 => ?_) (fun h16 => ?_)
        · have hS := cond_T h16 hS
          have h16l := (and_true_ h16).1
          have h16r := (and_true_ h16).2
          have h16lp : (List.getD p.parts s8 default).kind = k := eq_of_beq h16l
          have h16rp : (List.getD p.parts s8 default).name = name := eq_of_beq h16r
          refine xSq ?_
          refine xRg ?_
          refine xBo 3 [(0, 0), (1, 1)] [some ⟨b14, 35, [vy ((List.getD p.parts s8 default).kind), vt ((List.getD p.parts s8 default).name), vs A12_legs ((List.getD p.parts s8 default).legs) c12_legs]⟩, some ⟨b2, 35, [vy ((List.getD p.parts s8 default).kind), vt ((List.getD p.parts s8 default).name), vs A12_legs ((List.getD p.parts s8 default).legs) c12_legs]⟩] [(6, vp b2 0), (7, vb true)] ?_
          refine xRe ?_
          refine wpq_then ?_
          have eS := (Option.some.inj hS).symm
          have eS := (hD8 _ eS).symm
          have eS := (hD3 _ eS).symm
          subst eS
          exact xRetC [] [(6, 1)] e10 ⟨A12_legs, c12_legs, by kernel_rfl, by kernel_rfl, f12_legs⟩ (fun _ _ h => h)
        · have hS := cond_F h16 hS
          refine xSk ?_
          refine wpq_blockN ?_
          refine wpq_then ?_
          refine xSub [(1, vy k), (2, vt name), (6, vp b2 0), (11, vs Ap_parts p.parts cp_parts), (12, vi (((p.parts).length : Nat) : Int)), (13, vi ((s8 : Nat) : Int))] ?_
          refine xRg ?_
          obtain ⟨q17, hS⟩ := grd_T hS
          have q17p := of_decide_eq_true q17
          refine xV (qAdd .i64 (((s8 : Nat) : Int)) (1) (wr64 (by omega))) ?_
          refine xB 1 [] [(1, vy k), (2, vt name), (6, vp b2 0), (11, vs Ap_parts p.parts cp_parts), (12, vi (((p.parts).length : Nat) : Int)), (13, vi (((s8 : Nat) : Int) + 1))] ?_
          refine xRe ?_
          refine wpq_thenN ?_
          refine xSel [some 1] ?_
          refine xSub [(1, vy k), (2, vt name), (6, vp b2 0), (11, vs Ap_parts p.parts cp_parts), (12, vi (((p.parts).length : Nat) : Int)), (13, vi (((s8 : Nat) : Int) + 1))] ?_
          have eS := (Option.some.inj hS).symm
          exact hN8 _ eS _ _ _ (Gh.le.refl _) ⟨by kernel_rfl, by kernel_rfl⟩
    · have hS := cond_F h11 hS
      have h11p := of_decide_eq_false h11
      refine xEx 0 ?_
      refine wpq_thenX ?_
      refine wpq_thenX ?_
      refine wpq_blockE ?_
      refine xSub [(6, vp b2 0)] ?_
      have eS := (Option.some.inj hS).symm
      have eS := (hD8 _ eS).symm
      exact hN3 _ eS _ _ _ e10 ⟨by kernel_rfl, by kernel_rfl⟩

def o19 (a : Part) (b : Part) : Option (Bool) :=
  (bindO (τ := Bool) (cond (((a.kind == b.kind) && (a.name == b.name))) (bindO (τ := Bool) (o20 (a.legs : List Leg) (b.legs : List Leg)) fun y8 => (some (y8))) (some (false))) fun t4 => (some ((t4))))
set_option maxRecDepth 100000 in
theorem C19 (g : Gh) (a : Part) (Aa_legs : Option Addr) (ca_legs : Nat) (b : Part) (Ab_legs : Option Addr) (cb_legs : Nat) (fa_legs : Arr g.r tyLeg Aa_legs ca_legs a.legs) (fb_legs : Arr g.r tyLeg Ab_legs cb_legs b.legs) {r : Bool} (hS : o19 a b = some r) :
    Ctr Tryd.prog 19 [Value.agg #[vy a.kind, vt a.name, vs Aa_legs a.legs ca_legs], Value.agg #[vy b.kind, vt b.name, vs Ab_legs b.legs cb_legs]] g [] (fun v ψ o => v = vb r ∧ o = []) := by
  unfold o19 at hS
  refine xFn Tryd.f19 (Tryd.f19.body.getD .skip) 24 ?_
  have nfa_legs := fa_legs.len
  have nfb_legs := fb_legs.len
  refine xSq ?_
  refine xRg ?_
  refine xE eB ?_
  rintro _ _ _ - ⟨b1, rfl, rfl, rfl⟩
  refine xE eB ?_
  rintro _ _ _ - ⟨b2, rfl, rfl, rfl⟩
  refine xB 1 [] [(2, vp b1 0), (3, vp b2 0)] ?_
  refine xRe ?_
  refine wpq_then ?_
  refine xSq ?_
  refine xRg ?_
  refine xB 6 [(1, 1), (3, 0)] [(2, vp b1 0), (3, vp b2 0), (10, vb (a.kind == b.kind))] ?_
  refine wpr_grp 12 [(2, vp b1 0), (3, vp b2 0), (16, vb ((a.kind == b.kind) && (a.name == b.name)))] (fun hk5 => ?_) ?_
  · refine wpq_split 10 (b := (a.kind == b.kind)) (by kernel_rfl) (fun q3 => ?_) (fun q3 => ?_)
    · have q3p : a.kind = b.kind := eq_of_beq q3
      refine xB 4 [(7, 1), (9, 0)] [(2, vp b1 0), (3, vp b2 0), (10, vb true), (12, vt a.name), (14, vt b.name)] ?_
      refine xV (qEqS (a.name) (b.name)) ?_
      refine xB 1 [] [(2, vp b1 0), (3, vp b2 0), (16, vb (a.name == b.name))] ?_
      refine wpq_re 16 (v := vb (a.name == b.name)) (Value.bool (((a.kind == b.kind) && (a.name == b.name)))) (by kernel_rfl) (re_and1 q3) ?_
      exact wpq_sub _ (by kernel_rfl) hk5
    · have q3p : ¬ (a.kind = b.kind) := ne_of_beq_false_ q3
      refine xB 6 [] [(2, vp b1 0), (3, vp b2 0), (16, vb false)] ?_
      refine wpq_re 16 (v := vb false) (Value.bool (((a.kind == b.kind) && (a.name == b.name)))) (by kernel_rfl) (re_and0 q3) ?_
      exact wpq_sub _ (by kernel_rfl) hk5
  · refine xB 1 [] [(2, vp b1 0), (3, vp b2 0), (17, vb ((a.kind == b.kind) && (a.name == b.name)))] ?_
    refine xGJo hS 19 (fun g own sl t4 => own = [] ∧ sl = [(23, vb t4)]) ?_ ?_
    · rintro g5 _ _ t4 e6 ⟨rfl, rfl⟩ hS
      refine xB 1 [] [(4, vb t4)] ?_
      refine xRe ?_
      refine wpq_then ?_
      have eS := (Option.some.inj hS).symm
      subst eS
      exact xRet [] [4] e6 ⟨by kernel_rfl, by kernel_rfl⟩ (fun _ _ h => h)
    · intro uu4 hS hN4
      refine wpq_split 17 (b := ((a.kind == b.kind) && (a.name == b.name))) (by kernel_rfl) (fun q7 => ?_) (fun q7 => ?_)
      · have hS := cond_T q7 hS
        have q7l := (and_true_ q7).1
        have q7r := (and_true_ q7).2
        have q7lp : a.kind = b.kind := eq_of_beq q7l
        have q7rp : a.name = b.name := eq_of_beq q7r
        refine xB 4 [(14, 1), (16, 0)] [(17, vb true), (19, vs Aa_legs a.legs ca_legs), (21, vs Ab_legs b.legs cb_legs)] ?_
        obtain ⟨y8, hy8, hS⟩ := bindO_T hS
        refine xE (eC 0 (fun g' lr eb ln => C20 g' (a.legs : List Leg) Aa_legs ca_legs (b.legs : List Leg) Ab_legs cb_legs (fa_legs.mono lr) (fb_legs.mono lr) hy8)) ?_
        rintro _ g9 _ e10 ⟨_, rfl, rfl, rfl⟩
        refine xB 1 [] [(23, vb y8)] ?_
        refine xSel [] ?_
        refine xSub [(23, vb y8)] ?_
        exact hN4 _ (Option.some.inj hS).symm _ _ _ e10 ⟨by kernel_rfl, by kernel_rfl⟩
      · have hS := cond_F q7 hS
        refine xB 6 [] [(23, vb false)] ?_
        refine xSel [] ?_
        refine xSub [(23, vb false)] ?_
        exact hN4 _ (Option.some.inj hS).symm _ _ _ (Gh.le.refl _) ⟨by kernel_rfl, by kernel_rfl⟩

def o4_L0 (y6 : (List (List UInt8))) (y9 : (List (List UInt8))) (s33 : Nat) : Option (Ctl (Nat) (Ctl (Unit) (Bool))) :=
  (cond (decide (((s33 : Nat) : Int) < (((y6).length : Nat) : Int))) (grd (decide (s33 < (y9).length)) (cond ((!((List.getD y6 s33 []) == (List.getD y9 s33 [])))) (some (Ctl.done (Ctl.done ((false))))) (grd (decide (((s33 : Nat) : Int) + 1 ≤ 9223372036854775807)) (some (Ctl.go (s33 + 1)))))) (some (Ctl.done (Ctl.go ()))))
def o4 (p : Proc) (k : Int) (name : List UInt8) : Option (Bool) :=
  (bindO (τ := Bool) (o12) fun y2 => (cond ((!y2)) (some ((false))) (bindO (τ := (List (List UInt8))) (o15 p (k : Int)) fun y6 => (bindO (τ := (List (List UInt8))) (o16 p (k : Int)) fun y9 => (cond (((((y6).length : Nat) : Int) != (((y9).length : Nat) : Int))) (some ((false))) (joinO (τ := Unit) (ρ := Bool) (loopO (σ := Nat) (ρ := Ctl (Unit) (Bool)) fuelN (o4_L0 y6 y9) (0)) fun t13 => (bindO (τ := Part × Bool) (o17 p (k : Int) name) fun y16 => (bindO (τ := Part × Bool) (o18 p (k : Int) name) fun y20 => (bindO (τ := Bool) (cond ((y16.2 == y20.2)) (bindO (τ := Bool) (o19 y16.1 y20.1) fun y28 => (some (y28))) (some (false))) fun t24 => (some ((t24))))))))))))
set_option maxRecDepth 100000 in
theorem C4 (g : Gh) (p : Proc) (Ap_parts : Option Addr) (cp_parts : Nat) (k : Int) (name : List UInt8) (fp_parts : Arr g.b tyPart Ap_parts cp_parts p.parts) (fG0 : Arr g.r (tyI .u16) (some ⟨0, 0, none⟩) 18 usesL) {r : Bool} (hS : o4 p k name = some r) :
    Ctr Tryd.prog 4 [Value.agg #[vt p.airport, vt p.name, vy p.kind, vs Ap_parts p.parts cp_parts], vy k, vt name] g [] (fun v ψ o => v = vb r ∧ o = []) := by
  unfold o4 at hS
  refine xFn Tryd.f4 (Tryd.f4.body.getD .skip) 64 ?_
  have hlG0 := hlUses
  have nfp_parts := fp_parts.len
  have nfG0 := fG0.len
  refine xSq ?_
  refine xRg ?_
  refine xE eB ?_
  rintro _ _ _ - ⟨b1, rfl, rfl, rfl⟩
  refine xB 1 [] [(1, vy k), (2, vt name), (3, vp b1 0)] ?_
  refine xRe ?_
  refine wpq_then ?_
  refine xSq ?_
  refine xSq ?_
  refine xRg ?_
  obtain ⟨y2, hy2, hS⟩ := bindO_T hS
  refine xE (eC 0 (fun g' lr eb ln => C12 g' (fG0.mono lr) hy2)) ?_
  rintro _ g3 _ e4 ⟨_, rfl, rfl, rfl⟩
  refine xB 1 [] [(1, vy k), (2, vt name), (3, vp b1 0), (15, vb (!y2))] ?_
  refine xRe ?_
  refine wpq_then ?_
  refine xCd ((!y2)) (fun h5 => ?_) (fun h5 => ?_)
  · have hS := cond_T h5 hS
    have h5n := not_eq_true_ h5
    refine xSq ?_
    refine xRg ?_
    refine xB 1 [] [(6, vb false)] ?_
    refine xRe ?_
    refine wpq_then ?_
    have eS := (Option.some.inj hS).symm
    subst eS
    exact xRet [] [6] e4 ⟨by kernel_rfl, by kernel_rfl⟩ (fun _ _ h => h)
  · have hS := cond_F h5 hS
    have h5n := not_eq_false_ h5
    refine xSk ?_
    refine wpq_then ?_
    refine xSub [(1, vy k), (2, vt name), (3, vp b1 0)] ?_
    refine xSq ?_
    refine xDr 0 [0, 3] [7] [some ⟨b1, 25, (cProc p Ap_parts cp_parts)⟩] 8 (fun RG => ?_) (fun _ _ _ _ _ h => h)
    refine xT 4 [0, 1, 3, 4] [(0, 0), (3, 0)] [some 0] [(1, vy k), (2, vt name), (3, vp b1 0), (16, Value.agg #[vt p.airport, vt p.name, vy p.kind, vs Ap_parts p.parts cp_parts]), (17, vy k), (19, Value.agg #[vt p.airport, vt p.name, vy p.kind, vs Ap_parts p.parts cp_parts]), (20, vy k)] RG (Psi.le.refl _) ?_
    have fp_parts := fp_parts.mono e4.b
    obtain ⟨y6, hy6, hS⟩ := bindO_T hS
    refine xO1 (lds := [0, 3]) 2 ?_
    refine xIe (lds := [0, 3]) (Psi.le.refl _) (eC 0 (fun g' lr eb ln => C15 g' p Ap_parts cp_parts (k : Int) ((fp_parts.mono g3.br).mono lr) hy6)) ?_
    rintro _ g7 _ e8 ⟨_, rfl, A6_0, c6_0, k6_0, rfl, rfl, h6_0⟩
    refine kk [some 1] ?_
    have nh6_0 := h6_0.len
    have fp_parts := fp_parts.mono e8.b
    obtain ⟨y9, hy9, hS⟩ := bindO_T hS
    refine xO1 (lds := [0, 3]) 5 ?_
    refine xIe (lds := [0, 3]) e8.r (eC 0 (fun g' lr eb ln => C16 g' p Ap_parts cp_parts (k : Int) ((fp_parts.mono g7.br).mono lr) hy9)) ?_
    rintro _ g10 _ e11 ⟨_, rfl, A9_0, c9_0, k9_0, rfl, rfl, h9_0⟩
    refine kk [some 2] ?_
    have nh9_0 := h9_0.len
    refine xT 0 [6, 7] [] [some 2] [(1, vy k), (2, vt name), (3, vp b1 0), (7, vs A6_0 y6 c6_0), (8, vs A9_0 y9 c9_0)] RG (e8.trans e11).r ?_
    refine xAe (lds := [0, 3]) ?_
    refine wpq_then ?_
    refine xSq ?_
    refine xSq ?_
    refine xRg ?_
    refine xB 5 [] [(1, vy k), (2, vt name), (3, vp b1 0), (7, vs A6_0 y6 c6_0), (8, vs A9_0 y9 c9_0), (26, vb ((((y6).length : Nat) : Int) != (((y9).length : Nat) : Int)))] ?_
    refine xRe ?_
    refine wpq_then ?_
    refine xCd (((((y6).length : Nat) : Int) != (((y9).length : Nat) : Int))) (fun h12 => ?_) (fun h12 => ?_)
    · have hS := cond_T h12 hS
      have h12p : ¬ ((((y6).length : Nat) : Int) = (((y9).length : Nat) : Int)) := ne_of_bne_ h12
      refine xSq ?_
      refine xRg ?_
      refine xB 1 [] [(6, vb false)] ?_
      refine xRe ?_
      refine wpq_then ?_
      have eS := (Option.some.inj hS).symm
      subst eS
      exact xRet [] [6] (e4.trans (e8.trans e11)) ⟨by kernel_rfl, by kernel_rfl⟩ (fun _ _ h => h)
    · have hS := cond_F h12 hS
      have h12p : (((y6).length : Nat) : Int) = (((y9).length : Nat) : Int) := eq_of_bne_false_ h12
      refine xSk ?_
      refine wpq_then ?_
      refine xSub [(1, vy k), (2, vt name), (3, vp b1 0), (7, vs A6_0 y6 c6_0), (8, vs A9_0 y9 c9_0)] ?_
      refine xSq ?_
      refine xSq ?_
      refine xRg ?_
      refine xB 3 [] [(1, vy k), (2, vt name), (3, vp b1 0), (7, vs A6_0 y6 c6_0), (8, vs A9_0 y9 c9_0), (28, vi (((y6).length : Nat) : Int)), (29, vi 0)] ?_
      refine xRe ?_
      refine wpq_then ?_
      refine xJoinO hS (fun g own sl t13 => own = [some ⟨b1, 25, (cProc p Ap_parts cp_parts)⟩] ∧ sl = [(1, vy k), (2, vt name), (3, vp b1 0)]) ?_ ?_
      · rintro g14 _ _ t13 e15 ⟨rfl, rfl⟩ hS
        refine wpq_then ?_
        refine xSq ?_
        refine xRg ?_
        refine xB 3 [(0, 0)] [(1, vy k), (2, vt name), (3, vp b1 0), (43, Value.agg #[vt p.airport, vt p.name, vy p.kind, vs Ap_parts p.parts cp_parts]), (44, vy k), (45, vt name)] ?_
        have fp_parts := fp_parts.mono (e11.trans e15).b
        obtain ⟨y16, hy16, hS⟩ := bindO_T hS
        refine xE (eC 0 (fun g' lr eb ln => C17 g' p Ap_parts cp_parts (k : Int) name (ArrM.lent (fp_parts.toM g14.br) lr eb) hy16)) ?_
        rintro _ g17 _ e18 ⟨_, rfl, A16_0_legs, c16_0_legs, rfl, rfl, f16_0_legs⟩
        have nf16_0_legs := f16_0_legs.len
        refine xB 3 [] [(1, vy k), (2, vt name), (3, vp b1 0), (47, Value.agg #[vy y16.1.kind, vt y16.1.name, vs A16_0_legs y16.1.legs c16_0_legs]), (48, vb y16.2)] ?_
        refine xE eB ?_
        rintro _ _ _ - ⟨b19, rfl, rfl, rfl⟩
        refine xBo 2 [(8, 0)] [some ⟨b19, 35, [vy y16.1.kind, vt y16.1.name, vs A16_0_legs y16.1.legs c16_0_legs]⟩, some ⟨b1, 25, (cProc p Ap_parts cp_parts)⟩] [(1, vy k), (2, vt name), (3, vp b1 0), (10, vp b19 0), (11, vb y16.2)] ?_
        refine xRe ?_
        refine wpq_then ?_
        refine xSq ?_
        refine xRg ?_
        refine xB 3 [(0, 1)] [(10, vp b19 0), (11, vb y16.2), (50, Value.agg #[vt p.airport, vt p.name, vy p.kind, vs Ap_parts p.parts cp_parts]), (51, vy k), (52, vt name)] ?_
        have fp_parts := fp_parts.mono e18.b
        obtain ⟨y20, hy20, hS⟩ := bindO_T hS
        refine xE (eC 0 (fun g' lr eb ln => C18 g' p Ap_parts cp_parts (k : Int) name (by rw [eb]; exact fp_parts) hy20)) ?_
        rintro _ g21 _ e22 ⟨_, rfl, A20_0_legs, c20_0_legs, rfl, rfl, f20_0_legs⟩
        have nf20_0_legs := f20_0_legs.len
        refine xB 3 [] [(10, vp b19 0), (11, vb y16.2), (54, Value.agg #[vy y20.1.kind, vt y20.1.name, vs A20_0_legs y20.1.legs c20_0_legs]), (55, vb y20.2)] ?_
        refine xE eB ?_
        rintro _ _ _ - ⟨b23, rfl, rfl, rfl⟩
        refine xBo 2 [(8, 0)] [some ⟨b23, 35, [vy y20.1.kind, vt y20.1.name, vs A20_0_legs y20.1.legs c20_0_legs]⟩, some ⟨b19, 35, [vy y16.1.kind, vt y16.1.name, vs A16_0_legs y16.1.legs c16_0_legs]⟩, some ⟨b1, 25, (cProc p Ap_parts cp_parts)⟩] [(10, vp b19 0), (11, vb y16.2), (12, vp b23 0), (13, vb y20.2)] ?_
        refine xRe ?_
        refine wpq_then ?_
        refine xSq ?_
        refine xRg ?_
        refine xB 4 [] [(10, vp b19 0), (12, vp b23 0), (59, vb (y16.2 == y20.2))] ?_
        refine xGJo hS 8 (fun g own sl t24 => own = [] ∧ sl = [(63, vb t24)]) ?_ ?_
        · rintro g25 _ _ t24 e26 ⟨rfl, rfl⟩ hS
          refine xB 1 [] [(6, vb t24)] ?_
          refine xRe ?_
          refine wpq_then ?_
          have eS := (Option.some.inj hS).symm
          subst eS
          exact xRet [] [6] (e4.trans (e8.trans (e11.trans (e15.trans (e18.trans (e22.trans e26)))))) ⟨by kernel_rfl, by kernel_rfl⟩ (fun _ _ h => h)
        · intro uu24 hS hN24
          refine wpq_split 59 (b := (y16.2 == y20.2)) (by kernel_rfl) (fun q27 => ?_) (fun q27 => ?_)
          · have hS := cond_T q27 hS
            have q27p : y16.2 = y20.2 := eq_of_beq q27
            refine xB 2 [(4, 1), (5, 0)] [(59, vb true), (60, Value.agg #[vy y16.1.kind, vt y16.1.name, vs A16_0_legs y16.1.legs c16_0_legs]), (61, Value.agg #[vy y20.1.kind, vt y20.1.name, vs A20_0_legs y20.1.legs c20_0_legs])] ?_
            have f16_0_legs := f16_0_legs.mono e22.b
            obtain ⟨y28, hy28, hS⟩ := bindO_T hS
            refine xE (eC 0 (fun g' lr eb ln => C19 g' y16.1 A16_0_legs c16_0_legs y20.1 A20_0_legs c20_0_legs ((f16_0_legs.mono g21.br).mono lr) ((f20_0_legs.mono g21.br).mono lr) hy28)) ?_
            rintro _ g29 _ e30 ⟨_, rfl, rfl, rfl⟩
            refine xB 1 [] [(63, vb y28)] ?_
            refine xSel [] ?_
            refine xSub [(63, vb y28)] ?_
            exact hN24 _ (Option.some.inj hS).symm _ _ _ e30 ⟨by kernel_rfl, by kernel_rfl⟩
          · have hS := cond_F q27 hS
            have q27p : ¬ (y16.2 = y20.2) := ne_of_beq_false_ q27
            refine xB 4 [] [(63, vb false)] ?_
            refine xSel [] ?_
            refine xSub [(63, vb false)] ?_
            exact hN24 _ (Option.some.inj hS).symm _ _ _ (Gh.le.refl _) ⟨by kernel_rfl, by kernel_rfl⟩
      · intro uu13 hS hN13 hD13
        refine xBl 0 ?_
        refine xSel [some 2, some 1, some 0] ?_
        refine xSub [(1, vy k), (2, vt name), (3, vp b1 0), (7, vs A6_0 y6 c6_0), (8, vs A9_0 y9 c9_0), (28, vi (((y6).length : Nat) : Int)), (29, vi 0)] ?_
        refine xLo hS (fun g own sl s33 => own = [some ⟨b1, 25, (cProc p Ap_parts cp_parts)⟩, k6_0, k9_0] ∧ sl = [(1, vy k), (2, vt name), (3, vp b1 0), (7, vs A6_0 y6 c6_0), (8, vs A9_0 y9 c9_0), (28, vi (((y6).length : Nat) : Int)), (29, vi ((s33 : Nat) : Int))]) ⟨by kernel_rfl, by kernel_rfl⟩ ?_
        rintro g34 _ _ s33 uu33 e35 ⟨rfl, rfl⟩ hS Qr33 hN33 hD33
        unfold o4_L0 at hS
        refine xSq ?_
        refine xRg ?_
        refine xB 1 [] [(1, vy k), (2, vt name), (3, vp b1 0), (7, vs A6_0 y6 c6_0), (8, vs A9_0 y9 c9_0), (28, vi (((y6).length : Nat) : Int)), (29, vi ((s33 : Nat) : Int)), (30, vb (decide (((s33 : Nat) : Int) < (((y6).length : Nat) : Int))))] ?_
        refine xRe ?_
        refine wpq_then ?_
        refine xSq ?_
        refine xCd (decide (((s33 : Nat) : Int) < (((y6).length : Nat) : Int))) (fun h36 => ?_) (fun h36 => ?_)
        · have hS := cond_T h36 hS
          have h36p := of_decide_eq_true h36
          refine xSk ?_
          refine wpq_then ?_
          refine xSub [(1, vy k), (2, vt name), (3, vp b1 0), (7, vs A6_0 y6 c6_0), (8, vs A9_0 y9 c9_0), (28, vi (((y6).length : Nat) : Int)), (29, vi ((s33 : Nat) : Int))] ?_
          refine xSq ?_
          refine xBl 1 ?_
          refine xSq ?_
          refine xRg ?_
          refine xB 2 [] [(1, vy k), (2, vt name), (3, vp b1 0), (7, vs A6_0 y6 c6_0), (8, vs A9_0 y9 c9_0), (9, vi ((s33 : Nat) : Int)), (28, vi (((y6).length : Nat) : Int)), (29, vi ((s33 : Nat) : Int))] ?_
          refine xRe ?_
          refine wpq_then ?_
          refine xSq ?_
          refine xDr 0 [3, 7] [8] [some ⟨b1, 25, (cProc p Ap_parts cp_parts)⟩, k6_0, k9_0] 9 (fun RG => ?_) (fun _ _ _ _ _ h => h)
          have h6_0 := h6_0.mono (e11.trans e35).b
          have i38 : s33 < (y6).length := by omega
          obtain ⟨kc37, cs37, hA37, hk37, hr37, hw37⟩ := h6_0.open_ i38 []
          obtain ⟨kb37, rfl⟩ : ∃ z, z = kc37 := ⟨_, rfl⟩
          subst hk37
          have hr37 : cs37 = [vt (List.getD y6 s33 [])] := hr37
          subst hr37
          refine xT 7 [0, 1] [] [some 0, some 1, some 2] [(1, vy k), (2, vt name), (3, vp b1 0), (7, vs A6_0 y6 c6_0), (8, vs A9_0 y9 c9_0), (9, vi ((s33 : Nat) : Int)), (28, vi (((y6).length : Nat) : Int)), (29, vi ((s33 : Nat) : Int)), (32, vs A6_0 y6 c6_0), (33, vi ((s33 : Nat) : Int))] RG (Psi.le.refl _) ?_
          refine xTp 2 RG (fun _ => (qIxB s33 1 kb37.g hA37 rfl i38)) ?_
          refine xTv 3 [some 0, some 1, some 2] RG (Psi.le.refl _) (qLdB s33 1 0 1 hw37) ?_
          have h9_0 := h9_0.mono e35.b
          obtain ⟨q40, hS⟩ := grd_T hS
          have q40p := of_decide_eq_true q40
          obtain ⟨kc39, cs39, hA39, hk39, hr39, hw39⟩ := h9_0.open_ q40p []
          obtain ⟨kb39, rfl⟩ : ∃ z, z = kc39 := ⟨_, rfl⟩
          subst hk39
          have hr39 : cs39 = [vt (List.getD y9 s33 [])] := hr39
          subst hr39
          refine xT 3 [4, 5] [] [some 0, some 1, some 2] [(1, vy k), (2, vt name), (3, vp b1 0), (7, vs A6_0 y6 c6_0), (8, vs A9_0 y9 c9_0), (28, vi (((y6).length : Nat) : Int)), (29, vi ((s33 : Nat) : Int)), (35, vt (List.getD y6 s33 [])), (36, vs A9_0 y9 c9_0), (37, vi ((s33 : Nat) : Int))] RG (Psi.le.refl _) ?_
          refine xTp 6 RG (fun _ => (qIxB s33 1 kb39.g hA39 rfl q40p)) ?_
          refine xTv 7 [some 0, some 1, some 2] RG (Psi.le.refl _) (qLdB s33 1 0 2 hw39) ?_
          refine xTp 8 RG (fun _ => (qNeS ((List.getD y6 s33 [])) ((List.getD y9 s33 [])))) ?_
          refine xAe (lds := [3, 7]) ?_
          refine wpq_then ?_
          refine xSub [(1, vy k), (2, vt name), (3, vp b1 0), (7, vs A6_0 y6 c6_0), (8, vs A9_0 y9 c9_0), (28, vi (((y6).length : Nat) : Int)), (29, vi ((s33 : Nat) : Int)), (40, vb (!((List.getD y6 s33 []) == (List.getD y9 s33 []))))] ?_
          refine xCd ((!((List.getD y6 s33 []) == (List.getD y9 s33 [])))) (fun h41 => ?_) (fun h41 => ?_)
          · have hS := cond_T h41 hS
            have h41n := not_eq_true_ h41
            have h41np : ¬ ((List.getD y6 s33 []) = (List.getD y9 s33 [])) := ne_of_beq_false_ h41n
            refine xSq ?_
            refine xRg ?_
            refine xB 1 [] [(6, vb false)] ?_
            refine xRe ?_
            refine wpq_then ?_
            have eS := (Option.some.inj hS).symm
            have eS := (hD33 _ eS).symm
            have eS := (hD13 _ eS).symm
            subst eS
            exact xRet [] [6] (e4.trans (e8.trans (e11.trans e35))) ⟨by kernel_rfl, by kernel_rfl⟩ (fun _ _ h => h)
          · have hS := cond_F h41 hS
            have h41n := not_eq_false_ h41
            have h41np : (List.getD y6 s33 []) = (List.getD y9 s33 []) := eq_of_beq h41n
            refine xSk ?_
            refine wpq_blockN ?_
            refine wpq_then ?_
            refine xSub [(1, vy k), (2, vt name), (3, vp b1 0), (7, vs A6_0 y6 c6_0), (8, vs A9_0 y9 c9_0), (28, vi (((y6).length : Nat) : Int)), (29, vi ((s33 : Nat) : Int))] ?_
            refine xRg ?_
            obtain ⟨q42, hS⟩ := grd_T hS
            have q42p := of_decide_eq_true q42
            refine xV (qAdd .i64 (((s33 : Nat) : Int)) (1) (wr64 (by omega))) ?_
            refine xB 1 [] [(1, vy k), (2, vt name), (3, vp b1 0), (7, vs A6_0 y6 c6_0), (8, vs A9_0 y9 c9_0), (28, vi (((y6).length : Nat) : Int)), (29, vi (((s33 : Nat) : Int) + 1))] ?_
            refine xRe ?_
            refine wpq_thenN ?_
            refine xSub [(1, vy k), (2, vt name), (3, vp b1 0), (7, vs A6_0 y6 c6_0), (8, vs A9_0 y9 c9_0), (28, vi (((y6).length : Nat) : Int)), (29, vi (((s33 : Nat) : Int) + 1))] ?_
            have eS := (Option.some.inj hS).symm
            exact hN33 _ eS _ _ _ (Gh.le.refl _) ⟨by kernel_rfl, by kernel_rfl⟩
        · have hS := cond_F h36 hS
          have h36p := of_decide_eq_false h36
          refine xEx 0 ?_
          refine wpq_thenX ?_
          refine wpq_thenX ?_
          refine wpq_blockE ?_
          refine xSel [some 0] ?_
          refine xSub [(1, vy k), (2, vt name), (3, vp b1 0)] ?_
          have eS := (Option.some.inj hS).symm
          have eS := (hD33 _ eS).symm
          exact hN13 _ eS _ _ _ e35 ⟨by kernel_rfl, by kernel_rfl⟩

end Go.Proofs.YthfekfebgghjhaaDoor
