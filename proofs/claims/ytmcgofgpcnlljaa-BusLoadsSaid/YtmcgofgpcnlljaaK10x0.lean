/-
Walks, printed by wip/gen. Conditions: each theorem's own.
-/
import Derived.Test.YtmcgofgpcnlljaaB3
namespace Go.Proofs.Ytmcgofgpcnlljaa
set_option linter.unusedVariables false
set_option linter.unusedSimpArgs false
open Go.RowKit
def o27_L1 (l : List Msg) (s15 : (List Int) × Nat) (s36 : (List Int) × Int) : Option (Ctl ((List Int) × Int) ((List Int))) :=
  (cond (decide (s36.2 < 32)) (grd (decide (0 ≤ s36.2 ∧ s36.2 < (((s36.1).length : Nat) : Int))) (grd (decide (0 ≤ s36.2 ∧ s36.2 < (((s36.1).length : Nat) : Int))) (grd (decide (-9223372036854775808 ≤ s36.2 + (List.getD l s15.2 default).period ∧ s36.2 + (List.getD l s15.2 default).period ≤ 9223372036854775807)) (some (Ctl.go (((List.set s36.1 (s36.2).toNat ((IntKind.i64.wrap ((List.getD s36.1 (s36.2).toNat 0) + (List.getD l s15.2 default).length)) : Int)) : List Int), (s36.2 + (List.getD l s15.2 default).period))))))) (some (Ctl.done ((s36.1 : List Int)))))
def o27_L0 (l : List Msg) (slots : List Slot) (s15 : (List Int) × Nat) : Option (Ctl ((List Int) × Nat) (Ctl ((List Int)) ((List Int) × Int))) :=
  (cond (decide (((s15.2 : Nat) : Int) < (((slots).length : Nat) : Int))) (joinO (τ := (List Int)) (ρ := Ctl ((List Int) × Nat) (Ctl ((List Int)) ((List Int) × Int))) (grd (decide (s15.2 < (l).length)) (cond ((decide ((List.getD slots s15.2 default).offset < 0) || decide ((List.getD slots s15.2 default).offset ≥ (List.getD l s15.2 default).period))) (some (Ctl.done (Ctl.done (Ctl.done ((([] : List Int), (2 : Int))))))) (bindO (τ := (List Int)) (loopO (σ := (List Int) × Int) (ρ := (List Int)) fuelN (o27_L1 l s15) ((s15.1 : List Int), (List.getD slots s15.2 default).offset)) fun t31 => (some (Ctl.go (t31 : List Int)))))) fun t19 => (grd (decide (((s15.2 : Nat) : Int) + 1 ≤ 9223372036854775807)) (some (Ctl.go ((t19 : List Int), (s15.2 + 1)))))) (some (Ctl.done (Ctl.go (s15.1 : List Int)))))
def o27_L2 (l : List Msg) (slots : List Slot) (s50 : Nat) : Option (Ctl (Nat) (Ctl (Unit) ((List Int) × Int))) :=
  (cond (decide (((s50 : Nat) : Int) < (((slots).length : Nat) : Int))) (grd (decide (s50 < (l).length)) (cond (((List.getD slots s50 default).label != (List.getD l s50 default).label)) (some (Ctl.done (Ctl.done ((([] : List Int), (1 : Int)))))) (grd (decide (((s50 : Nat) : Int) + 1 ≤ 9223372036854775807)) (some (Ctl.go (s50 + 1)))))) (some (Ctl.done (Ctl.go ()))))
def o27 (l : List Msg) (slots : List Slot) : Option ((List Int) × Int) :=
  (bindO (τ := Int) (o37 (l : List Msg)) fun y1 => (cond ((y1 != 0)) (some ((([] : List Int), (y1 : Int)))) (cond (((((slots).length : Nat) : Int) != (((l).length : Nat) : Int))) (some ((([] : List Int), (1 : Int)))) (joinO (τ := Unit) (ρ := (List Int) × Int) (loopO (σ := Nat) (ρ := Ctl (Unit) ((List Int) × Int)) fuelN (o27_L2 l slots) (0)) fun t6 => (joinO (τ := (List Int)) (ρ := (List Int) × Int) (loopO (σ := (List Int) × Nat) (ρ := Ctl ((List Int)) ((List Int) × Int)) fuelN (o27_L0 l slots) (((List.replicate 32 (0 : Int)) : List Int), 0)) fun t10 => (some (((t10 : List Int), (0 : Int)))))))))
set_option maxRecDepth 100000 in
theorem c27 (g : Gh) (l : List Msg) (Al : Option Addr) (cl : Nat) (slots : List Slot) (Aslots : Option Addr) (cslots : Nat) (fl : Arr g.r tyMsg Al cl l) (fslots : Arr g.r tySlot Aslots cslots slots) {r : (List Int) × Int} (hS : o27 l slots = some r) :
    Ctr Try.prog 27 [vs Al l cl, vs Aslots slots cslots] g [] (fun v ψ o => ∃ (Ar_0 : Option Addr) (cr_0 : Nat) (kr_0 : Option Bk), v = Value.tuple #[vs Ar_0 r.1 cr_0, vi r.2] ∧ o = [kr_0] ∧ Buf ψ (tyI .i64) 3 (.slice Ar_0 (r.1).length cr_0) kr_0 r.1) := by
  unfold o27 at hS
  refine xFn Try.f27 (Try.f27.body.getD .skip) 80 ?_
  have nfl := fl.len
  have nfslots := fslots.len
  refine xSq ?_
  refine xRg ?_
  refine xB 2 [] [(0, vs Al l cl), (1, vs Aslots slots cslots)] ?_
  refine xRe ?_
  refine wpq_then ?_
  refine xSq ?_
  refine xSq ?_
  refine xRg ?_
  refine xB 1 [] [(0, vs Al l cl), (1, vs Aslots slots cslots), (14, vs Al l cl)] ?_
  obtain ⟨y1, hy1, hS⟩ := bindO_T hS
  refine xE (eC 0 (fun g' lr eb ln => c37 g' (l : List Msg) Al cl (fl.mono lr) hy1)) ?_
  rintro _ g2 _ e3 ⟨_, rfl, rfl, rfl⟩
  refine xB 1 [] [(0, vs Al l cl), (1, vs Aslots slots cslots), (6, vi y1)] ?_
  refine xRe ?_
  refine wpq_then ?_
  refine xSq ?_
  refine xRg ?_
  refine xB 2 [] [(0, vs Al l cl), (1, vs Aslots slots cslots), (6, vi y1), (17, vb (y1 != 0))] ?_
  refine xRe ?_
  refine wpq_then ?_
  refine xCd ((y1 != 0)) (fun h4 => ?_) (fun h4 => ?_)
  · have hS := cond_T h4 hS
    have h4p : ¬ (y1 = 0) := ne_of_bne_ h4
    refine xSq ?_
    refine xRg ?_
    refine xB 3 [] [(4, Value.slice none 0 0), (5, vi y1)] ?_
    refine xRe ?_
    refine wpq_then ?_
    have eS := (Option.some.inj hS).symm
    subst eS
    exact xRet [none] [4, 5] e3 ⟨none, 0, none, by kernel_rfl, by kernel_rfl, Buf.nil⟩ (fun _ _ h => h)
  · have hS := cond_F h4 hS
    have h4p : y1 = 0 := eq_of_bne_false_ h4
    refine xSk ?_
    refine wpq_then ?_
    refine xSub [(0, vs Al l cl), (1, vs Aslots slots cslots)] ?_
    refine xSq ?_
    refine xSq ?_
    refine xRg ?_
    refine xB 5 [] [(0, vs Al l cl), (1, vs Aslots slots cslots), (23, vb ((((slots).length : Nat) : Int) != (((l).length : Nat) : Int)))] ?_
    refine xRe ?_
    refine wpq_then ?_
    refine xCd (((((slots).length : Nat) : Int) != (((l).length : Nat) : Int))) (fun h5 => ?_) (fun h5 => ?_)
    · have hS := cond_T h5 hS
      have h5p : ¬ ((((slots).length : Nat) : Int) = (((l).length : Nat) : Int)) := ne_of_bne_ h5
      refine xSq ?_
      refine xRg ?_
      refine xB 2 [] [(4, Value.slice none 0 0), (5, vi 1)] ?_
      refine xRe ?_
      refine wpq_then ?_
      have eS := (Option.some.inj hS).symm
      subst eS
      exact xRet [none] [4, 5] e3 ⟨none, 0, none, by kernel_rfl, by kernel_rfl, Buf.nil⟩ (fun _ _ h => h)
    · have hS := cond_F h5 hS
      have h5p : (((slots).length : Nat) : Int) = (((l).length : Nat) : Int) := eq_of_bne_false_ h5
      refine xSk ?_
      refine wpq_then ?_
      refine xSub [(0, vs Al l cl), (1, vs Aslots slots cslots)] ?_
      refine xSq ?_
      refine xSq ?_
      refine xRg ?_
      refine xB 3 [] [(0, vs Al l cl), (1, vs Aslots slots cslots), (24, vs Aslots slots cslots), (25, vi (((slots).length : Nat) : Int)), (26, vi 0)] ?_
      refine xRe ?_
      refine wpq_then ?_
      refine xJoinO hS (fun g own sl t6 => own = [] ∧ sl = [(0, vs Al l cl), (1, vs Aslots slots cslots)]) ?_ ?_
      · rintro g7 _ _ t6 e8 ⟨rfl, rfl⟩ hS
        refine wpq_then ?_
        refine xSq ?_
        refine xRg ?_
        refine xE (eMk (T := (tyI .i64)) (p := g7.b) (et := 3) (bytes := 8) (z := (0 : Int)) 32 rfl (show (tyI .i64).rep _ _ _ from rfl) (by omega) (by omega)) ?_
        rintro _ _ _ - ⟨A9, c9, k9, rfl, rfl, rfl, h9⟩
        have nh9 := h9.len
        have hlh9 : ((List.replicate 32 (0 : Int))).length = 32 := List.length_replicate
        refine xB 1 [] [(0, vs Al l cl), (1, vs Aslots slots cslots), (9, vs A9 (List.replicate 32 (0 : Int)) c9)] ?_
        refine xRe ?_
        refine wpq_then ?_
        refine xSq ?_
        refine xSq ?_
        refine xRg ?_
        refine xB 3 [] [(0, vs Al l cl), (9, vs A9 (List.replicate 32 (0 : Int)) c9), (41, vs Aslots slots cslots), (42, vi (((slots).length : Nat) : Int)), (43, vi 0)] ?_
        refine xRe ?_
        refine wpq_then ?_
        refine xJoinO hS (fun g own sl t10 => ∃ (k10_0 : Option Bk), own = [k10_0] ∧ sl = [(9, vs A9 t10 c9)] ∧ Buf g.b (tyI .i64) 3 (.slice A9 (t10).length c9) k10_0 t10) ?_ ?_
        · rintro g11 _ _ t10 e12 ⟨k10_0, rfl, rfl, h10_0⟩ hS
          have nh10_0 := h10_0.len
          refine wpq_then ?_
          refine xSq ?_
          refine xRg ?_
          refine xB 3 [] [(4, vs A9 t10 c9), (5, vi 0)] ?_
          refine xRe ?_
          refine wpq_then ?_
          have eS := (Option.some.inj hS).symm
          subst eS
          exact xRet [some 0] [4, 5] (e3.trans (e8.trans e12)) ⟨A9, c9, k10_0, by kernel_rfl, by kernel_rfl, h10_0⟩ (fun _ _ h => h)
        · intro uu10 hS hN10 hD10
          refine xBl 2 ?_
          refine xSub [(0, vs Al l cl), (9, vs A9 (List.replicate 32 (0 : Int)) c9), (41, vs Aslots slots cslots), (42, vi (((slots).length : Nat) : Int)), (43, vi 0)] ?_
          refine xLo hS (fun g own sl s15 => ∃ (k15_0 : Option Bk), own = [k15_0] ∧ sl = [(0, vs Al l cl), (9, vs A9 s15.1 c9), (41, vs Aslots slots cslots), (42, vi (((slots).length : Nat) : Int)), (43, vi ((s15.2 : Nat) : Int))] ∧ Buf g.b (tyI .i64) 3 (.slice A9 (s15.1).length c9) k15_0 s15.1) ⟨k9, by kernel_rfl, by kernel_rfl, h9⟩ ?_
          rintro g16 _ _ s15 uu15 e17 ⟨k15_0, rfl, rfl, h15_0⟩ hS Qr15 hN15 hD15
          have nh15_0 := h15_0.len
          unfold o27_L0 at hS
          refine xSq ?_
          refine xRg ?_
          refine xB 1 [] [(0, vs Al l cl), (9, vs A9 s15.1 c9), (41, vs Aslots slots cslots), (42, vi (((slots).length : Nat) : Int)), (43, vi ((s15.2 : Nat) : Int)), (44, vb (decide (((s15.2 : Nat) : Int) < (((slots).length : Nat) : Int))))] ?_
          refine xRe ?_
          refine wpq_then ?_
          refine xSq ?_
          refine xCd (decide (((s15.2 : Nat) : Int) < (((slots).length : Nat) : Int))) (fun h18 => ?_) (fun h18 => ?_)
          · have hS := cond_T h18 hS
            have h18p := of_decide_eq_true h18
            refine xSk ?_
            refine wpq_then ?_
            refine xSub [(0, vs Al l cl), (9, vs A9 s15.1 c9), (41, vs Aslots slots cslots), (42, vi (((slots).length : Nat) : Int)), (43, vi ((s15.2 : Nat) : Int))] ?_
            refine xSq ?_
            refine xJoinO hS (fun g own sl t19 => ∃ (k19_0 : Option Bk), own = [k19_0] ∧ sl = [(0, vs Al l cl), (9, vs A9 t19 c9), (41, vs Aslots slots cslots), (42, vi (((slots).length : Nat) : Int)), (43, vi ((s15.2 : Nat) : Int))] ∧ Buf g.b (tyI .i64) 3 (.slice A9 (t19).length c9) k19_0 t19) ?_ ?_
            · rintro g20 _ _ t19 e21 ⟨k19_0, rfl, rfl, h19_0⟩ hS
              have nh19_0 := h19_0.len
              refine wpq_then ?_
              refine xRg ?_
              obtain ⟨q22, hS⟩ := grd_T hS
              have q22p := of_decide_eq_true q22
              refine xV (qAdd .i64 (((s15.2 : Nat) : Int)) (1) (wr64 (by omega))) ?_
              refine xB 1 [] [(0, vs Al l cl), (9, vs A9 t19 c9), (41, vs Aslots slots cslots), (42, vi (((slots).length : Nat) : Int)), (43, vi (((s15.2 : Nat) : Int) + 1))] ?_
              refine xRe ?_
              refine wpq_thenN ?_
              refine xSub [(0, vs Al l cl), (9, vs A9 t19 c9), (41, vs Aslots slots cslots), (42, vi (((slots).length : Nat) : Int)), (43, vi (((s15.2 : Nat) : Int) + 1))] ?_
              have eS := (Option.some.inj hS).symm
              exact hN15 _ eS _ _ _ e21 ⟨k19_0, by kernel_rfl, by kernel_rfl, h19_0⟩
            · intro uu19 hS hN19 hD19
              refine xBl 3 ?_
              refine xSq ?_
              refine xRg ?_
              have fslots := fslots.mono (e3.trans (e8.trans e17)).r
              have i24 : s15.2 < (slots).length := by omega
              obtain ⟨ad23, cs23, hA23, hr23, hc23⟩ := fslots.at_ (get_getD (d := default) i24)
              obtain ⟨rfl⟩ := hr23
              refine xB 1 [] [(0, vs Al l cl), (9, vs A9 s15.1 c9), (41, vs Aslots slots cslots), (42, vi (((slots).length : Nat) : Int)), (43, vi ((s15.2 : Nat) : Int)), (45, vi ((s15.2 : Nat) : Int))] ?_
              refine xV (qIx s15.2 2 hA23 rfl i24) ?_
              refine xV (qLdP (Addr.add ad23 (s15.2 * 2)) 0 hc23) ?_
              refine xE eB ?_
              rintro _ _ _ - ⟨b25, rfl, rfl, rfl⟩
              refine xBo 2 [(5, 0)] [some ⟨b25, 46, [vy ((List.getD slots s15.2 default).label), vi ((List.getD slots s15.2 default).offset)]⟩, k15_0] [(0, vs Al l cl), (9, vs A9 s15.1 c9), (10, vi ((s15.2 : Nat) : Int)), (11, vp b25 0), (41, vs Aslots slots cslots), (42, vi (((slots).length : Nat) : Int)), (43, vi ((s15.2 : Nat) : Int))] ?_
              refine xRe ?_
              refine wpq_then ?_
              refine xSq ?_
              refine xRg ?_
              have fl := fl.mono (e3.trans (e8.trans e17)).r
              obtain ⟨q27, hS⟩ := grd_T hS
              have q27p := of_decide_eq_true q27
              obtain ⟨ad26, cs26, hA26, hr26, hc26⟩ := fl.at_ (get_getD (d := default) q27p)
              obtain ⟨rfl⟩ := hr26
              refine xB 2 [] [(0, vs Al l cl), (9, vs A9 s15.1 c9), (11, vp b25 0), (41, vs Aslots slots cslots), (42, vi (((slots).length : Nat) : Int)), (43, vi ((s15.2 : Nat) : Int)), (48, vs Al l cl), (49, vi ((s15.2 : Nat) : Int))] ?_
              refine xV (qIx s15.2 3 hA26 rfl q27p) ?_
              refine xV (qLdP (Addr.add ad26 (s15.2 * 3)) 0 hc26) ?_
              refine xE eB ?_
              rintro _ _ _ - ⟨b28, rfl, rfl, rfl⟩
              refine xBo 1 [(5, 0)] [some ⟨b28, 70, [vy ((List.getD l s15.2 default).label), vi ((List.getD l s15.2 default).period), vi ((List.getD l s15.2 default).length)]⟩, some ⟨b25, 46, [vy ((List.getD slots s15.2 default).label), vi ((List.getD slots s15.2 default).offset)]⟩, k15_0] [(0, vs Al l cl), (9, vs A9 s15.1 c9), (11, vp b25 0), (12, vp b28 0), (41, vs Aslots slots cslots), (42, vi (((slots).length : Nat) : Int)), (43, vi ((s15.2 : Nat) : Int))] ?_
              refine xRe ?_
              refine wpq_then ?_
              refine xSq ?_
              refine xSq ?_
              refine xRg ?_
              refine xB 4 [(1, 1)] [(0, vs Al l cl), (9, vs A9 s15.1 c9), (11, vp b25 0), (12, vp b28 0), (41, vs Aslots slots cslots), (42, vi (((slots).length : Nat) : Int)), (43, vi ((s15.2 : Nat) : Int)), (55, vb (decide ((List.getD slots s15.2 default).offset < 0)))] ?_
              refine wpr_grp 10 [(0, vs Al l cl), (9, vs A9 s15.1 c9), (11, vp b25 0), (12, vp b28 0), (41, vs Aslots slots cslots), (42, vi (((slots).length : Nat) : Int)), (43, vi ((s15.2 : Nat) : Int)), (61, vb (decide ((List.getD slots s15.2 default).offset < 0) || decide ((List.getD slots s15.2 default).offset ≥ (List.getD l s15.2 default).period)))] (fun hk3 => ?_) ?_
              · refine wpq_split 55 (b := decide ((List.getD slots s15.2 default).offset < 0)) (by kernel_rfl) (fun q29 => ?_) (fun q29 => ?_)
                · have q29p := of_decide_eq_true q29
                  refine xB 6 [] [(0, vs Al l cl), (9, vs A9 s15.1 c9), (11, vp b25 0), (12, vp b28 0), (41, vs Aslots slots cslots), (42, vi (((slots).length : Nat) : Int)), (43, vi ((s15.2 : Nat) : Int)), (61, vb true)] ?_
                  refine wpq_re 61 (v := vb true) (Value.bool ((decide ((List.getD slots s15.2 default).offset < 0) || decide ((List.getD slots s15.2 default).offset ≥ (List.getD l s15.2 default).period)))) (by kernel_rfl) (re_or1 q29) ?_
                  exact wpq_sub _ (by kernel_rfl) hk3
                · have q29p := of_decide_eq_false q29
                  refine xB 6 [(5, 1), (7, 0)] [(0, vs Al l cl), (9, vs A9 s15.1 c9), (11, vp b25 0), (12, vp b28 0), (41, vs Aslots slots cslots), (42, vi (((slots).length : Nat) : Int)), (43, vi ((s15.2 : Nat) : Int)), (61, vb (decide ((List.getD slots s15.2 default).offset ≥ (List.getD l s15.2 default).period)))] ?_
                  refine wpq_re 61 (v := vb (decide ((List.getD slots s15.2 default).offset ≥ (List.getD l s15.2 default).period))) (Value.bool ((decide ((List.getD slots s15.2 default).offset < 0) || decide ((List.getD slots s15.2 default).offset ≥ (List.getD l s15.2 default).period)))) (by kernel_rfl) (re_or0 q29) ?_
                  exact wpq_sub _ (by kernel_rfl) hk3
              · refine xRe ?_
                refine wpq_then ?_
                refine xCd ((decide ((List.getD slots s15.2 default).offset < 0) || decide ((List.getD slots s15.2 default).offset ≥ (List.getD l s15.2 default).period))) (fun h30 => ?_) (fun h30 => ?_)
                · have hS := cond_T h30 hS
                  refine xSq ?_
                  refine xRg ?_
                  refine xB 2 [] [(4, Value.slice none 0 0), (5, vi 2)] ?_
                  refine xRe ?_
                  refine wpq_then ?_
                  have eS := (Option.some.inj hS).symm
                  have eS := (hD19 _ eS).symm
                  have eS := (hD15 _ eS).symm
                  have eS := (hD10 _ eS).symm
                  subst eS
                  exact xRet [none] [4, 5] (e3.trans (e8.trans e17)) ⟨none, 0, none, by kernel_rfl, by kernel_rfl, Buf.nil⟩ (fun _ _ h => h)
                · have hS := cond_F h30 hS
                  have h30l := (or_false_ h30).1
                  have h30r := (or_false_ h30).2
                  have h30lp := of_decide_eq_false h30l
                  have h30rp := of_decide_eq_false h30r
                  refine xSk ?_
                  refine wpq_then ?_
                  refine xSub [(0, vs Al l cl), (9, vs A9 s15.1 c9), (11, vp b25 0), (12, vp b28 0), (41, vs Aslots slots cslots), (42, vi (((slots).length : Nat) : Int)), (43, vi ((s15.2 : Nat) : Int))] ?_
                  refine xSq ?_
                  refine xRg ?_
                  refine xB 3 [(1, 1)] [(0, vs Al l cl), (9, vs A9 s15.1 c9), (12, vp b28 0), (13, vi ((List.getD slots s15.2 default).offset)), (41, vs Aslots slots cslots), (42, vi (((slots).length : Nat) : Int)), (43, vi ((s15.2 : Nat) : Int))] ?_
                  refine xRe ?_
                  refine wpq_then ?_
                  refine xBindO hS (fun g own sl t31 => ∃ (k31_0 : Option Bk), own = [k31_0] ∧ sl = [(0, vs Al l cl), (9, vs A9 t31 c9), (41, vs Aslots slots cslots), (42, vi (((slots).length : Nat) : Int)), (43, vi ((s15.2 : Nat) : Int))] ∧ Buf g.b (tyI .i64) 3 (.slice A9 (t31).length c9) k31_0 t31) ?_ ?_
                  · rintro g32 _ _ t31 e33 ⟨k31_0, rfl, rfl, h31_0⟩ hS
                    have nh31_0 := h31_0.len
                    refine wpq_blockN ?_
                    refine xSub [(0, vs Al l cl), (9, vs A9 t31 c9), (41, vs Aslots slots cslots), (42, vi (((slots).length : Nat) : Int)), (43, vi ((s15.2 : Nat) : Int))] ?_
                    have eS := (Option.some.inj hS).symm
                    exact hN19 _ eS _ _ _ e33 ⟨k31_0, by kernel_rfl, by kernel_rfl, h31_0⟩
                  · intro uu31 hS hN31
                    refine xBl 4 ?_
                    refine xSel [some 0, some 2] ?_
                    refine xSub [(0, vs Al l cl), (9, vs A9 s15.1 c9), (12, vp b28 0), (13, vi ((List.getD slots s15.2 default).offset)), (41, vs Aslots slots cslots), (42, vi (((slots).length : Nat) : Int)), (43, vi ((s15.2 : Nat) : Int))] ?_
                    refine xLo hS (fun g own sl s36 => ∃ (k36_0 : Option Bk), own = [some ⟨b28, 70, [vy ((List.getD l s15.2 default).label), vi ((List.getD l s15.2 default).period), vi ((List.getD l s15.2 default).length)]⟩, k36_0] ∧ sl = [(0, vs Al l cl), (9, vs A9 s36.1 c9), (12, vp b28 0), (13, vi s36.2), (41, vs Aslots slots cslots), (42, vi (((slots).length : Nat) : Int)), (43, vi ((s15.2 : Nat) : Int))] ∧ Buf g.b (tyI .i64) 3 (.slice A9 (s36.1).length c9) k36_0 s36.1) ⟨k15_0, by kernel_rfl, by kernel_rfl, h15_0⟩ ?_
                    rintro g37 _ _ s36 uu36 e38 ⟨k36_0, rfl, rfl, h36_0⟩ hS Qr36 hN36 hD36
                    have nh36_0 := h36_0.len
                    unfold o27_L1 at hS
                    refine xSq ?_
                    refine xSq ?_
                    refine xRg ?_
                    refine xB 2 [] [(0, vs Al l cl), (9, vs A9 s36.1 c9), (12, vp b28 0), (13, vi s36.2), (41, vs Aslots slots cslots), (42, vi (((slots).length : Nat) : Int)), (43, vi ((s15.2 : Nat) : Int)), (65, vb (decide (s36.2 < 32)))] ?_
                    refine xRe ?_
                    refine wpq_then ?_
                    refine xCd (decide (s36.2 < 32)) (fun h39 => ?_) (fun h39 => ?_)
                    · have hS := cond_T h39 hS
                      have h39p := of_decide_eq_true h39
                      refine xSk ?_
                      refine wpq_then ?_
                      refine xSub [(0, vs Al l cl), (9, vs A9 s36.1 c9), (12, vp b28 0), (13, vi s36.2), (41, vs Aslots slots cslots), (42, vi (((slots).length : Nat) : Int)), (43, vi ((s15.2 : Nat) : Int))] ?_
                      refine xSq ?_
                      refine xBl 5 ?_
                      refine xDr 0 [3, 5] [8, 6, 7] [some ⟨b28, 70, [vy ((List.getD l s15.2 default).label), vi ((List.getD l s15.2 default).period), vi ((List.getD l s15.2 default).length)]⟩, k36_0] 9 (fun RG => ?_) (fun _ _ _ _ _ h => h)
                      obtain ⟨q41, hS⟩ := grd_T hS
                      have q41p := of_decide_eq_true q41
                      have i42 : (s36.2).toNat < (s36.1).length := by omega
                      obtain ⟨kc40, cs40, hA40, hk40, hr40, hw40⟩ := h36_0.open_ i42 0
                      obtain ⟨kb40, rfl⟩ : ∃ z, z = kc40 := ⟨_, rfl⟩
                      subst hk40
                      have hr40 : cs40 = [vi (List.getD s36.1 (s36.2).toNat 0)] := hr40
                      subst hr40
                      refine xT 7 [0, 1] [] [some 0, some 1] [(0, vs Al l cl), (9, vs A9 s36.1 c9), (12, vp b28 0), (13, vi s36.2), (41, vs Aslots slots cslots), (42, vi (((slots).length : Nat) : Int)), (43, vi ((s15.2 : Nat) : Int)), (70, vs A9 s36.1 c9), (71, vi s36.2)] RG (Psi.le.refl _) ?_
                      refine xTp 2 RG (fun _ => (qIxB (s36.2).toNat 1 kb40.g hA40 (show (s36.2 : Int) = _ from by omega) i42)) ?_
                      refine xTv 3 [some 0, some 1] RG (Psi.le.refl _) (qLdB (s36.2).toNat 1 0 1 hw40) ?_
                      have z144 := i64_in_ ((List.getD s36.1 (s36.2).toNat 0) + (List.getD l s15.2 default).length)
                      obtain ⟨q44, hS⟩ := grd_T hS
                      have q44p := of_decide_eq_true q44
                      have i45 : (s36.2).toNat < (s36.1).length := by omega
                      obtain ⟨kc43, cs43, hA43, hk43, hr43, hw43⟩ := h36_0.open_ i45 0
                      cases hk43
                      have hr43 : cs43 = [vi (List.getD s36.1 (s36.2).toNat 0)] := hr43
                      subst hr43
                      refine xT 2 [4, 5, 6] [(5, 0)] [some 0, some 1] [(0, vs Al l cl), (9, vs A9 s36.1 c9), (12, vp b28 0), (13, vi s36.2), (41, vs Aslots slots cslots), (42, vi (((slots).length : Nat) : Int)), (43, vi ((s15.2 : Nat) : Int)), (70, vs A9 s36.1 c9), (71, vi s36.2), (76, vi (IntKind.i64.wrap ((List.getD s36.1 (s36.2).toNat 0) + (List.getD l s15.2 default).length)))] RG (Psi.le.refl _) ?_
                      refine xTp 7 RG (fun _ => (qIxB (s36.2).toNat 1 kb40.g hA43 (show (s36.2 : Int) = _ from by omega) i45)) ?_
                      refine xO1 (lds := [3, 5]) 8 ?_
                      refine xId (lds := [3, 5]) (Psi.le.refl _) (eStB (s36.2).toNat 1 0 1 [vi (IntKind.i64.wrap ((List.getD s36.1 (s36.2).toNat 0) + (List.getD l s15.2 default).length))] h36_0 rfl hw43 (show (tyI .i64).rep _ _ _ from rfl) i45) ?_
                      rintro _ _ _ - ⟨k46, rfl, rfl, h46⟩
                      refine kf ?_
                      have hz46 : (s36.1).length = ((List.set s36.1 (s36.2).toNat ((IntKind.i64.wrap ((List.getD s36.1 (s36.2).toNat 0) + (List.getD l s15.2 default).length)) : Int))).length := by simp
                      refine xAe (lds := [3, 5]) ?_
                      refine wpq_blockN ?_
                      refine wpq_then ?_
                      refine xSub [(0, vs Al l cl), (9, Value.slice A9 ((s36.1).length) c9), (12, vp b28 0), (13, vi s36.2), (41, vs Aslots slots cslots), (42, vi (((slots).length : Nat) : Int)), (43, vi ((s15.2 : Nat) : Int))] ?_
                      refine xRg ?_
                      obtain ⟨q47, hS⟩ := grd_T hS
                      have q47p := of_decide_eq_true q47
                      refine xB 3 [(2, 0)] [(0, vs Al l cl), (9, Value.slice A9 ((s36.1).length) c9), (12, vp b28 0), (13, vi s36.2), (41, vs Aslots slots cslots), (42, vi (((slots).length : Nat) : Int)), (43, vi ((s15.2 : Nat) : Int)), (66, vi s36.2), (68, vi ((List.getD l s15.2 default).period))] ?_
                      refine xV (qAdd .i64 (s36.2) ((List.getD l s15.2 default).period) (wr64 (by omega))) ?_
                      refine xB 1 [] [(0, vs Al l cl), (9, Value.slice A9 ((s36.1).length) c9), (12, vp b28 0), (13, vi (s36.2 + (List.getD l s15.2 default).period)), (41, vs Aslots slots cslots), (42, vi (((slots).length : Nat) : Int)), (43, vi ((s15.2 : Nat) : Int))] ?_
                      refine xRe ?_
                      refine wpq_thenN ?_
                      refine wpq_re 9 (v := Value.slice A9 ((s36.1).length) c9) (vs A9 (List.set s36.1 (s36.2).toNat ((IntKind.i64.wrap ((List.getD s36.1 (s36.2).toNat 0) + (List.getD l s15.2 default).length)) : Int)) c9) (by kernel_rfl) (congrArg (fun z => Value.slice A9 z c9) hz46) ?_
                      have h46 := Buf.re h46 hz46 (rfl : (List.set s36.1 (s36.2).toNat ((IntKind.i64.wrap ((List.getD s36.1 (s36.2).toNat 0) + (List.getD l s15.2 default).length)) : Int)) = _)
                      refine xSub [(0, vs Al l cl), (9, vs A9 (List.set s36.1 (s36.2).toNat ((IntKind.i64.wrap ((List.getD s36.1 (s36.2).toNat 0) + (List.getD l s15.2 default).length)) : Int)) c9), (12, vp b28 0), (13, vi (s36.2 + (List.getD l s15.2 default).period)), (41, vs Aslots slots cslots), (42, vi (((slots).length : Nat) : Int)), (43, vi ((s15.2 : Nat) : Int))] ?_
                      have eS := (Option.some.inj hS).symm
                      exact hN36 _ eS _ _ _ (Gh.le.refl _) ⟨k46, by kernel_rfl, by kernel_rfl, h46⟩
                    · have hS := cond_F h39 hS
                      have h39p := of_decide_eq_false h39
                      refine xEx 4 ?_
                      refine wpq_thenX ?_
                      refine wpq_thenX ?_
                      refine wpq_blockE ?_
                      refine xSel [some 1] ?_
                      refine xSub [(0, vs Al l cl), (9, vs A9 s36.1 c9), (41, vs Aslots slots cslots), (42, vi (((slots).length : Nat) : Int)), (43, vi ((s15.2 : Nat) : Int))] ?_
                      have eS := (Option.some.inj hS).symm
                      have eS := (hD36 _ eS).symm
                      exact hN31 _ eS _ _ _ e38 ⟨k36_0, by kernel_rfl, by kernel_rfl, h36_0⟩
          · have hS := cond_F h18 hS
            have h18p := of_decide_eq_false h18
            refine xEx 2 ?_
            refine wpq_thenX ?_
            refine wpq_thenX ?_
            refine wpq_blockE ?_
            refine xSub [(9, vs A9 s15.1 c9)] ?_
            have eS := (Option.some.inj hS).symm
            have eS := (hD15 _ eS).symm
            exact hN10 _ eS _ _ _ e17 ⟨k15_0, by kernel_rfl, by kernel_rfl, h15_0⟩
      · intro uu6 hS hN6 hD6
        refine xBl 0 ?_
        refine xSub [(0, vs Al l cl), (1, vs Aslots slots cslots), (24, vs Aslots slots cslots), (25, vi (((slots).length : Nat) : Int)), (26, vi 0)] ?_
        refine xLo hS (fun g own sl s50 => own = [] ∧ sl = [(0, vs Al l cl), (1, vs Aslots slots cslots), (24, vs Aslots slots cslots), (25, vi (((slots).length : Nat) : Int)), (26, vi ((s50 : Nat) : Int))]) ⟨by kernel_rfl, by kernel_rfl⟩ ?_
        rintro g51 _ _ s50 uu50 e52 ⟨rfl, rfl⟩ hS Qr50 hN50 hD50
        unfold o27_L2 at hS
        refine xSq ?_
        refine xRg ?_
        refine xB 1 [] [(0, vs Al l cl), (1, vs Aslots slots cslots), (24, vs Aslots slots cslots), (25, vi (((slots).length : Nat) : Int)), (26, vi ((s50 : Nat) : Int)), (27, vb (decide (((s50 : Nat) : Int) < (((slots).length : Nat) : Int))))] ?_
        refine xRe ?_
        refine wpq_then ?_
        refine xSq ?_
        refine xCd (decide (((s50 : Nat) : Int) < (((slots).length : Nat) : Int))) (fun h53 => ?_) (fun h53 => ?_)
        · have hS := cond_T h53 hS
          have h53p := of_decide_eq_true h53
          refine xSk ?_
          refine wpq_then ?_
          refine xSub [(0, vs Al l cl), (1, vs Aslots slots cslots), (24, vs Aslots slots cslots), (25, vi (((slots).length : Nat) : Int)), (26, vi ((s50 : Nat) : Int))] ?_
          refine xSq ?_
          refine xBl 1 ?_
          refine xSq ?_
          refine xRg ?_
          have fslots := fslots.mono (e3.trans e52).r
          have i55 : s50 < (slots).length := by omega
          obtain ⟨ad54, cs54, hA54, hr54, hc54⟩ := fslots.at_ (get_getD (d := default) i55)
          obtain ⟨rfl⟩ := hr54
          refine xB 1 [] [(0, vs Al l cl), (1, vs Aslots slots cslots), (24, vs Aslots slots cslots), (25, vi (((slots).length : Nat) : Int)), (26, vi ((s50 : Nat) : Int)), (28, vi ((s50 : Nat) : Int))] ?_
          refine xV (qIx s50 2 hA54 rfl i55) ?_
          refine xV (qLdP (Addr.add ad54 (s50 * 2)) 0 hc54) ?_
          refine xE eB ?_
          rintro _ _ _ - ⟨b56, rfl, rfl, rfl⟩
          refine xBo 2 [(5, 0)] [some ⟨b56, 46, [vy ((List.getD slots s50 default).label), vi ((List.getD slots s50 default).offset)]⟩] [(0, vs Al l cl), (1, vs Aslots slots cslots), (7, vi ((s50 : Nat) : Int)), (8, vp b56 0), (24, vs Aslots slots cslots), (25, vi (((slots).length : Nat) : Int)), (26, vi ((s50 : Nat) : Int))] ?_
          refine xRe ?_
          refine wpq_then ?_
          refine xSq ?_
          refine xDr 0 [1, 6] [7] [some ⟨b56, 46, [vy ((List.getD slots s50 default).label), vi ((List.getD slots s50 default).offset)]⟩] 8 (fun RG => ?_) (fun _ _ _ _ _ h => h)
          have fl := fl.mono (e3.trans e52).r
          obtain ⟨q58, hS⟩ := grd_T hS
          have q58p := of_decide_eq_true q58
          obtain ⟨ad57, cs57, hA57, hr57, hc57⟩ := fl.at_ (get_getD (d := default) q58p)
          obtain ⟨rfl⟩ := hr57
          refine xT 4 [0, 1, 2, 3] [(1, 0)] [some 0] [(0, vs Al l cl), (1, vs Aslots slots cslots), (24, vs Aslots slots cslots), (25, vi (((slots).length : Nat) : Int)), (26, vi ((s50 : Nat) : Int)), (32, vy ((List.getD slots s50 default).label)), (33, vs Al l cl), (34, vi ((s50 : Nat) : Int))] RG (Psi.le.refl _) ?_
          refine xTp 4 RG (fun _ => (qIx s50 3 hA57 rfl q58p)) ?_
          refine xT 2 [5] [] [some 0] [(0, vs Al l cl), (1, vs Aslots slots cslots), (24, vs Aslots slots cslots), (25, vi (((slots).length : Nat) : Int)), (26, vi ((s50 : Nat) : Int)), (32, vy ((List.getD slots s50 default).label)), (36, Value.pointer (some (Addr.add ad57 (s50 * 3))))] RG (Psi.le.refl _) ?_
          refine xTv 6 [some 0] RG (Psi.le.refl _) (qLdP (Addr.add ad57 (s50 * 3)) 0 hc57) ?_
          refine xT 0 [7] [] [some 0] [(0, vs Al l cl), (1, vs Aslots slots cslots), (24, vs Aslots slots cslots), (25, vi (((slots).length : Nat) : Int)), (26, vi ((s50 : Nat) : Int)), (38, vb ((List.getD slots s50 default).label != (List.getD l s50 default).label))] RG (Psi.le.refl _) ?_
          refine xAe (lds := [1, 6]) ?_
          refine wpq_then ?_
          refine xCd (((List.getD slots s50 default).label != (List.getD l s50 default).label)) (fun h59 => ?_) (fun h59 => ?_)
          · have hS := cond_T h59 hS
            have h59p : ¬ ((List.getD slots s50 default).label = (List.getD l s50 default).label) := ne_of_bne_ h59
            refine xSq ?_
            refine xRg ?_
            refine xB 2 [] [(4, Value.slice none 0 0), (5, vi 1)] ?_
            refine xRe ?_
            refine wpq_then ?_
            have eS := (Option.some.inj hS).symm
            have eS := (hD50 _ eS).symm
            have eS := (hD6 _ eS).symm
            subst eS
            exact xRet [none] [4, 5] (e3.trans e52) ⟨none, 0, none, by kernel_rfl, by kernel_rfl, Buf.nil⟩ (fun _ _ h => h)
          · have hS := cond_F h59 hS
            have h59p : (List.getD slots s50 default).label = (List.getD l s50 default).label := eq_of_bne_false_ h59
            refine xSk ?_
            refine wpq_blockN ?_
            refine wpq_then ?_
            refine xSub [(0, vs Al l cl), (1, vs Aslots slots cslots), (24, vs Aslots slots cslots), (25, vi (((slots).length : Nat) : Int)), (26, vi ((s50 : Nat) : Int))] ?_
            refine xRg ?_
            obtain ⟨q60, hS⟩ := grd_T hS
            have q60p := of_decide_eq_true q60
            refine xV (qAdd .i64 (((s50 : Nat) : Int)) (1) (wr64 (by omega))) ?_
            refine xB 1 [] [(0, vs Al l cl), (1, vs Aslots slots cslots), (24, vs Aslots slots cslots), (25, vi (((slots).length : Nat) : Int)), (26, vi (((s50 : Nat) : Int) + 1))] ?_
            refine xRe ?_
            refine wpq_thenN ?_
            refine xSel [] ?_
            refine xSub [(0, vs Al l cl), (1, vs Aslots slots cslots), (24, vs Aslots slots cslots), (25, vi (((slots).length : Nat) : Int)), (26, vi (((s50 : Nat) : Int) + 1))] ?_
            have eS := (Option.some.inj hS).symm
            exact hN50 _ eS _ _ _ (Gh.le.refl _) ⟨by kernel_rfl, by kernel_rfl⟩
        · have hS := cond_F h53 hS
          have h53p := of_decide_eq_false h53
          refine xEx 0 ?_
          refine wpq_thenX ?_
          refine wpq_thenX ?_
          refine wpq_blockE ?_
          refine xSub [(0, vs Al l cl), (1, vs Aslots slots cslots)] ?_
          have eS := (Option.some.inj hS).symm
          have eS := (hD50 _ eS).symm
          exact hN6 _ eS _ _ _ e52 ⟨by kernel_rfl, by kernel_rfl⟩

def o21_L0 (l : List Msg) (s6 : (List Msg) × Nat) : Option (Ctl ((List Msg) × Nat) ((List Msg))) :=
  (cond (decide (((s6.2 : Nat) : Int) < (((l).length : Nat) : Int))) (grd (decide (((s6.1).length + (([(List.getD l s6.2 default)] : List Msg)).length) * 24 ≤ 140737488355328)) (grd (decide (((s6.2 : Nat) : Int) + 1 ≤ 9223372036854775807)) (some (Ctl.go (((s6.1 ++ ([(List.getD l s6.2 default)] : List Msg)) : List Msg), (s6.2 + 1)))))) (some (Ctl.done ((s6.1 : List Msg)))))
def o21 (l : List Msg) : Option ((List Msg)) :=
  (bindO (τ := (List Msg)) (loopO (σ := (List Msg) × Nat) (ρ := (List Msg)) fuelN (o21_L0 l) (([] : List Msg), 0)) fun t1 => (some ((t1 : List Msg))))
set_option maxRecDepth 100000 in
theorem c21 (g : Gh) (l : List Msg) (Al : Option Addr) (cl : Nat) (fl : Arr g.r tyMsg Al cl l) {r : (List Msg)} (hS : o21 l = some r) :
    Ctr Try.prog 21 [vs Al l cl] g [] (fun v ψ o => ∃ (Ar_0 : Option Addr) (cr_0 : Nat) (kr_0 : Option Bk), v = vs Ar_0 r cr_0 ∧ o = [kr_0] ∧ Buf ψ tyMsg 87 (.slice Ar_0 (r).length cr_0) kr_0 r) := by
  unfold o21 at hS
  refine xFn Try.f21 (Try.f21.body.getD .skip) 24 ?_
  have nfl := fl.len
  refine xSq ?_
  refine xRg ?_
  refine xB 1 [] [(0, vs Al l cl)] ?_
  refine xRe ?_
  refine wpq_then ?_
  refine xSq ?_
  refine xRg ?_
  refine xB 1 [] [(0, vs Al l cl), (3, Value.slice none 0 0)] ?_
  refine xRe ?_
  refine wpq_then ?_
  refine xSq ?_
  refine xSq ?_
  refine xRg ?_
  refine xB 3 [] [(3, Value.slice none 0 0), (6, vs Al l cl), (7, vi (((l).length : Nat) : Int)), (8, vi 0)] ?_
  refine xRe ?_
  refine wpq_then ?_
  refine xBindO hS (fun g own sl t1 => ∃ (A1_0 : Option Addr) (c1_0 : Nat) (k1_0 : Option Bk), own = [k1_0] ∧ sl = [(3, vs A1_0 t1 c1_0)] ∧ Buf g.b tyMsg 87 (.slice A1_0 (t1).length c1_0) k1_0 t1) ?_ ?_
  · rintro g2 _ _ t1 e3 ⟨A1_0, c1_0, k1_0, rfl, rfl, h1_0⟩ hS
    have nh1_0 := h1_0.len
    refine wpq_then ?_
    refine xSq ?_
    refine xRg ?_
    refine xB 2 [] [(2, vs A1_0 t1 c1_0)] ?_
    refine xRe ?_
    refine wpq_then ?_
    have eS := (Option.some.inj hS).symm
    subst eS
    exact xRet [some 0] [2] e3 ⟨A1_0, c1_0, k1_0, by kernel_rfl, by kernel_rfl, h1_0⟩ (fun _ _ h => h)
  · intro uu1 hS hN1
    refine xBl 0 ?_
    refine xSel [none] ?_
    refine xSub [(3, Value.slice none 0 0), (6, vs Al l cl), (7, vi (((l).length : Nat) : Int)), (8, vi 0)] ?_
    refine xLo hS (fun g own sl s6 => ∃ (A6_0 : Option Addr) (c6_0 : Nat) (k6_0 : Option Bk), own = [k6_0] ∧ sl = [(3, vs A6_0 s6.1 c6_0), (6, vs Al l cl), (7, vi (((l).length : Nat) : Int)), (8, vi ((s6.2 : Nat) : Int))] ∧ Buf g.b tyMsg 87 (.slice A6_0 (s6.1).length c6_0) k6_0 s6.1) ⟨none, 0, none, by kernel_rfl, by kernel_rfl, Buf.nil⟩ ?_
    rintro g7 _ _ s6 uu6 e8 ⟨A6_0, c6_0, k6_0, rfl, rfl, h6_0⟩ hS Qr6 hN6 hD6
    have nh6_0 := h6_0.len
    unfold o21_L0 at hS
    refine xSq ?_
    refine xRg ?_
    refine xB 1 [] [(3, vs A6_0 s6.1 c6_0), (6, vs Al l cl), (7, vi (((l).length : Nat) : Int)), (8, vi ((s6.2 : Nat) : Int)), (9, vb (decide (((s6.2 : Nat) : Int) < (((l).length : Nat) : Int))))] ?_
    refine xRe ?_
    refine wpq_then ?_
    refine xSq ?_
    refine xCd (decide (((s6.2 : Nat) : Int) < (((l).length : Nat) : Int))) (fun h9 => ?_) (fun h9 => ?_)
    · have hS := cond_T h9 hS
      have h9p := of_decide_eq_true h9
      refine xSk ?_
      refine wpq_then ?_
      refine xSub [(3, vs A6_0 s6.1 c6_0), (6, vs Al l cl), (7, vi (((l).length : Nat) : Int)), (8, vi ((s6.2 : Nat) : Int))] ?_
      refine xSq ?_
      refine xBl 1 ?_
      refine xSq ?_
      refine xRg ?_
      have fl := fl.mono e8.r
      have i11 : s6.2 < (l).length := by omega
      obtain ⟨ad10, cs10, hA10, hr10, hc10⟩ := fl.at_ (get_getD (d := default) i11)
      obtain ⟨rfl⟩ := hr10
      refine xV (qIx s6.2 3 hA10 rfl i11) ?_
      refine xV (qLdP (Addr.add ad10 (s6.2 * 3)) 0 hc10) ?_
      refine xE eB ?_
      rintro _ _ _ - ⟨b12, rfl, rfl, rfl⟩
      refine xBo 1 [(3, 0)] [some ⟨b12, 70, [vy ((List.getD l s6.2 default).label), vi ((List.getD l s6.2 default).period), vi ((List.getD l s6.2 default).length)]⟩, k6_0] [(3, vs A6_0 s6.1 c6_0), (5, vp b12 0), (6, vs Al l cl), (7, vi (((l).length : Nat) : Int)), (8, vi ((s6.2 : Nat) : Int))] ?_
      refine xRe ?_
      refine wpq_then ?_
      refine xRg ?_
      refine xB 8 [(2, 0), (4, 0), (6, 0)] [(3, vs A6_0 s6.1 c6_0), (6, vs Al l cl), (7, vi (((l).length : Nat) : Int)), (8, vi ((s6.2 : Nat) : Int)), (12, vs A6_0 s6.1 c6_0), (19, Value.agg #[vy ((List.getD l s6.2 default).label), vi ((List.getD l s6.2 default).period), vi ((List.getD l s6.2 default).length)])] ?_
      refine xE (eBs (T := tyMsg) (p := g7.b) (et := 87) (xs := ([(List.getD l s6.2 default)] : List Msg)) (reps_cons (c := [vy ((List.getD l s6.2 default).label), vi ((List.getD l s6.2 default).period), vi ((List.getD l s6.2 default).length)]) (show tyMsg.rep _ _ (List.getD l s6.2 default) from rfl) reps_nil) (by simp)) ?_
      rintro _ _ _ - ⟨A13, c13, k13, rfl, rfl, rfl, h13⟩
      obtain ⟨nw14, hp14, hs14⟩ := h13.srcO (g := g7)
      obtain ⟨q15, hS⟩ := grd_T hS
      have q15p := of_decide_eq_true q15
      refine xE (eApp (T := tyMsg) (p := g7.b) (et := 87) (bytes := 24) (xs := (s6.1 : List Msg)) (ys := (([(List.getD l s6.2 default)] : List Msg) : List Msg)) 2 h6_0 rfl (fun w hs => hs14 0 w _ hs (by kernel_rfl)) hp14 (by first | omega | (simp only [List.length_cons, List.length_nil] at *; omega)) (by first | omega | (simp only [List.length_cons, List.length_nil] at *; omega))) ?_
      rintro _ _ _ - ⟨A14, c14, k14, rfl, rfl, rfl, h14⟩
      have nh14 := h14.len
      have hz14 : ((s6.1 ++ ([(List.getD l s6.2 default)] : List Msg)) : List Msg).length = (s6.1).length + (([(List.getD l s6.2 default)] : List Msg)).length := List.length_append
      refine xB 1 [] [(3, vs A14 (s6.1 ++ ([(List.getD l s6.2 default)] : List Msg)) c14), (6, vs Al l cl), (7, vi (((l).length : Nat) : Int)), (8, vi ((s6.2 : Nat) : Int))] ?_
      refine xRe ?_
      refine wpq_blockN ?_
      refine wpq_then ?_
      refine xRg ?_
      obtain ⟨q16, hS⟩ := grd_T hS
      have q16p := of_decide_eq_true q16
      refine xV (qAdd .i64 (((s6.2 : Nat) : Int)) (1) (wr64 (by omega))) ?_
      refine xB 1 [] [(3, vs A14 (s6.1 ++ ([(List.getD l s6.2 default)] : List Msg)) c14), (6, vs Al l cl), (7, vi (((l).length : Nat) : Int)), (8, vi (((s6.2 : Nat) : Int) + 1))] ?_
      refine xRe ?_
      refine wpq_thenN ?_
      refine xSel [some 2] ?_
      refine xSub [(3, vs A14 (s6.1 ++ ([(List.getD l s6.2 default)] : List Msg)) c14), (6, vs Al l cl), (7, vi (((l).length : Nat) : Int)), (8, vi (((s6.2 : Nat) : Int) + 1))] ?_
      have eS := (Option.some.inj hS).symm
      exact hN6 _ eS _ _ _ (Gh.le.refl _) ⟨A14, c14, k14, by kernel_rfl, by kernel_rfl, h14⟩
    · have hS := cond_F h9 hS
      have h9p := of_decide_eq_false h9
      refine xEx 0 ?_
      refine wpq_thenX ?_
      refine wpq_thenX ?_
      refine wpq_blockE ?_
      refine xSub [(3, vs A6_0 s6.1 c6_0)] ?_
      have eS := (Option.some.inj hS).symm
      have eS := (hD6 _ eS).symm
      exact hN1 _ eS _ _ _ e8 ⟨A6_0, c6_0, k6_0, by kernel_rfl, by kernel_rfl, h6_0⟩

def o29_L0 (l : List Slot) (s6 : (List Slot) × Nat) : Option (Ctl ((List Slot) × Nat) ((List Slot))) :=
  (cond (decide (((s6.2 : Nat) : Int) < (((l).length : Nat) : Int))) (grd (decide (((s6.1).length + (([(List.getD l s6.2 default)] : List Slot)).length) * 16 ≤ 140737488355328)) (grd (decide (((s6.2 : Nat) : Int) + 1 ≤ 9223372036854775807)) (some (Ctl.go (((s6.1 ++ ([(List.getD l s6.2 default)] : List Slot)) : List Slot), (s6.2 + 1)))))) (some (Ctl.done ((s6.1 : List Slot)))))
def o29 (l : List Slot) : Option ((List Slot)) :=
  (bindO (τ := (List Slot)) (loopO (σ := (List Slot) × Nat) (ρ := (List Slot)) fuelN (o29_L0 l) (([] : List Slot), 0)) fun t1 => (some ((t1 : List Slot))))
set_option maxRecDepth 100000 in
theorem c29 (g : Gh) (l : List Slot) (Al : Option Addr) (cl : Nat) (fl : Arr g.r tySlot Al cl l) {r : (List Slot)} (hS : o29 l = some r) :
    Ctr Try.prog 29 [vs Al l cl] g [] (fun v ψ o => ∃ (Ar_0 : Option Addr) (cr_0 : Nat) (kr_0 : Option Bk), v = vs Ar_0 r cr_0 ∧ o = [kr_0] ∧ Buf ψ tySlot 47 (.slice Ar_0 (r).length cr_0) kr_0 r) := by
  unfold o29 at hS
  refine xFn Try.f29 (Try.f29.body.getD .skip) 22 ?_
  have nfl := fl.len
  refine xSq ?_
  refine xRg ?_
  refine xB 1 [] [(0, vs Al l cl)] ?_
  refine xRe ?_
  refine wpq_then ?_
  refine xSq ?_
  refine xRg ?_
  refine xB 1 [] [(0, vs Al l cl), (3, Value.slice none 0 0)] ?_
  refine xRe ?_
  refine wpq_then ?_
  refine xSq ?_
  refine xSq ?_
  refine xRg ?_
  refine xB 3 [] [(3, Value.slice none 0 0), (6, vs Al l cl), (7, vi (((l).length : Nat) : Int)), (8, vi 0)] ?_
  refine xRe ?_
  refine wpq_then ?_
  refine xBindO hS (fun g own sl t1 => ∃ (A1_0 : Option Addr) (c1_0 : Nat) (k1_0 : Option Bk), own = [k1_0] ∧ sl = [(3, vs A1_0 t1 c1_0)] ∧ Buf g.b tySlot 47 (.slice A1_0 (t1).length c1_0) k1_0 t1) ?_ ?_
  · rintro g2 _ _ t1 e3 ⟨A1_0, c1_0, k1_0, rfl, rfl, h1_0⟩ hS
    have nh1_0 := h1_0.len
    refine wpq_then ?_
    refine xSq ?_
    refine xRg ?_
    refine xB 2 [] [(2, vs A1_0 t1 c1_0)] ?_
    refine xRe ?_
    refine wpq_then ?_
    have eS := (Option.some.inj hS).symm
    subst eS
    exact xRet [some 0] [2] e3 ⟨A1_0, c1_0, k1_0, by kernel_rfl, by kernel_rfl, h1_0⟩ (fun _ _ h => h)
  · intro uu1 hS hN1
    refine xBl 0 ?_
    refine xSel [none] ?_
    refine xSub [(3, Value.slice none 0 0), (6, vs Al l cl), (7, vi (((l).length : Nat) : Int)), (8, vi 0)] ?_
    refine xLo hS (fun g own sl s6 => ∃ (A6_0 : Option Addr) (c6_0 : Nat) (k6_0 : Option Bk), own = [k6_0] ∧ sl = [(3, vs A6_0 s6.1 c6_0), (6, vs Al l cl), (7, vi (((l).length : Nat) : Int)), (8, vi ((s6.2 : Nat) : Int))] ∧ Buf g.b tySlot 47 (.slice A6_0 (s6.1).length c6_0) k6_0 s6.1) ⟨none, 0, none, by kernel_rfl, by kernel_rfl, Buf.nil⟩ ?_
    rintro g7 _ _ s6 uu6 e8 ⟨A6_0, c6_0, k6_0, rfl, rfl, h6_0⟩ hS Qr6 hN6 hD6
    have nh6_0 := h6_0.len
    unfold o29_L0 at hS
    refine xSq ?_
    refine xRg ?_
    refine xB 1 [] [(3, vs A6_0 s6.1 c6_0), (6, vs Al l cl), (7, vi (((l).length : Nat) : Int)), (8, vi ((s6.2 : Nat) : Int)), (9, vb (decide (((s6.2 : Nat) : Int) < (((l).length : Nat) : Int))))] ?_
    refine xRe ?_
    refine wpq_then ?_
    refine xSq ?_
    refine xCd (decide (((s6.2 : Nat) : Int) < (((l).length : Nat) : Int))) (fun h9 => ?_) (fun h9 => ?_)
    · have hS := cond_T h9 hS
      have h9p := of_decide_eq_true h9
      refine xSk ?_
      refine wpq_then ?_
      refine xSub [(3, vs A6_0 s6.1 c6_0), (6, vs Al l cl), (7, vi (((l).length : Nat) : Int)), (8, vi ((s6.2 : Nat) : Int))] ?_
      refine xSq ?_
      refine xBl 1 ?_
      refine xSq ?_
      refine xRg ?_
      have fl := fl.mono e8.r
      have i11 : s6.2 < (l).length := by omega
      obtain ⟨ad10, cs10, hA10, hr10, hc10⟩ := fl.at_ (get_getD (d := default) i11)
      obtain ⟨rfl⟩ := hr10
      refine xV (qIx s6.2 2 hA10 rfl i11) ?_
      refine xV (qLdP (Addr.add ad10 (s6.2 * 2)) 0 hc10) ?_
      refine xE eB ?_
      rintro _ _ _ - ⟨b12, rfl, rfl, rfl⟩
      refine xBo 1 [(3, 0)] [some ⟨b12, 46, [vy ((List.getD l s6.2 default).label), vi ((List.getD l s6.2 default).offset)]⟩, k6_0] [(3, vs A6_0 s6.1 c6_0), (5, vp b12 0), (6, vs Al l cl), (7, vi (((l).length : Nat) : Int)), (8, vi ((s6.2 : Nat) : Int))] ?_
      refine xRe ?_
      refine wpq_then ?_
      refine xRg ?_
      refine xB 6 [(2, 0), (4, 0)] [(3, vs A6_0 s6.1 c6_0), (6, vs Al l cl), (7, vi (((l).length : Nat) : Int)), (8, vi ((s6.2 : Nat) : Int)), (12, vs A6_0 s6.1 c6_0), (17, Value.agg #[vy ((List.getD l s6.2 default).label), vi ((List.getD l s6.2 default).offset)])] ?_
      refine xE (eBs (T := tySlot) (p := g7.b) (et := 47) (xs := ([(List.getD l s6.2 default)] : List Slot)) (reps_cons (c := [vy ((List.getD l s6.2 default).label), vi ((List.getD l s6.2 default).offset)]) (show tySlot.rep _ _ (List.getD l s6.2 default) from rfl) reps_nil) (by simp)) ?_
      rintro _ _ _ - ⟨A13, c13, k13, rfl, rfl, rfl, h13⟩
      obtain ⟨nw14, hp14, hs14⟩ := h13.srcO (g := g7)
      obtain ⟨q15, hS⟩ := grd_T hS
      have q15p := of_decide_eq_true q15
      refine xE (eApp (T := tySlot) (p := g7.b) (et := 47) (bytes := 16) (xs := (s6.1 : List Slot)) (ys := (([(List.getD l s6.2 default)] : List Slot) : List Slot)) 2 h6_0 rfl (fun w hs => hs14 0 w _ hs (by kernel_rfl)) hp14 (by first | omega | (simp only [List.length_cons, List.length_nil] at *; omega)) (by first | omega | (simp only [List.length_cons, List.length_nil] at *; omega))) ?_
      rintro _ _ _ - ⟨A14, c14, k14, rfl, rfl, rfl, h14⟩
      have nh14 := h14.len
      have hz14 : ((s6.1 ++ ([(List.getD l s6.2 default)] : List Slot)) : List Slot).length = (s6.1).length + (([(List.getD l s6.2 default)] : List Slot)).length := List.length_append
      refine xB 1 [] [(3, vs A14 (s6.1 ++ ([(List.getD l s6.2 default)] : List Slot)) c14), (6, vs Al l cl), (7, vi (((l).length : Nat) : Int)), (8, vi ((s6.2 : Nat) : Int))] ?_
      refine xRe ?_
      refine wpq_blockN ?_
      refine wpq_then ?_
      refine xRg ?_
      obtain ⟨q16, hS⟩ := grd_T hS
      have q16p := of_decide_eq_true q16
      refine xV (qAdd .i64 (((s6.2 : Nat) : Int)) (1) (wr64 (by omega))) ?_
      refine xB 1 [] [(3, vs A14 (s6.1 ++ ([(List.getD l s6.2 default)] : List Slot)) c14), (6, vs Al l cl), (7, vi (((l).length : Nat) : Int)), (8, vi (((s6.2 : Nat) : Int) + 1))] ?_
      refine xRe ?_
      refine wpq_thenN ?_
      refine xSel [some 2] ?_
      refine xSub [(3, vs A14 (s6.1 ++ ([(List.getD l s6.2 default)] : List Slot)) c14), (6, vs Al l cl), (7, vi (((l).length : Nat) : Int)), (8, vi (((s6.2 : Nat) : Int) + 1))] ?_
      have eS := (Option.some.inj hS).symm
      exact hN6 _ eS _ _ _ (Gh.le.refl _) ⟨A14, c14, k14, by kernel_rfl, by kernel_rfl, h14⟩
    · have hS := cond_F h9 hS
      have h9p := of_decide_eq_false h9
      refine xEx 0 ?_
      refine wpq_thenX ?_
      refine wpq_thenX ?_
      refine wpq_blockE ?_
      refine xSub [(3, vs A6_0 s6.1 c6_0)] ?_
      have eS := (Option.some.inj hS).symm
      have eS := (hD6 _ eS).symm
      exact hN1 _ eS _ _ _ e8 ⟨A6_0, c6_0, k6_0, by kernel_rfl, by kernel_rfl, h6_0⟩

def o44_L1 (l : List Msg) (s7 : Nat) (s32 : Nat) : Option (Ctl (Nat) (Ctl (Unit) (Ctl (Unit) (Ctl (Nat) (Ctl (Unit) (Int)))))) :=
  (cond (decide (((s32 : Nat) : Int) < ((((List.take s7 l)).length : Nat) : Int))) (cond (((List.getD (List.take s7 l) s32 default).label == (List.getD l s7 default).label)) (some (Ctl.done (Ctl.done (Ctl.done (Ctl.done (Ctl.done ((7 : Int)))))))) (grd (decide (((s32 : Nat) : Int) + 1 ≤ 9223372036854775807)) (some (Ctl.go (s32 + 1))))) (some (Ctl.done (Ctl.go ()))))
def o44_L0 (l : List Msg) (s7 : Nat) : Option (Ctl (Nat) (Ctl (Unit) (Int))) :=
  (cond (decide (((s7 : Nat) : Int) < (((l).length : Nat) : Int))) (joinO (τ := Unit) (ρ := Ctl (Nat) (Ctl (Unit) (Int))) (cond ((((((((((List.getD l s7 default).period != 1) && ((List.getD l s7 default).period != 2)) && ((List.getD l s7 default).period != 4)) && ((List.getD l s7 default).period != 8)) && ((List.getD l s7 default).period != 16)) && ((List.getD l s7 default).period != 32)) || decide ((List.getD l s7 default).length < 1)) || decide ((List.getD l s7 default).length > 1000))) (some (Ctl.done (Ctl.done (Ctl.done ((1 : Int)))))) (joinO (τ := Unit) (ρ := Ctl (Unit) (Ctl (Nat) (Ctl (Unit) (Int)))) (loopO (σ := Nat) (ρ := Ctl (Unit) (Ctl (Unit) (Ctl (Nat) (Ctl (Unit) (Int))))) fuelN (o44_L1 l s7) (0)) fun t27 => (some (Ctl.go ())))) fun t11 => (grd (decide (((s7 : Nat) : Int) + 1 ≤ 9223372036854775807)) (some (Ctl.go (s7 + 1))))) (some (Ctl.done (Ctl.go ()))))
def o44 (l : List Msg) : Option (Int) :=
  (cond (decide ((((l).length : Nat) : Int) > 32)) (some ((3 : Int))) (joinO (τ := Unit) (ρ := Int) (loopO (σ := Nat) (ρ := Ctl (Unit) (Int)) fuelN (o44_L0 l) (0)) fun t2 => (some ((0 : Int)))))
set_option maxRecDepth 100000 in
theorem c44 (g : Gh) (l : List Msg) (Al : Option Addr) (cl : Nat) (fl : Arr g.r tyMsg Al cl l) {r : Int} (hS : o44 l = some r) :
    Ctr Try.prog 44 [vs Al l cl] g [] (fun v ψ o => v = vi r ∧ o = []) := by
  unfold o44 at hS
  refine xFn Try.f44 (Try.f44.body.getD .skip) 67 ?_
  have nfl := fl.len
  refine xSq ?_
  refine xRg ?_
  refine xB 1 [] [(0, vs Al l cl)] ?_
  refine xRe ?_
  refine wpq_then ?_
  refine xSq ?_
  refine xSq ?_
  refine xRg ?_
  refine xB 3 [] [(0, vs Al l cl), (10, vb (decide ((((l).length : Nat) : Int) > 32)))] ?_
  refine xRe ?_
  refine wpq_then ?_
  refine xCd (decide ((((l).length : Nat) : Int) > 32)) (fun h1 => ?_) (fun h1 => ?_)
  · have hS := cond_T h1 hS
    have h1p := of_decide_eq_true h1
    refine xSq ?_
    refine xRg ?_
    refine xB 1 [] [(2, vi 3)] ?_
    refine xRe ?_
    refine wpq_then ?_
    have eS := (Option.some.inj hS).symm
    subst eS
    exact xRet [] [2] (Gh.le.refl _) ⟨by kernel_rfl, by kernel_rfl⟩ (fun _ _ h => h)
  · have hS := cond_F h1 hS
    have h1p := of_decide_eq_false h1
    refine xSk ?_
    refine wpq_then ?_
    refine xSub [(0, vs Al l cl)] ?_
    refine xSq ?_
    refine xSq ?_
    refine xRg ?_
    refine xB 3 [] [(0, vs Al l cl), (11, vs Al l cl), (12, vi (((l).length : Nat) : Int)), (13, vi 0)] ?_
    refine xRe ?_
    refine wpq_then ?_
    refine xJoinO hS (fun g own sl t2 => own = [] ∧ sl = []) ?_ ?_
    · rintro g3 _ _ t2 e4 ⟨rfl, rfl⟩ hS
      refine wpq_then ?_
      refine xSq ?_
      refine xRg ?_
      refine xB 1 [] [(2, vi 0)] ?_
      refine xRe ?_
      refine wpq_then ?_
      have eS := (Option.some.inj hS).symm
      subst eS
      exact xRet [] [2] e4 ⟨by kernel_rfl, by kernel_rfl⟩ (fun _ _ h => h)
    · intro uu2 hS hN2 hD2
      refine xBl 0 ?_
      refine xSub [(0, vs Al l cl), (11, vs Al l cl), (12, vi (((l).length : Nat) : Int)), (13, vi 0)] ?_
      refine xLo hS (fun g own sl s7 => own = [] ∧ sl = [(0, vs Al l cl), (11, vs Al l cl), (12, vi (((l).length : Nat) : Int)), (13, vi ((s7 : Nat) : Int))]) ⟨by kernel_rfl, by kernel_rfl⟩ ?_
      rintro g8 _ _ s7 uu7 e9 ⟨rfl, rfl⟩ hS Qr7 hN7 hD7
      unfold o44_L0 at hS
      refine xSq ?_
      refine xRg ?_
      refine xB 1 [] [(0, vs Al l cl), (11, vs Al l cl), (12, vi (((l).length : Nat) : Int)), (13, vi ((s7 : Nat) : Int)), (14, vb (decide (((s7 : Nat) : Int) < (((l).length : Nat) : Int))))] ?_
      refine xRe ?_
      refine wpq_then ?_
      refine xSq ?_
      refine xCd (decide (((s7 : Nat) : Int) < (((l).length : Nat) : Int))) (fun h10 => ?_) (fun h10 => ?_)
      · have hS := cond_T h10 hS
        have h10p := of_decide_eq_true h10
        refine xSk ?_
        refine wpq_then ?_
        refine xSub [(0, vs Al l cl), (11, vs Al l cl), (12, vi (((l).length : Nat) : Int)), (13, vi ((s7 : Nat) : Int))] ?_
        refine xSq ?_
        refine xJoinO hS (fun g own sl t11 => own = [] ∧ sl = [(0, vs Al l cl), (11, vs Al l cl), (12, vi (((l).length : Nat) : Int)), (13, vi ((s7 : Nat) : Int))]) ?_ ?_
        · rintro g12 _ _ t11 e13 ⟨rfl, rfl⟩ hS
          refine wpq_then ?_
          refine xRg ?_
          obtain ⟨q14, hS⟩ := grd_T hS
          have q14p := of_decide_eq_true q14
          refine xV (qAdd .i64 (((s7 : Nat) : Int)) (1) (wr64 (by omega))) ?_
          refine xB 1 [] [(0, vs Al l cl), (11, vs Al l cl), (12, vi (((l).length : Nat) : Int)), (13, vi (((s7 : Nat) : Int) + 1))] ?_
          refine xRe ?_
          refine wpq_thenN ?_
          refine xSub [(0, vs Al l cl), (11, vs Al l cl), (12, vi (((l).length : Nat) : Int)), (13, vi (((s7 : Nat) : Int) + 1))] ?_
          have eS := (Option.some.inj hS).symm
          exact hN7 _ eS _ _ _ e13 ⟨by kernel_rfl, by kernel_rfl⟩
        · intro uu11 hS hN11 hD11
          refine xBl 1 ?_
          refine xSq ?_
          refine xRg ?_
          have fl := fl.mono e9.r
          have i16 : s7 < (l).length := by omega
          obtain ⟨ad15, cs15, hA15, hr15, hc15⟩ := fl.at_ (get_getD (d := default) i16)
          obtain ⟨rfl⟩ := hr15
          refine xB 1 [] [(0, vs Al l cl), (11, vs Al l cl), (12, vi (((l).length : Nat) : Int)), (13, vi ((s7 : Nat) : Int)), (15, vi ((s7 : Nat) : Int))] ?_
          refine xV (qIx s7 3 hA15 rfl i16) ?_
          refine xV (qLdP (Addr.add ad15 (s7 * 3)) 0 hc15) ?_
          refine xE eB ?_
          rintro _ _ _ - ⟨b17, rfl, rfl, rfl⟩
          refine xBo 2 [(5, 0)] [some ⟨b17, 87, [vy ((List.getD l s7 default).label), vi ((List.getD l s7 default).period), vi ((List.getD l s7 default).length)]⟩] [(0, vs Al l cl), (3, vi ((s7 : Nat) : Int)), (4, vp b17 0), (11, vs Al l cl), (12, vi (((l).length : Nat) : Int)), (13, vi ((s7 : Nat) : Int))] ?_
          refine xRe ?_
          refine wpq_then ?_
          refine xSq ?_
          refine xRg ?_
          refine xB 3 [(1, 0)] [(0, vs Al l cl), (3, vi ((s7 : Nat) : Int)), (4, vp b17 0), (5, vi ((List.getD l s7 default).period)), (11, vs Al l cl), (12, vi (((l).length : Nat) : Int)), (13, vi ((s7 : Nat) : Int))] ?_
          refine xRe ?_
          refine wpq_then ?_
          refine xSq ?_
          refine xSq ?_
          refine xRg ?_
          refine xB 3 [] [(0, vs Al l cl), (3, vi ((s7 : Nat) : Int)), (4, vp b17 0), (5, vi ((List.getD l s7 default).period)), (11, vs Al l cl), (12, vi (((l).length : Nat) : Int)), (13, vi ((s7 : Nat) : Int)), (22, vb ((List.getD l s7 default).period != 1))] ?_
          refine wpr_grp 6 [(0, vs Al l cl), (3, vi ((s7 : Nat) : Int)), (4, vp b17 0), (5, vi ((List.getD l s7 default).period)), (11, vs Al l cl), (12, vi (((l).length : Nat) : Int)), (13, vi ((s7 : Nat) : Int)), (25, vb (((List.getD l s7 default).period != 1) && ((List.getD l s7 default).period != 2)))] (fun hk2 => ?_) ?_
          · refine wpq_split 22 (b := ((List.getD l s7 default).period != 1)) (by kernel_rfl) (fun q18 => ?_) (fun q18 => ?_)
            · have q18p : ¬ ((List.getD l s7 default).period = 1) := ne_of_bne_ q18
              refine xB 3 [] [(0, vs Al l cl), (3, vi ((s7 : Nat) : Int)), (4, vp b17 0), (5, vi ((List.getD l s7 default).period)), (11, vs Al l cl), (12, vi (((l).length : Nat) : Int)), (13, vi ((s7 : Nat) : Int)), (25, vb ((List.getD l s7 default).period != 2))] ?_
              refine wpq_re 25 (v := vb ((List.getD l s7 default).period != 2)) (Value.bool ((((List.getD l s7 default).period != 1) && ((List.getD l s7 default).period != 2)))) (by kernel_rfl) (re_and1 q18) ?_
              exact wpq_sub _ (by kernel_rfl) hk2
            · have q18p : (List.getD l s7 default).period = 1 := eq_of_bne_false_ q18
              refine xB 3 [] [(0, vs Al l cl), (3, vi ((s7 : Nat) : Int)), (4, vp b17 0), (5, vi ((List.getD l s7 default).period)), (11, vs Al l cl), (12, vi (((l).length : Nat) : Int)), (13, vi ((s7 : Nat) : Int)), (25, vb false)] ?_
              refine wpq_re 25 (v := vb false) (Value.bool ((((List.getD l s7 default).period != 1) && ((List.getD l s7 default).period != 2)))) (by kernel_rfl) (re_and0 q18) ?_
              exact wpq_sub _ (by kernel_rfl) hk2
          · refine xB 1 [] [(0, vs Al l cl), (3, vi ((s7 : Nat) : Int)), (4, vp b17 0), (5, vi ((List.getD l s7 default).period)), (11, vs Al l cl), (12, vi (((l).length : Nat) : Int)), (13, vi ((s7 : Nat) : Int)), (26, vb (((List.getD l s7 default).period != 1) && ((List.getD l s7 default).period != 2)))] ?_
            refine wpr_grp 10 [(0, vs Al l cl), (3, vi ((s7 : Nat) : Int)), (4, vp b17 0), (5, vi ((List.getD l s7 default).period)), (11, vs Al l cl), (12, vi (((l).length : Nat) : Int)), (13, vi ((s7 : Nat) : Int)), (29, vb ((((List.getD l s7 default).period != 1) && ((List.getD l s7 default).period != 2)) && ((List.getD l s7 default).period != 4)))] (fun hk6 => ?_) ?_
            · refine wpq_split 26 (b := (((List.getD l s7 default).period != 1) && ((List.getD l s7 default).period != 2))) (by kernel_rfl) (fun q19 => ?_) (fun q19 => ?_)
              · have q19l := (and_true_ q19).1
                have q19r := (and_true_ q19).2
                have q19lp : ¬ ((List.getD l s7 default).period = 1) := ne_of_bne_ q19l
                have q19rp : ¬ ((List.getD l s7 default).period = 2) := ne_of_bne_ q19r
                refine xB 3 [] [(0, vs Al l cl), (3, vi ((s7 : Nat) : Int)), (4, vp b17 0), (5, vi ((List.getD l s7 default).period)), (11, vs Al l cl), (12, vi (((l).length : Nat) : Int)), (13, vi ((s7 : Nat) : Int)), (29, vb ((List.getD l s7 default).period != 4))] ?_
                refine wpq_re 29 (v := vb ((List.getD l s7 default).period != 4)) (Value.bool (((((List.getD l s7 default).period != 1) && ((List.getD l s7 default).period != 2)) && ((List.getD l s7 default).period != 4)))) (by kernel_rfl) (re_and1 q19) ?_
                exact wpq_sub _ (by kernel_rfl) hk6
              · refine xB 3 [] [(0, vs Al l cl), (3, vi ((s7 : Nat) : Int)), (4, vp b17 0), (5, vi ((List.getD l s7 default).period)), (11, vs Al l cl), (12, vi (((l).length : Nat) : Int)), (13, vi ((s7 : Nat) : Int)), (29, vb false)] ?_
                refine wpq_re 29 (v := vb false) (Value.bool (((((List.getD l s7 default).period != 1) && ((List.getD l s7 default).period != 2)) && ((List.getD l s7 default).period != 4)))) (by kernel_rfl) (re_and0 q19) ?_
                exact wpq_sub _ (by kernel_rfl) hk6
            · refine xB 1 [] [(0, vs Al l cl), (3, vi ((s7 : Nat) : Int)), (4, vp b17 0), (5, vi ((List.getD l s7 default).period)), (11, vs Al l cl), (12, vi (((l).length : Nat) : Int)), (13, vi ((s7 : Nat) : Int)), (30, vb ((((List.getD l s7 default).period != 1) && ((List.getD l s7 default).period != 2)) && ((List.getD l s7 default).period != 4)))] ?_
              refine wpr_grp 14 [(0, vs Al l cl), (3, vi ((s7 : Nat) : Int)), (4, vp b17 0), (5, vi ((List.getD l s7 default).period)), (11, vs Al l cl), (12, vi (((l).length : Nat) : Int)), (13, vi ((s7 : Nat) : Int)), (33, vb (((((List.getD l s7 default).period != 1) && ((List.getD l s7 default).period != 2)) && ((List.getD l s7 default).period != 4)) && ((List.getD l s7 default).period != 8)))] (fun hk10 => ?_) ?_
              · refine wpq_split 30 (b := ((((List.getD l s7 default).period != 1) && ((List.getD l s7 default).period != 2)) && ((List.getD l s7 default).period != 4))) (by kernel_rfl) (fun q20 => ?_) (fun q20 => ?_)
                · have q20l := (and_true_ q20).1
                  have q20r := (and_true_ q20).2
                  have q20ll := (and_true_ q20l).1
                  have q20lr := (and_true_ q20l).2
                  have q20llp : ¬ ((List.getD l s7 default).period = 1) := ne_of_bne_ q20ll
                  have q20lrp : ¬ ((List.getD l s7 default).period = 2) := ne_of_bne_ q20lr
                  have q20rp : ¬ ((List.getD l s7 default).period = 4) := ne_of_bne_ q20r
                  refine xB 3 [] [(0, vs Al l cl), (3, vi ((s7 : Nat) : Int)), (4, vp b17 0), (5, vi ((List.getD l s7 default).period)), (11, vs Al l cl), (12, vi (((l).length : Nat) : Int)), (13, vi ((s7 : Nat) : Int)), (33, vb ((List.getD l s7 default).period != 8))] ?_
                  refine wpq_re 33 (v := vb ((List.getD l s7 default).period != 8)) (Value.bool ((((((List.getD l s7 default).period != 1) && ((List.getD l s7 default).period != 2)) && ((List.getD l s7 default).period != 4)) && ((List.getD l s7 default).period != 8)))) (by kernel_rfl) (re_and1 q20) ?_
                  exact wpq_sub _ (by kernel_rfl) hk10
                · refine xB 3 [] [(0, vs Al l cl), (3, vi ((s7 : Nat) : Int)), (4, vp b17 0), (5, vi ((List.getD l s7 default).period)), (11, vs Al l cl), (12, vi (((l).length : Nat) : Int)), (13, vi ((s7 : Nat) : Int)), (33, vb false)] ?_
                  refine wpq_re 33 (v := vb false) (Value.bool ((((((List.getD l s7 default).period != 1) && ((List.getD l s7 default).period != 2)) && ((List.getD l s7 default).period != 4)) && ((List.getD l s7 default).period != 8)))) (by kernel_rfl) (re_and0 q20) ?_
                  exact wpq_sub _ (by kernel_rfl) hk10
              · refine xB 1 [] [(0, vs Al l cl), (3, vi ((s7 : Nat) : Int)), (4, vp b17 0), (5, vi ((List.getD l s7 default).period)), (11, vs Al l cl), (12, vi (((l).length : Nat) : Int)), (13, vi ((s7 : Nat) : Int)), (34, vb (((((List.getD l s7 default).period != 1) && ((List.getD l s7 default).period != 2)) && ((List.getD l s7 default).period != 4)) && ((List.getD l s7 default).period != 8)))] ?_
                refine wpr_grp 18 [(0, vs Al l cl), (3, vi ((s7 : Nat) : Int)), (4, vp b17 0), (5, vi ((List.getD l s7 default).period)), (11, vs Al l cl), (12, vi (((l).length : Nat) : Int)), (13, vi ((s7 : Nat) : Int)), (37, vb ((((((List.getD l s7 default).period != 1) && ((List.getD l s7 default).period != 2)) && ((List.getD l s7 default).period != 4)) && ((List.getD l s7 default).period != 8)) && ((List.getD l s7 default).period != 16)))] (fun hk14 => ?_) ?_
                · refine wpq_split 34 (b := (((((List.getD l s7 default).period != 1) && ((List.getD l s7 default).period != 2)) && ((List.getD l s7 default).period != 4)) && ((List.getD l s7 default).period != 8))) (by kernel_rfl) (fun q21 => ?_) (fun q21 => ?_)
                  · have q21l := (and_true_ q21).1
                    have q21r := (and_true_ q21).2
                    have q21ll := (and_true_ q21l).1
                    have q21lr := (and_true_ q21l).2
                    have q21lll := (and_true_ q21ll).1
                    have q21llr := (and_true_ q21ll).2
                    have q21lllp : ¬ ((List.getD l s7 default).period = 1) := ne_of_bne_ q21lll
                    have q21llrp : ¬ ((List.getD l s7 default).period = 2) := ne_of_bne_ q21llr
                    have q21lrp : ¬ ((List.getD l s7 default).period = 4) := ne_of_bne_ q21lr
                    have q21rp : ¬ ((List.getD l s7 default).period = 8) := ne_of_bne_ q21r
                    refine xB 3 [] [(0, vs Al l cl), (3, vi ((s7 : Nat) : Int)), (4, vp b17 0), (5, vi ((List.getD l s7 default).period)), (11, vs Al l cl), (12, vi (((l).length : Nat) : Int)), (13, vi ((s7 : Nat) : Int)), (37, vb ((List.getD l s7 default).period != 16))] ?_
                    refine wpq_re 37 (v := vb ((List.getD l s7 default).period != 16)) (Value.bool (((((((List.getD l s7 default).period != 1) && ((List.getD l s7 default).period != 2)) && ((List.getD l s7 default).period != 4)) && ((List.getD l s7 default).period != 8)) && ((List.getD l s7 default).period != 16)))) (by kernel_rfl) (re_and1 q21) ?_
                    exact wpq_sub _ (by kernel_rfl) hk14
                  · refine xB 3 [] [(0, vs Al l cl), (3, vi ((s7 : Nat) : Int)), (4, vp b17 0), (5, vi ((List.getD l s7 default).period)), (11, vs Al l cl), (12, vi (((l).length : Nat) : Int)), (13, vi ((s7 : Nat) : Int)), (37, vb false)] ?_
                    refine wpq_re 37 (v := vb false) (Value.bool (((((((List.getD l s7 default).period != 1) && ((List.getD l s7 default).period != 2)) && ((List.getD l s7 default).period != 4)) && ((List.getD l s7 default).period != 8)) && ((List.getD l s7 default).period != 16)))) (by kernel_rfl) (re_and0 q21) ?_
                    exact wpq_sub _ (by kernel_rfl) hk14
                · refine xB 1 [] [(0, vs Al l cl), (3, vi ((s7 : Nat) : Int)), (4, vp b17 0), (5, vi ((List.getD l s7 default).period)), (11, vs Al l cl), (12, vi (((l).length : Nat) : Int)), (13, vi ((s7 : Nat) : Int)), (38, vb ((((((List.getD l s7 default).period != 1) && ((List.getD l s7 default).period != 2)) && ((List.getD l s7 default).period != 4)) && ((List.getD l s7 default).period != 8)) && ((List.getD l s7 default).period != 16)))] ?_
                  refine wpr_grp 22 [(0, vs Al l cl), (3, vi ((s7 : Nat) : Int)), (4, vp b17 0), (11, vs Al l cl), (12, vi (((l).length : Nat) : Int)), (13, vi ((s7 : Nat) : Int)), (41, vb (((((((List.getD l s7 default).period != 1) && ((List.getD l s7 default).period != 2)) && ((List.getD l s7 default).period != 4)) && ((List.getD l s7 default).period != 8)) && ((List.getD l s7 default).period != 16)) && ((List.getD l s7 default).period != 32)))] (fun hk18 => ?_) ?_
                  · refine wpq_split 38 (b := ((((((List.getD l s7 default).period != 1) && ((List.getD l s7 default).period != 2)) && ((List.getD l s7 default).period != 4)) && ((List.getD l s7 default).period != 8)) && ((List.getD l s7 default).period != 16))) (by kernel_rfl) (fun q22 => ?_) (fun q22 => ?_)
                    · have q22l := (and_true_ q22).1
                      have q22r := (and_true_ q22).2
                      have q22ll := (and_true_ q22l).1
                      have q22lr := (and_true_ q22l).2
                      have q22lll := (and_true_ q22ll).1
                      have q22llr := (and_true_ q22ll).2
                      have q22llll := (and_true_ q22lll).1
                      have q22lllr := (and_true_ q22lll).2
                      have q22llllp : ¬ ((List.getD l s7 default).period = 1) := ne_of_bne_ q22llll
                      have q22lllrp : ¬ ((List.getD l s7 default).period = 2) := ne_of_bne_ q22lllr
                      have q22llrp : ¬ ((List.getD l s7 default).period = 4) := ne_of_bne_ q22llr
                      have q22lrp : ¬ ((List.getD l s7 default).period = 8) := ne_of_bne_ q22lr
                      have q22rp : ¬ ((List.getD l s7 default).period = 16) := ne_of_bne_ q22r
                      refine xB 3 [] [(0, vs Al l cl), (3, vi ((s7 : Nat) : Int)), (4, vp b17 0), (11, vs Al l cl), (12, vi (((l).length : Nat) : Int)), (13, vi ((s7 : Nat) : Int)), (41, vb ((List.getD l s7 default).period != 32))] ?_
                      refine wpq_re 41 (v := vb ((List.getD l s7 default).period != 32)) (Value.bool ((((((((List.getD l s7 default).period != 1) && ((List.getD l s7 default).period != 2)) && ((List.getD l s7 default).period != 4)) && ((List.getD l s7 default).period != 8)) && ((List.getD l s7 default).period != 16)) && ((List.getD l s7 default).period != 32)))) (by kernel_rfl) (re_and1 q22) ?_
                      exact wpq_sub _ (by kernel_rfl) hk18
                    · refine xB 3 [] [(0, vs Al l cl), (3, vi ((s7 : Nat) : Int)), (4, vp b17 0), (11, vs Al l cl), (12, vi (((l).length : Nat) : Int)), (13, vi ((s7 : Nat) : Int)), (41, vb false)] ?_
                      refine wpq_re 41 (v := vb false) (Value.bool ((((((((List.getD l s7 default).period != 1) && ((List.getD l s7 default).period != 2)) && ((List.getD l s7 default).period != 4)) && ((List.getD l s7 default).period != 8)) && ((List.getD l s7 default).period != 16)) && ((List.getD l s7 default).period != 32)))) (by kernel_rfl) (re_and0 q22) ?_
                      exact wpq_sub _ (by kernel_rfl) hk18
                  · refine xB 1 [] [(0, vs Al l cl), (3, vi ((s7 : Nat) : Int)), (4, vp b17 0), (11, vs Al l cl), (12, vi (((l).length : Nat) : Int)), (13, vi ((s7 : Nat) : Int)), (42, vb (((((((List.getD l s7 default).period != 1) && ((List.getD l s7 default).period != 2)) && ((List.getD l s7 default).period != 4)) && ((List.getD l s7 default).period != 8)) && ((List.getD l s7 default).period != 16)) && ((List.getD l s7 default).period != 32)))] ?_
                    refine wpr_grp 27 [(0, vs Al l cl), (3, vi ((s7 : Nat) : Int)), (4, vp b17 0), (11, vs Al l cl), (12, vi (((l).length : Nat) : Int)), (13, vi ((s7 : Nat) : Int)), (46, vb ((((((((List.getD l s7 default).period != 1) && ((List.getD l s7 default).period != 2)) && ((List.getD l s7 default).period != 4)) && ((List.getD l s7 default).period != 8)) && ((List.getD l s7 default).period != 16)) && ((List.getD l s7 default).period != 32)) || decide ((List.getD l s7 default).length < 1)))] (fun hk22 => ?_) ?_
                    · refine wpq_split 42 (b := (((((((List.getD l s7 default).period != 1) && ((List.getD l s7 default).period != 2)) && ((List.getD l s7 default).period != 4)) && ((List.getD l s7 default).period != 8)) && ((List.getD l s7 default).period != 16)) && ((List.getD l s7 default).period != 32))) (by kernel_rfl) (fun q23 => ?_) (fun q23 => ?_)
                      · have q23l := (and_true_ q23).1
                        have q23r := (and_true_ q23).2
                        have q23ll := (and_true_ q23l).1
                        have q23lr := (and_true_ q23l).2
                        have q23lll := (and_true_ q23ll).1
                        have q23llr := (and_true_ q23ll).2
                        have q23llll := (and_true_ q23lll).1
                        have q23lllr := (and_true_ q23lll).2
                        have q23lllll := (and_true_ q23llll).1
                        have q23llllr := (and_true_ q23llll).2
                        have q23lllllp : ¬ ((List.getD l s7 default).period = 1) := ne_of_bne_ q23lllll
                        have q23llllrp : ¬ ((List.getD l s7 default).period = 2) := ne_of_bne_ q23llllr
                        have q23lllrp : ¬ ((List.getD l s7 default).period = 4) := ne_of_bne_ q23lllr
                        have q23llrp : ¬ ((List.getD l s7 default).period = 8) := ne_of_bne_ q23llr
                        have q23lrp : ¬ ((List.getD l s7 default).period = 16) := ne_of_bne_ q23lr
                        have q23rp : ¬ ((List.getD l s7 default).period = 32) := ne_of_bne_ q23r
                        refine xB 4 [] [(0, vs Al l cl), (3, vi ((s7 : Nat) : Int)), (4, vp b17 0), (11, vs Al l cl), (12, vi (((l).length : Nat) : Int)), (13, vi ((s7 : Nat) : Int)), (46, vb true)] ?_
                        refine wpq_re 46 (v := vb true) (Value.bool (((((((((List.getD l s7 default).period != 1) && ((List.getD l s7 default).period != 2)) && ((List.getD l s7 default).period != 4)) && ((List.getD l s7 default).period != 8)) && ((List.getD l s7 default).period != 16)) && ((List.getD l s7 default).period != 32)) || decide ((List.getD l s7 default).length < 1)))) (by kernel_rfl) (re_or1 q23) ?_
                        exact wpq_sub _ (by kernel_rfl) hk22
                      · refine xB 4 [(24, 0)] [(0, vs Al l cl), (3, vi ((s7 : Nat) : Int)), (4, vp b17 0), (11, vs Al l cl), (12, vi (((l).length : Nat) : Int)), (13, vi ((s7 : Nat) : Int)), (46, vb (decide ((List.getD l s7 default).length < 1)))] ?_
                        refine wpq_re 46 (v := vb (decide ((List.getD l s7 default).length < 1))) (Value.bool (((((((((List.getD l s7 default).period != 1) && ((List.getD l s7 default).period != 2)) && ((List.getD l s7 default).period != 4)) && ((List.getD l s7 default).period != 8)) && ((List.getD l s7 default).period != 16)) && ((List.getD l s7 default).period != 32)) || decide ((List.getD l s7 default).length < 1)))) (by kernel_rfl) (re_or0 q23) ?_
                        exact wpq_sub _ (by kernel_rfl) hk22
                    · refine xB 1 [] [(0, vs Al l cl), (3, vi ((s7 : Nat) : Int)), (4, vp b17 0), (11, vs Al l cl), (12, vi (((l).length : Nat) : Int)), (13, vi ((s7 : Nat) : Int)), (47, vb ((((((((List.getD l s7 default).period != 1) && ((List.getD l s7 default).period != 2)) && ((List.getD l s7 default).period != 4)) && ((List.getD l s7 default).period != 8)) && ((List.getD l s7 default).period != 16)) && ((List.getD l s7 default).period != 32)) || decide ((List.getD l s7 default).length < 1)))] ?_
                      refine wpr_grp 32 [(0, vs Al l cl), (3, vi ((s7 : Nat) : Int)), (4, vp b17 0), (11, vs Al l cl), (12, vi (((l).length : Nat) : Int)), (13, vi ((s7 : Nat) : Int)), (51, vb (((((((((List.getD l s7 default).period != 1) && ((List.getD l s7 default).period != 2)) && ((List.getD l s7 default).period != 4)) && ((List.getD l s7 default).period != 8)) && ((List.getD l s7 default).period != 16)) && ((List.getD l s7 default).period != 32)) || decide ((List.getD l s7 default).length < 1)) || decide ((List.getD l s7 default).length > 1000)))] (fun hk27 => ?_) ?_
                      · refine wpq_split 47 (b := ((((((((List.getD l s7 default).period != 1) && ((List.getD l s7 default).period != 2)) && ((List.getD l s7 default).period != 4)) && ((List.getD l s7 default).period != 8)) && ((List.getD l s7 default).period != 16)) && ((List.getD l s7 default).period != 32)) || decide ((List.getD l s7 default).length < 1))) (by kernel_rfl) (fun q24 => ?_) (fun q24 => ?_)
                        · refine xB 4 [] [(0, vs Al l cl), (3, vi ((s7 : Nat) : Int)), (4, vp b17 0), (11, vs Al l cl), (12, vi (((l).length : Nat) : Int)), (13, vi ((s7 : Nat) : Int)), (51, vb true)] ?_
                          refine wpq_re 51 (v := vb true) (Value.bool ((((((((((List.getD l s7 default).period != 1) && ((List.getD l s7 default).period != 2)) && ((List.getD l s7 default).period != 4)) && ((List.getD l s7 default).period != 8)) && ((List.getD l s7 default).period != 16)) && ((List.getD l s7 default).period != 32)) || decide ((List.getD l s7 default).length < 1)) || decide ((List.getD l s7 default).length > 1000)))) (by kernel_rfl) (re_or1 q24) ?_
                          exact wpq_sub _ (by kernel_rfl) hk27
                        · have q24l := (or_false_ q24).1
                          have q24r := (or_false_ q24).2
                          have q24rp := of_decide_eq_false q24r
                          refine xB 4 [(29, 0)] [(0, vs Al l cl), (3, vi ((s7 : Nat) : Int)), (4, vp b17 0), (11, vs Al l cl), (12, vi (((l).length : Nat) : Int)), (13, vi ((s7 : Nat) : Int)), (51, vb (decide ((List.getD l s7 default).length > 1000)))] ?_
                          refine wpq_re 51 (v := vb (decide ((List.getD l s7 default).length > 1000))) (Value.bool ((((((((((List.getD l s7 default).period != 1) && ((List.getD l s7 default).period != 2)) && ((List.getD l s7 default).period != 4)) && ((List.getD l s7 default).period != 8)) && ((List.getD l s7 default).period != 16)) && ((List.getD l s7 default).period != 32)) || decide ((List.getD l s7 default).length < 1)) || decide ((List.getD l s7 default).length > 1000)))) (by kernel_rfl) (re_or0 q24) ?_
                          exact wpq_sub _ (by kernel_rfl) hk27
                      · refine xRe ?_
                        refine wpq_then ?_
                        refine xCd ((((((((((List.getD l s7 default).period != 1) && ((List.getD l s7 default).period != 2)) && ((List.getD l s7 default).period != 4)) && ((List.getD l s7 default).period != 8)) && ((List.getD l s7 default).period != 16)) && ((List.getD l s7 default).period != 32)) || decide ((List.getD l s7 default).length < 1)) || decide ((List.getD l s7 default).length > 1000))) (fun h25 => ?_) (fun h25 => ?_)
                        · have hS := cond_T h25 hS
                          refine xSq ?_
                          refine xRg ?_
                          refine xB 1 [] [(2, vi 1)] ?_
                          refine xRe ?_
                          refine wpq_then ?_
                          have eS := (Option.some.inj hS).symm
                          have eS := (hD11 _ eS).symm
                          have eS := (hD7 _ eS).symm
                          have eS := (hD2 _ eS).symm
                          subst eS
                          exact xRet [] [2] e9 ⟨by kernel_rfl, by kernel_rfl⟩ (fun _ _ h => h)
                        · have hS := cond_F h25 hS
                          have h25l := (or_false_ h25).1
                          have h25r := (or_false_ h25).2
                          have h25ll := (or_false_ h25l).1
                          have h25lr := (or_false_ h25l).2
                          have h25lrp := of_decide_eq_false h25lr
                          have h25rp := of_decide_eq_false h25r
                          refine xSk ?_
                          refine wpq_then ?_
                          refine xSub [(0, vs Al l cl), (3, vi ((s7 : Nat) : Int)), (4, vp b17 0), (11, vs Al l cl), (12, vi (((l).length : Nat) : Int)), (13, vi ((s7 : Nat) : Int))] ?_
                          refine xSq ?_
                          refine xRg ?_
                          have ncapf26 := fl.cap
                          have f26 : Arr g8.r tyMsg (offA Al cl 0 3) (cl - 0) (List.take s7 l) := fl.cut_to s7 (by omega)
                          have nf26 := f26.len
                          have hlf26 : s7 - 0 = ((List.take s7 l)).length := by simp only [List.length_take, List.length_drop] <;> omega
                          have hvf26 : ((((List.take s7 l)).length : Nat) : Int) = ((s7 : Nat) : Int) - 0 := by omega
                          refine xB 2 [] [(0, vs Al l cl), (4, vp b17 0), (11, vs Al l cl), (12, vi (((l).length : Nat) : Int)), (13, vi ((s7 : Nat) : Int)), (52, vs Al l cl), (53, vi ((s7 : Nat) : Int))] ?_
                          refine xV (qSl (m := 3) (A := Al) (len := (l).length) (c := cl) 0 s7 none (some ((s7 : Nat) : Int)) ((List.take s7 l)).length rfl rfl (by omega) (by omega) hlf26) ?_
                          refine xB 2 [] [(0, vs Al l cl), (4, vp b17 0), (11, vs Al l cl), (12, vi (((l).length : Nat) : Int)), (13, vi ((s7 : Nat) : Int)), (54, vs (offA Al cl 0 3) (List.take s7 l) (cl - 0)), (55, vi ((((List.take s7 l)).length : Nat) : Int)), (56, vi 0)] ?_
                          refine xRe ?_
                          refine wpq_then ?_
                          refine xJoinO hS (fun g own sl t27 => own = [] ∧ sl = [(0, vs Al l cl), (11, vs Al l cl), (12, vi (((l).length : Nat) : Int)), (13, vi ((s7 : Nat) : Int))]) ?_ ?_
                          · rintro g28 _ _ t27 e29 ⟨rfl, rfl⟩ hS
                            refine wpq_blockN ?_
                            refine xSub [(0, vs Al l cl), (11, vs Al l cl), (12, vi (((l).length : Nat) : Int)), (13, vi ((s7 : Nat) : Int))] ?_
                            have eS := (Option.some.inj hS).symm
                            exact hN11 _ eS _ _ _ e29 ⟨by kernel_rfl, by kernel_rfl⟩
                          · intro uu27 hS hN27 hD27
                            refine xBl 2 ?_
                            refine xSub [(0, vs Al l cl), (4, vp b17 0), (11, vs Al l cl), (12, vi (((l).length : Nat) : Int)), (13, vi ((s7 : Nat) : Int)), (54, vs (offA Al cl 0 3) (List.take s7 l) (cl - 0)), (55, vi ((((List.take s7 l)).length : Nat) : Int)), (56, vi 0)] ?_
                            refine xLo hS (fun g own sl s32 => own = [some ⟨b17, 87, [vy ((List.getD l s7 default).label), vi ((List.getD l s7 default).period), vi ((List.getD l s7 default).length)]⟩] ∧ sl = [(0, vs Al l cl), (4, vp b17 0), (11, vs Al l cl), (12, vi (((l).length : Nat) : Int)), (13, vi ((s7 : Nat) : Int)), (54, vs (offA Al cl 0 3) (List.take s7 l) (cl - 0)), (55, vi ((((List.take s7 l)).length : Nat) : Int)), (56, vi ((s32 : Nat) : Int))]) ⟨by kernel_rfl, by kernel_rfl⟩ ?_
                            rintro g33 _ _ s32 uu32 e34 ⟨rfl, rfl⟩ hS Qr32 hN32 hD32
                            unfold o44_L1 at hS
                            refine xSq ?_
                            refine xRg ?_
                            refine xB 1 [] [(0, vs Al l cl), (4, vp b17 0), (11, vs Al l cl), (12, vi (((l).length : Nat) : Int)), (13, vi ((s7 : Nat) : Int)), (54, vs (offA Al cl 0 3) (List.take s7 l) (cl - 0)), (55, vi ((((List.take s7 l)).length : Nat) : Int)), (56, vi ((s32 : Nat) : Int)), (57, vb (decide (((s32 : Nat) : Int) < ((((List.take s7 l)).length : Nat) : Int))))] ?_
                            refine xRe ?_
                            refine wpq_then ?_
                            refine xSq ?_
                            refine xCd (decide (((s32 : Nat) : Int) < ((((List.take s7 l)).length : Nat) : Int))) (fun h35 => ?_) (fun h35 => ?_)
                            · have hS := cond_T h35 hS
                              have h35p := of_decide_eq_true h35
                              refine xSk ?_
                              refine wpq_then ?_
                              refine xSub [(0, vs Al l cl), (4, vp b17 0), (11, vs Al l cl), (12, vi (((l).length : Nat) : Int)), (13, vi ((s7 : Nat) : Int)), (54, vs (offA Al cl 0 3) (List.take s7 l) (cl - 0)), (55, vi ((((List.take s7 l)).length : Nat) : Int)), (56, vi ((s32 : Nat) : Int))] ?_
                              refine xSq ?_
                              refine xBl 3 ?_
                              refine xSq ?_
                              refine xRg ?_
                              have f26 := f26.mono e34.r
                              have i37 : s32 < ((List.take s7 l)).length := by omega
                              obtain ⟨ad36, cs36, hA36, hr36, hc36⟩ := f26.at_ (get_getD (d := default) i37)
                              obtain ⟨rfl⟩ := hr36
                              refine xV (qIx s32 3 hA36 rfl i37) ?_
                              refine xV (qLdP (Addr.add ad36 (s32 * 3)) 0 hc36) ?_
                              refine xE eB ?_
                              rintro _ _ _ - ⟨b38, rfl, rfl, rfl⟩
                              refine xBo 1 [(3, 0)] [some ⟨b38, 87, [vy ((List.getD (List.take s7 l) s32 default).label), vi ((List.getD (List.take s7 l) s32 default).period), vi ((List.getD (List.take s7 l) s32 default).length)]⟩, some ⟨b17, 87, [vy ((List.getD l s7 default).label), vi ((List.getD l s7 default).period), vi ((List.getD l s7 default).length)]⟩] [(0, vs Al l cl), (4, vp b17 0), (7, vp b38 0), (11, vs Al l cl), (12, vi (((l).length : Nat) : Int)), (13, vi ((s7 : Nat) : Int)), (54, vs (offA Al cl 0 3) (List.take s7 l) (cl - 0)), (55, vi ((((List.take s7 l)).length : Nat) : Int)), (56, vi ((s32 : Nat) : Int))] ?_
                              refine xRe ?_
                              refine wpq_then ?_
                              refine xSq ?_
                              refine xRg ?_
                              refine xB 5 [(1, 0), (3, 1)] [(0, vs Al l cl), (4, vp b17 0), (11, vs Al l cl), (12, vi (((l).length : Nat) : Int)), (13, vi ((s7 : Nat) : Int)), (54, vs (offA Al cl 0 3) (List.take s7 l) (cl - 0)), (55, vi ((((List.take s7 l)).length : Nat) : Int)), (56, vi ((s32 : Nat) : Int)), (64, vb ((List.getD (List.take s7 l) s32 default).label == (List.getD l s7 default).label))] ?_
                              refine xRe ?_
                              refine wpq_then ?_
                              refine xCd (((List.getD (List.take s7 l) s32 default).label == (List.getD l s7 default).label)) (fun h39 => ?_) (fun h39 => ?_)
                              · have hS := cond_T h39 hS
                                have h39p : (List.getD (List.take s7 l) s32 default).label = (List.getD l s7 default).label := eq_of_beq h39
                                refine xSq ?_
                                refine xRg ?_
                                refine xB 1 [] [(2, vi 7)] ?_
                                refine xRe ?_
                                refine wpq_then ?_
                                have eS := (Option.some.inj hS).symm
                                have eS := (hD32 _ eS).symm
                                have eS := (hD27 _ eS).symm
                                have eS := (hD11 _ eS).symm
                                have eS := (hD7 _ eS).symm
                                have eS := (hD2 _ eS).symm
                                subst eS
                                exact xRet [] [2] (e9.trans e34) ⟨by kernel_rfl, by kernel_rfl⟩ (fun _ _ h => h)
                              · have hS := cond_F h39 hS
                                have h39p : ¬ ((List.getD (List.take s7 l) s32 default).label = (List.getD l s7 default).label) := ne_of_beq_false_ h39
                                refine xSk ?_
                                refine wpq_blockN ?_
                                refine wpq_then ?_
                                refine xSub [(0, vs Al l cl), (4, vp b17 0), (11, vs Al l cl), (12, vi (((l).length : Nat) : Int)), (13, vi ((s7 : Nat) : Int)), (54, vs (offA Al cl 0 3) (List.take s7 l) (cl - 0)), (55, vi ((((List.take s7 l)).length : Nat) : Int)), (56, vi ((s32 : Nat) : Int))] ?_
                                refine xRg ?_
                                obtain ⟨q40, hS⟩ := grd_T hS
                                have q40p := of_decide_eq_true q40
                                refine xV (qAdd .i64 (((s32 : Nat) : Int)) (1) (wr64 (by omega))) ?_
                                refine xB 1 [] [(0, vs Al l cl), (4, vp b17 0), (11, vs Al l cl), (12, vi (((l).length : Nat) : Int)), (13, vi ((s7 : Nat) : Int)), (54, vs (offA Al cl 0 3) (List.take s7 l) (cl - 0)), (55, vi ((((List.take s7 l)).length : Nat) : Int)), (56, vi (((s32 : Nat) : Int) + 1))] ?_
                                refine xRe ?_
                                refine wpq_thenN ?_
                                refine xSel [some 1] ?_
                                refine xSub [(0, vs Al l cl), (4, vp b17 0), (11, vs Al l cl), (12, vi (((l).length : Nat) : Int)), (13, vi ((s7 : Nat) : Int)), (54, vs (offA Al cl 0 3) (List.take s7 l) (cl - 0)), (55, vi ((((List.take s7 l)).length : Nat) : Int)), (56, vi (((s32 : Nat) : Int) + 1))] ?_
                                have eS := (Option.some.inj hS).symm
                                exact hN32 _ eS _ _ _ (Gh.le.refl _) ⟨by kernel_rfl, by kernel_rfl⟩
                            · have hS := cond_F h35 hS
                              have h35p := of_decide_eq_false h35
                              refine xEx 2 ?_
                              refine wpq_thenX ?_
                              refine wpq_thenX ?_
                              refine wpq_blockE ?_
                              refine xSel [] ?_
                              refine xSub [(0, vs Al l cl), (11, vs Al l cl), (12, vi (((l).length : Nat) : Int)), (13, vi ((s7 : Nat) : Int))] ?_
                              have eS := (Option.some.inj hS).symm
                              have eS := (hD32 _ eS).symm
                              exact hN27 _ eS _ _ _ e34 ⟨by kernel_rfl, by kernel_rfl⟩
      · have hS := cond_F h10 hS
        have h10p := of_decide_eq_false h10
        refine xEx 0 ?_
        refine wpq_thenX ?_
        refine wpq_thenX ?_
        refine wpq_blockE ?_
        refine xSub [] ?_
        have eS := (Option.some.inj hS).symm
        have eS := (hD7 _ eS).symm
        exact hN2 _ eS _ _ _ e9 ⟨by kernel_rfl, by kernel_rfl⟩

def o28_L1 (l : List Msg) (s15 : (List Int) × Nat) (s39 : (List Int) × Int) : Option (Ctl ((List Int) × Int) ((List Int))) :=
  (cond (decide (s39.2 < 32)) (grd (decide (0 ≤ s39.2 ∧ s39.2 < (((s39.1).length : Nat) : Int))) (grd (decide (0 ≤ s39.2 ∧ s39.2 < (((s39.1).length : Nat) : Int))) (grd (decide (-9223372036854775808 ≤ s39.2 + (List.getD l s15.2 default).period ∧ s39.2 + (List.getD l s15.2 default).period ≤ 9223372036854775807)) (some (Ctl.go (((List.set s39.1 (s39.2).toNat ((IntKind.i64.wrap ((List.getD s39.1 (s39.2).toNat 0) + (List.getD l s15.2 default).length)) : Int)) : List Int), (s39.2 + (List.getD l s15.2 default).period))))))) (some (Ctl.done ((s39.1 : List Int)))))
def o28_L0 (l : List Msg) (slots : List Slot) (s15 : (List Int) × Nat) : Option (Ctl ((List Int) × Nat) (Ctl ((List Int)) ((List Int) × Int))) :=
  (cond (decide (((s15.2 : Nat) : Int) < (((l).length : Nat) : Int))) (joinO (τ := (List Int)) (ρ := Ctl ((List Int) × Nat) (Ctl ((List Int)) ((List Int) × Int))) (grd (decide (s15.2 < (slots).length)) (bindO (τ := Bool) (cond (decide ((List.getD slots s15.2 default).offset < 0)) (some (true)) (grd (decide (s15.2 < (slots).length)) (some (decide ((List.getD slots s15.2 default).offset ≥ (List.getD l s15.2 default).period))))) fun t28 => (cond (t28) (some (Ctl.done (Ctl.done (Ctl.done ((([] : List Int), (2 : Int))))))) (grd (decide (s15.2 < (slots).length)) (bindO (τ := (List Int)) (loopO (σ := (List Int) × Int) (ρ := (List Int)) fuelN (o28_L1 l s15) ((s15.1 : List Int), (List.getD slots s15.2 default).offset)) fun t34 => (some (Ctl.go (t34 : List Int)))))))) fun t19 => (grd (decide (((s15.2 : Nat) : Int) + 1 ≤ 9223372036854775807)) (some (Ctl.go ((t19 : List Int), (s15.2 + 1)))))) (some (Ctl.done (Ctl.go (s15.1 : List Int)))))
def o28_L2 (l : List Msg) (slots : List Slot) (s56 : Nat) : Option (Ctl (Nat) (Ctl (Unit) ((List Int) × Int))) :=
  (cond (decide (((s56 : Nat) : Int) < (((l).length : Nat) : Int))) (grd (decide (s56 < (slots).length)) (cond (((List.getD slots s56 default).label != (List.getD l s56 default).label)) (some (Ctl.done (Ctl.done ((([] : List Int), (1 : Int)))))) (grd (decide (((s56 : Nat) : Int) + 1 ≤ 9223372036854775807)) (some (Ctl.go (s56 + 1)))))) (some (Ctl.done (Ctl.go ()))))
def o28 (l : List Msg) (slots : List Slot) : Option ((List Int) × Int) :=
  (bindO (τ := Int) (o44 (l : List Msg)) fun y1 => (cond ((y1 != 0)) (some ((([] : List Int), (y1 : Int)))) (cond (((((l).length : Nat) : Int) != (((slots).length : Nat) : Int))) (some ((([] : List Int), (1 : Int)))) (joinO (τ := Unit) (ρ := (List Int) × Int) (loopO (σ := Nat) (ρ := Ctl (Unit) ((List Int) × Int)) fuelN (o28_L2 l slots) (0)) fun t6 => (joinO (τ := (List Int)) (ρ := (List Int) × Int) (loopO (σ := (List Int) × Nat) (ρ := Ctl ((List Int)) ((List Int) × Int)) fuelN (o28_L0 l slots) (((List.replicate 32 (0 : Int)) : List Int), 0)) fun t10 => (some (((t10 : List Int), (0 : Int)))))))))
set_option maxRecDepth 100000 in
theorem c28 (g : Gh) (l : List Msg) (Al : Option Addr) (cl : Nat) (slots : List Slot) (Aslots : Option Addr) (cslots : Nat) (fl : Arr g.r tyMsg Al cl l) (fslots : Arr g.r tySlot Aslots cslots slots) {r : (List Int) × Int} (hS : o28 l slots = some r) :
    Ctr Try.prog 28 [vs Al l cl, vs Aslots slots cslots] g [] (fun v ψ o => ∃ (Ar_0 : Option Addr) (cr_0 : Nat) (kr_0 : Option Bk), v = Value.tuple #[vs Ar_0 r.1 cr_0, vi r.2] ∧ o = [kr_0] ∧ Buf ψ (tyI .i64) 3 (.slice Ar_0 (r.1).length cr_0) kr_0 r.1) := by
  unfold o28 at hS
  refine xFn Try.f28 (Try.f28.body.getD .skip) 86 ?_
  have nfl := fl.len
  have nfslots := fslots.len
  refine xSq ?_
  refine xRg ?_
  refine xB 2 [] [(0, vs Al l cl), (1, vs Aslots slots cslots)] ?_
  refine xRe ?_
  refine wpq_then ?_
  refine xSq ?_
  refine xRg ?_
  refine xB 1 [] [(0, vs Al l cl), (1, vs Aslots slots cslots), (13, vs Al l cl)] ?_
  obtain ⟨y1, hy1, hS⟩ := bindO_T hS
  refine xE (eC 0 (fun g' lr eb ln => c44 g' (l : List Msg) Al cl (fl.mono lr) hy1)) ?_
  rintro _ g2 _ e3 ⟨_, rfl, rfl, rfl⟩
  refine xB 1 [] [(0, vs Al l cl), (1, vs Aslots slots cslots), (6, vi y1)] ?_
  refine xRe ?_
  refine wpq_then ?_
  refine xSq ?_
  refine xSq ?_
  refine xRg ?_
  refine xB 2 [] [(0, vs Al l cl), (1, vs Aslots slots cslots), (6, vi y1), (16, vb (y1 != 0))] ?_
  refine xRe ?_
  refine wpq_then ?_
  refine xCd ((y1 != 0)) (fun h4 => ?_) (fun h4 => ?_)
  · have hS := cond_T h4 hS
    have h4p : ¬ (y1 = 0) := ne_of_bne_ h4
    refine xSq ?_
    refine xRg ?_
    refine xB 3 [] [(4, Value.slice none 0 0), (5, vi y1)] ?_
    refine xRe ?_
    refine wpq_then ?_
    have eS := (Option.some.inj hS).symm
    subst eS
    exact xRet [none] [4, 5] e3 ⟨none, 0, none, by kernel_rfl, by kernel_rfl, Buf.nil⟩ (fun _ _ h => h)
  · have hS := cond_F h4 hS
    have h4p : y1 = 0 := eq_of_bne_false_ h4
    refine xSk ?_
    refine wpq_then ?_
    refine xSub [(0, vs Al l cl), (1, vs Aslots slots cslots)] ?_
    refine xSq ?_
    refine xSq ?_
    refine xRg ?_
    refine xB 5 [] [(0, vs Al l cl), (1, vs Aslots slots cslots), (22, vb ((((l).length : Nat) : Int) != (((slots).length : Nat) : Int)))] ?_
    refine xRe ?_
    refine wpq_then ?_
    refine xCd (((((l).length : Nat) : Int) != (((slots).length : Nat) : Int))) (fun h5 => ?_) (fun h5 => ?_)
    · have hS := cond_T h5 hS
      have h5p : ¬ ((((l).length : Nat) : Int) = (((slots).length : Nat) : Int)) := ne_of_bne_ h5
      refine xSq ?_
      refine xRg ?_
      refine xB 2 [] [(4, Value.slice none 0 0), (5, vi 1)] ?_
      refine xRe ?_
      refine wpq_then ?_
      have eS := (Option.some.inj hS).symm
      subst eS
      exact xRet [none] [4, 5] e3 ⟨none, 0, none, by kernel_rfl, by kernel_rfl, Buf.nil⟩ (fun _ _ h => h)
    · have hS := cond_F h5 hS
      have h5p : (((l).length : Nat) : Int) = (((slots).length : Nat) : Int) := eq_of_bne_false_ h5
      refine xSk ?_
      refine wpq_then ?_
      refine xSub [(0, vs Al l cl), (1, vs Aslots slots cslots)] ?_
      refine xSq ?_
      refine xSq ?_
      refine xRg ?_
      refine xB 3 [] [(0, vs Al l cl), (1, vs Aslots slots cslots), (23, vs Al l cl), (24, vi (((l).length : Nat) : Int)), (25, vi 0)] ?_
      refine xRe ?_
      refine wpq_then ?_
      refine xJoinO hS (fun g own sl t6 => own = [] ∧ sl = [(0, vs Al l cl), (1, vs Aslots slots cslots)]) ?_ ?_
      · rintro g7 _ _ t6 e8 ⟨rfl, rfl⟩ hS
        refine wpq_then ?_
        refine xSq ?_
        refine xRg ?_
        refine xE (eMk (T := (tyI .i64)) (p := g7.b) (et := 3) (bytes := 8) (z := (0 : Int)) 32 rfl (show (tyI .i64).rep _ _ _ from rfl) (by omega) (by omega)) ?_
        rintro _ _ _ - ⟨A9, c9, k9, rfl, rfl, rfl, h9⟩
        have nh9 := h9.len
        have hlh9 : ((List.replicate 32 (0 : Int))).length = 32 := List.length_replicate
        refine xB 1 [] [(0, vs Al l cl), (1, vs Aslots slots cslots), (9, vs A9 (List.replicate 32 (0 : Int)) c9)] ?_
        refine xRe ?_
        refine wpq_then ?_
        refine xSq ?_
        refine xSq ?_
        refine xRg ?_
        refine xB 3 [] [(1, vs Aslots slots cslots), (9, vs A9 (List.replicate 32 (0 : Int)) c9), (40, vs Al l cl), (41, vi (((l).length : Nat) : Int)), (42, vi 0)] ?_
        refine xRe ?_
        refine wpq_then ?_
        refine xJoinO hS (fun g own sl t10 => ∃ (k10_0 : Option Bk), own = [k10_0] ∧ sl = [(9, vs A9 t10 c9)] ∧ Buf g.b (tyI .i64) 3 (.slice A9 (t10).length c9) k10_0 t10) ?_ ?_
        · rintro g11 _ _ t10 e12 ⟨k10_0, rfl, rfl, h10_0⟩ hS
          have nh10_0 := h10_0.len
          refine wpq_then ?_
          refine xSq ?_
          refine xRg ?_
          refine xB 3 [] [(4, vs A9 t10 c9), (5, vi 0)] ?_
          refine xRe ?_
          refine wpq_then ?_
          have eS := (Option.some.inj hS).symm
          subst eS
          exact xRet [some 0] [4, 5] (e3.trans (e8.trans e12)) ⟨A9, c9, k10_0, by kernel_rfl, by kernel_rfl, h10_0⟩ (fun _ _ h => h)
        · intro uu10 hS hN10 hD10
          refine xBl 2 ?_
          refine xSub [(1, vs Aslots slots cslots), (9, vs A9 (List.replicate 32 (0 : Int)) c9), (40, vs Al l cl), (41, vi (((l).length : Nat) : Int)), (42, vi 0)] ?_
          refine xLo hS (fun g own sl s15 => ∃ (k15_0 : Option Bk), own = [k15_0] ∧ sl = [(1, vs Aslots slots cslots), (9, vs A9 s15.1 c9), (40, vs Al l cl), (41, vi (((l).length : Nat) : Int)), (42, vi ((s15.2 : Nat) : Int))] ∧ Buf g.b (tyI .i64) 3 (.slice A9 (s15.1).length c9) k15_0 s15.1) ⟨k9, by kernel_rfl, by kernel_rfl, h9⟩ ?_
          rintro g16 _ _ s15 uu15 e17 ⟨k15_0, rfl, rfl, h15_0⟩ hS Qr15 hN15 hD15
          have nh15_0 := h15_0.len
          unfold o28_L0 at hS
          refine xSq ?_
          refine xRg ?_
          refine xB 1 [] [(1, vs Aslots slots cslots), (9, vs A9 s15.1 c9), (40, vs Al l cl), (41, vi (((l).length : Nat) : Int)), (42, vi ((s15.2 : Nat) : Int)), (43, vb (decide (((s15.2 : Nat) : Int) < (((l).length : Nat) : Int))))] ?_
          refine xRe ?_
          refine wpq_then ?_
          refine xSq ?_
          refine xCd (decide (((s15.2 : Nat) : Int) < (((l).length : Nat) : Int))) (fun h18 => ?_) (fun h18 => ?_)
          · have hS := cond_T h18 hS
            have h18p := of_decide_eq_true h18
            refine xSk ?_
            refine wpq_then ?_
            refine xSub [(1, vs Aslots slots cslots), (9, vs A9 s15.1 c9), (40, vs Al l cl), (41, vi (((l).length : Nat) : Int)), (42, vi ((s15.2 : Nat) : Int))] ?_
            refine xSq ?_
            refine xJoinO hS (fun g own sl t19 => ∃ (k19_0 : Option Bk), own = [k19_0] ∧ sl = [(1, vs Aslots slots cslots), (9, vs A9 t19 c9), (40, vs Al l cl), (41, vi (((l).length : Nat) : Int)), (42, vi ((s15.2 : Nat) : Int))] ∧ Buf g.b (tyI .i64) 3 (.slice A9 (t19).length c9) k19_0 t19) ?_ ?_
            · rintro g20 _ _ t19 e21 ⟨k19_0, rfl, rfl, h19_0⟩ hS
              have nh19_0 := h19_0.len
              refine wpq_then ?_
              refine xRg ?_
              obtain ⟨q22, hS⟩ := grd_T hS
              have q22p := of_decide_eq_true q22
              refine xV (qAdd .i64 (((s15.2 : Nat) : Int)) (1) (wr64 (by omega))) ?_
              refine xB 1 [] [(1, vs Aslots slots cslots), (9, vs A9 t19 c9), (40, vs Al l cl), (41, vi (((l).length : Nat) : Int)), (42, vi (((s15.2 : Nat) : Int) + 1))] ?_
              refine xRe ?_
              refine wpq_thenN ?_
              refine xSub [(1, vs Aslots slots cslots), (9, vs A9 t19 c9), (40, vs Al l cl), (41, vi (((l).length : Nat) : Int)), (42, vi (((s15.2 : Nat) : Int) + 1))] ?_
              have eS := (Option.some.inj hS).symm
              exact hN15 _ eS _ _ _ e21 ⟨k19_0, by kernel_rfl, by kernel_rfl, h19_0⟩
            · intro uu19 hS hN19 hD19
              refine xBl 3 ?_
              refine xSq ?_
              refine xRg ?_
              have fl := fl.mono (e3.trans (e8.trans e17)).r
              have i24 : s15.2 < (l).length := by omega
              obtain ⟨ad23, cs23, hA23, hr23, hc23⟩ := fl.at_ (get_getD (d := default) i24)
              obtain ⟨rfl⟩ := hr23
              refine xB 1 [] [(1, vs Aslots slots cslots), (9, vs A9 s15.1 c9), (40, vs Al l cl), (41, vi (((l).length : Nat) : Int)), (42, vi ((s15.2 : Nat) : Int)), (44, vi ((s15.2 : Nat) : Int))] ?_
              refine xV (qIx s15.2 3 hA23 rfl i24) ?_
              refine xV (qLdP (Addr.add ad23 (s15.2 * 3)) 0 hc23) ?_
              refine xE eB ?_
              rintro _ _ _ - ⟨b25, rfl, rfl, rfl⟩
              refine xBo 2 [(5, 0)] [some ⟨b25, 87, [vy ((List.getD l s15.2 default).label), vi ((List.getD l s15.2 default).period), vi ((List.getD l s15.2 default).length)]⟩, k15_0] [(1, vs Aslots slots cslots), (9, vs A9 s15.1 c9), (10, vi ((s15.2 : Nat) : Int)), (11, vp b25 0), (40, vs Al l cl), (41, vi (((l).length : Nat) : Int)), (42, vi ((s15.2 : Nat) : Int))] ?_
              refine xRe ?_
              refine wpq_then ?_
              refine xSq ?_
              refine xSq ?_
              refine xDr 0 [4, 11, 13] [] [some ⟨b25, 87, [vy ((List.getD l s15.2 default).label), vi ((List.getD l s15.2 default).period), vi ((List.getD l s15.2 default).length)]⟩] 16 (fun RG => ?_) (fun _ _ _ _ _ h => h)
              have fslots := fslots.mono (e3.trans (e8.trans e17)).r
              obtain ⟨q27, hS⟩ := grd_T hS
              have q27p := of_decide_eq_true q27
              obtain ⟨ad26, cs26, hA26, hr26, hc26⟩ := fslots.at_ (get_getD (d := default) q27p)
              obtain ⟨rfl⟩ := hr26
              refine xT 14 [0, 1] [] [some 0] [(1, vs Aslots slots cslots), (9, vs A9 s15.1 c9), (10, vi ((s15.2 : Nat) : Int)), (11, vp b25 0), (40, vs Al l cl), (41, vi (((l).length : Nat) : Int)), (42, vi ((s15.2 : Nat) : Int)), (47, vs Aslots slots cslots), (48, vi ((s15.2 : Nat) : Int))] RG (Psi.le.refl _) ?_
              refine xTp 2 RG (fun _ => (qIx s15.2 2 hA26 rfl q27p)) ?_
              refine xT 12 [3] [] [some 0] [(1, vs Aslots slots cslots), (9, vs A9 s15.1 c9), (10, vi ((s15.2 : Nat) : Int)), (11, vp b25 0), (40, vs Al l cl), (41, vi (((l).length : Nat) : Int)), (42, vi ((s15.2 : Nat) : Int)), (50, Value.pointer (some (Addr.add (Addr.add ad26 (s15.2 * 2)) 1)))] RG (Psi.le.refl _) ?_
              refine xTv 4 [some 0] RG (Psi.le.refl _) (qLdP (Addr.add ad26 (s15.2 * 2)) 1 hc26) ?_
              refine xT 9 [5, 6] [] [some 0] [(1, vs Aslots slots cslots), (9, vs A9 s15.1 c9), (10, vi ((s15.2 : Nat) : Int)), (11, vp b25 0), (40, vs Al l cl), (41, vi (((l).length : Nat) : Int)), (42, vi ((s15.2 : Nat) : Int)), (53, vb (decide ((List.getD slots s15.2 default).offset < 0)))] RG (Psi.le.refl _) ?_
              refine xGJoA hS 0 [true, true, true, true, true, true, true, true, true, true, true, true, true, true, true, true] (fun g own sl t28 => own = [some ⟨b25, 87, [vy ((List.getD l s15.2 default).label), vi ((List.getD l s15.2 default).period), vi ((List.getD l s15.2 default).length)]⟩, k15_0] ∧ sl = [(1, vs Aslots slots cslots), (9, vs A9 s15.1 c9), (10, vi ((s15.2 : Nat) : Int)), (11, vp b25 0), (40, vs Al l cl), (41, vi (((l).length : Nat) : Int)), (42, vi ((s15.2 : Nat) : Int)), (62, vb t28)]) ?_ ?_
              · rintro g29 _ _ t28 e30 ⟨rfl, rfl⟩ hS
                refine xAe (lds := [4, 11, 13]) ?_
                refine wpq_then ?_
                refine xCd (t28) (fun h31 => ?_) (fun h31 => ?_)
                · have hS := cond_T h31 hS
                  refine xSq ?_
                  refine xRg ?_
                  refine xB 2 [] [(4, Value.slice none 0 0), (5, vi 2)] ?_
                  refine xRe ?_
                  refine wpq_then ?_
                  have eS := (Option.some.inj hS).symm
                  have eS := (hD19 _ eS).symm
                  have eS := (hD15 _ eS).symm
                  have eS := (hD10 _ eS).symm
                  subst eS
                  exact xRet [none] [4, 5] (e3.trans (e8.trans (e17.trans e30))) ⟨none, 0, none, by kernel_rfl, by kernel_rfl, Buf.nil⟩ (fun _ _ h => h)
                · have hS := cond_F h31 hS
                  refine xSk ?_
                  refine wpq_then ?_
                  refine xSub [(1, vs Aslots slots cslots), (9, vs A9 s15.1 c9), (10, vi ((s15.2 : Nat) : Int)), (11, vp b25 0), (40, vs Al l cl), (41, vi (((l).length : Nat) : Int)), (42, vi ((s15.2 : Nat) : Int))] ?_
                  refine xSq ?_
                  refine xRg ?_
                  have fslots := fslots.mono e30.r
                  obtain ⟨q33, hS⟩ := grd_T hS
                  have q33p := of_decide_eq_true q33
                  obtain ⟨ad32, cs32, hA32, hr32, hc32⟩ := fslots.at_ (get_getD (d := default) q33p)
                  obtain ⟨rfl⟩ := hr32
                  refine xB 2 [] [(1, vs Aslots slots cslots), (9, vs A9 s15.1 c9), (11, vp b25 0), (40, vs Al l cl), (41, vi (((l).length : Nat) : Int)), (42, vi ((s15.2 : Nat) : Int)), (63, vs Aslots slots cslots), (64, vi ((s15.2 : Nat) : Int))] ?_
                  refine xV (qIx s15.2 2 hA32 rfl q33p) ?_
                  refine xB 1 [] [(1, vs Aslots slots cslots), (9, vs A9 s15.1 c9), (11, vp b25 0), (40, vs Al l cl), (41, vi (((l).length : Nat) : Int)), (42, vi ((s15.2 : Nat) : Int)), (66, Value.pointer (some (Addr.add (Addr.add ad32 (s15.2 * 2)) 1)))] ?_
                  refine xV (qLdP (Addr.add ad32 (s15.2 * 2)) 1 hc32) ?_
                  refine xB 1 [] [(1, vs Aslots slots cslots), (9, vs A9 s15.1 c9), (11, vp b25 0), (12, vi ((List.getD slots s15.2 default).offset)), (40, vs Al l cl), (41, vi (((l).length : Nat) : Int)), (42, vi ((s15.2 : Nat) : Int))] ?_
                  refine xRe ?_
                  refine wpq_then ?_
                  refine xBindO hS (fun g own sl t34 => ∃ (k34_0 : Option Bk), own = [k34_0] ∧ sl = [(1, vs Aslots slots cslots), (9, vs A9 t34 c9), (40, vs Al l cl), (41, vi (((l).length : Nat) : Int)), (42, vi ((s15.2 : Nat) : Int))] ∧ Buf g.b (tyI .i64) 3 (.slice A9 (t34).length c9) k34_0 t34) ?_ ?_
                  · rintro g35 _ _ t34 e36 ⟨k34_0, rfl, rfl, h34_0⟩ hS
                    have nh34_0 := h34_0.len
                    refine wpq_blockN ?_
                    refine xSub [(1, vs Aslots slots cslots), (9, vs A9 t34 c9), (40, vs Al l cl), (41, vi (((l).length : Nat) : Int)), (42, vi ((s15.2 : Nat) : Int))] ?_
                    have eS := (Option.some.inj hS).symm
                    exact hN19 _ eS _ _ _ (e30.trans e36) ⟨k34_0, by kernel_rfl, by kernel_rfl, h34_0⟩
                  · intro uu34 hS hN34
                    refine xBl 4 ?_
                    have h15_0 := h15_0.mono e30.b
                    refine xSub [(1, vs Aslots slots cslots), (9, vs A9 s15.1 c9), (11, vp b25 0), (12, vi ((List.getD slots s15.2 default).offset)), (40, vs Al l cl), (41, vi (((l).length : Nat) : Int)), (42, vi ((s15.2 : Nat) : Int))] ?_
                    refine xLo hS (fun g own sl s39 => ∃ (k39_0 : Option Bk), own = [some ⟨b25, 87, [vy ((List.getD l s15.2 default).label), vi ((List.getD l s15.2 default).period), vi ((List.getD l s15.2 default).length)]⟩, k39_0] ∧ sl = [(1, vs Aslots slots cslots), (9, vs A9 s39.1 c9), (11, vp b25 0), (12, vi s39.2), (40, vs Al l cl), (41, vi (((l).length : Nat) : Int)), (42, vi ((s15.2 : Nat) : Int))] ∧ Buf g.b (tyI .i64) 3 (.slice A9 (s39.1).length c9) k39_0 s39.1) ⟨k15_0, by kernel_rfl, by kernel_rfl, h15_0⟩ ?_
                    rintro g40 _ _ s39 uu39 e41 ⟨k39_0, rfl, rfl, h39_0⟩ hS Qr39 hN39 hD39
                    have nh39_0 := h39_0.len
                    unfold o28_L1 at hS
                    refine xSq ?_
                    refine xSq ?_
                    refine xRg ?_
                    refine xB 2 [] [(1, vs Aslots slots cslots), (9, vs A9 s39.1 c9), (11, vp b25 0), (12, vi s39.2), (40, vs Al l cl), (41, vi (((l).length : Nat) : Int)), (42, vi ((s15.2 : Nat) : Int)), (69, vb (decide (s39.2 < 32)))] ?_
                    refine xRe ?_
                    refine wpq_then ?_
                    refine xCd (decide (s39.2 < 32)) (fun h42 => ?_) (fun h42 => ?_)
                    · have hS := cond_T h42 hS
                      have h42p := of_decide_eq_true h42
                      refine xSk ?_
                      refine wpq_then ?_
                      refine xSub [(1, vs Aslots slots cslots), (9, vs A9 s39.1 c9), (11, vp b25 0), (12, vi s39.2), (40, vs Al l cl), (41, vi (((l).length : Nat) : Int)), (42, vi ((s15.2 : Nat) : Int))] ?_
                      refine xSq ?_
                      refine xBl 5 ?_
                      refine xDr 0 [5, 7] [10, 8, 9] [some ⟨b25, 87, [vy ((List.getD l s15.2 default).label), vi ((List.getD l s15.2 default).period), vi ((List.getD l s15.2 default).length)]⟩, k39_0] 11 (fun RG => ?_) (fun _ _ _ _ _ h => h)
                      obtain ⟨q44, hS⟩ := grd_T hS
                      have q44p := of_decide_eq_true q44
                      have i45 : (s39.2).toNat < (s39.1).length := by omega
                      obtain ⟨kc43, cs43, hA43, hk43, hr43, hw43⟩ := h39_0.open_ i45 0
                      obtain ⟨kb43, rfl⟩ : ∃ z, z = kc43 := ⟨_, rfl⟩
                      subst hk43
                      have hr43 : cs43 = [vi (List.getD s39.1 (s39.2).toNat 0)] := hr43
                      subst hr43
                      refine xT 7 [0, 1, 2, 3] [] [some 0, some 1] [(1, vs Aslots slots cslots), (9, vs A9 s39.1 c9), (11, vp b25 0), (12, vi s39.2), (40, vs Al l cl), (41, vi (((l).length : Nat) : Int)), (42, vi ((s15.2 : Nat) : Int)), (74, vs A9 s39.1 c9), (75, vi s39.2), (76, vs A9 s39.1 c9), (77, vi s39.2)] RG (Psi.le.refl _) ?_
                      refine xTp 4 RG (fun _ => (qIxB (s39.2).toNat 1 kb43.g hA43 (show (s39.2 : Int) = _ from by omega) i45)) ?_
                      refine xTv 5 [some 0, some 1] RG (Psi.le.refl _) (qLdB (s39.2).toNat 1 0 1 hw43) ?_
                      have z144 := i64_in_ ((List.getD s39.1 (s39.2).toNat 0) + (List.getD l s15.2 default).length)
                      obtain ⟨q47, hS⟩ := grd_T hS
                      have q47p := of_decide_eq_true q47
                      have i48 : (s39.2).toNat < (s39.1).length := by omega
                      obtain ⟨kc46, cs46, hA46, hk46, hr46, hw46⟩ := h39_0.open_ i48 0
                      cases hk46
                      have hr46 : cs46 = [vi (List.getD s39.1 (s39.2).toNat 0)] := hr46
                      subst hr46
                      refine xT 2 [6, 7, 8] [(7, 0)] [some 0, some 1] [(1, vs Aslots slots cslots), (9, vs A9 s39.1 c9), (11, vp b25 0), (12, vi s39.2), (40, vs Al l cl), (41, vi (((l).length : Nat) : Int)), (42, vi ((s15.2 : Nat) : Int)), (74, vs A9 s39.1 c9), (75, vi s39.2), (82, vi (IntKind.i64.wrap ((List.getD s39.1 (s39.2).toNat 0) + (List.getD l s15.2 default).length)))] RG (Psi.le.refl _) ?_
                      refine xTp 9 RG (fun _ => (qIxB (s39.2).toNat 1 kb43.g hA46 (show (s39.2 : Int) = _ from by omega) i48)) ?_
                      refine xO1 (lds := [5, 7]) 10 ?_
                      refine xId (lds := [5, 7]) (Psi.le.refl _) (eStB (s39.2).toNat 1 0 1 [vi (IntKind.i64.wrap ((List.getD s39.1 (s39.2).toNat 0) + (List.getD l s15.2 default).length))] h39_0 rfl hw46 (show (tyI .i64).rep _ _ _ from rfl) i48) ?_
                      rintro _ _ _ - ⟨k49, rfl, rfl, h49⟩
                      refine kf ?_
                      have hz49 : (s39.1).length = ((List.set s39.1 (s39.2).toNat ((IntKind.i64.wrap ((List.getD s39.1 (s39.2).toNat 0) + (List.getD l s15.2 default).length)) : Int))).length := by simp
                      refine xAe (lds := [5, 7]) ?_
                      refine wpq_blockN ?_
                      refine wpq_then ?_
                      refine xSub [(1, vs Aslots slots cslots), (9, Value.slice A9 ((s39.1).length) c9), (11, vp b25 0), (12, vi s39.2), (40, vs Al l cl), (41, vi (((l).length : Nat) : Int)), (42, vi ((s15.2 : Nat) : Int))] ?_
                      refine xRg ?_
                      obtain ⟨q50, hS⟩ := grd_T hS
                      have q50p := of_decide_eq_true q50
                      refine xB 3 [(2, 0)] [(1, vs Aslots slots cslots), (9, Value.slice A9 ((s39.1).length) c9), (11, vp b25 0), (12, vi s39.2), (40, vs Al l cl), (41, vi (((l).length : Nat) : Int)), (42, vi ((s15.2 : Nat) : Int)), (70, vi s39.2), (72, vi ((List.getD l s15.2 default).period))] ?_
                      refine xV (qAdd .i64 (s39.2) ((List.getD l s15.2 default).period) (wr64 (by omega))) ?_
                      refine xB 1 [] [(1, vs Aslots slots cslots), (9, Value.slice A9 ((s39.1).length) c9), (11, vp b25 0), (12, vi (s39.2 + (List.getD l s15.2 default).period)), (40, vs Al l cl), (41, vi (((l).length : Nat) : Int)), (42, vi ((s15.2 : Nat) : Int))] ?_
                      refine xRe ?_
                      refine wpq_thenN ?_
                      refine wpq_re 9 (v := Value.slice A9 ((s39.1).length) c9) (vs A9 (List.set s39.1 (s39.2).toNat ((IntKind.i64.wrap ((List.getD s39.1 (s39.2).toNat 0) + (List.getD l s15.2 default).length)) : Int)) c9) (by kernel_rfl) (congrArg (fun z => Value.slice A9 z c9) hz49) ?_
                      have h49 := Buf.re h49 hz49 (rfl : (List.set s39.1 (s39.2).toNat ((IntKind.i64.wrap ((List.getD s39.1 (s39.2).toNat 0) + (List.getD l s15.2 default).length)) : Int)) = _)
                      refine xSub [(1, vs Aslots slots cslots), (9, vs A9 (List.set s39.1 (s39.2).toNat ((IntKind.i64.wrap ((List.getD s39.1 (s39.2).toNat 0) + (List.getD l s15.2 default).length)) : Int)) c9), (11, vp b25 0), (12, vi (s39.2 + (List.getD l s15.2 default).period)), (40, vs Al l cl), (41, vi (((l).length : Nat) : Int)), (42, vi ((s15.2 : Nat) : Int))] ?_
                      have eS := (Option.some.inj hS).symm
                      exact hN39 _ eS _ _ _ (Gh.le.refl _) ⟨k49, by kernel_rfl, by kernel_rfl, h49⟩
                    · have hS := cond_F h42 hS
                      have h42p := of_decide_eq_false h42
                      refine xEx 4 ?_
                      refine wpq_thenX ?_
                      refine wpq_thenX ?_
                      refine wpq_blockE ?_
                      refine xSel [some 1] ?_
                      refine xSub [(1, vs Aslots slots cslots), (9, vs A9 s39.1 c9), (40, vs Al l cl), (41, vi (((l).length : Nat) : Int)), (42, vi ((s15.2 : Nat) : Int))] ?_
                      have eS := (Option.some.inj hS).symm
                      have eS := (hD39 _ eS).symm
                      exact hN34 _ eS _ _ _ e41 ⟨k39_0, by kernel_rfl, by kernel_rfl, h39_0⟩
              · intro uu28 hS hN28
                refine wpq_split 53 (b := decide ((List.getD slots s15.2 default).offset < 0)) (by kernel_rfl) (fun q51 => ?_) (fun q51 => ?_)
                · have hS := cond_T q51 hS
                  have q51p := of_decide_eq_true q51
                  refine xT 0 [7, 8, 9, 10, 11, 12, 13, 14, 15] [] [some 0] [(1, vs Aslots slots cslots), (9, vs A9 s15.1 c9), (10, vi ((s15.2 : Nat) : Int)), (11, vp b25 0), (40, vs Al l cl), (41, vi (((l).length : Nat) : Int)), (42, vi ((s15.2 : Nat) : Int)), (62, vb true)] RG (Psi.le.refl _) ?_
                  refine xSub [(1, vs Aslots slots cslots), (9, vs A9 s15.1 c9), (10, vi ((s15.2 : Nat) : Int)), (11, vp b25 0), (40, vs Al l cl), (41, vi (((l).length : Nat) : Int)), (42, vi ((s15.2 : Nat) : Int)), (62, vb true)] ?_
                  exact hN28 _ (Option.some.inj hS).symm _ _ _ (Gh.le.refl _) ⟨by kernel_rfl, by kernel_rfl⟩
                · have hS := cond_F q51 hS
                  have q51p := of_decide_eq_false q51
                  obtain ⟨q53, hS⟩ := grd_T hS
                  have q53p := of_decide_eq_true q53
                  obtain ⟨ad52, cs52, hA52, hr52, hc52⟩ := fslots.at_ (get_getD (d := default) q53p)
                  obtain ⟨rfl⟩ := hr52
                  refine xT 7 [7, 8] [] [some 0] [(1, vs Aslots slots cslots), (9, vs A9 s15.1 c9), (10, vi ((s15.2 : Nat) : Int)), (11, vp b25 0), (40, vs Al l cl), (41, vi (((l).length : Nat) : Int)), (42, vi ((s15.2 : Nat) : Int)), (53, vb false), (54, vs Aslots slots cslots), (55, vi ((s15.2 : Nat) : Int))] RG (Psi.le.refl _) ?_
                  refine xTp 9 RG (fun _ => (qIx s15.2 2 hA52 rfl q53p)) ?_
                  refine xT 5 [10] [] [some 0] [(1, vs Aslots slots cslots), (9, vs A9 s15.1 c9), (10, vi ((s15.2 : Nat) : Int)), (11, vp b25 0), (40, vs Al l cl), (41, vi (((l).length : Nat) : Int)), (42, vi ((s15.2 : Nat) : Int)), (53, vb false), (57, Value.pointer (some (Addr.add (Addr.add ad52 (s15.2 * 2)) 1)))] RG (Psi.le.refl _) ?_
                  refine xTv 11 [some 0] RG (Psi.le.refl _) (qLdP (Addr.add ad52 (s15.2 * 2)) 1 hc52) ?_
                  refine xT 0 [12, 13, 14, 15] [(13, 0)] [some 0] [(1, vs Aslots slots cslots), (9, vs A9 s15.1 c9), (10, vi ((s15.2 : Nat) : Int)), (11, vp b25 0), (40, vs Al l cl), (41, vi (((l).length : Nat) : Int)), (42, vi ((s15.2 : Nat) : Int)), (62, vb (decide ((List.getD slots s15.2 default).offset ≥ (List.getD l s15.2 default).period)))] RG (Psi.le.refl _) ?_
                  refine xSub [(1, vs Aslots slots cslots), (9, vs A9 s15.1 c9), (10, vi ((s15.2 : Nat) : Int)), (11, vp b25 0), (40, vs Al l cl), (41, vi (((l).length : Nat) : Int)), (42, vi ((s15.2 : Nat) : Int)), (62, vb (decide ((List.getD slots s15.2 default).offset ≥ (List.getD l s15.2 default).period)))] ?_
                  exact hN28 _ (Option.some.inj hS).symm _ _ _ (Gh.le.refl _) ⟨by kernel_rfl, by kernel_rfl⟩
          · have hS := cond_F h18 hS
            have h18p := of_decide_eq_false h18
            refine xEx 2 ?_
            refine wpq_thenX ?_
            refine wpq_thenX ?_
            refine wpq_blockE ?_
            refine xSub [(9, vs A9 s15.1 c9)] ?_
            have eS := (Option.some.inj hS).symm
            have eS := (hD15 _ eS).symm
            exact hN10 _ eS _ _ _ e17 ⟨k15_0, by kernel_rfl, by kernel_rfl, h15_0⟩
      · intro uu6 hS hN6 hD6
        refine xBl 0 ?_
        refine xSub [(0, vs Al l cl), (1, vs Aslots slots cslots), (23, vs Al l cl), (24, vi (((l).length : Nat) : Int)), (25, vi 0)] ?_
        refine xLo hS (fun g own sl s56 => own = [] ∧ sl = [(0, vs Al l cl), (1, vs Aslots slots cslots), (23, vs Al l cl), (24, vi (((l).length : Nat) : Int)), (25, vi ((s56 : Nat) : Int))]) ⟨by kernel_rfl, by kernel_rfl⟩ ?_
        rintro g57 _ _ s56 uu56 e58 ⟨rfl, rfl⟩ hS Qr56 hN56 hD56
        unfold o28_L2 at hS
        refine xSq ?_
        refine xRg ?_
        refine xB 1 [] [(0, vs Al l cl), (1, vs Aslots slots cslots), (23, vs Al l cl), (24, vi (((l).length : Nat) : Int)), (25, vi ((s56 : Nat) : Int)), (26, vb (decide (((s56 : Nat) : Int) < (((l).length : Nat) : Int))))] ?_
        refine xRe ?_
        refine wpq_then ?_
        refine xSq ?_
        refine xCd (decide (((s56 : Nat) : Int) < (((l).length : Nat) : Int))) (fun h59 => ?_) (fun h59 => ?_)
        · have hS := cond_T h59 hS
          have h59p := of_decide_eq_true h59
          refine xSk ?_
          refine wpq_then ?_
          refine xSub [(0, vs Al l cl), (1, vs Aslots slots cslots), (23, vs Al l cl), (24, vi (((l).length : Nat) : Int)), (25, vi ((s56 : Nat) : Int))] ?_
          refine xSq ?_
          refine xBl 1 ?_
          refine xSq ?_
          refine xRg ?_
          have fl := fl.mono (e3.trans e58).r
          have i61 : s56 < (l).length := by omega
          obtain ⟨ad60, cs60, hA60, hr60, hc60⟩ := fl.at_ (get_getD (d := default) i61)
          obtain ⟨rfl⟩ := hr60
          refine xB 1 [] [(0, vs Al l cl), (1, vs Aslots slots cslots), (23, vs Al l cl), (24, vi (((l).length : Nat) : Int)), (25, vi ((s56 : Nat) : Int)), (27, vi ((s56 : Nat) : Int))] ?_
          refine xV (qIx s56 3 hA60 rfl i61) ?_
          refine xV (qLdP (Addr.add ad60 (s56 * 3)) 0 hc60) ?_
          refine xE eB ?_
          rintro _ _ _ - ⟨b62, rfl, rfl, rfl⟩
          refine xBo 2 [(5, 0)] [some ⟨b62, 87, [vy ((List.getD l s56 default).label), vi ((List.getD l s56 default).period), vi ((List.getD l s56 default).length)]⟩] [(0, vs Al l cl), (1, vs Aslots slots cslots), (7, vi ((s56 : Nat) : Int)), (8, vp b62 0), (23, vs Al l cl), (24, vi (((l).length : Nat) : Int)), (25, vi ((s56 : Nat) : Int))] ?_
          refine xRe ?_
          refine wpq_then ?_
          refine xSq ?_
          refine xDr 0 [4, 6] [7] [some ⟨b62, 87, [vy ((List.getD l s56 default).label), vi ((List.getD l s56 default).period), vi ((List.getD l s56 default).length)]⟩] 8 (fun RG => ?_) (fun _ _ _ _ _ h => h)
          have fslots := fslots.mono (e3.trans e58).r
          obtain ⟨q64, hS⟩ := grd_T hS
          have q64p := of_decide_eq_true q64
          obtain ⟨ad63, cs63, hA63, hr63, hc63⟩ := fslots.at_ (get_getD (d := default) q64p)
          obtain ⟨rfl⟩ := hr63
          refine xT 6 [0, 1] [] [some 0] [(0, vs Al l cl), (1, vs Aslots slots cslots), (8, vp b62 0), (23, vs Al l cl), (24, vi (((l).length : Nat) : Int)), (25, vi ((s56 : Nat) : Int)), (30, vs Aslots slots cslots), (31, vi ((s56 : Nat) : Int))] RG (Psi.le.refl _) ?_
          refine xTp 2 RG (fun _ => (qIx s56 2 hA63 rfl q64p)) ?_
          refine xT 4 [3] [] [some 0] [(0, vs Al l cl), (1, vs Aslots slots cslots), (8, vp b62 0), (23, vs Al l cl), (24, vi (((l).length : Nat) : Int)), (25, vi ((s56 : Nat) : Int)), (33, Value.pointer (some (Addr.add ad63 (s56 * 2))))] RG (Psi.le.refl _) ?_
          refine xTv 4 [some 0] RG (Psi.le.refl _) (qLdP (Addr.add ad63 (s56 * 2)) 0 hc63) ?_
          refine xT 0 [5, 6, 7] [(6, 0)] [some 0] [(0, vs Al l cl), (1, vs Aslots slots cslots), (23, vs Al l cl), (24, vi (((l).length : Nat) : Int)), (25, vi ((s56 : Nat) : Int)), (37, vb ((List.getD slots s56 default).label != (List.getD l s56 default).label))] RG (Psi.le.refl _) ?_
          refine xAe (lds := [4, 6]) ?_
          refine wpq_then ?_
          refine xCd (((List.getD slots s56 default).label != (List.getD l s56 default).label)) (fun h65 => ?_) (fun h65 => ?_)
          · have hS := cond_T h65 hS
            have h65p : ¬ ((List.getD slots s56 default).label = (List.getD l s56 default).label) := ne_of_bne_ h65
            refine xSq ?_
            refine xRg ?_
            refine xB 2 [] [(4, Value.slice none 0 0), (5, vi 1)] ?_
            refine xRe ?_
            refine wpq_then ?_
            have eS := (Option.some.inj hS).symm
            have eS := (hD56 _ eS).symm
            have eS := (hD6 _ eS).symm
            subst eS
            exact xRet [none] [4, 5] (e3.trans e58) ⟨none, 0, none, by kernel_rfl, by kernel_rfl, Buf.nil⟩ (fun _ _ h => h)
          · have hS := cond_F h65 hS
            have h65p : (List.getD slots s56 default).label = (List.getD l s56 default).label := eq_of_bne_false_ h65
            refine xSk ?_
            refine wpq_blockN ?_
            refine wpq_then ?_
            refine xSub [(0, vs Al l cl), (1, vs Aslots slots cslots), (23, vs Al l cl), (24, vi (((l).length : Nat) : Int)), (25, vi ((s56 : Nat) : Int))] ?_
            refine xRg ?_
            obtain ⟨q66, hS⟩ := grd_T hS
            have q66p := of_decide_eq_true q66
            refine xV (qAdd .i64 (((s56 : Nat) : Int)) (1) (wr64 (by omega))) ?_
            refine xB 1 [] [(0, vs Al l cl), (1, vs Aslots slots cslots), (23, vs Al l cl), (24, vi (((l).length : Nat) : Int)), (25, vi (((s56 : Nat) : Int) + 1))] ?_
            refine xRe ?_
            refine wpq_thenN ?_
            refine xSel [] ?_
            refine xSub [(0, vs Al l cl), (1, vs Aslots slots cslots), (23, vs Al l cl), (24, vi (((l).length : Nat) : Int)), (25, vi (((s56 : Nat) : Int) + 1))] ?_
            have eS := (Option.some.inj hS).symm
            exact hN56 _ eS _ _ _ (Gh.le.refl _) ⟨by kernel_rfl, by kernel_rfl⟩
        · have hS := cond_F h59 hS
          have h59p := of_decide_eq_false h59
          refine xEx 0 ?_
          refine wpq_thenX ?_
          refine wpq_thenX ?_
          refine wpq_blockE ?_
          refine xSub [(0, vs Al l cl), (1, vs Aslots slots cslots)] ?_
          have eS := (Option.some.inj hS).symm
          have eS := (hD56 _ eS).symm
          exact hN6 _ eS _ _ _ e58 ⟨by kernel_rfl, by kernel_rfl⟩

def o49_L0 (x : List Int) (s9 : Int × Nat) : Option (Ctl (Int × Nat) (Int)) :=
  (cond (decide (((s9.2 : Nat) : Int) < (((x).length : Nat) : Int))) (grd (decide (((s9.2 : Nat) : Int) + 1 ≤ 9223372036854775807)) (some (Ctl.go ((maxI s9.1 (List.getD x s9.2 0)), (s9.2 + 1))))) (some (Ctl.done (s9.1))))
def o49 (x : List Int) : Option (Int) :=
  (cond (decide ((((x).length : Nat) : Int) < 1)) none (bindO (τ := Int) (loopO (σ := Int × Nat) (ρ := Int) fuelN (o49_L0 x) ((List.getD x 0 0), 1)) fun t4 => (some ((t4 : Int)))))
set_option maxRecDepth 100000 in
theorem c49 (g : Gh) (x : List Int) (Ax : Option Addr) (cx : Nat) (fx : Arr g.r (tyI .i64) Ax cx x) {r : Int} (hS : o49 x = some r) :
    Ctr Try.prog 49 [vs Ax x cx] g [] (fun v ψ o => v = vi r ∧ o = []) := by
  unfold o49 at hS
  refine xFn Try.f49 (Try.f49.body.getD .skip) 25 ?_
  have nfx := fx.len
  refine xSq ?_
  refine xRg ?_
  refine xB 1 [] [(0, vs Ax x cx)] ?_
  refine xRe ?_
  refine wpq_then ?_
  refine xSq ?_
  refine xSq ?_
  refine xRg ?_
  refine xB 3 [] [(0, vs Ax x cx), (7, vb (decide ((((x).length : Nat) : Int) < 1)))] ?_
  refine xRe ?_
  refine wpq_then ?_
  refine xCd (decide ((((x).length : Nat) : Int) < 1)) (fun h1 => ?_) (fun h1 => ?_)
  · have hS := cond_T h1 hS
    have h1p := of_decide_eq_true h1
    refine xRg ?_
    cases hS
  · have hS := cond_F h1 hS
    have h1p := of_decide_eq_false h1
    refine xSk ?_
    refine wpq_then ?_
    refine xSub [(0, vs Ax x cx)] ?_
    refine xSq ?_
    refine xRg ?_
    have i3 : 0 < (x).length := by omega
    obtain ⟨ad2, cs2, hA2, hr2, hc2⟩ := fx.at_ (get_getD (d := 0) i3)
    have hr2 : cs2 = [vi (List.getD x 0 0)] := hr2
    subst hr2
    refine xB 1 [] [(0, vs Ax x cx), (9, vs Ax x cx)] ?_
    refine xV (qIx 0 1 hA2 rfl i3) ?_
    refine xV (qLdP (Addr.add ad2 (0 * 1)) 0 hc2) ?_
    refine xB 1 [] [(0, vs Ax x cx), (3, vi (List.getD x 0 0))] ?_
    refine xRe ?_
    refine wpq_then ?_
    refine xSq ?_
    refine xSq ?_
    refine xRg ?_
    refine xB 1 [] [(0, vs Ax x cx), (3, vi (List.getD x 0 0)), (4, vi 1)] ?_
    refine xRe ?_
    refine wpq_then ?_
    refine xBindO hS (fun g own sl t4 => own = [] ∧ sl = [(3, vi t4)]) ?_ ?_
    · rintro g5 _ _ t4 e6 ⟨rfl, rfl⟩ hS
      refine wpq_then ?_
      refine xSq ?_
      refine xRg ?_
      refine xB 2 [] [(2, vi t4)] ?_
      refine xRe ?_
      refine wpq_then ?_
      have eS := (Option.some.inj hS).symm
      subst eS
      exact xRet [] [2] e6 ⟨by kernel_rfl, by kernel_rfl⟩ (fun _ _ h => h)
    · intro uu4 hS hN4
      refine xBl 0 ?_
      refine xSub [(0, vs Ax x cx), (3, vi (List.getD x 0 0)), (4, vi 1)] ?_
      refine xLo hS (fun g own sl s9 => own = [] ∧ sl = [(0, vs Ax x cx), (3, vi s9.1), (4, vi ((s9.2 : Nat) : Int))]) ⟨by kernel_rfl, by kernel_rfl⟩ ?_
      rintro g10 _ _ s9 uu9 e11 ⟨rfl, rfl⟩ hS Qr9 hN9 hD9
      unfold o49_L0 at hS
      refine xSq ?_
      refine xSq ?_
      refine xRg ?_
      refine xB 4 [] [(0, vs Ax x cx), (3, vi s9.1), (4, vi ((s9.2 : Nat) : Int)), (15, vb (decide (((s9.2 : Nat) : Int) < (((x).length : Nat) : Int))))] ?_
      refine xRe ?_
      refine wpq_then ?_
      refine xCd (decide (((s9.2 : Nat) : Int) < (((x).length : Nat) : Int))) (fun h12 => ?_) (fun h12 => ?_)
      · have hS := cond_T h12 hS
        have h12p := of_decide_eq_true h12
        refine xSk ?_
        refine wpq_then ?_
        refine xSub [(0, vs Ax x cx), (3, vi s9.1), (4, vi ((s9.2 : Nat) : Int))] ?_
        refine xSq ?_
        refine xBl 1 ?_
        refine xRg ?_
        have fx := fx.mono e11.r
        have i14 : s9.2 < (x).length := by omega
        obtain ⟨ad13, cs13, hA13, hr13, hc13⟩ := fx.at_ (get_getD (d := 0) i14)
        have hr13 : cs13 = [vi (List.getD x s9.2 0)] := hr13
        subst hr13
        refine xB 3 [] [(0, vs Ax x cx), (3, vi s9.1), (4, vi ((s9.2 : Nat) : Int)), (18, vi s9.1), (19, vs Ax x cx), (20, vi ((s9.2 : Nat) : Int))] ?_
        refine xV (qIx s9.2 1 hA13 rfl i14) ?_
        refine xV (qLdP (Addr.add ad13 (s9.2 * 1)) 0 hc13) ?_
        have z12 := maxI_spec s9.1 (List.getD x s9.2 0)
        refine xB 2 [] [(0, vs Ax x cx), (3, vi (maxI s9.1 (List.getD x s9.2 0))), (4, vi ((s9.2 : Nat) : Int))] ?_
        refine xRe ?_
        refine wpq_blockN ?_
        refine wpq_then ?_
        refine xRg ?_
        obtain ⟨q15, hS⟩ := grd_T hS
        have q15p := of_decide_eq_true q15
        refine xB 1 [] [(0, vs Ax x cx), (3, vi (maxI s9.1 (List.getD x s9.2 0))), (4, vi ((s9.2 : Nat) : Int)), (16, vi ((s9.2 : Nat) : Int))] ?_
        refine xV (qAdd .i64 (((s9.2 : Nat) : Int)) (1) (wr64 (by omega))) ?_
        refine xB 1 [] [(0, vs Ax x cx), (3, vi (maxI s9.1 (List.getD x s9.2 0))), (4, vi (((s9.2 : Nat) : Int) + 1))] ?_
        refine xRe ?_
        refine wpq_thenN ?_
        refine xSub [(0, vs Ax x cx), (3, vi (maxI s9.1 (List.getD x s9.2 0))), (4, vi (((s9.2 : Nat) : Int) + 1))] ?_
        have eS := (Option.some.inj hS).symm
        exact hN9 _ eS _ _ _ (Gh.le.refl _) ⟨by kernel_rfl, by kernel_rfl⟩
      · have hS := cond_F h12 hS
        have h12p := of_decide_eq_false h12
        refine xEx 0 ?_
        refine wpq_thenX ?_
        refine wpq_thenX ?_
        refine wpq_blockE ?_
        refine xSub [(3, vi s9.1)] ?_
        have eS := (Option.some.inj hS).symm
        have eS := (hD9 _ eS).symm
        exact hN4 _ eS _ _ _ e11 ⟨by kernel_rfl, by kernel_rfl⟩

def o30 (l : List Msg) (slots : List Slot) (capacity : Int) : Option (Int) :=
  (bindO (τ := (List Int) × Int) (o27 (l : List Msg) (slots : List Slot)) fun y1 => (cond ((y1.2 != 0)) (some ((y1.2 : Int))) (cond (decide (capacity < 1)) (some ((1 : Int))) (bindO (τ := Int) (o49 (y1.1 : List Int)) fun y6 => (cond (decide (y6 > capacity)) (some ((18 : Int))) (some ((0 : Int))))))))
set_option maxRecDepth 100000 in
theorem c30 (g : Gh) (l : List Msg) (Al : Option Addr) (cl : Nat) (slots : List Slot) (Aslots : Option Addr) (cslots : Nat) (capacity : Int) (fl : Arr g.r tyMsg Al cl l) (fslots : Arr g.r tySlot Aslots cslots slots) {r : Int} (hS : o30 l slots capacity = some r) :
    Ctr Try.prog 30 [vs Al l cl, vs Aslots slots cslots, vi capacity] g [] (fun v ψ o => v = vi r ∧ o = []) := by
  unfold o30 at hS
  refine xFn Try.f30 (Try.f30.body.getD .skip) 24 ?_
  have nfl := fl.len
  have nfslots := fslots.len
  refine xSq ?_
  refine xRg ?_
  refine xB 1 [] [(0, vs Al l cl), (1, vs Aslots slots cslots), (2, vi capacity)] ?_
  refine xRe ?_
  refine wpq_then ?_
  refine xSq ?_
  refine xRg ?_
  refine xB 2 [] [(2, vi capacity), (10, vs Al l cl), (11, vs Aslots slots cslots)] ?_
  obtain ⟨y1, hy1, hS⟩ := bindO_T hS
  refine xE (eC 0 (fun g' lr eb ln => c27 g' (l : List Msg) Al cl (slots : List Slot) Aslots cslots (fl.mono lr) (fslots.mono lr) hy1)) ?_
  rintro _ g2 _ e3 ⟨_, rfl, A1_0, c1_0, k1_0, rfl, rfl, h1_0⟩
  have nh1_0 := h1_0.len
  refine xB 5 [] [(2, vi capacity), (7, vs A1_0 y1.1 c1_0), (8, vi y1.2)] ?_
  refine xRe ?_
  refine wpq_then ?_
  refine xSq ?_
  refine xSq ?_
  refine xRg ?_
  refine xB 2 [] [(2, vi capacity), (7, vs A1_0 y1.1 c1_0), (8, vi y1.2), (16, vb (y1.2 != 0))] ?_
  refine xRe ?_
  refine wpq_then ?_
  refine xCd ((y1.2 != 0)) (fun h4 => ?_) (fun h4 => ?_)
  · have hS := cond_T h4 hS
    have h4p : ¬ (y1.2 = 0) := ne_of_bne_ h4
    refine xSq ?_
    refine xRg ?_
    refine xB 2 [] [(6, vi y1.2)] ?_
    refine xRe ?_
    refine wpq_then ?_
    have eS := (Option.some.inj hS).symm
    subst eS
    exact xRet [] [6] e3 ⟨by kernel_rfl, by kernel_rfl⟩ (fun _ _ h => h)
  · have hS := cond_F h4 hS
    have h4p : y1.2 = 0 := eq_of_bne_false_ h4
    refine xSk ?_
    refine wpq_then ?_
    refine xSub [(2, vi capacity), (7, vs A1_0 y1.1 c1_0)] ?_
    refine xSq ?_
    refine xSq ?_
    refine xRg ?_
    refine xB 2 [] [(2, vi capacity), (7, vs A1_0 y1.1 c1_0), (19, vb (decide (capacity < 1)))] ?_
    refine xRe ?_
    refine wpq_then ?_
    refine xCd (decide (capacity < 1)) (fun h5 => ?_) (fun h5 => ?_)
    · have hS := cond_T h5 hS
      have h5p := of_decide_eq_true h5
      refine xSq ?_
      refine xRg ?_
      refine xB 1 [] [(6, vi 1)] ?_
      refine xRe ?_
      refine wpq_then ?_
      have eS := (Option.some.inj hS).symm
      subst eS
      exact xRet [] [6] e3 ⟨by kernel_rfl, by kernel_rfl⟩ (fun _ _ h => h)
    · have hS := cond_F h5 hS
      have h5p := of_decide_eq_false h5
      refine xSk ?_
      refine wpq_then ?_
      refine xSub [(2, vi capacity), (7, vs A1_0 y1.1 c1_0)] ?_
      refine xSq ?_
      refine xSq ?_
      refine xRg ?_
      refine xB 1 [] [(2, vi capacity), (20, vs A1_0 y1.1 c1_0)] ?_
      obtain ⟨y6, hy6, hS⟩ := bindO_T hS
      refine xE (eC 0 (fun g' lr eb ln => c49 g' (y1.1 : List Int) A1_0 c1_0 (arr_of_buf h1_0 (Psi.le_b eb) (lentk 0 (by kernel_rfl) ln)) hy6)) ?_
      rintro _ g7 _ e8 ⟨_, rfl, rfl, rfl⟩
      refine xB 2 [] [(23, vb (decide (y6 > capacity)))] ?_
      refine xRe ?_
      refine wpq_then ?_
      refine xCd (decide (y6 > capacity)) (fun h9 => ?_) (fun h9 => ?_)
      · have hS := cond_T h9 hS
        have h9p := of_decide_eq_true h9
        refine xSq ?_
        refine xRg ?_
        refine xB 1 [] [(6, vi 18)] ?_
        refine xRe ?_
        refine wpq_then ?_
        have eS := (Option.some.inj hS).symm
        subst eS
        exact xRet [] [6] (e3.trans e8) ⟨by kernel_rfl, by kernel_rfl⟩ (fun _ _ h => h)
      · have hS := cond_F h9 hS
        have h9p := of_decide_eq_false h9
        refine xSk ?_
        refine wpq_then ?_
        refine xSub [] ?_
        refine xSq ?_
        refine xRg ?_
        refine xB 1 [] [(6, vi 0)] ?_
        refine xRe ?_
        refine wpq_then ?_
        have eS := (Option.some.inj hS).symm
        subst eS
        exact xRet [] [6] (e3.trans e8) ⟨by kernel_rfl, by kernel_rfl⟩ (fun _ _ h => h)

def o31_L0 (capacity : Int) (y1 : (List Int) × Int) (s11 : Nat) : Option (Ctl (Nat) (Ctl (Unit) (Int))) :=
  (cond (decide (((s11 : Nat) : Int) < (((y1.1).length : Nat) : Int))) (cond (decide ((List.getD y1.1 s11 0) > capacity)) (some (Ctl.done (Ctl.done ((18 : Int))))) (grd (decide (((s11 : Nat) : Int) + 1 ≤ 9223372036854775807)) (some (Ctl.go (s11 + 1))))) (some (Ctl.done (Ctl.go ()))))
def o31 (l : List Msg) (slots : List Slot) (capacity : Int) : Option (Int) :=
  (bindO (τ := (List Int) × Int) (o28 (l : List Msg) (slots : List Slot)) fun y1 => (cond ((y1.2 != 0)) (some ((y1.2 : Int))) (cond (decide (capacity < 1)) (some ((1 : Int))) (joinO (τ := Unit) (ρ := Int) (loopO (σ := Nat) (ρ := Ctl (Unit) (Int)) fuelN (o31_L0 capacity y1) (0)) fun t6 => (some ((0 : Int)))))))
set_option maxRecDepth 100000 in
theorem c31 (g : Gh) (l : List Msg) (Al : Option Addr) (cl : Nat) (slots : List Slot) (Aslots : Option Addr) (cslots : Nat) (capacity : Int) (fl : Arr g.r tyMsg Al cl l) (fslots : Arr g.r tySlot Aslots cslots slots) {r : Int} (hS : o31 l slots capacity = some r) :
    Ctr Try.prog 31 [vs Al l cl, vs Aslots slots cslots, vi capacity] g [] (fun v ψ o => v = vi r ∧ o = []) := by
  unfold o31 at hS
  refine xFn Try.f31 (Try.f31.body.getD .skip) 32 ?_
  have nfl := fl.len
  have nfslots := fslots.len
  refine xSq ?_
  refine xRg ?_
  refine xB 1 [] [(0, vs Al l cl), (1, vs Aslots slots cslots), (2, vi capacity)] ?_
  refine xRe ?_
  refine wpq_then ?_
  refine xSq ?_
  refine xRg ?_
  refine xB 2 [] [(2, vi capacity), (12, vs Al l cl), (13, vs Aslots slots cslots)] ?_
  obtain ⟨y1, hy1, hS⟩ := bindO_T hS
  refine xE (eC 0 (fun g' lr eb ln => c28 g' (l : List Msg) Al cl (slots : List Slot) Aslots cslots (fl.mono lr) (fslots.mono lr) hy1)) ?_
  rintro _ g2 _ e3 ⟨_, rfl, A1_0, c1_0, k1_0, rfl, rfl, h1_0⟩
  have nh1_0 := h1_0.len
  refine xB 5 [] [(2, vi capacity), (7, vs A1_0 y1.1 c1_0), (8, vi y1.2)] ?_
  refine xRe ?_
  refine wpq_then ?_
  refine xSq ?_
  refine xSq ?_
  refine xRg ?_
  refine xB 2 [] [(2, vi capacity), (7, vs A1_0 y1.1 c1_0), (8, vi y1.2), (18, vb (y1.2 != 0))] ?_
  refine xRe ?_
  refine wpq_then ?_
  refine xCd ((y1.2 != 0)) (fun h4 => ?_) (fun h4 => ?_)
  · have hS := cond_T h4 hS
    have h4p : ¬ (y1.2 = 0) := ne_of_bne_ h4
    refine xSq ?_
    refine xRg ?_
    refine xB 2 [] [(6, vi y1.2)] ?_
    refine xRe ?_
    refine wpq_then ?_
    have eS := (Option.some.inj hS).symm
    subst eS
    exact xRet [] [6] e3 ⟨by kernel_rfl, by kernel_rfl⟩ (fun _ _ h => h)
  · have hS := cond_F h4 hS
    have h4p : y1.2 = 0 := eq_of_bne_false_ h4
    refine xSk ?_
    refine wpq_then ?_
    refine xSub [(2, vi capacity), (7, vs A1_0 y1.1 c1_0)] ?_
    refine xSq ?_
    refine xSq ?_
    refine xRg ?_
    refine xB 2 [] [(2, vi capacity), (7, vs A1_0 y1.1 c1_0), (21, vb (decide (capacity < 1)))] ?_
    refine xRe ?_
    refine wpq_then ?_
    refine xCd (decide (capacity < 1)) (fun h5 => ?_) (fun h5 => ?_)
    · have hS := cond_T h5 hS
      have h5p := of_decide_eq_true h5
      refine xSq ?_
      refine xRg ?_
      refine xB 1 [] [(6, vi 1)] ?_
      refine xRe ?_
      refine wpq_then ?_
      have eS := (Option.some.inj hS).symm
      subst eS
      exact xRet [] [6] e3 ⟨by kernel_rfl, by kernel_rfl⟩ (fun _ _ h => h)
    · have hS := cond_F h5 hS
      have h5p := of_decide_eq_false h5
      refine xSk ?_
      refine wpq_then ?_
      refine xSub [(2, vi capacity), (7, vs A1_0 y1.1 c1_0)] ?_
      refine xSq ?_
      refine xSq ?_
      refine xRg ?_
      refine xB 3 [] [(2, vi capacity), (22, vs A1_0 y1.1 c1_0), (23, vi (((y1.1).length : Nat) : Int)), (24, vi 0)] ?_
      refine xRe ?_
      refine wpq_then ?_
      refine xJoinO hS (fun g own sl t6 => own = [] ∧ sl = []) ?_ ?_
      · rintro g7 _ _ t6 e8 ⟨rfl, rfl⟩ hS
        refine wpq_then ?_
        refine xSq ?_
        refine xRg ?_
        refine xB 1 [] [(6, vi 0)] ?_
        refine xRe ?_
        refine wpq_then ?_
        have eS := (Option.some.inj hS).symm
        subst eS
        exact xRet [] [6] (e3.trans e8) ⟨by kernel_rfl, by kernel_rfl⟩ (fun _ _ h => h)
      · intro uu6 hS hN6 hD6
        refine xBl 0 ?_
        refine xSub [(2, vi capacity), (22, vs A1_0 y1.1 c1_0), (23, vi (((y1.1).length : Nat) : Int)), (24, vi 0)] ?_
        refine xLo hS (fun g own sl s11 => own = [k1_0] ∧ sl = [(2, vi capacity), (22, vs A1_0 y1.1 c1_0), (23, vi (((y1.1).length : Nat) : Int)), (24, vi ((s11 : Nat) : Int))]) ⟨by kernel_rfl, by kernel_rfl⟩ ?_
        rintro g12 _ _ s11 uu11 e13 ⟨rfl, rfl⟩ hS Qr11 hN11 hD11
        unfold o31_L0 at hS
        refine xSq ?_
        refine xRg ?_
        refine xB 1 [] [(2, vi capacity), (22, vs A1_0 y1.1 c1_0), (23, vi (((y1.1).length : Nat) : Int)), (24, vi ((s11 : Nat) : Int)), (25, vb (decide (((s11 : Nat) : Int) < (((y1.1).length : Nat) : Int))))] ?_
        refine xRe ?_
        refine wpq_then ?_
        refine xSq ?_
        refine xCd (decide (((s11 : Nat) : Int) < (((y1.1).length : Nat) : Int))) (fun h14 => ?_) (fun h14 => ?_)
        · have hS := cond_T h14 hS
          have h14p := of_decide_eq_true h14
          refine xSk ?_
          refine wpq_then ?_
          refine xSub [(2, vi capacity), (22, vs A1_0 y1.1 c1_0), (23, vi (((y1.1).length : Nat) : Int)), (24, vi ((s11 : Nat) : Int))] ?_
          refine xSq ?_
          refine xBl 1 ?_
          refine xSq ?_
          refine xRg ?_
          have h1_0 := h1_0.mono e13.b
          have i16 : s11 < (y1.1).length := by omega
          obtain ⟨kc15, cs15, hA15, hk15, hr15, hw15⟩ := h1_0.open_ i16 0
          obtain ⟨kb15, rfl⟩ : ∃ z, z = kc15 := ⟨_, rfl⟩
          subst hk15
          have hr15 : cs15 = [vi (List.getD y1.1 s11 0)] := hr15
          subst hr15
          refine xV (qIxB s11 1 kb15.g hA15 rfl i16) ?_
          refine xV (qLdB s11 1 0 0 hw15) ?_
          refine xB 1 [] [(2, vi capacity), (10, vi (List.getD y1.1 s11 0)), (22, vs A1_0 y1.1 c1_0), (23, vi (((y1.1).length : Nat) : Int)), (24, vi ((s11 : Nat) : Int))] ?_
          refine xRe ?_
          refine wpq_then ?_
          refine xSq ?_
          refine xRg ?_
          refine xB 3 [] [(2, vi capacity), (22, vs A1_0 y1.1 c1_0), (23, vi (((y1.1).length : Nat) : Int)), (24, vi ((s11 : Nat) : Int)), (30, vb (decide ((List.getD y1.1 s11 0) > capacity)))] ?_
          refine xRe ?_
          refine wpq_then ?_
          refine xCd (decide ((List.getD y1.1 s11 0) > capacity)) (fun h17 => ?_) (fun h17 => ?_)
          · have hS := cond_T h17 hS
            have h17p := of_decide_eq_true h17
            refine xSq ?_
            refine xRg ?_
            refine xB 1 [] [(6, vi 18)] ?_
            refine xRe ?_
            refine wpq_then ?_
            have eS := (Option.some.inj hS).symm
            have eS := (hD11 _ eS).symm
            have eS := (hD6 _ eS).symm
            subst eS
            exact xRet [] [6] (e3.trans e13) ⟨by kernel_rfl, by kernel_rfl⟩ (fun _ _ h => h)
          · have hS := cond_F h17 hS
            have h17p := of_decide_eq_false h17
            refine xSk ?_
            refine wpq_blockN ?_
            refine wpq_then ?_
            refine xSub [(2, vi capacity), (22, vs A1_0 y1.1 c1_0), (23, vi (((y1.1).length : Nat) : Int)), (24, vi ((s11 : Nat) : Int))] ?_
            refine xRg ?_
            obtain ⟨q18, hS⟩ := grd_T hS
            have q18p := of_decide_eq_true q18
            refine xV (qAdd .i64 (((s11 : Nat) : Int)) (1) (wr64 (by omega))) ?_
            refine xB 1 [] [(2, vi capacity), (22, vs A1_0 y1.1 c1_0), (23, vi (((y1.1).length : Nat) : Int)), (24, vi (((s11 : Nat) : Int) + 1))] ?_
            refine xRe ?_
            refine wpq_thenN ?_
            refine xSub [(2, vi capacity), (22, vs A1_0 y1.1 c1_0), (23, vi (((y1.1).length : Nat) : Int)), (24, vi (((s11 : Nat) : Int) + 1))] ?_
            have eS := (Option.some.inj hS).symm
            exact hN11 _ eS _ _ _ (Gh.le.refl _) ⟨by kernel_rfl, by kernel_rfl⟩
        · have hS := cond_F h14 hS
          have h14p := of_decide_eq_false h14
          refine xEx 0 ?_
          refine wpq_thenX ?_
          refine wpq_thenX ?_
          refine wpq_blockE ?_
          refine xSel [] ?_
          refine xSub [] ?_
          have eS := (Option.some.inj hS).symm
          have eS := (hD11 _ eS).symm
          exact hN6 _ eS _ _ _ e13 ⟨by kernel_rfl, by kernel_rfl⟩

def o10_L0 (y7 : (List Int) × Int) (y16 : (List Int) × Int) (s38 : Nat) : Option (Ctl (Nat) (Ctl (Unit) (Bool))) :=
  (cond (decide (((s38 : Nat) : Int) < (((y7.1).length : Nat) : Int))) (grd (decide (s38 < (y16.1).length)) (cond (((List.getD y7.1 s38 0) != (List.getD y16.1 s38 0))) (some (Ctl.done (Ctl.done ((false))))) (grd (decide (((s38 : Nat) : Int) + 1 ≤ 9223372036854775807)) (some (Ctl.go (s38 + 1)))))) (some (Ctl.done (Ctl.go ()))))
def o10 (l : List Msg) (slots : List Slot) (capacity : Int) : Option (Bool) :=
  (bindO (τ := Bool) (o12) fun y1 => (cond ((!y1)) (some ((false))) (bindO (τ := (List Int) × Int) (o27 ((List.take ((minI (((l).length : Nat) : Int) 34)).toNat l) : List Msg) ((List.take ((minI (((slots).length : Nat) : Int) 34)).toNat slots) : List Slot)) fun y7 => (bindO (τ := (List Msg)) (o21 ((List.take ((minI (((l).length : Nat) : Int) 34)).toNat l) : List Msg)) fun y10 => (bindO (τ := (List Slot)) (o29 ((List.take ((minI (((slots).length : Nat) : Int) 34)).toNat slots) : List Slot)) fun y13 => (bindO (τ := (List Int) × Int) (o28 (y10 : List Msg) (y13 : List Slot)) fun y16 => (cond (((y7.2 != y16.2) || ((((y7.1).length : Nat) : Int) != (((y16.1).length : Nat) : Int)))) (some ((false))) (joinO (τ := Unit) (ρ := Bool) (loopO (σ := Nat) (ρ := Ctl (Unit) (Bool)) fuelN (o10_L0 y7 y16) (0)) fun t21 => (bindO (τ := Int) (o30 ((List.take ((minI (((l).length : Nat) : Int) 34)).toNat l) : List Msg) ((List.take ((minI (((slots).length : Nat) : Int) 34)).toNat slots) : List Slot) (capacity : Int)) fun y24 => (bindO (τ := (List Msg)) (o21 ((List.take ((minI (((l).length : Nat) : Int) 34)).toNat l) : List Msg)) fun y27 => (bindO (τ := (List Slot)) (o29 ((List.take ((minI (((slots).length : Nat) : Int) 34)).toNat slots) : List Slot)) fun y30 => (bindO (τ := Int) (o31 (y27 : List Msg) (y30 : List Slot) (capacity : Int)) fun y33 => (some (((y24 == y33))))))))))))))))
set_option maxRecDepth 100000 in
theorem c10 (g : Gh) (l : List Msg) (Al : Option Addr) (cl : Nat) (slots : List Slot) (Aslots : Option Addr) (cslots : Nat) (capacity : Int) (fl : Arr g.r tyMsg Al cl l) (fslots : Arr g.r tySlot Aslots cslots slots) {r : Bool} (hS : o10 l slots capacity = some r) :
    Ctr Try.prog 10 [vs Al l cl, vs Aslots slots cslots, vi capacity] g [] (fun v ψ o => v = vb r ∧ o = []) := by
  unfold o10 at hS
  refine xFn Try.f10 (Try.f10.body.getD .skip) 74 ?_
  have nfl := fl.len
  have nfslots := fslots.len
  refine xSq ?_
  refine xRg ?_
  refine xB 1 [] [(0, vs Al l cl), (1, vs Aslots slots cslots), (2, vi capacity)] ?_
  refine xRe ?_
  refine wpq_then ?_
  refine xSq ?_
  refine xSq ?_
  refine xRg ?_
  obtain ⟨y1, hy1, hS⟩ := bindO_T hS
  refine xE (eC 0 (fun g' lr eb ln => c12 g'  hy1)) ?_
  rintro _ g2 _ e3 ⟨_, rfl, rfl, rfl⟩
  refine xB 1 [] [(0, vs Al l cl), (1, vs Aslots slots cslots), (2, vi capacity), (13, vb (!y1))] ?_
  refine xRe ?_
  refine wpq_then ?_
  refine xCd ((!y1)) (fun h4 => ?_) (fun h4 => ?_)
  · have hS := cond_T h4 hS
    have h4n := not_eq_true_ h4
    refine xSq ?_
    refine xRg ?_
    refine xB 1 [] [(6, vb false)] ?_
    refine xRe ?_
    refine wpq_then ?_
    have eS := (Option.some.inj hS).symm
    subst eS
    exact xRet [] [6] e3 ⟨by kernel_rfl, by kernel_rfl⟩ (fun _ _ h => h)
  · have hS := cond_F h4 hS
    have h4n := not_eq_false_ h4
    refine xSk ?_
    refine wpq_then ?_
    refine xSub [(0, vs Al l cl), (1, vs Aslots slots cslots), (2, vi capacity)] ?_
    refine xSq ?_
    refine xDr 0 [] [0, 1, 2, 3, 4, 5, 6, 7, 8, 9, 10, 11] [] 12 (fun RG => ?_) (fun _ _ _ _ _ h => h)
    have z1 := minI_spec (((l).length : Nat) : Int) 34
    have fl := fl.mono e3.r
    have ncapf5 := fl.cap
    have f5 : Arr g2.r tyMsg (offA Al cl 0 3) (cl - 0) (List.take ((minI (((l).length : Nat) : Int) 34)).toNat l) := fl.cut_to ((minI (((l).length : Nat) : Int) 34)).toNat (by omega)
    have nf5 := f5.len
    have hlf5 : ((minI (((l).length : Nat) : Int) 34)).toNat - 0 = ((List.take ((minI (((l).length : Nat) : Int) 34)).toNat l)).length := by simp only [List.length_take, List.length_drop] <;> omega
    have hvf5 : ((((List.take ((minI (((l).length : Nat) : Int) 34)).toNat l)).length : Nat) : Int) = (minI (((l).length : Nat) : Int) 34) - 0 := by omega
    refine xT 8 [0, 1, 2, 3] [] [] [(0, vs Al l cl), (1, vs Aslots slots cslots), (2, vi capacity), (14, vs Al l cl), (17, vi (minI (((l).length : Nat) : Int) 34))] RG (Psi.le.refl _) ?_
    refine xTp 4 RG (fun _ => (qSl (m := 3) (A := Al) (len := (l).length) (c := cl) 0 ((minI (((l).length : Nat) : Int) 34)).toNat none (some (minI (((l).length : Nat) : Int) 34)) ((List.take ((minI (((l).length : Nat) : Int) 34)).toNat l)).length rfl (show _ = _ by omega) (by omega) (by omega) hlf5)) ?_
    have z2 := minI_spec (((slots).length : Nat) : Int) 34
    have fslots := fslots.mono e3.r
    have ncapf6 := fslots.cap
    have f6 : Arr g2.r tySlot (offA Aslots cslots 0 2) (cslots - 0) (List.take ((minI (((slots).length : Nat) : Int) 34)).toNat slots) := fslots.cut_to ((minI (((slots).length : Nat) : Int) 34)).toNat (by omega)
    have nf6 := f6.len
    have hlf6 : ((minI (((slots).length : Nat) : Int) 34)).toNat - 0 = ((List.take ((minI (((slots).length : Nat) : Int) 34)).toNat slots)).length := by simp only [List.length_take, List.length_drop] <;> omega
    have hvf6 : ((((List.take ((minI (((slots).length : Nat) : Int) 34)).toNat slots)).length : Nat) : Int) = (minI (((slots).length : Nat) : Int) 34) - 0 := by omega
    refine xT 3 [5, 6, 7, 8] [] [] [(0, vs Al l cl), (1, vs Aslots slots cslots), (2, vi capacity), (18, vs (offA Al cl 0 3) (List.take ((minI (((l).length : Nat) : Int) 34)).toNat l) (cl - 0)), (19, vs Aslots slots cslots), (22, vi (minI (((slots).length : Nat) : Int) 34))] RG (Psi.le.refl _) ?_
    refine xTp 9 RG (fun _ => (qSl (m := 2) (A := Aslots) (len := (slots).length) (c := cslots) 0 ((minI (((slots).length : Nat) : Int) 34)).toNat none (some (minI (((slots).length : Nat) : Int) 34)) ((List.take ((minI (((slots).length : Nat) : Int) 34)).toNat slots)).length rfl (show _ = _ by omega) (by omega) (by omega) hlf6)) ?_
    refine xT 0 [10, 11] [] [] [(0, vs (offA Al cl 0 3) (List.take ((minI (((l).length : Nat) : Int) 34)).toNat l) (cl - 0)), (1, vs (offA Aslots cslots 0 2) (List.take ((minI (((slots).length : Nat) : Int) 34)).toNat slots) (cslots - 0)), (2, vi capacity)] RG (Psi.le.refl _) ?_
    refine xAe (lds := []) ?_
    refine wpq_then ?_
    refine xSq ?_
    refine xRg ?_
    refine xB 2 [] [(0, vs (offA Al cl 0 3) (List.take ((minI (((l).length : Nat) : Int) 34)).toNat l) (cl - 0)), (1, vs (offA Aslots cslots 0 2) (List.take ((minI (((slots).length : Nat) : Int) 34)).toNat slots) (cslots - 0)), (2, vi capacity), (25, vs (offA Al cl 0 3) (List.take ((minI (((l).length : Nat) : Int) 34)).toNat l) (cl - 0)), (26, vs (offA Aslots cslots 0 2) (List.take ((minI (((slots).length : Nat) : Int) 34)).toNat slots) (cslots - 0))] ?_
    obtain ⟨y7, hy7, hS⟩ := bindO_T hS
    refine xE (eC 0 (fun g' lr eb ln => c27 g' ((List.take ((minI (((l).length : Nat) : Int) 34)).toNat l) : List Msg) (offA Al cl 0 3) (cl - 0) ((List.take ((minI (((slots).length : Nat) : Int) 34)).toNat slots) : List Slot) (offA Aslots cslots 0 2) (cslots - 0) (f5.mono lr) (f6.mono lr) hy7)) ?_
    rintro _ g8 _ e9 ⟨_, rfl, A7_0, c7_0, k7_0, rfl, rfl, h7_0⟩
    have nh7_0 := h7_0.len
    refine xB 5 [] [(0, vs (offA Al cl 0 3) (List.take ((minI (((l).length : Nat) : Int) 34)).toNat l) (cl - 0)), (1, vs (offA Aslots cslots 0 2) (List.take ((minI (((slots).length : Nat) : Int) 34)).toNat slots) (cslots - 0)), (2, vi capacity), (7, vs A7_0 y7.1 c7_0), (8, vi y7.2)] ?_
    refine xRe ?_
    refine wpq_then ?_
    refine xSq ?_
    refine xRg ?_
    refine xB 1 [] [(0, vs (offA Al cl 0 3) (List.take ((minI (((l).length : Nat) : Int) 34)).toNat l) (cl - 0)), (1, vs (offA Aslots cslots 0 2) (List.take ((minI (((slots).length : Nat) : Int) 34)).toNat slots) (cslots - 0)), (2, vi capacity), (7, vs A7_0 y7.1 c7_0), (8, vi y7.2), (31, vs (offA Al cl 0 3) (List.take ((minI (((l).length : Nat) : Int) 34)).toNat l) (cl - 0))] ?_
    have f5 := f5.mono e9.r
    obtain ⟨y10, hy10, hS⟩ := bindO_T hS
    refine xE (eC 0 (fun g' lr eb ln => c21 g' ((List.take ((minI (((l).length : Nat) : Int) 34)).toNat l) : List Msg) (offA Al cl 0 3) (cl - 0) (f5.mono lr) hy10)) ?_
    rintro _ g11 _ e12 ⟨_, rfl, A10_0, c10_0, k10_0, rfl, rfl, h10_0⟩
    have nh10_0 := h10_0.len
    refine xB 1 [] [(0, vs (offA Al cl 0 3) (List.take ((minI (((l).length : Nat) : Int) 34)).toNat l) (cl - 0)), (1, vs (offA Aslots cslots 0 2) (List.take ((minI (((slots).length : Nat) : Int) 34)).toNat slots) (cslots - 0)), (2, vi capacity), (7, vs A7_0 y7.1 c7_0), (8, vi y7.2), (32, vs A10_0 y10 c10_0), (33, vs (offA Aslots cslots 0 2) (List.take ((minI (((slots).length : Nat) : Int) 34)).toNat slots) (cslots - 0))] ?_
    have f6 := f6.mono (e9.trans e12).r
    obtain ⟨y13, hy13, hS⟩ := bindO_T hS
    refine xE (eC 0 (fun g' lr eb ln => c29 g' ((List.take ((minI (((slots).length : Nat) : Int) 34)).toNat slots) : List Slot) (offA Aslots cslots 0 2) (cslots - 0) (f6.mono lr) hy13)) ?_
    rintro _ g14 _ e15 ⟨_, rfl, A13_0, c13_0, k13_0, rfl, rfl, h13_0⟩
    have nh13_0 := h13_0.len
    have h10_0 := h10_0.mono e15.b
    obtain ⟨y16, hy16, hS⟩ := bindO_T hS
    refine xE (eC 0 (fun g' lr eb ln => c28 g' (y10 : List Msg) A10_0 c10_0 (y13 : List Slot) A13_0 c13_0 (arr_of_buf h10_0 (Psi.le_b eb) (lentk 1 (by kernel_rfl) ln)) (arr_of_buf h13_0 (Psi.le_b eb) (lentk 0 (by kernel_rfl) ln)) hy16)) ?_
    rintro _ g17 _ e18 ⟨_, rfl, A16_0, c16_0, k16_0, rfl, rfl, h16_0⟩
    have nh16_0 := h16_0.len
    refine xB 5 [] [(0, vs (offA Al cl 0 3) (List.take ((minI (((l).length : Nat) : Int) 34)).toNat l) (cl - 0)), (1, vs (offA Aslots cslots 0 2) (List.take ((minI (((slots).length : Nat) : Int) 34)).toNat slots) (cslots - 0)), (2, vi capacity), (7, vs A7_0 y7.1 c7_0), (8, vi y7.2), (9, vs A16_0 y16.1 c16_0), (10, vi y16.2)] ?_
    refine xRe ?_
    refine wpq_then ?_
    refine xSq ?_
    refine xSq ?_
    refine xRg ?_
    refine xB 4 [] [(0, vs (offA Al cl 0 3) (List.take ((minI (((l).length : Nat) : Int) 34)).toNat l) (cl - 0)), (1, vs (offA Aslots cslots 0 2) (List.take ((minI (((slots).length : Nat) : Int) 34)).toNat slots) (cslots - 0)), (2, vi capacity), (7, vs A7_0 y7.1 c7_0), (9, vs A16_0 y16.1 c16_0), (41, vb (y7.2 != y16.2))] ?_
    refine wpr_grp 10 [(0, vs (offA Al cl 0 3) (List.take ((minI (((l).length : Nat) : Int) 34)).toNat l) (cl - 0)), (1, vs (offA Aslots cslots 0 2) (List.take ((minI (((slots).length : Nat) : Int) 34)).toNat slots) (cslots - 0)), (2, vi capacity), (7, vs A7_0 y7.1 c7_0), (9, vs A16_0 y16.1 c16_0), (47, vb ((y7.2 != y16.2) || ((((y7.1).length : Nat) : Int) != (((y16.1).length : Nat) : Int))))] (fun hk3 => ?_) ?_
    · refine wpq_split 41 (b := (y7.2 != y16.2)) (by kernel_rfl) (fun q19 => ?_) (fun q19 => ?_)
      · have q19p : ¬ (y7.2 = y16.2) := ne_of_bne_ q19
        refine xB 6 [] [(0, vs (offA Al cl 0 3) (List.take ((minI (((l).length : Nat) : Int) 34)).toNat l) (cl - 0)), (1, vs (offA Aslots cslots 0 2) (List.take ((minI (((slots).length : Nat) : Int) 34)).toNat slots) (cslots - 0)), (2, vi capacity), (7, vs A7_0 y7.1 c7_0), (9, vs A16_0 y16.1 c16_0), (47, vb true)] ?_
        refine wpq_re 47 (v := vb true) (Value.bool (((y7.2 != y16.2) || ((((y7.1).length : Nat) : Int) != (((y16.1).length : Nat) : Int))))) (by kernel_rfl) (re_or1 q19) ?_
        exact wpq_sub _ (by kernel_rfl) hk3
      · have q19p : y7.2 = y16.2 := eq_of_bne_false_ q19
        refine xB 6 [] [(0, vs (offA Al cl 0 3) (List.take ((minI (((l).length : Nat) : Int) 34)).toNat l) (cl - 0)), (1, vs (offA Aslots cslots 0 2) (List.take ((minI (((slots).length : Nat) : Int) 34)).toNat slots) (cslots - 0)), (2, vi capacity), (7, vs A7_0 y7.1 c7_0), (9, vs A16_0 y16.1 c16_0), (47, vb ((((y7.1).length : Nat) : Int) != (((y16.1).length : Nat) : Int)))] ?_
        refine wpq_re 47 (v := vb ((((y7.1).length : Nat) : Int) != (((y16.1).length : Nat) : Int))) (Value.bool (((y7.2 != y16.2) || ((((y7.1).length : Nat) : Int) != (((y16.1).length : Nat) : Int))))) (by kernel_rfl) (re_or0 q19) ?_
        exact wpq_sub _ (by kernel_rfl) hk3
    · refine xRe ?_
      refine wpq_then ?_
      refine xCd (((y7.2 != y16.2) || ((((y7.1).length : Nat) : Int) != (((y16.1).length : Nat) : Int)))) (fun h20 => ?_) (fun h20 => ?_)
      · have hS := cond_T h20 hS
        refine xSq ?_
        refine xRg ?_
        refine xB 1 [] [(6, vb false)] ?_
        refine xRe ?_
        refine wpq_then ?_
        have eS := (Option.some.inj hS).symm
        subst eS
        exact xRet [] [6] (e3.trans (e9.trans (e12.trans (e15.trans e18)))) ⟨by kernel_rfl, by kernel_rfl⟩ (fun _ _ h => h)
      · have hS := cond_F h20 hS
        have h20l := (or_false_ h20).1
        have h20r := (or_false_ h20).2
        have h20lp : y7.2 = y16.2 := eq_of_bne_false_ h20l
        have h20rp : (((y7.1).length : Nat) : Int) = (((y16.1).length : Nat) : Int) := eq_of_bne_false_ h20r
        refine xSk ?_
        refine wpq_then ?_
        refine xSub [(0, vs (offA Al cl 0 3) (List.take ((minI (((l).length : Nat) : Int) 34)).toNat l) (cl - 0)), (1, vs (offA Aslots cslots 0 2) (List.take ((minI (((slots).length : Nat) : Int) 34)).toNat slots) (cslots - 0)), (2, vi capacity), (7, vs A7_0 y7.1 c7_0), (9, vs A16_0 y16.1 c16_0)] ?_
        refine xSq ?_
        refine xSq ?_
        refine xRg ?_
        refine xB 3 [] [(0, vs (offA Al cl 0 3) (List.take ((minI (((l).length : Nat) : Int) 34)).toNat l) (cl - 0)), (1, vs (offA Aslots cslots 0 2) (List.take ((minI (((slots).length : Nat) : Int) 34)).toNat slots) (cslots - 0)), (2, vi capacity), (7, vs A7_0 y7.1 c7_0), (9, vs A16_0 y16.1 c16_0), (49, vi (((y7.1).length : Nat) : Int)), (50, vi 0)] ?_
        refine xRe ?_
        refine wpq_then ?_
        refine xJoinO hS (fun g own sl t21 => own = [] ∧ sl = [(0, vs (offA Al cl 0 3) (List.take ((minI (((l).length : Nat) : Int) 34)).toNat l) (cl - 0)), (1, vs (offA Aslots cslots 0 2) (List.take ((minI (((slots).length : Nat) : Int) 34)).toNat slots) (cslots - 0)), (2, vi capacity)]) ?_ ?_
        · rintro g22 _ _ t21 e23 ⟨rfl, rfl⟩ hS
          refine wpq_then ?_
          refine xSq ?_
          refine xRg ?_
          refine xB 3 [] [(0, vs (offA Al cl 0 3) (List.take ((minI (((l).length : Nat) : Int) 34)).toNat l) (cl - 0)), (1, vs (offA Aslots cslots 0 2) (List.take ((minI (((slots).length : Nat) : Int) 34)).toNat slots) (cslots - 0)), (2, vi capacity), (63, vs (offA Al cl 0 3) (List.take ((minI (((l).length : Nat) : Int) 34)).toNat l) (cl - 0)), (64, vs (offA Aslots cslots 0 2) (List.take ((minI (((slots).length : Nat) : Int) 34)).toNat slots) (cslots - 0)), (65, vi capacity)] ?_
          have f5 := f5.mono (e12.trans (e15.trans (e18.trans e23))).r
          have f6 := f6.mono (e15.trans (e18.trans e23)).r
          obtain ⟨y24, hy24, hS⟩ := bindO_T hS
          refine xE (eC 0 (fun g' lr eb ln => c30 g' ((List.take ((minI (((l).length : Nat) : Int) 34)).toNat l) : List Msg) (offA Al cl 0 3) (cl - 0) ((List.take ((minI (((slots).length : Nat) : Int) 34)).toNat slots) : List Slot) (offA Aslots cslots 0 2) (cslots - 0) (capacity : Int) (f5.mono lr) (f6.mono lr) hy24)) ?_
          rintro _ g25 _ e26 ⟨_, rfl, rfl, rfl⟩
          refine xB 1 [] [(1, vs (offA Aslots cslots 0 2) (List.take ((minI (((slots).length : Nat) : Int) 34)).toNat slots) (cslots - 0)), (2, vi capacity), (66, vi y24), (67, vs (offA Al cl 0 3) (List.take ((minI (((l).length : Nat) : Int) 34)).toNat l) (cl - 0))] ?_
          have f5 := f5.mono e26.r
          obtain ⟨y27, hy27, hS⟩ := bindO_T hS
          refine xE (eC 0 (fun g' lr eb ln => c21 g' ((List.take ((minI (((l).length : Nat) : Int) 34)).toNat l) : List Msg) (offA Al cl 0 3) (cl - 0) (f5.mono lr) hy27)) ?_
          rintro _ g28 _ e29 ⟨_, rfl, A27_0, c27_0, k27_0, rfl, rfl, h27_0⟩
          have nh27_0 := h27_0.len
          refine xB 1 [] [(2, vi capacity), (66, vi y24), (68, vs A27_0 y27 c27_0), (69, vs (offA Aslots cslots 0 2) (List.take ((minI (((slots).length : Nat) : Int) 34)).toNat slots) (cslots - 0))] ?_
          have f6 := f6.mono (e26.trans e29).r
          obtain ⟨y30, hy30, hS⟩ := bindO_T hS
          refine xE (eC 0 (fun g' lr eb ln => c29 g' ((List.take ((minI (((slots).length : Nat) : Int) 34)).toNat slots) : List Slot) (offA Aslots cslots 0 2) (cslots - 0) (f6.mono lr) hy30)) ?_
          rintro _ g31 _ e32 ⟨_, rfl, A30_0, c30_0, k30_0, rfl, rfl, h30_0⟩
          have nh30_0 := h30_0.len
          refine xB 1 [] [(66, vi y24), (68, vs A27_0 y27 c27_0), (70, vs A30_0 y30 c30_0), (71, vi capacity)] ?_
          have h27_0 := h27_0.mono e32.b
          obtain ⟨y33, hy33, hS⟩ := bindO_T hS
          refine xE (eC 0 (fun g' lr eb ln => c31 g' (y27 : List Msg) A27_0 c27_0 (y30 : List Slot) A30_0 c30_0 (capacity : Int) (arr_of_buf h27_0 (Psi.le_b eb) (lentk 1 (by kernel_rfl) ln)) (arr_of_buf h30_0 (Psi.le_b eb) (lentk 0 (by kernel_rfl) ln)) hy33)) ?_
          rintro _ g34 _ e35 ⟨_, rfl, rfl, rfl⟩
          refine xB 2 [] [(6, vb (y24 == y33))] ?_
          refine xRe ?_
          refine wpq_then ?_
          have eS := (Option.some.inj hS).symm
          subst eS
          exact xRet [] [6] (e3.trans (e9.trans (e12.trans (e15.trans (e18.trans (e23.trans (e26.trans (e29.trans (e32.trans e35))))))))) ⟨by kernel_rfl, by kernel_rfl⟩ (fun _ _ h => h)
        · intro uu21 hS hN21 hD21
          refine xBl 0 ?_
          refine xSel [some 3, some 0] ?_
          refine xSub [(0, vs (offA Al cl 0 3) (List.take ((minI (((l).length : Nat) : Int) 34)).toNat l) (cl - 0)), (1, vs (offA Aslots cslots 0 2) (List.take ((minI (((slots).length : Nat) : Int) 34)).toNat slots) (cslots - 0)), (2, vi capacity), (7, vs A7_0 y7.1 c7_0), (9, vs A16_0 y16.1 c16_0), (49, vi (((y7.1).length : Nat) : Int)), (50, vi 0)] ?_
          refine xLo hS (fun g own sl s38 => own = [k7_0, k16_0] ∧ sl = [(0, vs (offA Al cl 0 3) (List.take ((minI (((l).length : Nat) : Int) 34)).toNat l) (cl - 0)), (1, vs (offA Aslots cslots 0 2) (List.take ((minI (((slots).length : Nat) : Int) 34)).toNat slots) (cslots - 0)), (2, vi capacity), (7, vs A7_0 y7.1 c7_0), (9, vs A16_0 y16.1 c16_0), (49, vi (((y7.1).length : Nat) : Int)), (50, vi ((s38 : Nat) : Int))]) ⟨by kernel_rfl, by kernel_rfl⟩ ?_
          rintro g39 _ _ s38 uu38 e40 ⟨rfl, rfl⟩ hS Qr38 hN38 hD38
          unfold o10_L0 at hS
          refine xSq ?_
          refine xRg ?_
          refine xB 1 [] [(0, vs (offA Al cl 0 3) (List.take ((minI (((l).length : Nat) : Int) 34)).toNat l) (cl - 0)), (1, vs (offA Aslots cslots 0 2) (List.take ((minI (((slots).length : Nat) : Int) 34)).toNat slots) (cslots - 0)), (2, vi capacity), (7, vs A7_0 y7.1 c7_0), (9, vs A16_0 y16.1 c16_0), (49, vi (((y7.1).length : Nat) : Int)), (50, vi ((s38 : Nat) : Int)), (51, vb (decide (((s38 : Nat) : Int) < (((y7.1).length : Nat) : Int))))] ?_
          refine xRe ?_
          refine wpq_then ?_
          refine xSq ?_
          refine xCd (decide (((s38 : Nat) : Int) < (((y7.1).length : Nat) : Int))) (fun h41 => ?_) (fun h41 => ?_)
          · have hS := cond_T h41 hS
            have h41p := of_decide_eq_true h41
            refine xSk ?_
            refine wpq_then ?_
            refine xSub [(0, vs (offA Al cl 0 3) (List.take ((minI (((l).length : Nat) : Int) 34)).toNat l) (cl - 0)), (1, vs (offA Aslots cslots 0 2) (List.take ((minI (((slots).length : Nat) : Int) 34)).toNat slots) (cslots - 0)), (2, vi capacity), (7, vs A7_0 y7.1 c7_0), (9, vs A16_0 y16.1 c16_0), (49, vi (((y7.1).length : Nat) : Int)), (50, vi ((s38 : Nat) : Int))] ?_
            refine xSq ?_
            refine xBl 1 ?_
            refine xSq ?_
            refine xRg ?_
            refine xB 2 [] [(0, vs (offA Al cl 0 3) (List.take ((minI (((l).length : Nat) : Int) 34)).toNat l) (cl - 0)), (1, vs (offA Aslots cslots 0 2) (List.take ((minI (((slots).length : Nat) : Int) 34)).toNat slots) (cslots - 0)), (2, vi capacity), (7, vs A7_0 y7.1 c7_0), (9, vs A16_0 y16.1 c16_0), (11, vi ((s38 : Nat) : Int)), (49, vi (((y7.1).length : Nat) : Int)), (50, vi ((s38 : Nat) : Int))] ?_
            refine xRe ?_
            refine wpq_then ?_
            refine xSq ?_
            refine xDr 0 [3, 7] [8] [k7_0, k16_0] 9 (fun RG => ?_) (fun _ _ _ _ _ h => h)
            have h7_0 := h7_0.mono (e12.trans (e15.trans (e18.trans e40))).b
            have i43 : s38 < (y7.1).length := by omega
            obtain ⟨kc42, cs42, hA42, hk42, hr42, hw42⟩ := h7_0.open_ i43 0
            obtain ⟨kb42, rfl⟩ : ∃ z, z = kc42 := ⟨_, rfl⟩
            subst hk42
            have hr42 : cs42 = [vi (List.getD y7.1 s38 0)] := hr42
            subst hr42
            refine xT 7 [0, 1] [] [some 0, some 1] [(0, vs (offA Al cl 0 3) (List.take ((minI (((l).length : Nat) : Int) 34)).toNat l) (cl - 0)), (1, vs (offA Aslots cslots 0 2) (List.take ((minI (((slots).length : Nat) : Int) 34)).toNat slots) (cslots - 0)), (2, vi capacity), (7, vs A7_0 y7.1 c7_0), (9, vs A16_0 y16.1 c16_0), (11, vi ((s38 : Nat) : Int)), (49, vi (((y7.1).length : Nat) : Int)), (50, vi ((s38 : Nat) : Int)), (53, vs A7_0 y7.1 c7_0), (54, vi ((s38 : Nat) : Int))] RG (Psi.le.refl _) ?_
            refine xTp 2 RG (fun _ => (qIxB s38 1 kb42.g hA42 rfl i43)) ?_
            refine xTv 3 [some 0, some 1] RG (Psi.le.refl _) (qLdB s38 1 0 0 hw42) ?_
            have h16_0 := h16_0.mono e40.b
            obtain ⟨q45, hS⟩ := grd_T hS
            have q45p := of_decide_eq_true q45
            obtain ⟨kc44, cs44, hA44, hk44, hr44, hw44⟩ := h16_0.open_ q45p 0
            obtain ⟨kb44, rfl⟩ : ∃ z, z = kc44 := ⟨_, rfl⟩
            subst hk44
            have hr44 : cs44 = [vi (List.getD y16.1 s38 0)] := hr44
            subst hr44
            refine xT 3 [4, 5] [] [some 0, some 1] [(0, vs (offA Al cl 0 3) (List.take ((minI (((l).length : Nat) : Int) 34)).toNat l) (cl - 0)), (1, vs (offA Aslots cslots 0 2) (List.take ((minI (((slots).length : Nat) : Int) 34)).toNat slots) (cslots - 0)), (2, vi capacity), (7, vs A7_0 y7.1 c7_0), (9, vs A16_0 y16.1 c16_0), (49, vi (((y7.1).length : Nat) : Int)), (50, vi ((s38 : Nat) : Int)), (56, vi (List.getD y7.1 s38 0)), (57, vs A16_0 y16.1 c16_0), (58, vi ((s38 : Nat) : Int))] RG (Psi.le.refl _) ?_
            refine xTp 6 RG (fun _ => (qIxB s38 1 kb44.g hA44 rfl q45p)) ?_
            refine xTv 7 [some 0, some 1] RG (Psi.le.refl _) (qLdB s38 1 0 1 hw44) ?_
            refine xT 0 [8] [] [some 0, some 1] [(0, vs (offA Al cl 0 3) (List.take ((minI (((l).length : Nat) : Int) 34)).toNat l) (cl - 0)), (1, vs (offA Aslots cslots 0 2) (List.take ((minI (((slots).length : Nat) : Int) 34)).toNat slots) (cslots - 0)), (2, vi capacity), (7, vs A7_0 y7.1 c7_0), (9, vs A16_0 y16.1 c16_0), (49, vi (((y7.1).length : Nat) : Int)), (50, vi ((s38 : Nat) : Int)), (61, vb ((List.getD y7.1 s38 0) != (List.getD y16.1 s38 0)))] RG (Psi.le.refl _) ?_
            refine xAe (lds := [3, 7]) ?_
            refine wpq_then ?_
            refine xCd (((List.getD y7.1 s38 0) != (List.getD y16.1 s38 0))) (fun h46 => ?_) (fun h46 => ?_)
            · have hS := cond_T h46 hS
              have h46p : ¬ ((List.getD y7.1 s38 0) = (List.getD y16.1 s38 0)) := ne_of_bne_ h46
              refine xSq ?_
              refine xRg ?_
              refine xB 1 [] [(6, vb false)] ?_
              refine xRe ?_
              refine wpq_then ?_
              have eS := (Option.some.inj hS).symm
              have eS := (hD38 _ eS).symm
              have eS := (hD21 _ eS).symm
              subst eS
              exact xRet [] [6] (e3.trans (e9.trans (e12.trans (e15.trans (e18.trans e40))))) ⟨by kernel_rfl, by kernel_rfl⟩ (fun _ _ h => h)
            · have hS := cond_F h46 hS
              have h46p : (List.getD y7.1 s38 0) = (List.getD y16.1 s38 0) := eq_of_bne_false_ h46
              refine xSk ?_
              refine wpq_blockN ?_
              refine wpq_then ?_
              refine xSub [(0, vs (offA Al cl 0 3) (List.take ((minI (((l).length : Nat) : Int) 34)).toNat l) (cl - 0)), (1, vs (offA Aslots cslots 0 2) (List.take ((minI (((slots).length : Nat) : Int) 34)).toNat slots) (cslots - 0)), (2, vi capacity), (7, vs A7_0 y7.1 c7_0), (9, vs A16_0 y16.1 c16_0), (49, vi (((y7.1).length : Nat) : Int)), (50, vi ((s38 : Nat) : Int))] ?_
              refine xRg ?_
              obtain ⟨q47, hS⟩ := grd_T hS
              have q47p := of_decide_eq_true q47
              refine xV (qAdd .i64 (((s38 : Nat) : Int)) (1) (wr64 (by omega))) ?_
              refine xB 1 [] [(0, vs (offA Al cl 0 3) (List.take ((minI (((l).length : Nat) : Int) 34)).toNat l) (cl - 0)), (1, vs (offA Aslots cslots 0 2) (List.take ((minI (((slots).length : Nat) : Int) 34)).toNat slots) (cslots - 0)), (2, vi capacity), (7, vs A7_0 y7.1 c7_0), (9, vs A16_0 y16.1 c16_0), (49, vi (((y7.1).length : Nat) : Int)), (50, vi (((s38 : Nat) : Int) + 1))] ?_
              refine xRe ?_
              refine wpq_thenN ?_
              refine xSub [(0, vs (offA Al cl 0 3) (List.take ((minI (((l).length : Nat) : Int) 34)).toNat l) (cl - 0)), (1, vs (offA Aslots cslots 0 2) (List.take ((minI (((slots).length : Nat) : Int) 34)).toNat slots) (cslots - 0)), (2, vi capacity), (7, vs A7_0 y7.1 c7_0), (9, vs A16_0 y16.1 c16_0), (49, vi (((y7.1).length : Nat) : Int)), (50, vi (((s38 : Nat) : Int) + 1))] ?_
              have eS := (Option.some.inj hS).symm
              exact hN38 _ eS _ _ _ (Gh.le.refl _) ⟨by kernel_rfl, by kernel_rfl⟩
          · have hS := cond_F h41 hS
            have h41p := of_decide_eq_false h41
            refine xEx 0 ?_
            refine wpq_thenX ?_
            refine wpq_thenX ?_
            refine wpq_blockE ?_
            refine xSel [] ?_
            refine xSub [(0, vs (offA Al cl 0 3) (List.take ((minI (((l).length : Nat) : Int) 34)).toNat l) (cl - 0)), (1, vs (offA Aslots cslots 0 2) (List.take ((minI (((slots).length : Nat) : Int) 34)).toNat slots) (cslots - 0)), (2, vi capacity)] ?_
            have eS := (Option.some.inj hS).symm
            have eS := (hD38 _ eS).symm
            exact hN21 _ eS _ _ _ e40 ⟨by kernel_rfl, by kernel_rfl⟩

end Go.Proofs.Ytmcgofgpcnlljaa
