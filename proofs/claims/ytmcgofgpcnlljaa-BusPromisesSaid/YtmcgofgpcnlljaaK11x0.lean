/-
Walks, printed by wip/gen. Conditions: each theorem's own.
-/
import Derived.Test.YtmcgofgpcnlljaaB3
namespace Go.Proofs.Ytmcgofgpcnlljaa
set_option linter.unusedVariables false
set_option linter.unusedSimpArgs false
open Go.RowKit
def o27_L1 (l : List Msg) (s15 : (List Int) × Nat) (s36 : (List Int) × Int) : Option (Ctl ((List Int) × Int) ((List Int))) :=
  (cond (decide (s36.2 < 32)) (grd (decide (0 ≤ s36.2 ∧ s36.2 < (((s36.1).length : Nat) : Int))) (grd (decide (0 ≤ s36.2 ∧ s36.2 < (((s36.1).length : Nat) : Int))) (grd (decide (-9223372036854775808 ≤ s36.2 + (List.getD l s15.2 default).period ∧ s36.2 + (List.getD l s15.2 default).period ≤ 9223372036854775807)) (some (Ctl.go (((List.set s36.1 (s36.2).toNat ((IntKind.i64.wrap ((List.getD s36.1 (s36.2).toNat 0) + (List.getD l s15.2 default).length)) : Int)) : List Int), (s36.2 + (List.getD l s15.2 default).period))))))) (some (Ctl.done ((s36.1 : List Int)))))
def o27_L0 (l : List Msg) (slots : List Slot) (s15 : (List Int) × Nat) : Option (Ctl ((List Int) × Nat) (Ctl ((List Int)) ((List Int) × Int))) :=
  (cond (decide (((s15.2 : Nat) : Int) < (((slots).length : Nat) : Int))) (joinO (τ := (List Int)) (ρ := Ctl ((List Int) × Nat) (Ctl ((List Int)) ((List Int) × Int))) (grd (decide (s15.2 < (l).length)) (cond ((decide ((List.getD slots s15.2 default).offset < 0) || decide ((List.getD slots s15.2 default).offset ≥ (List.getD l s15.2 default).period))) (some (Ctl.done (Ctl.done (Ctl.done ((([] : List Int), (2 : Int))))))) (bindO (τ := (List Int)) (loopO (σ := (List Int) × Int) (ρ := (List Int)) fuelN (o27_L1 l s15) ((s15.1 : List Int), (List.getD slots s15.2 default).offset)) fun t31 => (some (Ctl.go (t31 : List Int)))))) fun t19 => (grd (decide (((s15.2 : Nat) : Int) + 1 ≤ 9223372036854775807)) (some (Ctl.go ((t19 : List Int), (s15.2 + 1)))))) (some (Ctl.done (Ctl.go (s15.1 : List Int)))))
def o27_L2 (l : List Msg) (slots : List Slot) (s50 : Nat) : Option (Ctl (Nat) (Ctl (Unit) ((List Int) × Int))) :=
  (cond (decide (((s50 : Nat) : Int) < (((slots).length : Nat) : Int))) (grd (decide (s50 < (l).length)) (cond (((List.getD slots s50 default).label != (List.getD l s50 default).label)) (some (Ctl.done (Ctl.done ((([] : List Int), (1 : Int)))))) (grd (decide (((s50 : Nat) : Int) + 1 ≤ 9223372036854775807)) (some (Ctl.go (s50 + 1)))))) (some (Ctl.done (Ctl.go ()))))
def o27 (l : List Msg) (slots : List Slot) : Option ((List Int) × Int) :=
  (bindO (τ := Int) (o37 (l : List Msg)) fun y1 => (cond ((y1 != 0)) (some ((([] : List Int), (y1 : Int)))) (cond (((((slots).length : Nat) : Int) != (((l).length : Nat) : Int))) (some ((([] : List Int), (1 : Int)))) (joinO (τ := Unit) (ρ := (List Int) × Int) (loopO (σ := Nat) (ρ := Ctl (Unit) ((List Int) × Int)) fuelN (o27_L2 l slots) (0)) fun t6 => (joinO (τ := (List Int)) (ρ := (List Int) × Int) (loopO (σ := (List Int) × Nat) (ρ := Ctl ((List Int)) ((List Int) × Int)) fuelN (o27_L0 l slots) (((List.replicate 32 (0 : Int)) : List Int), 0)) fun t10 => (some (((t10 : List Int), (0 : Int)))))))))
set_option maxRecDepth 100000 in
theorem c27 (g : Gh) (l : List Msg) (Al : Option Addr) (cl : Nat) (slots : List Slot) (Aslots : Option Addr) (cslots : Nat) (fl : Arr g.r tyMsg Al cl l) (fslots : Arr g.r tySlot Aslots cslots slots) {r : (List Int) × Int} (hS : o27 l slots = some r) :
    Ctr Try.prog 27 [vs Al l cl, vs Aslots slots cslots] g [] (fun v ψ o => ∃ (Ar_0 : Option Addr) (cr_0 : Nat) (kr_0 : Option Bk), v = Value.tuple #[vs Ar_0 r.1 cr_0, vi r.2] ∧ o = [kr_0] ∧ Buf ψ (tyI .i64) 3 (.slice Ar_0 (r.1).length cr_0) kr_0 r.1) := by
  unfold o27 at hS
  refine xFn Try.f27 (Try.f27.body.getD .skip) 80 ?_
  have nfl := fl.len
  have nfslots := fslots.len
  refine xSq ?_
  refine xRg ?_
  refine xB 2 [] [(0, vs Al l cl), (1, vs Aslots slots cslots)] ?_
  refine xRe ?_
  refine wpq_then ?_
  refine xSq ?_
  refine xSq ?_
  refine xRg ?_
  refine xB 1 [] [(0, vs Al l cl), (1, vs Aslots slots cslots), (14, vs Al l cl)] ?_
  obtain ⟨y1, hy1, hS⟩ := bindO_T hS
  refine xE (eC 0 (fun g' lr eb ln => c37 g' (l : List Msg) Al cl (fl.mono lr) hy1)) ?_
  rintro _ g2 _ e3 ⟨_, rfl, rfl, rfl⟩
  refine xB 1 [] [(0, vs Al l cl), (1, vs Aslots slots cslots), (6, vi y1)] ?_
  refine xRe ?_
  refine wpq_then ?_
  refine xSq ?_
  refine xRg ?_
  refine xB 2 [] [(0, vs Al l cl), (1, vs Aslots slots cslots), (6, vi y1), (17, vb (y1 != 0))] ?_
  refine xRe ?_
  refine wpq_then ?_
  refine xCd ((y1 != 0)) (fun h4 => ?_) (fun h4 => ?_)
  · have hS := cond_T h4 hS
    have h4p : ¬ (y1 = 0) := ne_of_bne_ h4
    refine xSq ?_
    refine xRg ?_
    refine xB 3 [] [(4, Value.slice none 0 0), (5, vi y1)] ?_
    refine xRe ?_
    refine wpq_then ?_
    have eS := (Option.some.inj hS).symm
    subst eS
    exact xRet [none] [4, 5] e3 ⟨none, 0, none, by kernel_rfl, by kernel_rfl, Buf.nil⟩ (fun _ _ h => h)
  · have hS := cond_F h4 hS
    have h4p : y1 = 0 := eq_of_bne_false_ h4
    refine xSk ?_
    refine wpq_then ?_
    refine xSub [(0, vs Al l cl), (1, vs Aslots slots cslots)] ?_
    refine xSq ?_
    refine xSq ?_
    refine xRg ?_
    refine xB 5 [] [(0, vs Al l cl), (1, vs Aslots slots cslots), (23, vb ((((slots).length : Nat) : Int) != (((l).length : Nat) : Int)))] ?_
    refine xRe ?_
    refine wpq_then ?_
    refine xCd (((((slots).length : Nat) : Int) != (((l).length : Nat) : Int))) (fun h5 => ?_) (fun h5 => ?_)
    · have hS := cond_T h5 hS
      have h5p : ¬ ((((slots).length : Nat) : Int) = (((l).length : Nat) : Int)) := ne_of_bne_ h5
      refine xSq ?_
      refine xRg ?_
      refine xB 2 [] [(4, Value.slice none 0 0), (5, vi 1)] ?_
      refine xRe ?_
      refine wpq_then ?_
      have eS := (Option.some.inj hS).symm
      subst eS
      exact xRet [none] [4, 5] e3 ⟨none, 0, none, by kernel_rfl, by kernel_rfl, Buf.nil⟩ (fun _ _ h => h)
    · have hS := cond_F h5 hS
      have h5p : (((slots).length : Nat) : Int) = (((l).length : Nat) : Int) := eq_of_bne_false_ h5
      refine xSk ?_
      refine wpq_then ?_
      refine xSub [(0, vs Al l cl), (1, vs Aslots slots cslots)] ?_
      refine xSq ?_
      refine xSq ?_
      refine xRg ?_
      refine xB 3 [] [(0, vs Al l cl), (1, vs Aslots slots cslots), (24, vs Aslots slots cslots), (25, vi (((slots).length : Nat) : Int)), (26, vi 0)] ?_
      refine xRe ?_
      refine wpq_then ?_
      refine xJoinO hS (fun g own sl t6 => own = [] ∧ sl = [(0, vs Al l cl), (1, vs Aslots slots cslots)]) ?_ ?_
      · rintro g7 _ _ t6 e8 ⟨rfl, rfl⟩ hS
        refine wpq_then ?_
        refine xSq ?_
        refine xRg ?_
        refine xE (eMk (T := (tyI .i64)) (p := g7.b) (et := 3) (bytes := 8) (z := (0 : Int)) 32 rfl (show (tyI .i64).rep _ _ _ from rfl) (by omega) (by omega)) ?_
        rintro _ _ _ - ⟨A9, c9, k9, rfl, rfl, rfl, h9⟩
        have nh9 := h9.len
        have hlh9 : ((List.replicate 32 (0 : Int))).length = 32 := List.length_replicate
        refine xB 1 [] [(0, vs Al l cl), (1, vs Aslots slots cslots), (9, vs A9 (List.replicate 32 (0 : Int)) c9)] ?_
        refine xRe ?_
        refine wpq_then ?_
        refine xSq ?_
        refine xSq ?_
        refine xRg ?_
        refine xB 3 [] [(0, vs Al l cl), (9, vs A9 (List.replicate 32 (0 : Int)) c9), (41, vs Aslots slots cslots), (42, vi (((slots).length : Nat) : Int)), (43, vi 0)] ?_
        refine xRe ?_
        refine wpq_then ?_
        refine xJoinO hS (fun g own sl t10 => ∃ (k10_0 : Option Bk), own = [k10_0] ∧ sl = [(9, vs A9 t10 c9)] ∧ Buf g.b (tyI .i64) 3 (.slice A9 (t10).length c9) k10_0 t10) ?_ ?_
        · rintro g11 _ _ t10 e12 ⟨k10_0, rfl, rfl, h10_0⟩ hS
          have nh10_0 := h10_0.len
          refine wpq_then ?_
          refine xSq ?_
          refine xRg ?_
          refine xB 3 [] [(4, vs A9 t10 c9), (5, vi 0)] ?_
          refine xRe ?_
          refine wpq_then ?_
          have eS := (Option.some.inj hS).symm
          subst eS
          exact xRet [some 0] [4, 5] (e3.trans (e8.trans e12)) ⟨A9, c9, k10_0, by kernel_rfl, by kernel_rfl, h10_0⟩ (fun _ _ h => h)
        · intro uu10 hS hN10 hD10
          refine xBl 2 ?_
          refine xSub [(0, vs Al l cl), (9, vs A9 (List.replicate 32 (0 : Int)) c9), (41, vs Aslots slots cslots), (42, vi (((slots).length : Nat) : Int)), (43, vi 0)] ?_
          refine xLo hS (fun g own sl s15 => ∃ (k15_0 : Option Bk), own = [k15_0] ∧ sl = [(0, vs Al l cl), (9, vs A9 s15.1 c9), (41, vs Aslots slots cslots), (42, vi (((slots).length : Nat) : Int)), (43, vi ((s15.2 : Nat) : Int))] ∧ Buf g.b (tyI .i64) 3 (.slice A9 (s15.1).length c9) k15_0 s15.1) ⟨k9, by kernel_rfl, by kernel_rfl, h9⟩ ?_
          rintro g16 _ _ s15 uu15 e17 ⟨k15_0, rfl, rfl, h15_0⟩ hS Qr15 hN15 hD15
          have nh15_0 := h15_0.len
          unfold o27_L0 at hS
          refine xSq ?_
          refine xRg ?_
          refine xB 1 [] [(0, vs Al l cl), (9, vs A9 s15.1 c9), (41, vs Aslots slots cslots), (42, vi (((slots).length : Nat) : Int)), (43, vi ((s15.2 : Nat) : Int)), (44, vb (decide (((s15.2 : Nat) : Int) < (((slots).length : Nat) : Int))))] ?_
          refine xRe ?_
          refine wpq_then ?_
          refine xSq ?_
          refine xCd (decide (((s15.2 : Nat) : Int) < (((slots).length : Nat) : Int))) (fun h18 => ?_) (fun h18 => ?_)
          · have hS := cond_T h18 hS
            have h18p := of_decide_eq_true h18
            refine xSk ?_
            refine wpq_then ?_
            refine xSub [(0, vs Al l cl), (9, vs A9 s15.1 c9), (41, vs Aslots slots cslots), (42, vi (((slots).length : Nat) : Int)), (43, vi ((s15.2 : Nat) : Int))] ?_
            refine xSq ?_
            refine xJoinO hS (fun g own sl t19 => ∃ (k19_0 : Option Bk), own = [k19_0] ∧ sl = [(0, vs Al l cl), (9, vs A9 t19 c9), (41, vs Aslots slots cslots), (42, vi (((slots).length : Nat) : Int)), (43, vi ((s15.2 : Nat) : Int))] ∧ Buf g.b (tyI .i64) 3 (.slice A9 (t19).length c9) k19_0 t19) ?_ ?_
            · rintro g20 _ _ t19 e21 ⟨k19_0, rfl, rfl, h19_0⟩ hS
              have nh19_0 := h19_0.len
              refine wpq_then ?_
              refine xRg ?_
              obtain ⟨q22, hS⟩ := grd_T hS
              have q22p := of_decide_eq_true q22
              refine xV (qAdd .i64 (((s15.2 : Nat) : Int)) (1) (wr64 (by omega))) ?_
              refine xB 1 [] [(0, vs Al l cl), (9, vs A9 t19 c9), (41, vs Aslots slots cslots), (42, vi (((slots).length : Nat) : Int)), (43, vi (((s15.2 : Nat) : Int) + 1))] ?_
              refine xRe ?_
              refine wpq_thenN ?_
              refine xSub [(0, vs Al l cl), (9, vs A9 t19 c9), (41, vs Aslots slots cslots), (42, vi (((slots).length : Nat) : Int)), (43, vi (((s15.2 : Nat) : Int) + 1))] ?_
              have eS := (Option.some.inj hS).symm
              exact hN15 _ eS _ _ _ e21 ⟨k19_0, by kernel_rfl, by kernel_rfl, h19_0⟩
            · intro uu19 hS hN19 hD19
              refine xBl 3 ?_
              refine xSq ?_
              refine xRg ?_
              have fslots := fslots.mono (e3.trans (e8.trans e17)).r
              have i24 : s15.2 < (slots).length := by omega
              obtain ⟨ad23, cs23, hA23, hr23, hc23⟩ := fslots.at_ (get_getD (d := default) i24)
              obtain ⟨rfl⟩ := hr23
              refine xB 1 [] [(0, vs Al l cl), (9, vs A9 s15.1 c9), (41, vs Aslots slots cslots), (42, vi (((slots).length : Nat) : Int)), (43, vi ((s15.2 : Nat) : Int)), (45, vi ((s15.2 : Nat) : Int))] ?_
              refine xV (qIx s15.2 2 hA23 rfl i24) ?_
              refine xV (qLdP (Addr.add ad23 (s15.2 * 2)) 0 hc23) ?_
              refine xE eB ?_
              rintro _ _ _ - ⟨b25, rfl, rfl, rfl⟩
              refine xBo 2 [(5, 0)] [some ⟨b25, 46, [vy ((List.getD slots s15.2 default).label), vi ((List.getD slots s15.2 default).offset)]⟩, k15_0] [(0, vs Al l cl), (9, vs A9 s15.1 c9), (10, vi ((s15.2 : Nat) : Int)), (11, vp b25 0), (41, vs Aslots slots cslots), (42, vi (((slots).length : Nat) : Int)), (43, vi ((s15.2 : Nat) : Int))] ?_
              refine xRe ?_
              refine wpq_then ?_
              refine xSq ?_
              refine xRg ?_
              have fl := fl.mono (e3.trans (e8.trans e17)).r
              obtain ⟨q27, hS⟩ := grd_T hS
              have q27p := of_decide_eq_true q27
              obtain ⟨ad26, cs26, hA26, hr26, hc26⟩ := fl.at_ (get_getD (d := default) q27p)
              obtain ⟨rfl⟩ := hr26
              refine xB 2 [] [(0, vs Al l cl), (9, vs A9 s15.1 c9), (11, vp b25 0), (41, vs Aslots slots cslots), (42, vi (((slots).length : Nat) : Int)), (43, vi ((s15.2 : Nat) : Int)), (48, vs Al l cl), (49, vi ((s15.2 : Nat) : Int))] ?_
              refine xV (qIx s15.2 3 hA26 rfl q27p) ?_
              refine xV (qLdP (Addr.add ad26 (s15.2 * 3)) 0 hc26) ?_
              refine xE eB ?_
              rintro _ _ _ - ⟨b28, rfl, rfl, rfl⟩
              refine xBo 1 [(5, 0)] [some ⟨b28, 70, [vy ((List.getD l s15.2 default).label), vi ((List.getD l s15.2 default).period), vi ((List.getD l s15.2 default).length)]⟩, some ⟨b25, 46, [vy ((List.getD slots s15.2 default).label), vi ((List.getD slots s15.2 default).offset)]⟩, k15_0] [(0, vs Al l cl), (9, vs A9 s15.1 c9), (11, vp b25 0), (12, vp b28 0), (41, vs Aslots slots cslots), (42, vi (((slots).length : Nat) : Int)), (43, vi ((s15.2 : Nat) : Int))] ?_
              refine xRe ?_
              refine wpq_then ?_
              refine xSq ?_
              refine xSq ?_
              refine xRg ?_
              refine xB 4 [(1, 1)] [(0, vs Al l cl), (9, vs A9 s15.1 c9), (11, vp b25 0), (12, vp b28 0), (41, vs Aslots slots cslots), (42, vi (((slots).length : Nat) : Int)), (43, vi ((s15.2 : Nat) : Int)), (55, vb (decide ((List.getD slots s15.2 default).offset < 0)))] ?_
              refine wpr_grp 10 [(0, vs Al l cl), (9, vs A9 s15.1 c9), (11, vp b25 0), (12, vp b28 0), (41, vs Aslots slots cslots), (42, vi (((slots).length : Nat) : Int)), (43, vi ((s15.2 : Nat) : Int)), (61, vb (decide ((List.getD slots s15.2 default).offset < 0) || decide ((List.getD slots s15.2 default).offset ≥ (List.getD l s15.2 default).period)))] (fun hk3 => ?_) ?_
              · refine wpq_split 55 (b := decide ((List.getD slots s15.2 default).offset < 0)) (by kernel_rfl) (fun q29 => ?_) (fun q29 => ?_)
                · have q29p := of_decide_eq_true q29
                  refine xB 6 [] [(0, vs Al l cl), (9, vs A9 s15.1 c9), (11, vp b25 0), (12, vp b28 0), (41, vs Aslots slots cslots), (42, vi (((slots).length : Nat) : Int)), (43, vi ((s15.2 : Nat) : Int)), (61, vb true)] ?_
                  refine wpq_re 61 (v := vb true) (Value.bool ((decide ((List.getD slots s15.2 default).offset < 0) || decide ((List.getD slots s15.2 default).offset ≥ (List.getD l s15.2 default).period)))) (by kernel_rfl) (re_or1 q29) ?_
                  exact wpq_sub _ (by kernel_rfl) hk3
                · have q29p := of_decide_eq_false q29
                  refine xB 6 [(5, 1), (7, 0)] [(0, vs Al l cl), (9, vs A9 s15.1 c9), (11, vp b25 0), (12, vp b28 0), (41, vs Aslots slots cslots), (42, vi (((slots).length : Nat) : Int)), (43, vi ((s15.2 : Nat) : Int)), (61, vb (decide ((List.getD slots s15.2 default).offset ≥ (List.getD l s15.2 default).period)))] ?_
                  refine wpq_re 61 (v := vb (decide ((List.getD slots s15.2 default).offset ≥ (List.getD l s15.2 default).period))) (Value.bool ((decide ((List.getD slots s15.2 default).offset < 0) || decide ((List.getD slots s15.2 default).offset ≥ (List.getD l s15.2 default).period)))) (by kernel_rfl) (re_or0 q29) ?_
                  exact wpq_sub _ (by kernel_rfl) hk3
              · refine xRe ?_
                refine wpq_then ?_
                refine xCd ((decide ((List.getD slots s15.2 default).offset < 0) || decide ((List.getD slots s15.2 default).offset ≥ (List.getD l s15.2 default).period))) (fun h30 => ?_) (fun h30 => ?_)
                · have hS := cond_T h30 hS
                  refine xSq ?_
                  refine xRg ?_
                  refine xB 2 [] [(4, Value.slice none 0 0), (5, vi 2)] ?_
                  refine xRe ?_
                  refine wpq_then ?_
                  have eS := (Option.some.inj hS).symm
                  have eS := (hD19 _ eS).symm
                  have eS := (hD15 _ eS).symm
                  have eS := (hD10 _ eS).symm
                  subst eS
                  exact xRet [none] [4, 5] (e3.trans (e8.trans e17)) ⟨none, 0, none, by kernel_rfl, by kernel_rfl, Buf.nil⟩ (fun _ _ h => h)
                · have hS := cond_F h30 hS
                  have h30l := (or_false_ h30).1
                  have h30r := (or_false_ h30).2
                  have h30lp := of_decide_eq_false h30l
                  have h30rp := of_decide_eq_false h30r
                  refine xSk ?_
                  refine wpq_then ?_
                  refine xSub [(0, vs Al l cl), (9, vs A9 s15.1 c9), (11, vp b25 0), (12, vp b28 0), (41, vs Aslots slots cslots), (42, vi (((slots).length : Nat) : Int)), (43, vi ((s15.2 : Nat) : Int))] ?_
                  refine xSq ?_
                  refine xRg ?_
                  refine xB 3 [(1, 1)] [(0, vs Al l cl), (9, vs A9 s15.1 c9), (12, vp b28 0), (13, vi ((List.getD slots s15.2 default).offset)), (41, vs Aslots slots cslots), (42, vi (((slots).length : Nat) : Int)), (43, vi ((s15.2 : Nat) : Int))] ?_
                  refine xRe ?_
                  refine wpq_then ?_
                  refine xBindO hS (fun g own sl t31 => ∃ (k31_0 : Option Bk), own = [k31_0] ∧ sl = [(0, vs Al l cl), (9, vs A9 t31 c9), (41, vs Aslots slots cslots), (42, vi (((slots).length : Nat) : Int)), (43, vi ((s15.2 : Nat) : Int))] ∧ Buf g.b (tyI .i64) 3 (.slice A9 (t31).length c9) k31_0 t31) ?_ ?_
                  · rintro g32 _ _ t31 e33 ⟨k31_0, rfl, rfl, h31_0⟩ hS
                    have nh31_0 := h31_0.len
                    refine wpq_blockN ?_
                    refine xSub [(0, vs Al l cl), (9, vs A9 t31 c9), (41, vs Aslots slots cslots), (42, vi (((slots).length : Nat) : Int)), (43, vi ((s15.2 : Nat) : Int))] ?_
                    have eS := (Option.some.inj hS).symm
                    exact hN19 _ eS _ _ _ e33 ⟨k31_0, by kernel_rfl, by kernel_rfl, h31_0⟩
                  · intro uu31 hS hN31
                    refine xBl 4 ?_
                    refine xSel [some 0, some 2] ?_
                    refine xSub [(0, vs Al l cl), (9, vs A9 s15.1 c9), (12, vp b28 0), (13, vi ((List.getD slots s15.2 default).offset)), (41, vs Aslots slots cslots), (42, vi (((slots).length : Nat) : Int)), (43, vi ((s15.2 : Nat) : Int))] ?_
                    refine xLo hS (fun g own sl s36 => ∃ (k36_0 : Option Bk), own = [some ⟨b28, 70, [vy ((List.getD l s15.2 default).label), vi ((List.getD l s15.2 default).period), vi ((List.getD l s15.2 default).length)]⟩, k36_0] ∧ sl = [(0, vs Al l cl), (9, vs A9 s36.1 c9), (12, vp b28 0), (13, vi s36.2), (41, vs Aslots slots cslots), (42, vi (((slots).length : Nat) : Int)), (43, vi ((s15.2 : Nat) : Int))] ∧ Buf g.b (tyI .i64) 3 (.slice A9 (s36.1).length c9) k36_0 s36.1) ⟨k15_0, by kernel_rfl, by kernel_rfl, h15_0⟩ ?_
                    rintro g37 _ _ s36 uu36 e38 ⟨k36_0, rfl, rfl, h36_0⟩ hS Qr36 hN36 hD36
                    have nh36_0 := h36_0.len
                    unfold o27_L1 at hS
                    refine xSq ?_
                    refine xSq ?_
                    refine xRg ?_
                    refine xB 2 [] [(0, vs Al l cl), (9, vs A9 s36.1 c9), (12, vp b28 0), (13, vi s36.2), (41, vs Aslots slots cslots), (42, vi (((slots).length : Nat) : Int)), (43, vi ((s15.2 : Nat) : Int)), (65, vb (decide (s36.2 < 32)))] ?_
                    refine xRe ?_
                    refine wpq_then ?_
                    refine xCd (decide (s36.2 < 32)) (fun h39 => ?_) (fun h39 => ?_)
                    · have hS := cond_T h39 hS
                      have h39p := of_decide_eq_true h39
                      refine xSk ?_
                      refine wpq_then ?_
                      refine xSub [(0, vs Al l cl), (9, vs A9 s36.1 c9), (12, vp b28 0), (13, vi s36.2), (41, vs Aslots slots cslots), (42, vi (((slots).length : Nat) : Int)), (43, vi ((s15.2 : Nat) : Int))] ?_
                      refine xSq ?_
                      refine xBl 5 ?_
                      refine xDr 0 [3, 5] [8, 6, 7] [some ⟨b28, 70, [vy ((List.getD l s15.2 default).label), vi ((List.getD l s15.2 default).period), vi ((List.getD l s15.2 default).length)]⟩, k36_0] 9 (fun RG => ?_) (fun _ _ _ _ _ h => h)
                      obtain ⟨q41, hS⟩ := grd_T hS
                      have q41p := of_decide_eq_true q41
                      have i42 : (s36.2).toNat < (s36.1).length := by omega
                      obtain ⟨kc40, cs40, hA40, hk40, hr40, hw40⟩ := h36_0.open_ i42 0
                      obtain ⟨kb40, rfl⟩ : ∃ z, z = kc40 := ⟨_, rfl⟩
                      subst hk40
                      have hr40 : cs40 = [vi (List.getD s36.1 (s36.2).toNat 0)] := hr40
                      subst hr40
                      refine xT 7 [0, 1] [] [some 0, some 1] [(0, vs Al l cl), (9, vs A9 s36.1 c9), (12, vp b28 0), (13, vi s36.2), (41, vs Aslots slots cslots), (42, vi (((slots).length : Nat) : Int)), (43, vi ((s15.2 : Nat) : Int)), (70, vs A9 s36.1 c9), (71, vi s36.2)] RG (Psi.le.refl _) ?_
                      refine xTp 2 RG (fun _ => (qIxB (s36.2).toNat 1 kb40.g hA40 (show (s36.2 : Int) = _ from by omega) i42)) ?_
                      refine xTv 3 [some 0, some 1] RG (Psi.le.refl _) (qLdB (s36.2).toNat 1 0 1 hw40) ?_
                      have z144 := i64_in_ ((List.getD s36.1 (s36.2).toNat 0) + (List.getD l s15.2 default).length)
                      obtain ⟨q44, hS⟩ := grd_T hS
                      have q44p := of_decide_eq_true q44
                      have i45 : (s36.2).toNat < (s36.1).length := by omega
                      obtain ⟨kc43, cs43, hA43, hk43, hr43, hw43⟩ := h36_0.open_ i45 0
                      cases hk43
                      have hr43 : cs43 = [vi (List.getD s36.1 (s36.2).toNat 0)] := hr43
                      subst hr43
                      refine xT 2 [4, 5, 6] [(5, 0)] [some 0, some 1] [(0, vs Al l cl), (9, vs A9 s36.1 c9), (12, vp b28 0), (13, vi s36.2), (41, vs Aslots slots cslots), (42, vi (((slots).length : Nat) : Int)), (43, vi ((s15.2 : Nat) : Int)), (70, vs A9 s36.1 c9), (71, vi s36.2), (76, vi (IntKind.i64.wrap ((List.getD s36.1 (s36.2).toNat 0) + (List.getD l s15.2 default).length)))] RG (Psi.le.refl _) ?_
                      refine xTp 7 RG (fun _ => (qIxB (s36.2).toNat 1 kb40.g hA43 (show (s36.2 : Int) = _ from by omega) i45)) ?_
                      refine xO1 (lds := [3, 5]) 8 ?_
                      refine xId (lds := [3, 5]) (Psi.le.refl _) (eStB (s36.2).toNat 1 0 1 [vi (IntKind.i64.wrap ((List.getD s36.1 (s36.2).toNat 0) + (List.getD l s15.2 default).length))] h36_0 rfl hw43 (show (tyI .i64).rep _ _ _ from rfl) i45) ?_
                      rintro _ _ _ - ⟨k46, rfl, rfl, h46⟩
                      refine kf ?_
                      have hz46 : (s36.1).length = ((List.set s36.1 (s36.2).toNat ((IntKind.i64.wrap ((List.getD s36.1 (s36.2).toNat 0) + (List.getD l s15.2 default).length)) : Int))).length := by simp
                      refine xAe (lds := [3, 5]) ?_
                      refine wpq_blockN ?_
                      refine wpq_then ?_
                      refine xSub [(0, vs Al l cl), (9, Value.slice A9 ((s36.1).length) c9), (12, vp b28 0), (13, vi s36.2), (41, vs Aslots slots cslots), (42, vi (((slots).length : Nat) : Int)), (43, vi ((s15.2 : Nat) : Int))] ?_
                      refine xRg ?_
                      obtain ⟨q47, hS⟩ := grd_T hS
                      have q47p := of_decide_eq_true q47
                      refine xB 3 [(2, 0)] [(0, vs Al l cl), (9, Value.slice A9 ((s36.1).length) c9), (12, vp b28 0), (13, vi s36.2), (41, vs Aslots slots cslots), (42, vi (((slots).length : Nat) : Int)), (43, vi ((s15.2 : Nat) : Int)), (66, vi s36.2), (68, vi ((List.getD l s15.2 default).period))] ?_
                      refine xV (qAdd .i64 (s36.2) ((List.getD l s15.2 default).period) (wr64 (by omega))) ?_
                      refine xB 1 [] [(0, vs Al l cl), (9, Value.slice A9 ((s36.1).length) c9), (12, vp b28 0), (13, vi (s36.2 + (List.getD l s15.2 default).period)), (41, vs Aslots slots cslots), (42, vi (((slots).length : Nat) : Int)), (43, vi ((s15.2 : Nat) : Int))] ?_
                      refine xRe ?_
                      refine wpq_thenN ?_
                      refine wpq_re 9 (v := Value.slice A9 ((s36.1).length) c9) (vs A9 (List.set s36.1 (s36.2).toNat ((IntKind.i64.wrap ((List.getD s36.1 (s36.2).toNat 0) + (List.getD l s15.2 default).length)) : Int)) c9) (by kernel_rfl) (congrArg (fun z => Value.slice A9 z c9) hz46) ?_
                      have h46 := Buf.re h46 hz46 (rfl : (List.set s36.1 (s36.2).toNat ((IntKind.i64.wrap ((List.getD s36.1 (s36.2).toNat 0) + (List.getD l s15.2 default).length)) : Int)) = _)
                      refine xSub [(0, vs Al l cl), (9, vs A9 (List.set s36.1 (s36.2).toNat ((IntKind.i64.wrap ((List.getD s36.1 (s36.2).toNat 0) + (List.getD l s15.2 default).length)) : Int)) c9), (12, vp b28 0), (13, vi (s36.2 + (List.getD l s15.2 default).period)), (41, vs Aslots slots cslots), (42, vi (((slots).length : Nat) : Int)), (43, vi ((s15.2 : Nat) : Int))] ?_
                      have eS := (Option.some.inj hS).symm
                      exact hN36 _ eS _ _ _ (Gh.le.refl _) ⟨k46, by kernel_rfl, by kernel_rfl, h46⟩
                    · have hS := cond_F h39 hS
                      have h39p := of_decide_eq_false h39
                      refine xEx 4 ?_
                      refine wpq_thenX ?_
                      refine wpq_thenX ?_
                      refine wpq_blockE ?_
                      refine xSel [some 1] ?_
                      refine xSub [(0, vs Al l cl), (9, vs A9 s36.1 c9), (41, vs Aslots slots cslots), (42, vi (((slots).length : Nat) : Int)), (43, vi ((s15.2 : Nat) : Int))] ?_
                      have eS := (Option.some.inj hS).symm
                      have eS := (hD36 _ eS).symm
                      exact hN31 _ eS _ _ _ e38 ⟨k36_0, by kernel_rfl, by kernel_rfl, h36_0⟩
          · have hS := cond_F h18 hS
            have h18p := of_decide_eq_false h18
            refine xEx 2 ?_
            refine wpq_thenX ?_
            refine wpq_thenX ?_
            refine wpq_blockE ?_
            refine xSub [(9, vs A9 s15.1 c9)] ?_
            have eS := (Option.some.inj hS).symm
            have eS := (hD15 _ eS).symm
            exact hN10 _ eS _ _ _ e17 ⟨k15_0, by kernel_rfl, by kernel_rfl, h15_0⟩
      · intro uu6 hS hN6 hD6
        refine xBl 0 ?_
        refine xSub [(0, vs Al l cl), (1, vs Aslots slots cslots), (24, vs Aslots slots cslots), (25, vi (((slots).length : Nat) : Int)), (26, vi 0)] ?_
        refine xLo hS (fun g own sl s50 => own = [] ∧ sl = [(0, vs Al l cl), (1, vs Aslots slots cslots), (24, vs Aslots slots cslots), (25, vi (((slots).length : Nat) : Int)), (26, vi ((s50 : Nat) : Int))]) ⟨by kernel_rfl, by kernel_rfl⟩ ?_
        rintro g51 _ _ s50 uu50 e52 ⟨rfl, rfl⟩ hS Qr50 hN50 hD50
        unfold o27_L2 at hS
        refine xSq ?_
        refine xRg ?_
        refine xB 1 [] [(0, vs Al l cl), (1, vs Aslots slots cslots), (24, vs Aslots slots cslots), (25, vi (((slots).length : Nat) : Int)), (26, vi ((s50 : Nat) : Int)), (27, vb (decide (((s50 : Nat) : Int) < (((slots).length : Nat) : Int))))] ?_
        refine xRe ?_
        refine wpq_then ?_
        refine xSq ?_
        refine xCd (decide (((s50 : Nat) : Int) < (((slots).length : Nat) : Int))) (fun h53 => ?_) (fun h53 => ?_)
        · have hS := cond_T h53 hS
          have h53p := of_decide_eq_true h53
          refine xSk ?_
          refine wpq_then ?_
          refine xSub [(0, vs Al l cl), (1, vs Aslots slots cslots), (24, vs Aslots slots cslots), (25, vi (((slots).length : Nat) : Int)), (26, vi ((s50 : Nat) : Int))] ?_
          refine xSq ?_
          refine xBl 1 ?_
          refine xSq ?_
          refine xRg ?_
          have fslots := fslots.mono (e3.trans e52).r
          have i55 : s50 < (slots).length := by omega
          obtain ⟨ad54, cs54, hA54, hr54, hc54⟩ := fslots.at_ (get_getD (d := default) i55)
          obtain ⟨rfl⟩ := hr54
          refine xB 1 [] [(0, vs Al l cl), (1, vs Aslots slots cslots), (24, vs Aslots slots cslots), (25, vi (((slots).length : Nat) : Int)), (26, vi ((s50 : Nat) : Int)), (28, vi ((s50 : Nat) : Int))] ?_
          refine xV (qIx s50 2 hA54 rfl i55) ?_
          refine xV (qLdP (Addr.add ad54 (s50 * 2)) 0 hc54) ?_
          refine xE eB ?_
          rintro _ _ _ - ⟨b56, rfl, rfl, rfl⟩
          refine xBo 2 [(5, 0)] [some ⟨b56, 46, [vy ((List.getD slots s50 default).label), vi ((List.getD slots s50 default).offset)]⟩] [(0, vs Al l cl), (1, vs Aslots slots cslots), (7, vi ((s50 : Nat) : Int)), (8, vp b56 0), (24, vs Aslots slots cslots), (25, vi (((slots).length : Nat) : Int)), (26, vi ((s50 : Nat) : Int))] ?_
          refine xRe ?_
          refine wpq_then ?_
          refine xSq ?_
          refine xDr 0 [1, 6] [7] [some ⟨b56, 46, [vy ((List.getD slots s50 default).label), vi ((List.getD slots s50 default).offset)]⟩] 8 (fun RG => ?_) (fun _ _ _ _ _ h => h)
          have fl := fl.mono (e3.trans e52).r
          obtain ⟨q58, hS⟩ := grd_T hS
          have q58p := of_decide_eq_true q58
          obtain ⟨ad57, cs57, hA57, hr57, hc57⟩ := fl.at_ (get_getD (d := default) q58p)
          obtain ⟨rfl⟩ := hr57
          refine xT 4 [0, 1, 2, 3] [(1, 0)] [some 0] [(0, vs Al l cl), (1, vs Aslots slots cslots), (24, vs Aslots slots cslots), (25, vi (((slots).length : Nat) : Int)), (26, vi ((s50 : Nat) : Int)), (32, vy ((List.getD slots s50 default).label)), (33, vs Al l cl), (34, vi ((s50 : Nat) : Int))] RG (Psi.le.refl _) ?_
          refine xTp 4 RG (fun _ => (qIx s50 3 hA57 rfl q58p)) ?_
          refine xT 2 [5] [] [some 0] [(0, vs Al l cl), (1, vs Aslots slots cslots), (24, vs Aslots slots cslots), (25, vi (((slots).length : Nat) : Int)), (26, vi ((s50 : Nat) : Int)), (32, vy ((List.getD slots s50 default).label)), (36, Value.pointer (some (Addr.add ad57 (s50 * 3))))] RG (Psi.le.refl _) ?_
          refine xTv 6 [some 0] RG (Psi.le.refl _) (qLdP (Addr.add ad57 (s50 * 3)) 0 hc57) ?_
          refine xT 0 [7] [] [some 0] [(0, vs Al l cl), (1, vs Aslots slots cslots), (24, vs Aslots slots cslots), (25, vi (((slots).length : Nat) : Int)), (26, vi ((s50 : Nat) : Int)), (38, vb ((List.getD slots s50 default).label != (List.getD l s50 default).label))] RG (Psi.le.refl _) ?_
          refine xAe (lds := [1, 6]) ?_
          refine wpq_then ?_
          refine xCd (((List.getD slots s50 default).label != (List.getD l s50 default).label)) (fun h59 => ?_) (fun h59 => ?_)
          · have hS := cond_T h59 hS
            have h59p : ¬ ((List.getD slots s50 default).label = (List.getD l s50 default).label) := ne_of_bne_ h59
            refine xSq ?_
            refine xRg ?_
            refine xB 2 [] [(4, Value.slice none 0 0), (5, vi 1)] ?_
            refine xRe ?_
            refine wpq_then ?_
            have eS := (Option.some.inj hS).symm
            have eS := (hD50 _ eS).symm
            have eS := (hD6 _ eS).symm
            subst eS
            exact xRet [none] [4, 5] (e3.trans e52) ⟨none, 0, none, by kernel_rfl, by kernel_rfl, Buf.nil⟩ (fun _ _ h => h)
          · have hS := cond_F h59 hS
            have h59p : (List.getD slots s50 default).label = (List.getD l s50 default).label := eq_of_bne_false_ h59
            refine xSk ?_
            refine wpq_blockN ?_
            refine wpq_then ?_
            refine xSub [(0, vs Al l cl), (1, vs Aslots slots cslots), (24, vs Aslots slots cslots), (25, vi (((slots).length : Nat) : Int)), (26, vi ((s50 : Nat) : Int))] ?_
            refine xRg ?_
            obtain ⟨q60, hS⟩ := grd_T hS
            have q60p := of_decide_eq_true q60
            refine xV (qAdd .i64 (((s50 : Nat) : Int)) (1) (wr64 (by omega))) ?_
            refine xB 1 [] [(0, vs Al l cl), (1, vs Aslots slots cslots), (24, vs Aslots slots cslots), (25, vi (((slots).length : Nat) : Int)), (26, vi (((s50 : Nat) : Int) + 1))] ?_
            refine xRe ?_
            refine wpq_thenN ?_
            refine xSel [] ?_
            refine xSub [(0, vs Al l cl), (1, vs Aslots slots cslots), (24, vs Aslots slots cslots), (25, vi (((slots).length : Nat) : Int)), (26, vi (((s50 : Nat) : Int) + 1))] ?_
            have eS := (Option.some.inj hS).symm
            exact hN50 _ eS _ _ _ (Gh.le.refl _) ⟨by kernel_rfl, by kernel_rfl⟩
        · have hS := cond_F h53 hS
          have h53p := of_decide_eq_false h53
          refine xEx 0 ?_
          refine wpq_thenX ?_
          refine wpq_thenX ?_
          refine wpq_blockE ?_
          refine xSub [(0, vs Al l cl), (1, vs Aslots slots cslots)] ?_
          have eS := (Option.some.inj hS).symm
          have eS := (hD50 _ eS).symm
          exact hN6 _ eS _ _ _ e52 ⟨by kernel_rfl, by kernel_rfl⟩

def o49_L0 (x : List Int) (s9 : Int × Nat) : Option (Ctl (Int × Nat) (Int)) :=
  (cond (decide (((s9.2 : Nat) : Int) < (((x).length : Nat) : Int))) (grd (decide (((s9.2 : Nat) : Int) + 1 ≤ 9223372036854775807)) (some (Ctl.go ((maxI s9.1 (List.getD x s9.2 0)), (s9.2 + 1))))) (some (Ctl.done (s9.1))))
def o49 (x : List Int) : Option (Int) :=
  (cond (decide ((((x).length : Nat) : Int) < 1)) none (bindO (τ := Int) (loopO (σ := Int × Nat) (ρ := Int) fuelN (o49_L0 x) ((List.getD x 0 0), 1)) fun t4 => (some ((t4 : Int)))))
set_option maxRecDepth 100000 in
theorem c49 (g : Gh) (x : List Int) (Ax : Option Addr) (cx : Nat) (fx : Arr g.r (tyI .i64) Ax cx x) {r : Int} (hS : o49 x = some r) :
    Ctr Try.prog 49 [vs Ax x cx] g [] (fun v ψ o => v = vi r ∧ o = []) := by
  unfold o49 at hS
  refine xFn Try.f49 (Try.f49.body.getD .skip) 25 ?_
  have nfx := fx.len
  refine xSq ?_
  refine xRg ?_
  refine xB 1 [] [(0, vs Ax x cx)] ?_
  refine xRe ?_
  refine wpq_then ?_
  refine xSq ?_
  refine xSq ?_
  refine xRg ?_
  refine xB 3 [] [(0, vs Ax x cx), (7, vb (decide ((((x).length : Nat) : Int) < 1)))] ?_
  refine xRe ?_
  refine wpq_then ?_
  refine xCd (decide ((((x).length : Nat) : Int) < 1)) (fun h1 => ?_) (fun h1 => ?_)
  · have hS := cond_T h1 hS
    have h1p := of_decide_eq_true h1
    refine xRg ?_
    cases hS
  · have hS := cond_F h1 hS
    have h1p := of_decide_eq_false h1
    refine xSk ?_
    refine wpq_then ?_
    refine xSub [(0, vs Ax x cx)] ?_
    refine xSq ?_
    refine xRg ?_
    have i3 : 0 < (x).length := by omega
    obtain ⟨ad2, cs2, hA2, hr2, hc2⟩ := fx.at_ (get_getD (d := 0) i3)
    have hr2 : cs2 = [vi (List.getD x 0 0)] := hr2
    subst hr2
    refine xB 1 [] [(0, vs Ax x cx), (9, vs Ax x cx)] ?_
    refine xV (qIx 0 1 hA2 rfl i3) ?_
    refine xV (qLdP (Addr.add ad2 (0 * 1)) 0 hc2) ?_
    refine xB 1 [] [(0, vs Ax x cx), (3, vi (List.getD x 0 0))] ?_
    refine xRe ?_
    refine wpq_then ?_
    refine xSq ?_
    refine xSq ?_
    refine xRg ?_
    refine xB 1 [] [(0, vs Ax x cx), (3, vi (List.getD x 0 0)), (4, vi 1)] ?_
    refine xRe ?_
    refine wpq_then ?_
    refine xBindO hS (fun g own sl t4 => own = [] ∧ sl = [(3, vi t4)]) ?_ ?_
    · rintro g5 _ _ t4 e6 ⟨rfl, rfl⟩ hS
      refine wpq_then ?_
      refine xSq ?_
      refine xRg ?_
      refine xB 2 [] [(2, vi t4)] ?_
      refine xRe ?_
      refine wpq_then ?_
      have eS := (Option.some.inj hS).symm
      subst eS
      exact xRet [] [2] e6 ⟨by kernel_rfl, by kernel_rfl⟩ (fun _ _ h => h)
    · intro uu4 hS hN4
      refine xBl 0 ?_
      refine xSub [(0, vs Ax x cx), (3, vi (List.getD x 0 0)), (4, vi 1)] ?_
      refine xLo hS (fun g own sl s9 => own = [] ∧ sl = [(0, vs Ax x cx), (3, vi s9.1), (4, vi ((s9.2 : Nat) : Int))]) ⟨by kernel_rfl, by kernel_rfl⟩ ?_
      rintro g10 _ _ s9 uu9 e11 ⟨rfl, rfl⟩ hS Qr9 hN9 hD9
      unfold o49_L0 at hS
      refine xSq ?_
      refine xSq ?_
      refine xRg ?_
      refine xB 4 [] [(0, vs Ax x cx), (3, vi s9.1), (4, vi ((s9.2 : Nat) : Int)), (15, vb (decide (((s9.2 : Nat) : Int) < (((x).length : Nat) : Int))))] ?_
      refine xRe ?_
      refine wpq_then ?_
      refine xCd (decide (((s9.2 : Nat) : Int) < (((x).length : Nat) : Int))) (fun h12 => ?_) (fun h12 => ?_)
      · have hS := cond_T h12 hS
        have h12p := of_decide_eq_true h12
        refine xSk ?_
        refine wpq_then ?_
        refine xSub [(0, vs Ax x cx), (3, vi s9.1), (4, vi ((s9.2 : Nat) : Int))] ?_
        refine xSq ?_
        refine xBl 1 ?_
        refine xRg ?_
        have fx := fx.mono e11.r
        have i14 : s9.2 < (x).length := by omega
        obtain ⟨ad13, cs13, hA13, hr13, hc13⟩ := fx.at_ (get_getD (d := 0) i14)
        have hr13 : cs13 = [vi (List.getD x s9.2 0)] := hr13
        subst hr13
        refine xB 3 [] [(0, vs Ax x cx), (3, vi s9.1), (4, vi ((s9.2 : Nat) : Int)), (18, vi s9.1), (19, vs Ax x cx), (20, vi ((s9.2 : Nat) : Int))] ?_
        refine xV (qIx s9.2 1 hA13 rfl i14) ?_
        refine xV (qLdP (Addr.add ad13 (s9.2 * 1)) 0 hc13) ?_
        have z12 := maxI_spec s9.1 (List.getD x s9.2 0)
        refine xB 2 [] [(0, vs Ax x cx), (3, vi (maxI s9.1 (List.getD x s9.2 0))), (4, vi ((s9.2 : Nat) : Int))] ?_
        refine xRe ?_
        refine wpq_blockN ?_
        refine wpq_then ?_
        refine xRg ?_
        obtain ⟨q15, hS⟩ := grd_T hS
        have q15p := of_decide_eq_true q15
        refine xB 1 [] [(0, vs Ax x cx), (3, vi (maxI s9.1 (List.getD x s9.2 0))), (4, vi ((s9.2 : Nat) : Int)), (16, vi ((s9.2 : Nat) : Int))] ?_
        refine xV (qAdd .i64 (((s9.2 : Nat) : Int)) (1) (wr64 (by omega))) ?_
        refine xB 1 [] [(0, vs Ax x cx), (3, vi (maxI s9.1 (List.getD x s9.2 0))), (4, vi (((s9.2 : Nat) : Int) + 1))] ?_
        refine xRe ?_
        refine wpq_thenN ?_
        refine xSub [(0, vs Ax x cx), (3, vi (maxI s9.1 (List.getD x s9.2 0))), (4, vi (((s9.2 : Nat) : Int) + 1))] ?_
        have eS := (Option.some.inj hS).symm
        exact hN9 _ eS _ _ _ (Gh.le.refl _) ⟨by kernel_rfl, by kernel_rfl⟩
      · have hS := cond_F h12 hS
        have h12p := of_decide_eq_false h12
        refine xEx 0 ?_
        refine wpq_thenX ?_
        refine wpq_thenX ?_
        refine wpq_blockE ?_
        refine xSub [(3, vi s9.1)] ?_
        have eS := (Option.some.inj hS).symm
        have eS := (hD9 _ eS).symm
        exact hN4 _ eS _ _ _ e11 ⟨by kernel_rfl, by kernel_rfl⟩

def o30 (l : List Msg) (slots : List Slot) (capacity : Int) : Option (Int) :=
  (bindO (τ := (List Int) × Int) (o27 (l : List Msg) (slots : List Slot)) fun y1 => (cond ((y1.2 != 0)) (some ((y1.2 : Int))) (cond (decide (capacity < 1)) (some ((1 : Int))) (bindO (τ := Int) (o49 (y1.1 : List Int)) fun y6 => (cond (decide (y6 > capacity)) (some ((18 : Int))) (some ((0 : Int))))))))
set_option maxRecDepth 100000 in
theorem c30 (g : Gh) (l : List Msg) (Al : Option Addr) (cl : Nat) (slots : List Slot) (Aslots : Option Addr) (cslots : Nat) (capacity : Int) (fl : Arr g.r tyMsg Al cl l) (fslots : Arr g.r tySlot Aslots cslots slots) {r : Int} (hS : o30 l slots capacity = some r) :
    Ctr Try.prog 30 [vs Al l cl, vs Aslots slots cslots, vi capacity] g [] (fun v ψ o => v = vi r ∧ o = []) := by
  unfold o30 at hS
  refine xFn Try.f30 (Try.f30.body.getD .skip) 24 ?_
  have nfl := fl.len
  have nfslots := fslots.len
  refine xSq ?_
  refine xRg ?_
  refine xB 1 [] [(0, vs Al l cl), (1, vs Aslots slots cslots), (2, vi capacity)] ?_
  refine xRe ?_
  refine wpq_then ?_
  refine xSq ?_
  refine xRg ?_
  refine xB 2 [] [(2, vi capacity), (10, vs Al l cl), (11, vs Aslots slots cslots)] ?_
  obtain ⟨y1, hy1, hS⟩ := bindO_T hS
  refine xE (eC 0 (fun g' lr eb ln => c27 g' (l : List Msg) Al cl (slots : List Slot) Aslots cslots (fl.mono lr) (fslots.mono lr) hy1)) ?_
  rintro _ g2 _ e3 ⟨_, rfl, A1_0, c1_0, k1_0, rfl, rfl, h1_0⟩
  have nh1_0 := h1_0.len
  refine xB 5 [] [(2, vi capacity), (7, vs A1_0 y1.1 c1_0), (8, vi y1.2)] ?_
  refine xRe ?_
  refine wpq_then ?_
  refine xSq ?_
  refine xSq ?_
  refine xRg ?_
  refine xB 2 [] [(2, vi capacity), (7, vs A1_0 y1.1 c1_0), (8, vi y1.2), (16, vb (y1.2 != 0))] ?_
  refine xRe ?_
  refine wpq_then ?_
  refine xCd ((y1.2 != 0)) (fun h4 => ?_) (fun h4 => ?_)
  · have hS := cond_T h4 hS
    have h4p : ¬ (y1.2 = 0) := ne_of_bne_ h4
    refine xSq ?_
    refine xRg ?_
    refine xB 2 [] [(6, vi y1.2)] ?_
    refine xRe ?_
    refine wpq_then ?_
    have eS := (Option.some.inj hS).symm
    subst eS
    exact xRet [] [6] e3 ⟨by kernel_rfl, by kernel_rfl⟩ (fun _ _ h => h)
  · have hS := cond_F h4 hS
    have h4p : y1.2 = 0 := eq_of_bne_false_ h4
    refine xSk ?_
    refine wpq_then ?_
    refine xSub [(2, vi capacity), (7, vs A1_0 y1.1 c1_0)] ?_
    refine xSq ?_
    refine xSq ?_
    refine xRg ?_
    refine xB 2 [] [(2, vi capacity), (7, vs A1_0 y1.1 c1_0), (19, vb (decide (capacity < 1)))] ?_
    refine xRe ?_
    refine wpq_then ?_
    refine xCd (decide (capacity < 1)) (fun h5 => ?_) (fun h5 => ?_)
    · have hS := cond_T h5 hS
      have h5p := of_decide_eq_true h5
      refine xSq ?_
      refine xRg ?_
      refine xB 1 [] [(6, vi 1)] ?_
      refine xRe ?_
      refine wpq_then ?_
      have eS := (Option.some.inj hS).symm
      subst eS
      exact xRet [] [6] e3 ⟨by kernel_rfl, by kernel_rfl⟩ (fun _ _ h => h)
    · have hS := cond_F h5 hS
      have h5p := of_decide_eq_false h5
      refine xSk ?_
      refine wpq_then ?_
      refine xSub [(2, vi capacity), (7, vs A1_0 y1.1 c1_0)] ?_
      refine xSq ?_
      refine xSq ?_
      refine xRg ?_
      refine xB 1 [] [(2, vi capacity), (20, vs A1_0 y1.1 c1_0)] ?_
      obtain ⟨y6, hy6, hS⟩ := bindO_T hS
      refine xE (eC 0 (fun g' lr eb ln => c49 g' (y1.1 : List Int) A1_0 c1_0 (arr_of_buf h1_0 (Psi.le_b eb) (lentk 0 (by kernel_rfl) ln)) hy6)) ?_
      rintro _ g7 _ e8 ⟨_, rfl, rfl, rfl⟩
      refine xB 2 [] [(23, vb (decide (y6 > capacity)))] ?_
      refine xRe ?_
      refine wpq_then ?_
      refine xCd (decide (y6 > capacity)) (fun h9 => ?_) (fun h9 => ?_)
      · have hS := cond_T h9 hS
        have h9p := of_decide_eq_true h9
        refine xSq ?_
        refine xRg ?_
        refine xB 1 [] [(6, vi 18)] ?_
        refine xRe ?_
        refine wpq_then ?_
        have eS := (Option.some.inj hS).symm
        subst eS
        exact xRet [] [6] (e3.trans e8) ⟨by kernel_rfl, by kernel_rfl⟩ (fun _ _ h => h)
      · have hS := cond_F h9 hS
        have h9p := of_decide_eq_false h9
        refine xSk ?_
        refine wpq_then ?_
        refine xSub [] ?_
        refine xSq ?_
        refine xRg ?_
        refine xB 1 [] [(6, vi 0)] ?_
        refine xRe ?_
        refine wpq_then ?_
        have eS := (Option.some.inj hS).symm
        subst eS
        exact xRet [] [6] (e3.trans e8) ⟨by kernel_rfl, by kernel_rfl⟩ (fun _ _ h => h)

def o11_L0 (l : List Msg) (y6 : (List Slot) × Int) (s26 : Int × Nat) : Option (Ctl (Int × Nat) (Ctl (Int) (Bool))) :=
  (cond (decide (((s26.2 : Nat) : Int) < ((((List.take ((minI (((l).length : Nat) : Int) 32)).toNat l)).length : Nat) : Int))) (grd (decide (s26.2 < (y6.1).length)) (bindO (τ := Bool) (cond (decide ((List.getD y6.1 s26.2 default).offset < 0)) (some (true)) (grd (decide (s26.2 < (y6.1).length)) (some (decide ((List.getD y6.1 s26.2 default).offset ≥ (List.getD (List.take ((minI (((l).length : Nat) : Int) 32)).toNat l) s26.2 default).period))))) fun t35 => (cond (t35) (some (Ctl.done (Ctl.done ((false))))) (grd (decide (0 < (List.getD (List.take ((minI (((l).length : Nat) : Int) 32)).toNat l) s26.2 default).period)) (grd (decide (((s26.2 : Nat) : Int) + 1 ≤ 9223372036854775807)) (some (Ctl.go ((IntKind.i64.wrap (s26.1 - (IntKind.i64.wrap ((32 / (List.getD (List.take ((minI (((l).length : Nat) : Int) 32)).toNat l) s26.2 default).period) * (List.getD (List.take ((minI (((l).length : Nat) : Int) 32)).toNat l) s26.2 default).length)))), (s26.2 + 1))))))))) (some (Ctl.done (Ctl.go (s26.1)))))
def o11_L1 (capacity : Int) (y10 : (List Int) × Int) (s46 : Int × Nat) : Option (Ctl (Int × Nat) (Ctl (Int) (Bool))) :=
  (cond (decide (((s46.2 : Nat) : Int) < (((y10.1).length : Nat) : Int))) (cond (decide ((List.getD y10.1 s46.2 0) > capacity)) (some (Ctl.done (Ctl.done ((false))))) (grd (decide (((s46.2 : Nat) : Int) + 1 ≤ 9223372036854775807)) (some (Ctl.go ((IntKind.i64.wrap (s46.1 + (List.getD y10.1 s46.2 0))), (s46.2 + 1)))))) (some (Ctl.done (Ctl.go (s46.1)))))
def o11 (l : List Msg) (capacity : Int) : Option (Bool) :=
  (bindO (τ := Bool) (o12) fun y1 => (cond ((!y1)) (some ((false))) (bindO (τ := (List Slot) × Int) (o19 ((List.take ((minI (((l).length : Nat) : Int) 32)).toNat l) : List Msg) (capacity : Int)) fun y6 => (cond ((y6.2 != 0)) (some ((((((y6.1).length : Nat) : Int) == 0)))) (bindO (τ := (List Int) × Int) (o27 ((List.take ((minI (((l).length : Nat) : Int) 32)).toNat l) : List Msg) (y6.1 : List Slot)) fun y10 => (bindO (τ := Bool) (cond (((y10.2 != 0) || ((((y10.1).length : Nat) : Int) != 32))) (some (true)) (bindO (τ := Int) (o30 ((List.take ((minI (((l).length : Nat) : Int) 32)).toNat l) : List Msg) (y6.1 : List Slot) (capacity : Int)) fun y55 => (some (y55 != 0)))) fun t14 => (cond (t14) (some ((false))) (joinO (τ := Int) (ρ := Bool) (loopO (σ := Int × Nat) (ρ := Ctl (Int) (Bool)) fuelN (o11_L1 capacity y10) (0, 0)) fun t18 => (joinO (τ := Int) (ρ := Bool) (loopO (σ := Int × Nat) (ρ := Ctl (Int) (Bool)) fuelN (o11_L0 l y6) (t18, 0)) fun t21 => (some (((t21 == 0)))))))))))))
set_option maxRecDepth 100000 in
theorem c11 (g : Gh) (l : List Msg) (Al : Option Addr) (cl : Nat) (capacity : Int) (fl : Arr g.b tyMsg Al cl l) {r : Bool} (hS : o11 l capacity = some r) :
    Ctr Try.prog 11 [vs Al l cl, vi capacity] g [] (fun v ψ o => v = vb r ∧ o = []) := by
  unfold o11 at hS
  refine xFn Try.f11 (Try.f11.body.getD .skip) 99 ?_
  have nfl := fl.len
  refine xSq ?_
  refine xRg ?_
  refine xB 1 [] [(0, vs Al l cl), (1, vi capacity)] ?_
  refine xRe ?_
  refine wpq_then ?_
  refine xSq ?_
  refine xSq ?_
  refine xRg ?_
  obtain ⟨y1, hy1, hS⟩ := bindO_T hS
  refine xE (eC 0 (fun g' lr eb ln => c12 g'  hy1)) ?_
  rintro _ g2 _ e3 ⟨_, rfl, rfl, rfl⟩
  refine xB 1 [] [(0, vs Al l cl), (1, vi capacity), (15, vb (!y1))] ?_
  refine xRe ?_
  refine wpq_then ?_
  refine xCd ((!y1)) (fun h4 => ?_) (fun h4 => ?_)
  · have hS := cond_T h4 hS
    have h4n := not_eq_true_ h4
    refine xSq ?_
    refine xRg ?_
    refine xB 1 [] [(4, vb false)] ?_
    refine xRe ?_
    refine wpq_then ?_
    have eS := (Option.some.inj hS).symm
    subst eS
    exact xRet [] [4] e3 ⟨by kernel_rfl, by kernel_rfl⟩ (fun _ _ h => h)
  · have hS := cond_F h4 hS
    have h4n := not_eq_false_ h4
    refine xSk ?_
    refine wpq_then ?_
    refine xSub [(0, vs Al l cl), (1, vi capacity)] ?_
    refine xSq ?_
    refine xRg ?_
    have z1 := minI_spec (((l).length : Nat) : Int) 32
    have fl := fl.mono e3.b
    have ncapf5 := fl.cap
    have f5 : Arr g2.b tyMsg (offA Al cl 0 3) (cl - 0) (List.take ((minI (((l).length : Nat) : Int) 32)).toNat l) := fl.cut_to ((minI (((l).length : Nat) : Int) 32)).toNat (by omega)
    have nf5 := f5.len
    have hlf5 : ((minI (((l).length : Nat) : Int) 32)).toNat - 0 = ((List.take ((minI (((l).length : Nat) : Int) 32)).toNat l)).length := by simp only [List.length_take, List.length_drop] <;> omega
    have hvf5 : ((((List.take ((minI (((l).length : Nat) : Int) 32)).toNat l)).length : Nat) : Int) = (minI (((l).length : Nat) : Int) 32) - 0 := by omega
    refine xB 4 [] [(0, vs Al l cl), (1, vi capacity), (16, vs Al l cl), (19, vi (minI (((l).length : Nat) : Int) 32))] ?_
    refine xV (qSl (m := 3) (A := Al) (len := (l).length) (c := cl) 0 ((minI (((l).length : Nat) : Int) 32)).toNat none (some (minI (((l).length : Nat) : Int) 32)) ((List.take ((minI (((l).length : Nat) : Int) 32)).toNat l)).length rfl (show _ = _ by omega) (by omega) (by omega) hlf5) ?_
    refine xB 1 [] [(0, vs (offA Al cl 0 3) (List.take ((minI (((l).length : Nat) : Int) 32)).toNat l) (cl - 0)), (1, vi capacity)] ?_
    refine xRe ?_
    refine wpq_then ?_
    refine xSq ?_
    refine xRg ?_
    refine xB 2 [] [(0, vs (offA Al cl 0 3) (List.take ((minI (((l).length : Nat) : Int) 32)).toNat l) (cl - 0)), (1, vi capacity), (22, vs (offA Al cl 0 3) (List.take ((minI (((l).length : Nat) : Int) 32)).toNat l) (cl - 0)), (23, vi capacity)] ?_
    obtain ⟨y6, hy6, hS⟩ := bindO_T hS
    refine xE (eC 0 (fun g' lr eb ln => c19 g' ((List.take ((minI (((l).length : Nat) : Int) 32)).toNat l) : List Msg) (offA Al cl 0 3) (cl - 0) (capacity : Int) (ArrM.lent (f5.toM g2.br) lr eb) hy6)) ?_
    rintro _ g7 _ e8 ⟨_, rfl, A6_0, c6_0, k6_0, rfl, rfl, h6_0⟩
    have nh6_0 := h6_0.len
    refine xB 5 [] [(0, vs (offA Al cl 0 3) (List.take ((minI (((l).length : Nat) : Int) 32)).toNat l) (cl - 0)), (1, vi capacity), (5, vs A6_0 y6.1 c6_0), (6, vi y6.2)] ?_
    refine xRe ?_
    refine wpq_then ?_
    refine xSq ?_
    refine xSq ?_
    refine xRg ?_
    refine xB 2 [] [(0, vs (offA Al cl 0 3) (List.take ((minI (((l).length : Nat) : Int) 32)).toNat l) (cl - 0)), (1, vi capacity), (5, vs A6_0 y6.1 c6_0), (28, vb (y6.2 != 0))] ?_
    refine xRe ?_
    refine wpq_then ?_
    refine xCd ((y6.2 != 0)) (fun h9 => ?_) (fun h9 => ?_)
    · have hS := cond_T h9 hS
      have h9p : ¬ (y6.2 = 0) := ne_of_bne_ h9
      refine xSq ?_
      refine xRg ?_
      refine xB 4 [] [(4, vb ((((y6.1).length : Nat) : Int) == 0))] ?_
      refine xRe ?_
      refine wpq_then ?_
      have eS := (Option.some.inj hS).symm
      subst eS
      exact xRet [] [4] (e3.trans e8) ⟨by kernel_rfl, by kernel_rfl⟩ (fun _ _ h => h)
    · have hS := cond_F h9 hS
      have h9p : y6.2 = 0 := eq_of_bne_false_ h9
      refine xSk ?_
      refine wpq_then ?_
      refine xSub [(0, vs (offA Al cl 0 3) (List.take ((minI (((l).length : Nat) : Int) 32)).toNat l) (cl - 0)), (1, vi capacity), (5, vs A6_0 y6.1 c6_0)] ?_
      refine xSq ?_
      refine xRg ?_
      refine xB 2 [] [(0, vs (offA Al cl 0 3) (List.take ((minI (((l).length : Nat) : Int) 32)).toNat l) (cl - 0)), (1, vi capacity), (5, vs A6_0 y6.1 c6_0), (33, vs (offA Al cl 0 3) (List.take ((minI (((l).length : Nat) : Int) 32)).toNat l) (cl - 0)), (34, vs A6_0 y6.1 c6_0)] ?_
      have f5 := f5.mono e8.b
      obtain ⟨y10, hy10, hS⟩ := bindO_T hS
      refine xE (eC 0 (fun g' lr eb ln => c27 g' ((List.take ((minI (((l).length : Nat) : Int) 32)).toNat l) : List Msg) (offA Al cl 0 3) (cl - 0) (y6.1 : List Slot) A6_0 c6_0 ((f5.mono g7.br).mono lr) (arr_of_buf h6_0 (Psi.le_b eb) (lentk 0 (by kernel_rfl) ln)) hy10)) ?_
      rintro _ g11 _ e12 ⟨_, rfl, A10_0, c10_0, k10_0, rfl, rfl, h10_0⟩
      have nh10_0 := h10_0.len
      refine xB 5 [] [(0, vs (offA Al cl 0 3) (List.take ((minI (((l).length : Nat) : Int) 32)).toNat l) (cl - 0)), (1, vi capacity), (5, vs A6_0 y6.1 c6_0), (7, vs A10_0 y10.1 c10_0), (8, vi y10.2)] ?_
      refine xRe ?_
      refine wpq_then ?_
      refine xSq ?_
      refine xSq ?_
      refine xRg ?_
      refine xB 3 [] [(0, vs (offA Al cl 0 3) (List.take ((minI (((l).length : Nat) : Int) 32)).toNat l) (cl - 0)), (1, vi capacity), (5, vs A6_0 y6.1 c6_0), (7, vs A10_0 y10.1 c10_0), (40, vb (y10.2 != 0))] ?_
      refine wpr_grp 7 [(0, vs (offA Al cl 0 3) (List.take ((minI (((l).length : Nat) : Int) 32)).toNat l) (cl - 0)), (1, vi capacity), (5, vs A6_0 y6.1 c6_0), (7, vs A10_0 y10.1 c10_0), (44, vb ((y10.2 != 0) || ((((y10.1).length : Nat) : Int) != 32)))] (fun hk2 => ?_) ?_
      · refine wpq_split 40 (b := (y10.2 != 0)) (by kernel_rfl) (fun q13 => ?_) (fun q13 => ?_)
        · have q13p : ¬ (y10.2 = 0) := ne_of_bne_ q13
          refine xB 4 [] [(0, vs (offA Al cl 0 3) (List.take ((minI (((l).length : Nat) : Int) 32)).toNat l) (cl - 0)), (1, vi capacity), (5, vs A6_0 y6.1 c6_0), (7, vs A10_0 y10.1 c10_0), (44, vb true)] ?_
          refine wpq_re 44 (v := vb true) (Value.bool (((y10.2 != 0) || ((((y10.1).length : Nat) : Int) != 32)))) (by kernel_rfl) (re_or1 q13) ?_
          exact wpq_sub _ (by kernel_rfl) hk2
        · have q13p : y10.2 = 0 := eq_of_bne_false_ q13
          refine xB 4 [] [(0, vs (offA Al cl 0 3) (List.take ((minI (((l).length : Nat) : Int) 32)).toNat l) (cl - 0)), (1, vi capacity), (5, vs A6_0 y6.1 c6_0), (7, vs A10_0 y10.1 c10_0), (44, vb ((((y10.1).length : Nat) : Int) != 32))] ?_
          refine wpq_re 44 (v := vb ((((y10.1).length : Nat) : Int) != 32)) (Value.bool (((y10.2 != 0) || ((((y10.1).length : Nat) : Int) != 32)))) (by kernel_rfl) (re_or0 q13) ?_
          exact wpq_sub _ (by kernel_rfl) hk2
      · refine xB 1 [] [(0, vs (offA Al cl 0 3) (List.take ((minI (((l).length : Nat) : Int) 32)).toNat l) (cl - 0)), (1, vi capacity), (5, vs A6_0 y6.1 c6_0), (7, vs A10_0 y10.1 c10_0), (45, vb ((y10.2 != 0) || ((((y10.1).length : Nat) : Int) != 32)))] ?_
        refine xGJo hS 14 (fun g own sl t14 => own = [k6_0, k10_0] ∧ sl = [(0, vs (offA Al cl 0 3) (List.take ((minI (((l).length : Nat) : Int) 32)).toNat l) (cl - 0)), (1, vi capacity), (5, vs A6_0 y6.1 c6_0), (7, vs A10_0 y10.1 c10_0), (51, vb t14)]) ?_ ?_
        · rintro g15 _ _ t14 e16 ⟨rfl, rfl⟩ hS
          refine xRe ?_
          refine wpq_then ?_
          refine xCd (t14) (fun h17 => ?_) (fun h17 => ?_)
          · have hS := cond_T h17 hS
            refine xSq ?_
            refine xRg ?_
            refine xB 1 [] [(4, vb false)] ?_
            refine xRe ?_
            refine wpq_then ?_
            have eS := (Option.some.inj hS).symm
            subst eS
            exact xRet [] [4] (e3.trans (e8.trans (e12.trans e16))) ⟨by kernel_rfl, by kernel_rfl⟩ (fun _ _ h => h)
          · have hS := cond_F h17 hS
            refine xSk ?_
            refine wpq_then ?_
            refine xSub [(0, vs (offA Al cl 0 3) (List.take ((minI (((l).length : Nat) : Int) 32)).toNat l) (cl - 0)), (1, vi capacity), (5, vs A6_0 y6.1 c6_0), (7, vs A10_0 y10.1 c10_0)] ?_
            refine xSq ?_
            refine xRg ?_
            refine xB 1 [] [(0, vs (offA Al cl 0 3) (List.take ((minI (((l).length : Nat) : Int) 32)).toNat l) (cl - 0)), (1, vi capacity), (5, vs A6_0 y6.1 c6_0), (7, vs A10_0 y10.1 c10_0), (9, vi 0)] ?_
            refine xRe ?_
            refine wpq_then ?_
            refine xSq ?_
            refine xSq ?_
            refine xRg ?_
            refine xB 3 [] [(0, vs (offA Al cl 0 3) (List.take ((minI (((l).length : Nat) : Int) 32)).toNat l) (cl - 0)), (1, vi capacity), (5, vs A6_0 y6.1 c6_0), (9, vi 0), (52, vs A10_0 y10.1 c10_0), (53, vi (((y10.1).length : Nat) : Int)), (54, vi 0)] ?_
            refine xRe ?_
            refine wpq_then ?_
            refine xJoinO hS (fun g own sl t18 => own = [k6_0] ∧ sl = [(0, vs (offA Al cl 0 3) (List.take ((minI (((l).length : Nat) : Int) 32)).toNat l) (cl - 0)), (5, vs A6_0 y6.1 c6_0), (9, vi t18)]) ?_ ?_
            · rintro g19 _ _ t18 e20 ⟨rfl, rfl⟩ hS
              refine wpq_then ?_
              refine xSq ?_
              refine xSq ?_
              refine xRg ?_
              refine xB 3 [] [(5, vs A6_0 y6.1 c6_0), (9, vi t18), (65, vs (offA Al cl 0 3) (List.take ((minI (((l).length : Nat) : Int) 32)).toNat l) (cl - 0)), (66, vi ((((List.take ((minI (((l).length : Nat) : Int) 32)).toNat l)).length : Nat) : Int)), (67, vi 0)] ?_
              refine xRe ?_
              refine wpq_then ?_
              refine xJoinO hS (fun g own sl t21 => own = [] ∧ sl = [(9, vi t21)]) ?_ ?_
              · rintro g22 _ _ t21 e23 ⟨rfl, rfl⟩ hS
                refine wpq_then ?_
                refine xSq ?_
                refine xRg ?_
                refine xB 3 [] [(4, vb (t21 == 0))] ?_
                refine xRe ?_
                refine wpq_then ?_
                have eS := (Option.some.inj hS).symm
                subst eS
                exact xRet [] [4] (e3.trans (e8.trans (e12.trans (e16.trans (e20.trans e23))))) ⟨by kernel_rfl, by kernel_rfl⟩ (fun _ _ h => h)
              · intro uu21 hS hN21 hD21
                refine xBl 2 ?_
                refine xSub [(5, vs A6_0 y6.1 c6_0), (9, vi t18), (65, vs (offA Al cl 0 3) (List.take ((minI (((l).length : Nat) : Int) 32)).toNat l) (cl - 0)), (66, vi ((((List.take ((minI (((l).length : Nat) : Int) 32)).toNat l)).length : Nat) : Int)), (67, vi 0)] ?_
                refine xLo hS (fun g own sl s26 => own = [k6_0] ∧ sl = [(5, vs A6_0 y6.1 c6_0), (9, vi s26.1), (65, vs (offA Al cl 0 3) (List.take ((minI (((l).length : Nat) : Int) 32)).toNat l) (cl - 0)), (66, vi ((((List.take ((minI (((l).length : Nat) : Int) 32)).toNat l)).length : Nat) : Int)), (67, vi ((s26.2 : Nat) : Int))]) ⟨by kernel_rfl, by kernel_rfl⟩ ?_
                rintro g27 _ _ s26 uu26 e28 ⟨rfl, rfl⟩ hS Qr26 hN26 hD26
                unfold o11_L0 at hS
                refine xSq ?_
                refine xRg ?_
                refine xB 1 [] [(5, vs A6_0 y6.1 c6_0), (9, vi s26.1), (65, vs (offA Al cl 0 3) (List.take ((minI (((l).length : Nat) : Int) 32)).toNat l) (cl - 0)), (66, vi ((((List.take ((minI (((l).length : Nat) : Int) 32)).toNat l)).length : Nat) : Int)), (67, vi ((s26.2 : Nat) : Int)), (68, vb (decide (((s26.2 : Nat) : Int) < ((((List.take ((minI (((l).length : Nat) : Int) 32)).toNat l)).length : Nat) : Int))))] ?_
                refine xRe ?_
                refine wpq_then ?_
                refine xSq ?_
                refine xCd (decide (((s26.2 : Nat) : Int) < ((((List.take ((minI (((l).length : Nat) : Int) 32)).toNat l)).length : Nat) : Int))) (fun h29 => ?_) (fun h29 => ?_)
                · have hS := cond_T h29 hS
                  have h29p := of_decide_eq_true h29
                  refine xSk ?_
                  refine wpq_then ?_
                  refine xSub [(5, vs A6_0 y6.1 c6_0), (9, vi s26.1), (65, vs (offA Al cl 0 3) (List.take ((minI (((l).length : Nat) : Int) 32)).toNat l) (cl - 0)), (66, vi ((((List.take ((minI (((l).length : Nat) : Int) 32)).toNat l)).length : Nat) : Int)), (67, vi ((s26.2 : Nat) : Int))] ?_
                  refine xSq ?_
                  refine xBl 3 ?_
                  refine xSq ?_
                  refine xRg ?_
                  have f5 := f5.mono (e12.trans (e16.trans (e20.trans e28))).b
                  have i31 : s26.2 < ((List.take ((minI (((l).length : Nat) : Int) 32)).toNat l)).length := by omega
                  obtain ⟨ad30, cs30, hA30, hr30, hc30⟩ := f5.at_ (get_getD (d := default) i31)
                  obtain ⟨rfl⟩ := hr30
                  refine xB 1 [] [(5, vs A6_0 y6.1 c6_0), (9, vi s26.1), (65, vs (offA Al cl 0 3) (List.take ((minI (((l).length : Nat) : Int) 32)).toNat l) (cl - 0)), (66, vi ((((List.take ((minI (((l).length : Nat) : Int) 32)).toNat l)).length : Nat) : Int)), (67, vi ((s26.2 : Nat) : Int)), (69, vi ((s26.2 : Nat) : Int))] ?_
                  refine xV (qIx s26.2 3 hA30 rfl i31) ?_
                  refine xV (qLdP (Addr.add ad30 (s26.2 * 3)) 0 (hc30.mono g27.br)) ?_
                  refine xE eB ?_
                  rintro _ _ _ - ⟨b32, rfl, rfl, rfl⟩
                  refine xBo 2 [(5, 0)] [some ⟨b32, 70, [vy ((List.getD (List.take ((minI (((l).length : Nat) : Int) 32)).toNat l) s26.2 default).label), vi ((List.getD (List.take ((minI (((l).length : Nat) : Int) 32)).toNat l) s26.2 default).period), vi ((List.getD (List.take ((minI (((l).length : Nat) : Int) 32)).toNat l) s26.2 default).length)]⟩, k6_0] [(5, vs A6_0 y6.1 c6_0), (9, vi s26.1), (12, vi ((s26.2 : Nat) : Int)), (13, vp b32 0), (65, vs (offA Al cl 0 3) (List.take ((minI (((l).length : Nat) : Int) 32)).toNat l) (cl - 0)), (66, vi ((((List.take ((minI (((l).length : Nat) : Int) 32)).toNat l)).length : Nat) : Int)), (67, vi ((s26.2 : Nat) : Int))] ?_
                  refine xRe ?_
                  refine wpq_then ?_
                  refine xSq ?_
                  refine xSq ?_
                  refine xDr 0 [4, 11, 13] [] [some ⟨b32, 70, [vy ((List.getD (List.take ((minI (((l).length : Nat) : Int) 32)).toNat l) s26.2 default).label), vi ((List.getD (List.take ((minI (((l).length : Nat) : Int) 32)).toNat l) s26.2 default).period), vi ((List.getD (List.take ((minI (((l).length : Nat) : Int) 32)).toNat l) s26.2 default).length)]⟩, k6_0] 16 (fun RG => ?_) (fun _ _ _ _ _ h => h)
                  have h6_0 := h6_0.mono (e12.trans (e16.trans (e20.trans e28))).b
                  obtain ⟨q34, hS⟩ := grd_T hS
                  have q34p := of_decide_eq_true q34
                  obtain ⟨kc33, cs33, hA33, hk33, hr33, hw33⟩ := h6_0.open_ q34p default
                  obtain ⟨kb33, rfl⟩ : ∃ z, z = kc33 := ⟨_, rfl⟩
                  subst hk33
                  obtain ⟨rfl⟩ := hr33
                  refine xT 14 [0, 1] [] [some 0, some 1] [(5, vs A6_0 y6.1 c6_0), (9, vi s26.1), (12, vi ((s26.2 : Nat) : Int)), (13, vp b32 0), (65, vs (offA Al cl 0 3) (List.take ((minI (((l).length : Nat) : Int) 32)).toNat l) (cl - 0)), (66, vi ((((List.take ((minI (((l).length : Nat) : Int) 32)).toNat l)).length : Nat) : Int)), (67, vi ((s26.2 : Nat) : Int)), (72, vs A6_0 y6.1 c6_0), (73, vi ((s26.2 : Nat) : Int))] RG (Psi.le.refl _) ?_
                  refine xTp 2 RG (fun _ => (qIxB s26.2 2 kb33.g hA33 rfl q34p)) ?_
                  refine xT 12 [3] [] [some 0, some 1] [(5, vs A6_0 y6.1 c6_0), (9, vi s26.1), (12, vi ((s26.2 : Nat) : Int)), (13, vp b32 0), (65, vs (offA Al cl 0 3) (List.take ((minI (((l).length : Nat) : Int) 32)).toNat l) (cl - 0)), (66, vi ((((List.take ((minI (((l).length : Nat) : Int) 32)).toNat l)).length : Nat) : Int)), (67, vi ((s26.2 : Nat) : Int)), (75, Value.pointer (some ⟨kb33.g, s26.2 * 2 + 1, none⟩))] RG (Psi.le.refl _) ?_
                  refine xTv 4 [some 0, some 1] RG (Psi.le.refl _) (qLdB s26.2 2 1 1 hw33) ?_
                  refine xT 9 [5, 6] [] [some 0, some 1] [(5, vs A6_0 y6.1 c6_0), (9, vi s26.1), (12, vi ((s26.2 : Nat) : Int)), (13, vp b32 0), (65, vs (offA Al cl 0 3) (List.take ((minI (((l).length : Nat) : Int) 32)).toNat l) (cl - 0)), (66, vi ((((List.take ((minI (((l).length : Nat) : Int) 32)).toNat l)).length : Nat) : Int)), (67, vi ((s26.2 : Nat) : Int)), (78, vb (decide ((List.getD y6.1 s26.2 default).offset < 0)))] RG (Psi.le.refl _) ?_
                  refine xGJoA hS 0 [true, true, true, true, true, true, true, true, true, true, true, true, true, true, true, true] (fun g own sl t35 => own = [some ⟨b32, 70, [vy ((List.getD (List.take ((minI (((l).length : Nat) : Int) 32)).toNat l) s26.2 default).label), vi ((List.getD (List.take ((minI (((l).length : Nat) : Int) 32)).toNat l) s26.2 default).period), vi ((List.getD (List.take ((minI (((l).length : Nat) : Int) 32)).toNat l) s26.2 default).length)]⟩, (some kb33)] ∧ sl = [(5, vs A6_0 y6.1 c6_0), (9, vi s26.1), (13, vp b32 0), (65, vs (offA Al cl 0 3) (List.take ((minI (((l).length : Nat) : Int) 32)).toNat l) (cl - 0)), (66, vi ((((List.take ((minI (((l).length : Nat) : Int) 32)).toNat l)).length : Nat) : Int)), (67, vi ((s26.2 : Nat) : Int)), (87, vb t35)]) ?_ ?_
                  · rintro g36 _ _ t35 e37 ⟨rfl, rfl⟩ hS
                    refine xAe (lds := [4, 11, 13]) ?_
                    refine wpq_then ?_
                    refine xCd (t35) (fun h38 => ?_) (fun h38 => ?_)
                    · have hS := cond_T h38 hS
                      refine xSq ?_
                      refine xRg ?_
                      refine xB 1 [] [(4, vb false)] ?_
                      refine xRe ?_
                      refine wpq_then ?_
                      have eS := (Option.some.inj hS).symm
                      have eS := (hD26 _ eS).symm
                      have eS := (hD21 _ eS).symm
                      subst eS
                      exact xRet [] [4] (e3.trans (e8.trans (e12.trans (e16.trans (e20.trans (e28.trans e37)))))) ⟨by kernel_rfl, by kernel_rfl⟩ (fun _ _ h => h)
                    · have hS := cond_F h38 hS
                      refine xSk ?_
                      refine wpq_then ?_
                      refine xSub [(5, vs A6_0 y6.1 c6_0), (9, vi s26.1), (13, vp b32 0), (65, vs (offA Al cl 0 3) (List.take ((minI (((l).length : Nat) : Int) 32)).toNat l) (cl - 0)), (66, vi ((((List.take ((minI (((l).length : Nat) : Int) 32)).toNat l)).length : Nat) : Int)), (67, vi ((s26.2 : Nat) : Int))] ?_
                      refine xDr 0 [2, 5] [8] [some ⟨b32, 70, [vy ((List.getD (List.take ((minI (((l).length : Nat) : Int) 32)).toNat l) s26.2 default).label), vi ((List.getD (List.take ((minI (((l).length : Nat) : Int) 32)).toNat l) s26.2 default).period), vi ((List.getD (List.take ((minI (((l).length : Nat) : Int) 32)).toNat l) s26.2 default).length)]⟩] 9 (fun RG => ?_) (fun _ _ _ _ _ h => h)
                      obtain ⟨q39, hS⟩ := grd_T hS
                      have q39p := of_decide_eq_true q39
                      refine xT 6 [0, 1, 2] [(2, 0)] [some 0] [(5, vs A6_0 y6.1 c6_0), (9, vi s26.1), (13, vp b32 0), (65, vs (offA Al cl 0 3) (List.take ((minI (((l).length : Nat) : Int) 32)).toNat l) (cl - 0)), (66, vi ((((List.take ((minI (((l).length : Nat) : Int) 32)).toNat l)).length : Nat) : Int)), (67, vi ((s26.2 : Nat) : Int)), (88, vi s26.1), (90, vi ((List.getD (List.take ((minI (((l).length : Nat) : Int) 32)).toNat l) s26.2 default).period))] RG (Psi.le.refl _) ?_
                      refine xTp 3 RG (fun _ => (qQuo .i64 (32) ((List.getD (List.take ((minI (((l).length : Nat) : Int) 32)).toNat l) s26.2 default).period) _ (by omega) (IntWalk.i64_quo _ _ (by omega)))) ?_
                      have z30 := i64_in_ ((32 / (List.getD (List.take ((minI (((l).length : Nat) : Int) 32)).toNat l) s26.2 default).period) * (List.getD (List.take ((minI (((l).length : Nat) : Int) 32)).toNat l) s26.2 default).length)
                      have z31 := i64_in_ (s26.1 - (IntKind.i64.wrap ((32 / (List.getD (List.take ((minI (((l).length : Nat) : Int) 32)).toNat l) s26.2 default).period) * (List.getD (List.take ((minI (((l).length : Nat) : Int) 32)).toNat l) s26.2 default).length)))
                      refine xT 0 [4, 5, 6, 7, 8] [(5, 0)] [some 0] [(5, vs A6_0 y6.1 c6_0), (9, vi (IntKind.i64.wrap (s26.1 - (IntKind.i64.wrap ((32 / (List.getD (List.take ((minI (((l).length : Nat) : Int) 32)).toNat l) s26.2 default).period) * (List.getD (List.take ((minI (((l).length : Nat) : Int) 32)).toNat l) s26.2 default).length))))), (65, vs (offA Al cl 0 3) (List.take ((minI (((l).length : Nat) : Int) 32)).toNat l) (cl - 0)), (66, vi ((((List.take ((minI (((l).length : Nat) : Int) 32)).toNat l)).length : Nat) : Int)), (67, vi ((s26.2 : Nat) : Int))] RG (Psi.le.refl _) ?_
                      refine xAe (lds := [2, 5]) ?_
                      refine wpq_blockN ?_
                      refine wpq_then ?_
                      refine xRg ?_
                      obtain ⟨q40, hS⟩ := grd_T hS
                      have q40p := of_decide_eq_true q40
                      refine xV (qAdd .i64 (((s26.2 : Nat) : Int)) (1) (wr64 (by omega))) ?_
                      refine xB 1 [] [(5, vs A6_0 y6.1 c6_0), (9, vi (IntKind.i64.wrap (s26.1 - (IntKind.i64.wrap ((32 / (List.getD (List.take ((minI (((l).length : Nat) : Int) 32)).toNat l) s26.2 default).period) * (List.getD (List.take ((minI (((l).length : Nat) : Int) 32)).toNat l) s26.2 default).length))))), (65, vs (offA Al cl 0 3) (List.take ((minI (((l).length : Nat) : Int) 32)).toNat l) (cl - 0)), (66, vi ((((List.take ((minI (((l).length : Nat) : Int) 32)).toNat l)).length : Nat) : Int)), (67, vi (((s26.2 : Nat) : Int) + 1))] ?_
                      refine xRe ?_
                      refine wpq_thenN ?_
                      refine xSel [some 1] ?_
                      refine xSub [(5, vs A6_0 y6.1 c6_0), (9, vi (IntKind.i64.wrap (s26.1 - (IntKind.i64.wrap ((32 / (List.getD (List.take ((minI (((l).length : Nat) : Int) 32)).toNat l) s26.2 default).period) * (List.getD (List.take ((minI (((l).length : Nat) : Int) 32)).toNat l) s26.2 default).length))))), (65, vs (offA Al cl 0 3) (List.take ((minI (((l).length : Nat) : Int) 32)).toNat l) (cl - 0)), (66, vi ((((List.take ((minI (((l).length : Nat) : Int) 32)).toNat l)).length : Nat) : Int)), (67, vi (((s26.2 : Nat) : Int) + 1))] ?_
                      have eS := (Option.some.inj hS).symm
                      exact hN26 _ eS _ _ _ e37 ⟨by kernel_rfl, by kernel_rfl⟩
                  · intro uu35 hS hN35
                    refine wpq_split 78 (b := decide ((List.getD y6.1 s26.2 default).offset < 0)) (by kernel_rfl) (fun q41 => ?_) (fun q41 => ?_)
                    · have hS := cond_T q41 hS
                      have q41p := of_decide_eq_true q41
                      refine xT 0 [7, 8, 9, 10, 11, 12, 13, 14, 15] [] [some 0, some 1] [(5, vs A6_0 y6.1 c6_0), (9, vi s26.1), (13, vp b32 0), (65, vs (offA Al cl 0 3) (List.take ((minI (((l).length : Nat) : Int) 32)).toNat l) (cl - 0)), (66, vi ((((List.take ((minI (((l).length : Nat) : Int) 32)).toNat l)).length : Nat) : Int)), (67, vi ((s26.2 : Nat) : Int)), (87, vb true)] RG (Psi.le.refl _) ?_
                      refine xSub [(5, vs A6_0 y6.1 c6_0), (9, vi s26.1), (13, vp b32 0), (65, vs (offA Al cl 0 3) (List.take ((minI (((l).length : Nat) : Int) 32)).toNat l) (cl - 0)), (66, vi ((((List.take ((minI (((l).length : Nat) : Int) 32)).toNat l)).length : Nat) : Int)), (67, vi ((s26.2 : Nat) : Int)), (87, vb true)] ?_
                      exact hN35 _ (Option.some.inj hS).symm _ _ _ (Gh.le.refl _) ⟨by kernel_rfl, by kernel_rfl⟩
                    · have hS := cond_F q41 hS
                      have q41p := of_decide_eq_false q41
                      obtain ⟨q43, hS⟩ := grd_T hS
                      have q43p := of_decide_eq_true q43
                      obtain ⟨kc42, cs42, hA42, hk42, hr42, hw42⟩ := h6_0.open_ q43p default
                      cases hk42
                      obtain ⟨rfl⟩ := hr42
                      refine xT 7 [7, 8] [] [some 0, some 1] [(5, vs A6_0 y6.1 c6_0), (9, vi s26.1), (13, vp b32 0), (65, vs (offA Al cl 0 3) (List.take ((minI (((l).length : Nat) : Int) 32)).toNat l) (cl - 0)), (66, vi ((((List.take ((minI (((l).length : Nat) : Int) 32)).toNat l)).length : Nat) : Int)), (67, vi ((s26.2 : Nat) : Int)), (78, vb false), (79, vs A6_0 y6.1 c6_0), (80, vi ((s26.2 : Nat) : Int))] RG (Psi.le.refl _) ?_
                      refine xTp 9 RG (fun _ => (qIxB s26.2 2 kb33.g hA42 rfl q43p)) ?_
                      refine xT 5 [10] [] [some 0, some 1] [(5, vs A6_0 y6.1 c6_0), (9, vi s26.1), (13, vp b32 0), (65, vs (offA Al cl 0 3) (List.take ((minI (((l).length : Nat) : Int) 32)).toNat l) (cl - 0)), (66, vi ((((List.take ((minI (((l).length : Nat) : Int) 32)).toNat l)).length : Nat) : Int)), (67, vi ((s26.2 : Nat) : Int)), (78, vb false), (82, Value.pointer (some ⟨kb33.g, s26.2 * 2 + 1, none⟩))] RG (Psi.le.refl _) ?_
                      refine xTv 11 [some 0, some 1] RG (Psi.le.refl _) (qLdB s26.2 2 1 1 hw42) ?_
                      refine xT 0 [12, 13, 14, 15] [(13, 0)] [some 0, some 1] [(5, vs A6_0 y6.1 c6_0), (9, vi s26.1), (13, vp b32 0), (65, vs (offA Al cl 0 3) (List.take ((minI (((l).length : Nat) : Int) 32)).toNat l) (cl - 0)), (66, vi ((((List.take ((minI (((l).length : Nat) : Int) 32)).toNat l)).length : Nat) : Int)), (67, vi ((s26.2 : Nat) : Int)), (87, vb (decide ((List.getD y6.1 s26.2 default).offset ≥ (List.getD (List.take ((minI (((l).length : Nat) : Int) 32)).toNat l) s26.2 default).period)))] RG (Psi.le.refl _) ?_
                      refine xSub [(5, vs A6_0 y6.1 c6_0), (9, vi s26.1), (13, vp b32 0), (65, vs (offA Al cl 0 3) (List.take ((minI (((l).length : Nat) : Int) 32)).toNat l) (cl - 0)), (66, vi ((((List.take ((minI (((l).length : Nat) : Int) 32)).toNat l)).length : Nat) : Int)), (67, vi ((s26.2 : Nat) : Int)), (87, vb (decide ((List.getD y6.1 s26.2 default).offset ≥ (List.getD (List.take ((minI (((l).length : Nat) : Int) 32)).toNat l) s26.2 default).period)))] ?_
                      exact hN35 _ (Option.some.inj hS).symm _ _ _ (Gh.le.refl _) ⟨by kernel_rfl, by kernel_rfl⟩
                · have hS := cond_F h29 hS
                  have h29p := of_decide_eq_false h29
                  refine xEx 2 ?_
                  refine wpq_thenX ?_
                  refine wpq_thenX ?_
                  refine wpq_blockE ?_
                  refine xSel [] ?_
                  refine xSub [(9, vi s26.1)] ?_
                  have eS := (Option.some.inj hS).symm
                  have eS := (hD26 _ eS).symm
                  exact hN21 _ eS _ _ _ e28 ⟨by kernel_rfl, by kernel_rfl⟩
            · intro uu18 hS hN18 hD18
              refine xBl 0 ?_
              refine xSub [(0, vs (offA Al cl 0 3) (List.take ((minI (((l).length : Nat) : Int) 32)).toNat l) (cl - 0)), (1, vi capacity), (5, vs A6_0 y6.1 c6_0), (9, vi 0), (52, vs A10_0 y10.1 c10_0), (53, vi (((y10.1).length : Nat) : Int)), (54, vi 0)] ?_
              refine xLo hS (fun g own sl s46 => own = [k6_0, k10_0] ∧ sl = [(0, vs (offA Al cl 0 3) (List.take ((minI (((l).length : Nat) : Int) 32)).toNat l) (cl - 0)), (1, vi capacity), (5, vs A6_0 y6.1 c6_0), (9, vi s46.1), (52, vs A10_0 y10.1 c10_0), (53, vi (((y10.1).length : Nat) : Int)), (54, vi ((s46.2 : Nat) : Int))]) ⟨by kernel_rfl, by kernel_rfl⟩ ?_
              rintro g47 _ _ s46 uu46 e48 ⟨rfl, rfl⟩ hS Qr46 hN46 hD46
              unfold o11_L1 at hS
              refine xSq ?_
              refine xRg ?_
              refine xB 1 [] [(0, vs (offA Al cl 0 3) (List.take ((minI (((l).length : Nat) : Int) 32)).toNat l) (cl - 0)), (1, vi capacity), (5, vs A6_0 y6.1 c6_0), (9, vi s46.1), (52, vs A10_0 y10.1 c10_0), (53, vi (((y10.1).length : Nat) : Int)), (54, vi ((s46.2 : Nat) : Int)), (55, vb (decide (((s46.2 : Nat) : Int) < (((y10.1).length : Nat) : Int))))] ?_
              refine xRe ?_
              refine wpq_then ?_
              refine xSq ?_
              refine xCd (decide (((s46.2 : Nat) : Int) < (((y10.1).length : Nat) : Int))) (fun h49 => ?_) (fun h49 => ?_)
              · have hS := cond_T h49 hS
                have h49p := of_decide_eq_true h49
                refine xSk ?_
                refine wpq_then ?_
                refine xSub [(0, vs (offA Al cl 0 3) (List.take ((minI (((l).length : Nat) : Int) 32)).toNat l) (cl - 0)), (1, vi capacity), (5, vs A6_0 y6.1 c6_0), (9, vi s46.1), (52, vs A10_0 y10.1 c10_0), (53, vi (((y10.1).length : Nat) : Int)), (54, vi ((s46.2 : Nat) : Int))] ?_
                refine xSq ?_
                refine xBl 1 ?_
                refine xSq ?_
                refine xRg ?_
                have h10_0 := h10_0.mono (e16.trans e48).b
                have i51 : s46.2 < (y10.1).length := by omega
                obtain ⟨kc50, cs50, hA50, hk50, hr50, hw50⟩ := h10_0.open_ i51 0
                obtain ⟨kb50, rfl⟩ : ∃ z, z = kc50 := ⟨_, rfl⟩
                subst hk50
                have hr50 : cs50 = [vi (List.getD y10.1 s46.2 0)] := hr50
                subst hr50
                refine xV (qIxB s46.2 1 kb50.g hA50 rfl i51) ?_
                refine xV (qLdB s46.2 1 0 1 hw50) ?_
                refine xB 1 [] [(0, vs (offA Al cl 0 3) (List.take ((minI (((l).length : Nat) : Int) 32)).toNat l) (cl - 0)), (1, vi capacity), (5, vs A6_0 y6.1 c6_0), (9, vi s46.1), (11, vi (List.getD y10.1 s46.2 0)), (52, vs A10_0 y10.1 c10_0), (53, vi (((y10.1).length : Nat) : Int)), (54, vi ((s46.2 : Nat) : Int))] ?_
                refine xRe ?_
                refine wpq_then ?_
                refine xSq ?_
                refine xSq ?_
                refine xRg ?_
                refine xB 3 [] [(0, vs (offA Al cl 0 3) (List.take ((minI (((l).length : Nat) : Int) 32)).toNat l) (cl - 0)), (1, vi capacity), (5, vs A6_0 y6.1 c6_0), (9, vi s46.1), (11, vi (List.getD y10.1 s46.2 0)), (52, vs A10_0 y10.1 c10_0), (53, vi (((y10.1).length : Nat) : Int)), (54, vi ((s46.2 : Nat) : Int)), (60, vb (decide ((List.getD y10.1 s46.2 0) > capacity)))] ?_
                refine xRe ?_
                refine wpq_then ?_
                refine xCd (decide ((List.getD y10.1 s46.2 0) > capacity)) (fun h52 => ?_) (fun h52 => ?_)
                · have hS := cond_T h52 hS
                  have h52p := of_decide_eq_true h52
                  refine xSq ?_
                  refine xRg ?_
                  refine xB 1 [] [(4, vb false)] ?_
                  refine xRe ?_
                  refine wpq_then ?_
                  have eS := (Option.some.inj hS).symm
                  have eS := (hD46 _ eS).symm
                  have eS := (hD18 _ eS).symm
                  subst eS
                  exact xRet [] [4] (e3.trans (e8.trans (e12.trans (e16.trans e48)))) ⟨by kernel_rfl, by kernel_rfl⟩ (fun _ _ h => h)
                · have hS := cond_F h52 hS
                  have h52p := of_decide_eq_false h52
                  refine xSk ?_
                  refine wpq_then ?_
                  refine xSub [(0, vs (offA Al cl 0 3) (List.take ((minI (((l).length : Nat) : Int) 32)).toNat l) (cl - 0)), (1, vi capacity), (5, vs A6_0 y6.1 c6_0), (9, vi s46.1), (11, vi (List.getD y10.1 s46.2 0)), (52, vs A10_0 y10.1 c10_0), (53, vi (((y10.1).length : Nat) : Int)), (54, vi ((s46.2 : Nat) : Int))] ?_
                  refine xRg ?_
                  have z37 := i64_in_ (s46.1 + (List.getD y10.1 s46.2 0))
                  refine xB 4 [] [(0, vs (offA Al cl 0 3) (List.take ((minI (((l).length : Nat) : Int) 32)).toNat l) (cl - 0)), (1, vi capacity), (5, vs A6_0 y6.1 c6_0), (9, vi (IntKind.i64.wrap (s46.1 + (List.getD y10.1 s46.2 0)))), (52, vs A10_0 y10.1 c10_0), (53, vi (((y10.1).length : Nat) : Int)), (54, vi ((s46.2 : Nat) : Int))] ?_
                  refine xRe ?_
                  refine wpq_blockN ?_
                  refine wpq_then ?_
                  refine xRg ?_
                  obtain ⟨q53, hS⟩ := grd_T hS
                  have q53p := of_decide_eq_true q53
                  refine xV (qAdd .i64 (((s46.2 : Nat) : Int)) (1) (wr64 (by omega))) ?_
                  refine xB 1 [] [(0, vs (offA Al cl 0 3) (List.take ((minI (((l).length : Nat) : Int) 32)).toNat l) (cl - 0)), (1, vi capacity), (5, vs A6_0 y6.1 c6_0), (9, vi (IntKind.i64.wrap (s46.1 + (List.getD y10.1 s46.2 0)))), (52, vs A10_0 y10.1 c10_0), (53, vi (((y10.1).length : Nat) : Int)), (54, vi (((s46.2 : Nat) : Int) + 1))] ?_
                  refine xRe ?_
                  refine wpq_thenN ?_
                  refine xSub [(0, vs (offA Al cl 0 3) (List.take ((minI (((l).length : Nat) : Int) 32)).toNat l) (cl - 0)), (1, vi capacity), (5, vs A6_0 y6.1 c6_0), (9, vi (IntKind.i64.wrap (s46.1 + (List.getD y10.1 s46.2 0)))), (52, vs A10_0 y10.1 c10_0), (53, vi (((y10.1).length : Nat) : Int)), (54, vi (((s46.2 : Nat) : Int) + 1))] ?_
                  have eS := (Option.some.inj hS).symm
                  exact hN46 _ eS _ _ _ (Gh.le.refl _) ⟨by kernel_rfl, by kernel_rfl⟩
              · have hS := cond_F h49 hS
                have h49p := of_decide_eq_false h49
                refine xEx 0 ?_
                refine wpq_thenX ?_
                refine wpq_thenX ?_
                refine wpq_blockE ?_
                refine xSel [some 0] ?_
                refine xSub [(0, vs (offA Al cl 0 3) (List.take ((minI (((l).length : Nat) : Int) 32)).toNat l) (cl - 0)), (5, vs A6_0 y6.1 c6_0), (9, vi s46.1)] ?_
                have eS := (Option.some.inj hS).symm
                have eS := (hD46 _ eS).symm
                exact hN18 _ eS _ _ _ e48 ⟨by kernel_rfl, by kernel_rfl⟩
        · intro uu14 hS hN14
          refine wpq_split 45 (b := ((y10.2 != 0) || ((((y10.1).length : Nat) : Int) != 32))) (by kernel_rfl) (fun q54 => ?_) (fun q54 => ?_)
          · have hS := cond_T q54 hS
            refine xB 6 [] [(0, vs (offA Al cl 0 3) (List.take ((minI (((l).length : Nat) : Int) 32)).toNat l) (cl - 0)), (1, vi capacity), (5, vs A6_0 y6.1 c6_0), (7, vs A10_0 y10.1 c10_0), (51, vb true)] ?_
            refine xSel [some 1, some 0] ?_
            refine xSub [(0, vs (offA Al cl 0 3) (List.take ((minI (((l).length : Nat) : Int) 32)).toNat l) (cl - 0)), (1, vi capacity), (5, vs A6_0 y6.1 c6_0), (7, vs A10_0 y10.1 c10_0), (51, vb true)] ?_
            exact hN14 _ (Option.some.inj hS).symm _ _ _ (Gh.le.refl _) ⟨by kernel_rfl, by kernel_rfl⟩
          · have hS := cond_F q54 hS
            have q54l := (or_false_ q54).1
            have q54r := (or_false_ q54).2
            have q54lp : y10.2 = 0 := eq_of_bne_false_ q54l
            have q54rp : (((y10.1).length : Nat) : Int) = 32 := eq_of_bne_false_ q54r
            refine xB 3 [] [(0, vs (offA Al cl 0 3) (List.take ((minI (((l).length : Nat) : Int) 32)).toNat l) (cl - 0)), (1, vi capacity), (5, vs A6_0 y6.1 c6_0), (7, vs A10_0 y10.1 c10_0), (45, vb false), (46, vs (offA Al cl 0 3) (List.take ((minI (((l).length : Nat) : Int) 32)).toNat l) (cl - 0)), (47, vs A6_0 y6.1 c6_0), (48, vi capacity)] ?_
            have f5 := f5.mono e12.b
            have h6_0 := h6_0.mono e12.b
            obtain ⟨y55, hy55, hS⟩ := bindO_T hS
            refine xE (eC 0 (fun g' lr eb ln => c30 g' ((List.take ((minI (((l).length : Nat) : Int) 32)).toNat l) : List Msg) (offA Al cl 0 3) (cl - 0) (y6.1 : List Slot) A6_0 c6_0 (capacity : Int) ((f5.mono g11.br).mono lr) (arr_of_buf h6_0 (Psi.le_b eb) (lentk 1 (by kernel_rfl) ln)) hy55)) ?_
            rintro _ g56 _ e57 ⟨_, rfl, rfl, rfl⟩
            refine xB 2 [] [(0, vs (offA Al cl 0 3) (List.take ((minI (((l).length : Nat) : Int) 32)).toNat l) (cl - 0)), (1, vi capacity), (5, vs A6_0 y6.1 c6_0), (7, vs A10_0 y10.1 c10_0), (51, vb (y55 != 0))] ?_
            refine xSel [some 1, some 0] ?_
            refine xSub [(0, vs (offA Al cl 0 3) (List.take ((minI (((l).length : Nat) : Int) 32)).toNat l) (cl - 0)), (1, vi capacity), (5, vs A6_0 y6.1 c6_0), (7, vs A10_0 y10.1 c10_0), (51, vb (y55 != 0))] ?_
            exact hN14 _ (Option.some.inj hS).symm _ _ _ e57 ⟨by kernel_rfl, by kernel_rfl⟩

end Go.Proofs.Ytmcgofgpcnlljaa
