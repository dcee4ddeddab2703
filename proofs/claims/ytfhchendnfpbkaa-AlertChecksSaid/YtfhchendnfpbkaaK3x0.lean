/-
Walks, printed by wip/gen. Conditions: each theorem's own.
-/
import Derived.Test.YtfhchendnfpbkaaA3
namespace Go.Proofs.Ytfhchendnfpbkaa
set_option linter.unusedVariables false
set_option linter.unusedSimpArgs false
open Go.RowKit
def o11 (l : List AlertDef) : (List AlertDef) :=
  (((List.take ((minI (((l).length : Nat) : Int) 18)).toNat l) : List AlertDef))
set_option maxRecDepth 100000 in
theorem c11 (g : Gh) (l : List AlertDef) (Al : Option Addr) (cl : Nat) (fl : Arr g.b tyAlertDef Al cl l) {r : (List AlertDef)} (hS : o11 l = r) :
    Ctr Try.prog 11 [vs Al l cl] g [] (fun v ψ o => ∃ (Ar_0 : Option Addr) (cr_0 : Nat) (kr_0 : Option Bk), v = vs Ar_0 r cr_0 ∧ o = [kr_0] ∧ Buf ψ tyAlertDef 34 (.slice Ar_0 (r).length cr_0) kr_0 r) := by
  unfold o11 at hS
  refine xFn Try.f11 (Try.f11.body.getD .skip) 10 ?_
  have nfl := fl.len
  refine xSq ?_
  refine xRg ?_
  refine xB 1 [] [(0, vs Al l cl)] ?_
  refine xRe ?_
  refine wpq_then ?_
  refine xSq ?_
  refine xRg ?_
  refine xE (eBs (T := tyAlertDef) (p := g.b) (et := 34) (xs := ([] : List AlertDef)) reps_nil (by simp)) ?_
  rintro _ _ _ - ⟨A1, c1, k1, rfl, rfl, rfl, h1⟩
  have z1 := minI_spec (((l).length : Nat) : Int) 18
  have ncapf2 := fl.cap
  have f2 : Arr g.b tyAlertDef (offA Al cl 0 3) (cl - 0) (List.take ((minI (((l).length : Nat) : Int) 18)).toNat l) := fl.cut_to ((minI (((l).length : Nat) : Int) 18)).toNat (by omega)
  have nf2 := f2.len
  have hlf2 : ((minI (((l).length : Nat) : Int) 18)).toNat - 0 = ((List.take ((minI (((l).length : Nat) : Int) 18)).toNat l)).length := by simp only [List.length_take, List.length_drop] <;> omega
  have hvf2 : ((((List.take ((minI (((l).length : Nat) : Int) 18)).toNat l)).length : Nat) : Int) = (minI (((l).length : Nat) : Int) 18) - 0 := by omega
  refine xB 4 [] [(3, vs A1 ([] : List AlertDef) c1), (4, vs Al l cl), (7, vi (minI (((l).length : Nat) : Int) 18))] ?_
  refine xV (qSl (m := 3) (A := Al) (len := (l).length) (c := cl) 0 ((minI (((l).length : Nat) : Int) 18)).toNat none (some (minI (((l).length : Nat) : Int) 18)) ((List.take ((minI (((l).length : Nat) : Int) 18)).toNat l)).length rfl (show _ = _ by omega) (by omega) (by omega) hlf2) ?_
  obtain ⟨nw3, hp3, hs3⟩ := f2.srcB
  refine xE (eApp (T := tyAlertDef) (p := g.b) (et := 34) (bytes := 24) (xs := ([] : List AlertDef)) (ys := ((List.take ((minI (((l).length : Nat) : Int) 18)).toNat l) : List AlertDef)) 0 h1 rfl (fun w hs => hs3 w _ hs) hp3 (by first | omega | (simp only [List.length_cons, List.length_nil] at *; omega)) (by first | omega | (simp only [List.length_cons, List.length_nil] at *; omega))) ?_
  rintro _ _ _ - ⟨A3, c3, k3, rfl, rfl, rfl, h3⟩
  have h3 : Buf g.b tyAlertDef 34 (.slice A3 (((List.take ((minI (((l).length : Nat) : Int) 18)).toNat l) : List AlertDef)).length c3) k3 ((List.take ((minI (((l).length : Nat) : Int) 18)).toNat l) : List AlertDef) := h3
  have nh3 := h3.len
  refine xB 1 [] [(2, vs A3 (List.take ((minI (((l).length : Nat) : Int) 18)).toNat l) c3)] ?_
  refine xRe ?_
  refine wpq_then ?_
  have eS := hS.symm
  subst eS
  exact xRet [some 0] [2] (Gh.le.refl _) ⟨A3, c3, k3, by kernel_rfl, by kernel_rfl, h3⟩ (fun _ _ h => h)

def o37_L0 (s : List UInt8) (s14 : Nat) : Option (Ctl (Nat) (Ctl (Unit) (Bool))) :=
  (cond (decide (((s14 : Nat) : Int) < (((s).length : Nat) : Int))) (bindO (τ := Bool) (cond ((!((decide ((((List.getD (s : List UInt8) s14 0)).toNat : Int) ≥ 65) && decide ((((List.getD (s : List UInt8) s14 0)).toNat : Int) ≤ 90)) || (decide ((((List.getD (s : List UInt8) s14 0)).toNat : Int) ≥ 48) && decide ((((List.getD (s : List UInt8) s14 0)).toNat : Int) ≤ 57))))) (bindO (τ := Bool) (cond (((((List.getD (s : List UInt8) s14 0)).toNat : Int) != 32)) (some (true)) (grd (decide (0 ≤ (IntKind.i64.wrap (((s14 : Nat) : Int) - 1)) ∧ (IntKind.i64.wrap (((s14 : Nat) : Int) - 1)) < (((s).length : Nat) : Int))) (some ((((List.getD (s : List UInt8) ((IntKind.i64.wrap (((s14 : Nat) : Int) - 1))).toNat 0)).toNat : Int) == 32)))) fun t37 => (some (t37))) (some (false))) fun t29 => (cond (t29) (some (Ctl.done (Ctl.done ((false))))) (grd (decide (((s14 : Nat) : Int) + 1 ≤ 9223372036854775807)) (some (Ctl.go (s14 + 1)))))) (some (Ctl.done (Ctl.go ()))))
def o37 (s : List UInt8) : Option (Bool) :=
  (bindO (τ := Bool) (cond (((decide ((((s).length : Nat) : Int) < 1) || decide ((((s).length : Nat) : Int) > 20)) || ((((List.getD (s : List UInt8) 0 0)).toNat : Int) == 32))) (some (true)) (grd (decide (0 ≤ ((((s).length : Nat) : Int) - 1) ∧ ((((s).length : Nat) : Int) - 1) < (((s).length : Nat) : Int))) (some ((((List.getD (s : List UInt8) (((((s).length : Nat) : Int) - 1)).toNat 0)).toNat : Int) == 32)))) fun t5 => (cond (t5) (some ((false))) (joinO (τ := Unit) (ρ := Bool) (loopO (σ := Nat) (ρ := Ctl (Unit) (Bool)) fuelN (o37_L0 s) (0)) fun t9 => (some ((true))))))
set_option maxRecDepth 100000 in
theorem c37 (g : Gh) (s : List UInt8) {r : Bool} (hS : o37 s = some r) :
    Ctr Try.prog 37 [vt s] g [] (fun v ψ o => v = vb r ∧ o = []) := by
  unfold o37 at hS
  refine xFn Try.f37 (Try.f37.body.getD .skip) 69 ?_
  refine xSq ?_
  refine xRg ?_
  refine xB 1 [] [(0, vt s)] ?_
  refine xRe ?_
  refine wpq_then ?_
  refine xSq ?_
  refine xSq ?_
  refine xRg ?_
  refine xB 4 [] [(0, vt s), (8, vb (decide ((((s).length : Nat) : Int) < 1)))] ?_
  refine wpr_grp 8 [(0, vt s), (12, vb (decide ((((s).length : Nat) : Int) < 1) || decide ((((s).length : Nat) : Int) > 20)))] (fun hk3 => ?_) ?_
  · refine wpq_split 8 (b := decide ((((s).length : Nat) : Int) < 1)) (by kernel_rfl) (fun q1 => ?_) (fun q1 => ?_)
    · have q1p := of_decide_eq_true q1
      refine xB 4 [] [(0, vt s), (12, vb true)] ?_
      refine wpq_re 12 (v := vb true) (Value.bool ((decide ((((s).length : Nat) : Int) < 1) || decide ((((s).length : Nat) : Int) > 20)))) (by kernel_rfl) (re_or1 q1) ?_
      exact wpq_sub _ (by kernel_rfl) hk3
    · have q1p := of_decide_eq_false q1
      refine xB 4 [] [(0, vt s), (12, vb (decide ((((s).length : Nat) : Int) > 20)))] ?_
      refine wpq_re 12 (v := vb (decide ((((s).length : Nat) : Int) > 20))) (Value.bool ((decide ((((s).length : Nat) : Int) < 1) || decide ((((s).length : Nat) : Int) > 20)))) (by kernel_rfl) (re_or0 q1) ?_
      exact wpq_sub _ (by kernel_rfl) hk3
  · refine xB 1 [] [(0, vt s), (13, vb (decide ((((s).length : Nat) : Int) < 1) || decide ((((s).length : Nat) : Int) > 20)))] ?_
    refine wpr_grp 13 [(0, vt s), (17, vb ((decide ((((s).length : Nat) : Int) < 1) || decide ((((s).length : Nat) : Int) > 20)) || ((((List.getD (s : List UInt8) 0 0)).toNat : Int) == 32)))] (fun hk8 => ?_) ?_
    · refine wpq_split 13 (b := (decide ((((s).length : Nat) : Int) < 1) || decide ((((s).length : Nat) : Int) > 20))) (by kernel_rfl) (fun q2 => ?_) (fun q2 => ?_)
      · refine xB 4 [] [(0, vt s), (17, vb true)] ?_
        refine wpq_re 17 (v := vb true) (Value.bool (((decide ((((s).length : Nat) : Int) < 1) || decide ((((s).length : Nat) : Int) > 20)) || ((((List.getD (s : List UInt8) 0 0)).toNat : Int) == 32)))) (by kernel_rfl) (re_or1 q2) ?_
        exact wpq_sub _ (by kernel_rfl) hk8
      · have q2l := (or_false_ q2).1
        have q2r := (or_false_ q2).2
        have q2lp := of_decide_eq_false q2l
        have q2rp := of_decide_eq_false q2r
        have i3 : 0 < (s).length := by omega
        have nb4 := UInt8.toNat_lt (List.getD (s : List UInt8) 0 0)
        refine xB 1 [] [(0, vt s), (13, vb false), (14, vt s)] ?_
        refine xV (qIxS 0 rfl i3) ?_
        refine xB 2 [] [(0, vt s), (17, vb ((((List.getD (s : List UInt8) 0 0)).toNat : Int) == 32))] ?_
        refine wpq_re 17 (v := vb ((((List.getD (s : List UInt8) 0 0)).toNat : Int) == 32)) (Value.bool (((decide ((((s).length : Nat) : Int) < 1) || decide ((((s).length : Nat) : Int) > 20)) || ((((List.getD (s : List UInt8) 0 0)).toNat : Int) == 32)))) (by kernel_rfl) (re_or0 q2) ?_
        exact wpq_sub _ (by kernel_rfl) hk8
    · refine xB 1 [] [(0, vt s), (18, vb ((decide ((((s).length : Nat) : Int) < 1) || decide ((((s).length : Nat) : Int) > 20)) || ((((List.getD (s : List UInt8) 0 0)).toNat : Int) == 32)))] ?_
      refine xGJo hS 21 (fun g own sl t5 => own = [] ∧ sl = [(0, vt s), (25, vb t5)]) ?_ ?_
      · rintro g6 _ _ t5 e7 ⟨rfl, rfl⟩ hS
        refine xRe ?_
        refine wpq_then ?_
        refine xCd (t5) (fun h8 => ?_) (fun h8 => ?_)
        · have hS := cond_T h8 hS
          refine xSq ?_
          refine xRg ?_
          refine xB 1 [] [(2, vb false)] ?_
          refine xRe ?_
          refine wpq_then ?_
          have eS := (Option.some.inj hS).symm
          subst eS
          exact xRet [] [2] e7 ⟨by kernel_rfl, by kernel_rfl⟩ (fun _ _ h => h)
        · have hS := cond_F h8 hS
          refine xSk ?_
          refine wpq_then ?_
          refine xSub [(0, vt s)] ?_
          refine xSq ?_
          refine xSq ?_
          refine xRg ?_
          refine xB 1 [] [(0, vt s), (3, vi 0)] ?_
          refine xRe ?_
          refine wpq_then ?_
          refine xJoinO hS (fun g own sl t9 => own = [] ∧ sl = []) ?_ ?_
          · rintro g10 _ _ t9 e11 ⟨rfl, rfl⟩ hS
            refine wpq_then ?_
            refine xSq ?_
            refine xRg ?_
            refine xB 1 [] [(2, vb true)] ?_
            refine xRe ?_
            refine wpq_then ?_
            have eS := (Option.some.inj hS).symm
            subst eS
            exact xRet [] [2] (e7.trans e11) ⟨by kernel_rfl, by kernel_rfl⟩ (fun _ _ h => h)
          · intro uu9 hS hN9 hD9
            refine xBl 0 ?_
            refine xSub [(0, vt s), (3, vi 0)] ?_
            refine xLo hS (fun g own sl s14 => own = [] ∧ sl = [(0, vt s), (3, vi ((s14 : Nat) : Int))]) ⟨by kernel_rfl, by kernel_rfl⟩ ?_
            rintro g15 _ _ s14 uu14 e16 ⟨rfl, rfl⟩ hS Qr14 hN14 hD14
            unfold o37_L0 at hS
            refine xSq ?_
            refine xSq ?_
            refine xRg ?_
            refine xB 4 [] [(0, vt s), (3, vi ((s14 : Nat) : Int)), (29, vb (decide (((s14 : Nat) : Int) < (((s).length : Nat) : Int))))] ?_
            refine xRe ?_
            refine wpq_then ?_
            refine xCd (decide (((s14 : Nat) : Int) < (((s).length : Nat) : Int))) (fun h17 => ?_) (fun h17 => ?_)
            · have hS := cond_T h17 hS
              have h17p := of_decide_eq_true h17
              refine xSk ?_
              refine wpq_then ?_
              refine xSub [(0, vt s), (3, vi ((s14 : Nat) : Int))] ?_
              refine xSq ?_
              refine xBl 1 ?_
              refine xSq ?_
              refine xRg ?_
              have i18 : s14 < (s).length := by omega
              have nb19 := UInt8.toNat_lt (List.getD (s : List UInt8) s14 0)
              refine xB 2 [] [(0, vt s), (3, vi ((s14 : Nat) : Int)), (32, vt s), (33, vi ((s14 : Nat) : Int))] ?_
              refine xV (qIxS s14 rfl i18) ?_
              refine xB 2 [] [(0, vt s), (3, vi ((s14 : Nat) : Int)), (36, vb (decide ((((List.getD (s : List UInt8) s14 0)).toNat : Int) ≥ 65)))] ?_
              refine wpr_grp 10 [(0, vt s), (3, vi ((s14 : Nat) : Int)), (41, vb (decide ((((List.getD (s : List UInt8) s14 0)).toNat : Int) ≥ 65) && decide ((((List.getD (s : List UInt8) s14 0)).toNat : Int) ≤ 90)))] (fun hk4 => ?_) ?_
              · refine wpq_split 36 (b := decide ((((List.getD (s : List UInt8) s14 0)).toNat : Int) ≥ 65)) (by kernel_rfl) (fun q20 => ?_) (fun q20 => ?_)
                · have q20p := of_decide_eq_true q20
                  have i21 : s14 < (s).length := by omega
                  have nb22 := UInt8.toNat_lt (List.getD (s : List UInt8) s14 0)
                  refine xB 2 [] [(0, vt s), (3, vi ((s14 : Nat) : Int)), (36, vb true), (37, vt s), (38, vi ((s14 : Nat) : Int))] ?_
                  refine xV (qIxS s14 rfl i21) ?_
                  refine xB 2 [] [(0, vt s), (3, vi ((s14 : Nat) : Int)), (41, vb (decide ((((List.getD (s : List UInt8) s14 0)).toNat : Int) ≤ 90)))] ?_
                  refine wpq_re 41 (v := vb (decide ((((List.getD (s : List UInt8) s14 0)).toNat : Int) ≤ 90))) (Value.bool ((decide ((((List.getD (s : List UInt8) s14 0)).toNat : Int) ≥ 65) && decide ((((List.getD (s : List UInt8) s14 0)).toNat : Int) ≤ 90)))) (by kernel_rfl) (re_and1 q20) ?_
                  exact wpq_sub _ (by kernel_rfl) hk4
                · have q20p := of_decide_eq_false q20
                  refine xB 5 [] [(0, vt s), (3, vi ((s14 : Nat) : Int)), (41, vb false)] ?_
                  refine wpq_re 41 (v := vb false) (Value.bool ((decide ((((List.getD (s : List UInt8) s14 0)).toNat : Int) ≥ 65) && decide ((((List.getD (s : List UInt8) s14 0)).toNat : Int) ≤ 90)))) (by kernel_rfl) (re_and0 q20) ?_
                  exact wpq_sub _ (by kernel_rfl) hk4
              · refine xB 1 [] [(0, vt s), (3, vi ((s14 : Nat) : Int)), (42, vb (decide ((((List.getD (s : List UInt8) s14 0)).toNat : Int) ≥ 65) && decide ((((List.getD (s : List UInt8) s14 0)).toNat : Int) ≤ 90)))] ?_
                refine wpr_grp 22 [(0, vt s), (3, vi ((s14 : Nat) : Int)), (53, vb ((decide ((((List.getD (s : List UInt8) s14 0)).toNat : Int) ≥ 65) && decide ((((List.getD (s : List UInt8) s14 0)).toNat : Int) ≤ 90)) || (decide ((((List.getD (s : List UInt8) s14 0)).toNat : Int) ≥ 48) && decide ((((List.getD (s : List UInt8) s14 0)).toNat : Int) ≤ 57))))] (fun hk10 => ?_) ?_
                · refine wpq_split 42 (b := (decide ((((List.getD (s : List UInt8) s14 0)).toNat : Int) ≥ 65) && decide ((((List.getD (s : List UInt8) s14 0)).toNat : Int) ≤ 90))) (by kernel_rfl) (fun q23 => ?_) (fun q23 => ?_)
                  · have q23l := (and_true_ q23).1
                    have q23r := (and_true_ q23).2
                    have q23lp := of_decide_eq_true q23l
                    have q23rp := of_decide_eq_true q23r
                    refine xB 11 [] [(0, vt s), (3, vi ((s14 : Nat) : Int)), (53, vb true)] ?_
                    refine wpq_re 53 (v := vb true) (Value.bool (((decide ((((List.getD (s : List UInt8) s14 0)).toNat : Int) ≥ 65) && decide ((((List.getD (s : List UInt8) s14 0)).toNat : Int) ≤ 90)) || (decide ((((List.getD (s : List UInt8) s14 0)).toNat : Int) ≥ 48) && decide ((((List.getD (s : List UInt8) s14 0)).toNat : Int) ≤ 57))))) (by kernel_rfl) (re_or1 q23) ?_
                    exact wpq_sub _ (by kernel_rfl) hk10
                  · have i24 : s14 < (s).length := by omega
                    have nb25 := UInt8.toNat_lt (List.getD (s : List UInt8) s14 0)
                    refine xB 2 [] [(0, vt s), (3, vi ((s14 : Nat) : Int)), (42, vb false), (43, vt s), (44, vi ((s14 : Nat) : Int))] ?_
                    refine xV (qIxS s14 rfl i24) ?_
                    refine xB 2 [] [(0, vt s), (3, vi ((s14 : Nat) : Int)), (42, vb false), (47, vb (decide ((((List.getD (s : List UInt8) s14 0)).toNat : Int) ≥ 48)))] ?_
                    refine wpr_grp 21 [(0, vt s), (3, vi ((s14 : Nat) : Int)), (42, vb false), (52, vb (decide ((((List.getD (s : List UInt8) s14 0)).toNat : Int) ≥ 48) && decide ((((List.getD (s : List UInt8) s14 0)).toNat : Int) ≤ 57)))] (fun hk15 => ?_) ?_
                    · refine wpq_split 47 (b := decide ((((List.getD (s : List UInt8) s14 0)).toNat : Int) ≥ 48)) (by kernel_rfl) (fun q26 => ?_) (fun q26 => ?_)
                      · have q26p := of_decide_eq_true q26
                        have i27 : s14 < (s).length := by omega
                        have nb28 := UInt8.toNat_lt (List.getD (s : List UInt8) s14 0)
                        refine xB 2 [] [(0, vt s), (3, vi ((s14 : Nat) : Int)), (42, vb false), (47, vb true), (48, vt s), (49, vi ((s14 : Nat) : Int))] ?_
                        refine xV (qIxS s14 rfl i27) ?_
                        refine xB 2 [] [(0, vt s), (3, vi ((s14 : Nat) : Int)), (42, vb false), (52, vb (decide ((((List.getD (s : List UInt8) s14 0)).toNat : Int) ≤ 57)))] ?_
                        refine wpq_re 52 (v := vb (decide ((((List.getD (s : List UInt8) s14 0)).toNat : Int) ≤ 57))) (Value.bool ((decide ((((List.getD (s : List UInt8) s14 0)).toNat : Int) ≥ 48) && decide ((((List.getD (s : List UInt8) s14 0)).toNat : Int) ≤ 57)))) (by kernel_rfl) (re_and1 q26) ?_
                        exact wpq_sub _ (by kernel_rfl) hk15
                      · have q26p := of_decide_eq_false q26
                        refine xB 5 [] [(0, vt s), (3, vi ((s14 : Nat) : Int)), (42, vb false), (52, vb false)] ?_
                        refine wpq_re 52 (v := vb false) (Value.bool ((decide ((((List.getD (s : List UInt8) s14 0)).toNat : Int) ≥ 48) && decide ((((List.getD (s : List UInt8) s14 0)).toNat : Int) ≤ 57)))) (by kernel_rfl) (re_and0 q26) ?_
                        exact wpq_sub _ (by kernel_rfl) hk15
                    · refine xB 1 [] [(0, vt s), (3, vi ((s14 : Nat) : Int)), (53, vb (decide ((((List.getD (s : List UInt8) s14 0)).toNat : Int) ≥ 48) && decide ((((List.getD (s : List UInt8) s14 0)).toNat : Int) ≤ 57)))] ?_
                      refine wpq_re 53 (v := vb (decide ((((List.getD (s : List UInt8) s14 0)).toNat : Int) ≥ 48) && decide ((((List.getD (s : List UInt8) s14 0)).toNat : Int) ≤ 57))) (Value.bool (((decide ((((List.getD (s : List UInt8) s14 0)).toNat : Int) ≥ 65) && decide ((((List.getD (s : List UInt8) s14 0)).toNat : Int) ≤ 90)) || (decide ((((List.getD (s : List UInt8) s14 0)).toNat : Int) ≥ 48) && decide ((((List.getD (s : List UInt8) s14 0)).toNat : Int) ≤ 57))))) (by kernel_rfl) (re_or0 q23) ?_
                      exact wpq_sub _ (by kernel_rfl) hk10
                · refine xB 1 [] [(0, vt s), (3, vi ((s14 : Nat) : Int)), (4, vb ((decide ((((List.getD (s : List UInt8) s14 0)).toNat : Int) ≥ 65) && decide ((((List.getD (s : List UInt8) s14 0)).toNat : Int) ≤ 90)) || (decide ((((List.getD (s : List UInt8) s14 0)).toNat : Int) ≥ 48) && decide ((((List.getD (s : List UInt8) s14 0)).toNat : Int) ≤ 57))))] ?_
                  refine xRe ?_
                  refine wpq_then ?_
                  refine xSq ?_
                  refine xRg ?_
                  refine xB 3 [] [(0, vt s), (3, vi ((s14 : Nat) : Int)), (56, vb (!((decide ((((List.getD (s : List UInt8) s14 0)).toNat : Int) ≥ 65) && decide ((((List.getD (s : List UInt8) s14 0)).toNat : Int) ≤ 90)) || (decide ((((List.getD (s : List UInt8) s14 0)).toNat : Int) ≥ 48) && decide ((((List.getD (s : List UInt8) s14 0)).toNat : Int) ≤ 57)))))] ?_
                  refine xGJo hS 15 (fun g own sl t29 => own = [] ∧ sl = [(0, vt s), (3, vi ((s14 : Nat) : Int)), (68, vb t29)]) ?_ ?_
                  · rintro g30 _ _ t29 e31 ⟨rfl, rfl⟩ hS
                    refine xRe ?_
                    refine wpq_then ?_
                    refine xCd (t29) (fun h32 => ?_) (fun h32 => ?_)
                    · have hS := cond_T h32 hS
                      refine xSq ?_
                      refine xRg ?_
                      refine xB 1 [] [(2, vb false)] ?_
                      refine xRe ?_
                      refine wpq_then ?_
                      have eS := (Option.some.inj hS).symm
                      have eS := (hD14 _ eS).symm
                      have eS := (hD9 _ eS).symm
                      subst eS
                      exact xRet [] [2] (e7.trans (e16.trans e31)) ⟨by kernel_rfl, by kernel_rfl⟩ (fun _ _ h => h)
                    · have hS := cond_F h32 hS
                      refine xSk ?_
                      refine wpq_blockN ?_
                      refine wpq_then ?_
                      refine xSub [(0, vt s), (3, vi ((s14 : Nat) : Int))] ?_
                      refine xRg ?_
                      obtain ⟨q33, hS⟩ := grd_T hS
                      have q33p := of_decide_eq_true q33
                      refine xB 1 [] [(0, vt s), (3, vi ((s14 : Nat) : Int)), (30, vi ((s14 : Nat) : Int))] ?_
                      refine xV (qAdd .i64 (((s14 : Nat) : Int)) (1) (wr64 (by omega))) ?_
                      refine xB 1 [] [(0, vt s), (3, vi (((s14 : Nat) : Int) + 1))] ?_
                      refine xRe ?_
                      refine wpq_thenN ?_
                      refine xSub [(0, vt s), (3, vi (((s14 : Nat) : Int) + 1))] ?_
                      have eS := (Option.some.inj hS).symm
                      exact hN14 _ eS _ _ _ e31 ⟨by kernel_rfl, by kernel_rfl⟩
                  · intro uu29 hS hN29
                    refine wpq_split 56 (b := (!((decide ((((List.getD (s : List UInt8) s14 0)).toNat : Int) ≥ 65) && decide ((((List.getD (s : List UInt8) s14 0)).toNat : Int) ≤ 90)) || (decide ((((List.getD (s : List UInt8) s14 0)).toNat : Int) ≥ 48) && decide ((((List.getD (s : List UInt8) s14 0)).toNat : Int) ≤ 57))))) (by kernel_rfl) (fun q34 => ?_) (fun q34 => ?_)
                    · have hS := cond_T q34 hS
                      have q34n := not_eq_true_ q34
                      have q34nl := (or_false_ q34n).1
                      have q34nr := (or_false_ q34n).2
                      have i35 : s14 < (s).length := by omega
                      have nb36 := UInt8.toNat_lt (List.getD (s : List UInt8) s14 0)
                      refine xB 2 [] [(0, vt s), (3, vi ((s14 : Nat) : Int)), (56, vb true), (57, vt s), (58, vi ((s14 : Nat) : Int))] ?_
                      refine xV (qIxS s14 rfl i35) ?_
                      refine xB 2 [] [(0, vt s), (3, vi ((s14 : Nat) : Int)), (56, vb true), (61, vb ((((List.getD (s : List UInt8) s14 0)).toNat : Int) != 32))] ?_
                      refine xGJo hS 14 (fun g own sl t37 => own = [] ∧ sl = [(0, vt s), (3, vi ((s14 : Nat) : Int)), (56, vb true), (67, vb t37)]) ?_ ?_
                      · rintro g38 _ _ t37 e39 ⟨rfl, rfl⟩ hS
                        refine xB 1 [] [(0, vt s), (3, vi ((s14 : Nat) : Int)), (68, vb t37)] ?_
                        refine xSub [(0, vt s), (3, vi ((s14 : Nat) : Int)), (68, vb t37)] ?_
                        exact hN29 _ (Option.some.inj hS).symm _ _ _ e39 ⟨by kernel_rfl, by kernel_rfl⟩
                      · intro uu37 hS hN37
                        refine wpq_split 61 (b := ((((List.getD (s : List UInt8) s14 0)).toNat : Int) != 32)) (by kernel_rfl) (fun q40 => ?_) (fun q40 => ?_)
                        · have hS := cond_T q40 hS
                          have q40p : ¬ ((((List.getD (s : List UInt8) s14 0)).toNat : Int) = 32) := ne_of_bne_ q40
                          refine xB 6 [] [(0, vt s), (3, vi ((s14 : Nat) : Int)), (56, vb true), (67, vb true)] ?_
                          refine xSub [(0, vt s), (3, vi ((s14 : Nat) : Int)), (56, vb true), (67, vb true)] ?_
                          exact hN37 _ (Option.some.inj hS).symm _ _ _ (Gh.le.refl _) ⟨by kernel_rfl, by kernel_rfl⟩
                        · have hS := cond_F q40 hS
                          have q40p : (((List.getD (s : List UInt8) s14 0)).toNat : Int) = 32 := eq_of_bne_false_ q40
                          have z48 := i64_in_ (((s14 : Nat) : Int) - 1)
                          obtain ⟨q41, hS⟩ := grd_T hS
                          have q41p := of_decide_eq_true q41
                          have i42 : ((IntKind.i64.wrap (((s14 : Nat) : Int) - 1))).toNat < (s).length := by omega
                          have nb43 := UInt8.toNat_lt (List.getD (s : List UInt8) ((IntKind.i64.wrap (((s14 : Nat) : Int) - 1))).toNat 0)
                          refine xB 3 [] [(0, vt s), (3, vi ((s14 : Nat) : Int)), (56, vb true), (61, vb false), (62, vt s), (64, vi (IntKind.i64.wrap (((s14 : Nat) : Int) - 1)))] ?_
                          refine xV (qIxS ((IntKind.i64.wrap (((s14 : Nat) : Int) - 1))).toNat (show ((IntKind.i64.wrap (((s14 : Nat) : Int) - 1)) : Int) = _ from by omega) i42) ?_
                          refine xB 2 [] [(0, vt s), (3, vi ((s14 : Nat) : Int)), (56, vb true), (67, vb ((((List.getD (s : List UInt8) ((IntKind.i64.wrap (((s14 : Nat) : Int) - 1))).toNat 0)).toNat : Int) == 32))] ?_
                          refine xSub [(0, vt s), (3, vi ((s14 : Nat) : Int)), (56, vb true), (67, vb ((((List.getD (s : List UInt8) ((IntKind.i64.wrap (((s14 : Nat) : Int) - 1))).toNat 0)).toNat : Int) == 32))] ?_
                          exact hN37 _ (Option.some.inj hS).symm _ _ _ (Gh.le.refl _) ⟨by kernel_rfl, by kernel_rfl⟩
                    · have hS := cond_F q34 hS
                      have q34n := not_eq_false_ q34
                      refine xB 12 [] [(0, vt s), (3, vi ((s14 : Nat) : Int)), (68, vb false)] ?_
                      refine xSub [(0, vt s), (3, vi ((s14 : Nat) : Int)), (68, vb false)] ?_
                      exact hN29 _ (Option.some.inj hS).symm _ _ _ (Gh.le.refl _) ⟨by kernel_rfl, by kernel_rfl⟩
            · have hS := cond_F h17 hS
              have h17p := of_decide_eq_false h17
              refine xEx 0 ?_
              refine wpq_thenX ?_
              refine wpq_thenX ?_
              refine wpq_blockE ?_
              refine xSub [] ?_
              have eS := (Option.some.inj hS).symm
              have eS := (hD14 _ eS).symm
              exact hN9 _ eS _ _ _ e16 ⟨by kernel_rfl, by kernel_rfl⟩
      · intro uu5 hS hN5
        refine wpq_split 18 (b := ((decide ((((s).length : Nat) : Int) < 1) || decide ((((s).length : Nat) : Int) > 20)) || ((((List.getD (s : List UInt8) 0 0)).toNat : Int) == 32))) (by kernel_rfl) (fun q44 => ?_) (fun q44 => ?_)
        · have hS := cond_T q44 hS
          refine xB 7 [] [(0, vt s), (25, vb true)] ?_
          refine xSub [(0, vt s), (25, vb true)] ?_
          exact hN5 _ (Option.some.inj hS).symm _ _ _ (Gh.le.refl _) ⟨by kernel_rfl, by kernel_rfl⟩
        · have hS := cond_F q44 hS
          have q44l := (or_false_ q44).1
          have q44r := (or_false_ q44).2
          have q44ll := (or_false_ q44l).1
          have q44lr := (or_false_ q44l).2
          have q44llp := of_decide_eq_false q44ll
          have q44lrp := of_decide_eq_false q44lr
          have q44rp : ¬ ((((List.getD (s : List UInt8) 0 0)).toNat : Int) = 32) := ne_of_beq_false_ q44r
          refine xB 3 [] [(0, vt s), (18, vb false), (19, vt s), (21, vi (((s).length : Nat) : Int))] ?_
          refine xV (qSub .i64 ((((s).length : Nat) : Int)) (1) (wr64 (by omega))) ?_
          obtain ⟨q45, hS⟩ := grd_T hS
          have q45p := of_decide_eq_true q45
          have i46 : (((((s).length : Nat) : Int) - 1)).toNat < (s).length := by omega
          have nb47 := UInt8.toNat_lt (List.getD (s : List UInt8) (((((s).length : Nat) : Int) - 1)).toNat 0)
          refine xV (qIxS (((((s).length : Nat) : Int) - 1)).toNat (show (((((s).length : Nat) : Int) - 1) : Int) = _ from by omega) i46) ?_
          refine xB 2 [] [(0, vt s), (25, vb ((((List.getD (s : List UInt8) (((((s).length : Nat) : Int) - 1)).toNat 0)).toNat : Int) == 32))] ?_
          refine xSub [(0, vt s), (25, vb ((((List.getD (s : List UInt8) (((((s).length : Nat) : Int) - 1)).toNat 0)).toNat : Int) == 32))] ?_
          exact hN5 _ (Option.some.inj hS).symm _ _ _ (Gh.le.refl _) ⟨by kernel_rfl, by kernel_rfl⟩

def o14_L1 (l : List AlertDef) (s7 : Nat) (s31 : Nat) : Option (Ctl (Nat) (Ctl (Unit) (Ctl (Unit) (Ctl (Nat) (Ctl (Unit) (Int)))))) :=
  (cond (decide (((s31 : Nat) : Int) < ((((List.take s7 l)).length : Nat) : Int))) (cond (((List.getD (List.take s7 l) s31 default).name == (List.getD l s7 default).name)) (some (Ctl.done (Ctl.done (Ctl.done (Ctl.done (Ctl.done ((7 : Int)))))))) (grd (decide (((s31 : Nat) : Int) + 1 ≤ 9223372036854775807)) (some (Ctl.go (s31 + 1))))) (some (Ctl.done (Ctl.go ()))))
def o14_L0 (l : List AlertDef) (s7 : Nat) : Option (Ctl (Nat) (Ctl (Unit) (Int))) :=
  (cond (decide (((s7 : Nat) : Int) < (((l).length : Nat) : Int))) (joinO (τ := Unit) (ρ := Ctl (Nat) (Ctl (Unit) (Int))) (bindO (τ := Bool) (o37 (List.getD l s7 default).name) fun y18 => (cond ((!y18)) (some (Ctl.done (Ctl.done (Ctl.done ((5 : Int)))))) (joinO (τ := Unit) (ρ := Ctl (Unit) (Ctl (Nat) (Ctl (Unit) (Int)))) (loopO (σ := Nat) (ρ := Ctl (Unit) (Ctl (Unit) (Ctl (Nat) (Ctl (Unit) (Int))))) fuelN (o14_L1 l s7) (0)) fun t23 => (cond ((decide ((List.getD l s7 default).level < 1) || decide ((List.getD l s7 default).level > 3))) (some (Ctl.done (Ctl.done (Ctl.done ((2 : Int)))))) (cond (((landK .u16 (List.getD l s7 default).inhibit 65025) != 0)) (some (Ctl.done (Ctl.done (Ctl.done ((1 : Int)))))) (some (Ctl.go ()))))))) fun t11 => (grd (decide (((s7 : Nat) : Int) + 1 ≤ 9223372036854775807)) (some (Ctl.go (s7 + 1))))) (some (Ctl.done (Ctl.go ()))))
def o14 (l : List AlertDef) : Option (Int) :=
  (cond (decide ((((l).length : Nat) : Int) > 16)) (some ((3 : Int))) (joinO (τ := Unit) (ρ := Int) (loopO (σ := Nat) (ρ := Ctl (Unit) (Int)) fuelN (o14_L0 l) (0)) fun t2 => (some ((0 : Int)))))
set_option maxRecDepth 100000 in
theorem c14 (g : Gh) (l : List AlertDef) (Al : Option Addr) (cl : Nat) (fl : Arr g.r tyAlertDef Al cl l) {r : Int} (hS : o14 l = some r) :
    Ctr Try.prog 14 [vs Al l cl] g [] (fun v ψ o => v = vi r ∧ o = []) := by
  unfold o14 at hS
  refine xFn Try.f14 (Try.f14.body.getD .skip) 48 ?_
  have nfl := fl.len
  refine xSq ?_
  refine xRg ?_
  refine xB 1 [] [(0, vs Al l cl)] ?_
  refine xRe ?_
  refine wpq_then ?_
  refine xSq ?_
  refine xSq ?_
  refine xRg ?_
  refine xB 3 [] [(0, vs Al l cl), (9, vb (decide ((((l).length : Nat) : Int) > 16)))] ?_
  refine xRe ?_
  refine wpq_then ?_
  refine xCd (decide ((((l).length : Nat) : Int) > 16)) (fun h1 => ?_) (fun h1 => ?_)
  · have hS := cond_T h1 hS
    have h1p := of_decide_eq_true h1
    refine xSq ?_
    refine xRg ?_
    refine xB 1 [] [(2, vi 3)] ?_
    refine xRe ?_
    refine wpq_then ?_
    have eS := (Option.some.inj hS).symm
    subst eS
    exact xRet [] [2] (Gh.le.refl _) ⟨by kernel_rfl, by kernel_rfl⟩ (fun _ _ h => h)
  · have hS := cond_F h1 hS
    have h1p := of_decide_eq_false h1
    refine xSk ?_
    refine wpq_then ?_
    refine xSub [(0, vs Al l cl)] ?_
    refine xSq ?_
    refine xSq ?_
    refine xRg ?_
    refine xB 3 [] [(0, vs Al l cl), (10, vs Al l cl), (11, vi (((l).length : Nat) : Int)), (12, vi 0)] ?_
    refine xRe ?_
    refine wpq_then ?_
    refine xJoinO hS (fun g own sl t2 => own = [] ∧ sl = []) ?_ ?_
    · rintro g3 _ _ t2 e4 ⟨rfl, rfl⟩ hS
      refine wpq_then ?_
      refine xSq ?_
      refine xRg ?_
      refine xB 1 [] [(2, vi 0)] ?_
      refine xRe ?_
      refine wpq_then ?_
      have eS := (Option.some.inj hS).symm
      subst eS
      exact xRet [] [2] e4 ⟨by kernel_rfl, by kernel_rfl⟩ (fun _ _ h => h)
    · intro uu2 hS hN2 hD2
      refine xBl 0 ?_
      refine xSub [(0, vs Al l cl), (10, vs Al l cl), (11, vi (((l).length : Nat) : Int)), (12, vi 0)] ?_
      refine xLo hS (fun g own sl s7 => own = [] ∧ sl = [(0, vs Al l cl), (10, vs Al l cl), (11, vi (((l).length : Nat) : Int)), (12, vi ((s7 : Nat) : Int))]) ⟨by kernel_rfl, by kernel_rfl⟩ ?_
      rintro g8 _ _ s7 uu7 e9 ⟨rfl, rfl⟩ hS Qr7 hN7 hD7
      unfold o14_L0 at hS
      refine xSq ?_
      refine xRg ?_
      refine xB 1 [] [(0, vs Al l cl), (10, vs Al l cl), (11, vi (((l).length : Nat) : Int)), (12, vi ((s7 : Nat) : Int)), (13, vb (decide (((s7 : Nat) : Int) < (((l).length : Nat) : Int))))] ?_
      refine xRe ?_
      refine wpq_then ?_
      refine xSq ?_
      refine xCd (decide (((s7 : Nat) : Int) < (((l).length : Nat) : Int))) (fun h10 => ?_) (fun h10 => ?_)
      · have hS := cond_T h10 hS
        have h10p := of_decide_eq_true h10
        refine xSk ?_
        refine wpq_then ?_
        refine xSub [(0, vs Al l cl), (10, vs Al l cl), (11, vi (((l).length : Nat) : Int)), (12, vi ((s7 : Nat) : Int))] ?_
        refine xSq ?_
        refine xJoinO hS (fun g own sl t11 => own = [] ∧ sl = [(0, vs Al l cl), (10, vs Al l cl), (11, vi (((l).length : Nat) : Int)), (12, vi ((s7 : Nat) : Int))]) ?_ ?_
        · rintro g12 _ _ t11 e13 ⟨rfl, rfl⟩ hS
          refine wpq_then ?_
          refine xRg ?_
          obtain ⟨q14, hS⟩ := grd_T hS
          have q14p := of_decide_eq_true q14
          refine xV (qAdd .i64 (((s7 : Nat) : Int)) (1) (wr64 (by omega))) ?_
          refine xB 1 [] [(0, vs Al l cl), (10, vs Al l cl), (11, vi (((l).length : Nat) : Int)), (12, vi (((s7 : Nat) : Int) + 1))] ?_
          refine xRe ?_
          refine wpq_thenN ?_
          refine xSub [(0, vs Al l cl), (10, vs Al l cl), (11, vi (((l).length : Nat) : Int)), (12, vi (((s7 : Nat) : Int) + 1))] ?_
          have eS := (Option.some.inj hS).symm
          exact hN7 _ eS _ _ _ e13 ⟨by kernel_rfl, by kernel_rfl⟩
        · intro uu11 hS hN11 hD11
          refine xBl 1 ?_
          refine xSq ?_
          refine xRg ?_
          have fl := fl.mono e9.r
          have i16 : s7 < (l).length := by omega
          obtain ⟨ad15, cs15, hA15, hr15, hc15⟩ := fl.at_ (get_getD (d := default) i16)
          obtain ⟨rfl⟩ := hr15
          refine xB 1 [] [(0, vs Al l cl), (10, vs Al l cl), (11, vi (((l).length : Nat) : Int)), (12, vi ((s7 : Nat) : Int)), (14, vi ((s7 : Nat) : Int))] ?_
          refine xV (qIx s7 3 hA15 rfl i16) ?_
          refine xV (qLdP (Addr.add ad15 (s7 * 3)) 0 hc15) ?_
          refine xE eB ?_
          rintro _ _ _ - ⟨b17, rfl, rfl, rfl⟩
          refine xBo 2 [(5, 0)] [some ⟨b17, 34, [vt ((List.getD l s7 default).name), vy ((List.getD l s7 default).level), Value.int .u16 ((List.getD l s7 default).inhibit)]⟩] [(0, vs Al l cl), (3, vi ((s7 : Nat) : Int)), (4, vp b17 0), (10, vs Al l cl), (11, vi (((l).length : Nat) : Int)), (12, vi ((s7 : Nat) : Int))] ?_
          refine xRe ?_
          refine wpq_then ?_
          refine xSq ?_
          refine xSq ?_
          refine xRg ?_
          refine xB 2 [(1, 0)] [(0, vs Al l cl), (3, vi ((s7 : Nat) : Int)), (4, vp b17 0), (10, vs Al l cl), (11, vi (((l).length : Nat) : Int)), (12, vi ((s7 : Nat) : Int)), (18, vt ((List.getD l s7 default).name))] ?_
          obtain ⟨y18, hy18, hS⟩ := bindO_T hS
          refine xE (eC 0 (fun g' lr eb ln => c37 g' (List.getD l s7 default).name hy18)) ?_
          rintro _ g19 _ e20 ⟨_, rfl, rfl, rfl⟩
          refine xB 1 [] [(0, vs Al l cl), (3, vi ((s7 : Nat) : Int)), (4, vp b17 0), (10, vs Al l cl), (11, vi (((l).length : Nat) : Int)), (12, vi ((s7 : Nat) : Int)), (20, vb (!y18))] ?_
          refine xRe ?_
          refine wpq_then ?_
          refine xCd ((!y18)) (fun h21 => ?_) (fun h21 => ?_)
          · have hS := cond_T h21 hS
            have h21n := not_eq_true_ h21
            refine xSq ?_
            refine xRg ?_
            refine xB 1 [] [(2, vi 5)] ?_
            refine xRe ?_
            refine wpq_then ?_
            have eS := (Option.some.inj hS).symm
            have eS := (hD11 _ eS).symm
            have eS := (hD7 _ eS).symm
            have eS := (hD2 _ eS).symm
            subst eS
            exact xRet [] [2] (e9.trans e20) ⟨by kernel_rfl, by kernel_rfl⟩ (fun _ _ h => h)
          · have hS := cond_F h21 hS
            have h21n := not_eq_false_ h21
            refine xSk ?_
            refine wpq_then ?_
            refine xSub [(0, vs Al l cl), (3, vi ((s7 : Nat) : Int)), (4, vp b17 0), (10, vs Al l cl), (11, vi (((l).length : Nat) : Int)), (12, vi ((s7 : Nat) : Int))] ?_
            refine xSq ?_
            refine xSq ?_
            refine xRg ?_
            have fl := fl.mono e20.r
            have ncapf22 := fl.cap
            have f22 : Arr g19.r tyAlertDef (offA Al cl 0 3) (cl - 0) (List.take s7 l) := fl.cut_to s7 (by omega)
            have nf22 := f22.len
            have hlf22 : s7 - 0 = ((List.take s7 l)).length := by simp only [List.length_take, List.length_drop] <;> omega
            have hvf22 : ((((List.take s7 l)).length : Nat) : Int) = ((s7 : Nat) : Int) - 0 := by omega
            refine xB 2 [] [(0, vs Al l cl), (4, vp b17 0), (10, vs Al l cl), (11, vi (((l).length : Nat) : Int)), (12, vi ((s7 : Nat) : Int)), (21, vs Al l cl), (22, vi ((s7 : Nat) : Int))] ?_
            refine xV (qSl (m := 3) (A := Al) (len := (l).length) (c := cl) 0 s7 none (some ((s7 : Nat) : Int)) ((List.take s7 l)).length rfl rfl (by omega) (by omega) hlf22) ?_
            refine xB 2 [] [(0, vs Al l cl), (4, vp b17 0), (10, vs Al l cl), (11, vi (((l).length : Nat) : Int)), (12, vi ((s7 : Nat) : Int)), (23, vs (offA Al cl 0 3) (List.take s7 l) (cl - 0)), (24, vi ((((List.take s7 l)).length : Nat) : Int)), (25, vi 0)] ?_
            refine xRe ?_
            refine wpq_then ?_
            refine xJoinO hS (fun g own sl t23 => own = [some ⟨b17, 34, [vt ((List.getD l s7 default).name), vy ((List.getD l s7 default).level), Value.int .u16 ((List.getD l s7 default).inhibit)]⟩] ∧ sl = [(0, vs Al l cl), (4, vp b17 0), (10, vs Al l cl), (11, vi (((l).length : Nat) : Int)), (12, vi ((s7 : Nat) : Int))]) ?_ ?_
            · rintro g24 _ _ t23 e25 ⟨rfl, rfl⟩ hS
              refine wpq_then ?_
              refine xSq ?_
              refine xSq ?_
              refine xRg ?_
              refine xB 4 [(1, 0)] [(0, vs Al l cl), (4, vp b17 0), (10, vs Al l cl), (11, vi (((l).length : Nat) : Int)), (12, vi ((s7 : Nat) : Int)), (38, vb (decide ((List.getD l s7 default).level < 1)))] ?_
              refine wpr_grp 8 [(0, vs Al l cl), (4, vp b17 0), (10, vs Al l cl), (11, vi (((l).length : Nat) : Int)), (12, vi ((s7 : Nat) : Int)), (42, vb (decide ((List.getD l s7 default).level < 1) || decide ((List.getD l s7 default).level > 3)))] (fun hk3 => ?_) ?_
              · refine wpq_split 38 (b := decide ((List.getD l s7 default).level < 1)) (by kernel_rfl) (fun q26 => ?_) (fun q26 => ?_)
                · have q26p := of_decide_eq_true q26
                  refine xB 4 [] [(0, vs Al l cl), (4, vp b17 0), (10, vs Al l cl), (11, vi (((l).length : Nat) : Int)), (12, vi ((s7 : Nat) : Int)), (42, vb true)] ?_
                  refine wpq_re 42 (v := vb true) (Value.bool ((decide ((List.getD l s7 default).level < 1) || decide ((List.getD l s7 default).level > 3)))) (by kernel_rfl) (re_or1 q26) ?_
                  exact wpq_sub _ (by kernel_rfl) hk3
                · have q26p := of_decide_eq_false q26
                  refine xB 4 [(5, 0)] [(0, vs Al l cl), (4, vp b17 0), (10, vs Al l cl), (11, vi (((l).length : Nat) : Int)), (12, vi ((s7 : Nat) : Int)), (42, vb (decide ((List.getD l s7 default).level > 3)))] ?_
                  refine wpq_re 42 (v := vb (decide ((List.getD l s7 default).level > 3))) (Value.bool ((decide ((List.getD l s7 default).level < 1) || decide ((List.getD l s7 default).level > 3)))) (by kernel_rfl) (re_or0 q26) ?_
                  exact wpq_sub _ (by kernel_rfl) hk3
              · refine xRe ?_
                refine wpq_then ?_
                refine xCd ((decide ((List.getD l s7 default).level < 1) || decide ((List.getD l s7 default).level > 3))) (fun h27 => ?_) (fun h27 => ?_)
                · have hS := cond_T h27 hS
                  refine xSq ?_
                  refine xRg ?_
                  refine xB 1 [] [(2, vi 2)] ?_
                  refine xRe ?_
                  refine wpq_then ?_
                  have eS := (Option.some.inj hS).symm
                  have eS := (hD11 _ eS).symm
                  have eS := (hD7 _ eS).symm
                  have eS := (hD2 _ eS).symm
                  subst eS
                  exact xRet [] [2] (e9.trans (e20.trans e25)) ⟨by kernel_rfl, by kernel_rfl⟩ (fun _ _ h => h)
                · have hS := cond_F h27 hS
                  have h27l := (or_false_ h27).1
                  have h27r := (or_false_ h27).2
                  have h27lp := of_decide_eq_false h27l
                  have h27rp := of_decide_eq_false h27r
                  refine xSk ?_
                  refine wpq_then ?_
                  refine xSub [(0, vs Al l cl), (4, vp b17 0), (10, vs Al l cl), (11, vi (((l).length : Nat) : Int)), (12, vi ((s7 : Nat) : Int))] ?_
                  refine xSq ?_
                  refine xRg ?_
                  refine xB 4 [(1, 0)] [(0, vs Al l cl), (10, vs Al l cl), (11, vi (((l).length : Nat) : Int)), (12, vi ((s7 : Nat) : Int)), (46, vb ((landK .u16 (List.getD l s7 default).inhibit 65025) != 0))] ?_
                  refine xRe ?_
                  refine wpq_then ?_
                  refine xCd (((landK .u16 (List.getD l s7 default).inhibit 65025) != 0)) (fun h28 => ?_) (fun h28 => ?_)
                  · have hS := cond_T h28 hS
                    have h28p : ¬ ((landK .u16 (List.getD l s7 default).inhibit 65025) = 0) := ne_of_bne_ h28
                    refine xSq ?_
                    refine xRg ?_
                    refine xB 1 [] [(2, vi 1)] ?_
                    refine xRe ?_
                    refine wpq_then ?_
                    have eS := (Option.some.inj hS).symm
                    have eS := (hD11 _ eS).symm
                    have eS := (hD7 _ eS).symm
                    have eS := (hD2 _ eS).symm
                    subst eS
                    exact xRet [] [2] (e9.trans (e20.trans e25)) ⟨by kernel_rfl, by kernel_rfl⟩ (fun _ _ h => h)
                  · have hS := cond_F h28 hS
                    have h28p : (landK .u16 (List.getD l s7 default).inhibit 65025) = 0 := eq_of_bne_false_ h28
                    refine xSk ?_
                    refine wpq_blockN ?_
                    refine xSel [] ?_
                    refine xSub [(0, vs Al l cl), (10, vs Al l cl), (11, vi (((l).length : Nat) : Int)), (12, vi ((s7 : Nat) : Int))] ?_
                    have eS := (Option.some.inj hS).symm
                    exact hN11 _ eS _ _ _ (e20.trans e25) ⟨by kernel_rfl, by kernel_rfl⟩
            · intro uu23 hS hN23 hD23
              refine xBl 2 ?_
              refine xSub [(0, vs Al l cl), (4, vp b17 0), (10, vs Al l cl), (11, vi (((l).length : Nat) : Int)), (12, vi ((s7 : Nat) : Int)), (23, vs (offA Al cl 0 3) (List.take s7 l) (cl - 0)), (24, vi ((((List.take s7 l)).length : Nat) : Int)), (25, vi 0)] ?_
              refine xLo hS (fun g own sl s31 => own = [some ⟨b17, 34, [vt ((List.getD l s7 default).name), vy ((List.getD l s7 default).level), Value.int .u16 ((List.getD l s7 default).inhibit)]⟩] ∧ sl = [(0, vs Al l cl), (4, vp b17 0), (10, vs Al l cl), (11, vi (((l).length : Nat) : Int)), (12, vi ((s7 : Nat) : Int)), (23, vs (offA Al cl 0 3) (List.take s7 l) (cl - 0)), (24, vi ((((List.take s7 l)).length : Nat) : Int)), (25, vi ((s31 : Nat) : Int))]) ⟨by kernel_rfl, by kernel_rfl⟩ ?_
              rintro g32 _ _ s31 uu31 e33 ⟨rfl, rfl⟩ hS Qr31 hN31 hD31
              unfold o14_L1 at hS
              refine xSq ?_
              refine xRg ?_
              refine xB 1 [] [(0, vs Al l cl), (4, vp b17 0), (10, vs Al l cl), (11, vi (((l).length : Nat) : Int)), (12, vi ((s7 : Nat) : Int)), (23, vs (offA Al cl 0 3) (List.take s7 l) (cl - 0)), (24, vi ((((List.take s7 l)).length : Nat) : Int)), (25, vi ((s31 : Nat) : Int)), (26, vb (decide (((s31 : Nat) : Int) < ((((List.take s7 l)).length : Nat) : Int))))] ?_
              refine xRe ?_
              refine wpq_then ?_
              refine xSq ?_
              refine xCd (decide (((s31 : Nat) : Int) < ((((List.take s7 l)).length : Nat) : Int))) (fun h34 => ?_) (fun h34 => ?_)
              · have hS := cond_T h34 hS
                have h34p := of_decide_eq_true h34
                refine xSk ?_
                refine wpq_then ?_
                refine xSub [(0, vs Al l cl), (4, vp b17 0), (10, vs Al l cl), (11, vi (((l).length : Nat) : Int)), (12, vi ((s7 : Nat) : Int)), (23, vs (offA Al cl 0 3) (List.take s7 l) (cl - 0)), (24, vi ((((List.take s7 l)).length : Nat) : Int)), (25, vi ((s31 : Nat) : Int))] ?_
                refine xSq ?_
                refine xBl 3 ?_
                refine xSq ?_
                refine xRg ?_
                have f22 := f22.mono e33.r
                have i36 : s31 < ((List.take s7 l)).length := by omega
                obtain ⟨ad35, cs35, hA35, hr35, hc35⟩ := f22.at_ (get_getD (d := default) i36)
                obtain ⟨rfl⟩ := hr35
                refine xV (qIx s31 3 hA35 rfl i36) ?_
                refine xV (qLdP (Addr.add ad35 (s31 * 3)) 0 hc35) ?_
                refine xE eB ?_
                rintro _ _ _ - ⟨b37, rfl, rfl, rfl⟩
                refine xBo 1 [(3, 0)] [some ⟨b37, 34, [vt ((List.getD (List.take s7 l) s31 default).name), vy ((List.getD (List.take s7 l) s31 default).level), Value.int .u16 ((List.getD (List.take s7 l) s31 default).inhibit)]⟩, some ⟨b17, 34, [vt ((List.getD l s7 default).name), vy ((List.getD l s7 default).level), Value.int .u16 ((List.getD l s7 default).inhibit)]⟩] [(0, vs Al l cl), (4, vp b17 0), (6, vp b37 0), (10, vs Al l cl), (11, vi (((l).length : Nat) : Int)), (12, vi ((s7 : Nat) : Int)), (23, vs (offA Al cl 0 3) (List.take s7 l) (cl - 0)), (24, vi ((((List.take s7 l)).length : Nat) : Int)), (25, vi ((s31 : Nat) : Int))] ?_
                refine xRe ?_
                refine wpq_then ?_
                refine xSq ?_
                refine xRg ?_
                refine xB 4 [(1, 0), (3, 1)] [(0, vs Al l cl), (4, vp b17 0), (10, vs Al l cl), (11, vi (((l).length : Nat) : Int)), (12, vi ((s7 : Nat) : Int)), (23, vs (offA Al cl 0 3) (List.take s7 l) (cl - 0)), (24, vi ((((List.take s7 l)).length : Nat) : Int)), (25, vi ((s31 : Nat) : Int)), (30, vt ((List.getD (List.take s7 l) s31 default).name)), (32, vt ((List.getD l s7 default).name))] ?_
                refine xV (qEqS ((List.getD (List.take s7 l) s31 default).name) ((List.getD l s7 default).name)) ?_
                refine xRe ?_
                refine wpq_then ?_
                refine xSub [(0, vs Al l cl), (4, vp b17 0), (10, vs Al l cl), (11, vi (((l).length : Nat) : Int)), (12, vi ((s7 : Nat) : Int)), (23, vs (offA Al cl 0 3) (List.take s7 l) (cl - 0)), (24, vi ((((List.take s7 l)).length : Nat) : Int)), (25, vi ((s31 : Nat) : Int)), (33, vb ((List.getD (List.take s7 l) s31 default).name == (List.getD l s7 default).name))] ?_
                refine xCd (((List.getD (List.take s7 l) s31 default).name == (List.getD l s7 default).name)) (fun h38 => ?_) (fun h38 => ?_)
                · have hS := cond_T h38 hS
                  have h38p : (List.getD (List.take s7 l) s31 default).name = (List.getD l s7 default).name := eq_of_beq h38
                  refine xSq ?_
                  refine xRg ?_
                  refine xB 1 [] [(2, vi 7)] ?_
                  refine xRe ?_
                  refine wpq_then ?_
                  have eS := (Option.some.inj hS).symm
                  have eS := (hD31 _ eS).symm
                  have eS := (hD23 _ eS).symm
                  have eS := (hD11 _ eS).symm
                  have eS := (hD7 _ eS).symm
                  have eS := (hD2 _ eS).symm
                  subst eS
                  exact xRet [] [2] (e9.trans (e20.trans e33)) ⟨by kernel_rfl, by kernel_rfl⟩ (fun _ _ h => h)
                · have hS := cond_F h38 hS
                  have h38p : ¬ ((List.getD (List.take s7 l) s31 default).name = (List.getD l s7 default).name) := ne_of_beq_false_ h38
                  refine xSk ?_
                  refine wpq_blockN ?_
                  refine wpq_then ?_
                  refine xSub [(0, vs Al l cl), (4, vp b17 0), (10, vs Al l cl), (11, vi (((l).length : Nat) : Int)), (12, vi ((s7 : Nat) : Int)), (23, vs (offA Al cl 0 3) (List.take s7 l) (cl - 0)), (24, vi ((((List.take s7 l)).length : Nat) : Int)), (25, vi ((s31 : Nat) : Int))] ?_
                  refine xRg ?_
                  obtain ⟨q39, hS⟩ := grd_T hS
                  have q39p := of_decide_eq_true q39
                  refine xV (qAdd .i64 (((s31 : Nat) : Int)) (1) (wr64 (by omega))) ?_
                  refine xB 1 [] [(0, vs Al l cl), (4, vp b17 0), (10, vs Al l cl), (11, vi (((l).length : Nat) : Int)), (12, vi ((s7 : Nat) : Int)), (23, vs (offA Al cl 0 3) (List.take s7 l) (cl - 0)), (24, vi ((((List.take s7 l)).length : Nat) : Int)), (25, vi (((s31 : Nat) : Int) + 1))] ?_
                  refine xRe ?_
                  refine wpq_thenN ?_
                  refine xSel [some 1] ?_
                  refine xSub [(0, vs Al l cl), (4, vp b17 0), (10, vs Al l cl), (11, vi (((l).length : Nat) : Int)), (12, vi ((s7 : Nat) : Int)), (23, vs (offA Al cl 0 3) (List.take s7 l) (cl - 0)), (24, vi ((((List.take s7 l)).length : Nat) : Int)), (25, vi (((s31 : Nat) : Int) + 1))] ?_
                  have eS := (Option.some.inj hS).symm
                  exact hN31 _ eS _ _ _ (Gh.le.refl _) ⟨by kernel_rfl, by kernel_rfl⟩
              · have hS := cond_F h34 hS
                have h34p := of_decide_eq_false h34
                refine xEx 2 ?_
                refine wpq_thenX ?_
                refine wpq_thenX ?_
                refine wpq_blockE ?_
                refine xSub [(0, vs Al l cl), (4, vp b17 0), (10, vs Al l cl), (11, vi (((l).length : Nat) : Int)), (12, vi ((s7 : Nat) : Int))] ?_
                have eS := (Option.some.inj hS).symm
                have eS := (hD31 _ eS).symm
                exact hN23 _ eS _ _ _ e33 ⟨by kernel_rfl, by kernel_rfl⟩
      · have hS := cond_F h10 hS
        have h10p := of_decide_eq_false h10
        refine xEx 0 ?_
        refine wpq_thenX ?_
        refine wpq_thenX ?_
        refine wpq_blockE ?_
        refine xSub [] ?_
        have eS := (Option.some.inj hS).symm
        have eS := (hD7 _ eS).symm
        exact hN2 _ eS _ _ _ e9 ⟨by kernel_rfl, by kernel_rfl⟩

def o3 (l : List AlertDef) : Option (Bool) :=
  (bindO (τ := Bool) (o10) fun y1 => (cond ((!y1)) (some ((false))) (letJ (τ := (List AlertDef)) (o11 (l : List AlertDef)) fun y5 => (bindO (τ := (Option Board) × Int) (o12 (y5 : List AlertDef)) fun y8 => (bindO (τ := Int) (o13 (y5 : List AlertDef)) fun y11 => (bindO (τ := Int) (o14 (y5 : List AlertDef)) fun y14 => (bindO (τ := Bool) (cond ((y11 == y14)) (bindO (τ := Int) (o14 (y5 : List AlertDef)) fun y22 => (some (y8.2 == y22))) (some (false))) fun t17 => (some (((t17 && ((Option.isNone (y8.1)) == (y8.2 != 0)))))))))))))
set_option maxRecDepth 100000 in
theorem c3 (g : Gh) (l : List AlertDef) (Al : Option Addr) (cl : Nat) (fl : Arr g.b tyAlertDef Al cl l) {r : Bool} (hS : o3 l = some r) :
    Ctr Try.prog 3 [vs Al l cl] g [] (fun v ψ o => v = vb r ∧ o = []) := by
  unfold o3 at hS
  refine xFn Try.f3 (Try.f3.body.getD .skip) 32 ?_
  have nfl := fl.len
  refine xSq ?_
  refine xRg ?_
  refine xB 1 [] [(0, vs Al l cl)] ?_
  refine xRe ?_
  refine wpq_then ?_
  refine xSq ?_
  refine xSq ?_
  refine xRg ?_
  obtain ⟨y1, hy1, hS⟩ := bindO_T hS
  refine xE (eC 0 (fun g' lr eb ln => c10 g'  hy1)) ?_
  rintro _ g2 _ e3 ⟨_, rfl, rfl, rfl⟩
  refine xB 1 [] [(0, vs Al l cl), (6, vb (!y1))] ?_
  refine xRe ?_
  refine wpq_then ?_
  refine xCd ((!y1)) (fun h4 => ?_) (fun h4 => ?_)
  · have hS := cond_T h4 hS
    have h4n := not_eq_true_ h4
    refine xSq ?_
    refine xRg ?_
    refine xB 1 [] [(2, vb false)] ?_
    refine xRe ?_
    refine wpq_then ?_
    have eS := (Option.some.inj hS).symm
    subst eS
    exact xRet [] [2] e3 ⟨by kernel_rfl, by kernel_rfl⟩ (fun _ _ h => h)
  · have hS := cond_F h4 hS
    have h4n := not_eq_false_ h4
    refine xSk ?_
    refine wpq_then ?_
    refine xSub [(0, vs Al l cl)] ?_
    refine xSq ?_
    refine xRg ?_
    refine xB 1 [] [(0, vs Al l cl), (7, vs Al l cl)] ?_
    have fl := fl.mono e3.b
    obtain ⟨y5, hy5, hS⟩ := letJ_T hS
    refine xE (eC 0 (fun g' lr eb ln => c11 g' (l : List AlertDef) Al cl (by rw [eb]; exact fl) hy5)) ?_
    rintro _ g6 _ e7 ⟨_, rfl, A5_0, c5_0, k5_0, rfl, rfl, h5_0⟩
    have nh5_0 := h5_0.len
    refine xB 1 [] [(0, vs A5_0 y5 c5_0)] ?_
    refine xRe ?_
    refine wpq_then ?_
    refine xSq ?_
    refine xRg ?_
    refine xB 1 [] [(0, vs A5_0 y5 c5_0), (10, vs A5_0 y5 c5_0)] ?_
    obtain ⟨y8, hy8, hS⟩ := bindO_T hS
    refine xE (eC 0 (fun g' lr eb ln => c12 g' (y5 : List AlertDef) A5_0 c5_0 (arrm_of_buf h5_0 eb (lentk 0 (by kernel_rfl) ln)) hy8)) ?_
    rintro _ g9 _ e10 ⟨_, rfl, v8_0, k8_0, k8_0_0, rfl, rfl, hn8_0, hs8_0⟩
    refine xB 5 [] [(0, vs A5_0 y5 c5_0), (3, v8_0), (4, vi y8.2)] ?_
    refine xRe ?_
    refine wpq_then ?_
    refine xSq ?_
    refine xRg ?_
    refine xB 1 [] [(0, vs A5_0 y5 c5_0), (3, v8_0), (4, vi y8.2), (14, vs A5_0 y5 c5_0)] ?_
    have h5_0 := h5_0.mono e10.b
    obtain ⟨y11, hy11, hS⟩ := bindO_T hS
    refine xE (eC 0 (fun g' lr eb ln => c13 g' (y5 : List AlertDef) A5_0 c5_0 (arr_of_buf h5_0 (Psi.le_b eb) (lentk 2 (by kernel_rfl) ln)) hy11)) ?_
    rintro _ g12 _ e13 ⟨_, rfl, rfl, rfl⟩
    refine xB 1 [] [(0, vs A5_0 y5 c5_0), (3, v8_0), (4, vi y8.2), (15, vi y11), (16, vs A5_0 y5 c5_0)] ?_
    have h5_0 := h5_0.mono e13.b
    obtain ⟨y14, hy14, hS⟩ := bindO_T hS
    refine xE (eC 0 (fun g' lr eb ln => c14 g' (y5 : List AlertDef) A5_0 c5_0 (arr_of_buf h5_0 (Psi.le_b eb) (lentk 2 (by kernel_rfl) ln)) hy14)) ?_
    rintro _ g15 _ e16 ⟨_, rfl, rfl, rfl⟩
    refine xB 2 [] [(0, vs A5_0 y5 c5_0), (3, v8_0), (4, vi y8.2), (19, vb (y11 == y14))] ?_
    refine xGJo hS 11 (fun g own sl t17 => own = [k8_0, k8_0_0] ∧ sl = [(3, v8_0), (4, vi y8.2), (24, vb t17)]) ?_ ?_
    · rintro g18 _ _ t17 e19 ⟨rfl, rfl⟩ hS
      refine xB 1 [] [(3, v8_0), (4, vi y8.2), (25, vb t17)] ?_
      refine wpr_grp 18 [(31, vb (t17 && ((Option.isNone (y8.1)) == (y8.2 != 0))))] (fun hk11 => ?_) ?_
      · refine wpq_split 25 (b := t17) (by kernel_rfl) (fun q20 => ?_) (fun q20 => ?_)
        · refine xB 1 [] [(4, vi y8.2), (25, vb true), (26, v8_0)] ?_
          refine xV (qPn hn8_0 (fun d h => by obtain ⟨_, _, _, _, _, _, h1, _⟩ := hs8_0 d h; exact ⟨_, h1⟩)) ?_
          refine xB 4 [] [(31, vb ((Option.isNone (y8.1)) == (y8.2 != 0)))] ?_
          refine wpq_re 31 (v := vb ((Option.isNone (y8.1)) == (y8.2 != 0))) (Value.bool ((t17 && ((Option.isNone (y8.1)) == (y8.2 != 0))))) (by kernel_rfl) (re_and1 q20) ?_
          exact wpq_sub _ (by kernel_rfl) hk11
        · refine xB 6 [] [(31, vb false)] ?_
          refine wpq_re 31 (v := vb false) (Value.bool ((t17 && ((Option.isNone (y8.1)) == (y8.2 != 0))))) (by kernel_rfl) (re_and0 q20) ?_
          exact wpq_sub _ (by kernel_rfl) hk11
      · refine xB 1 [] [(2, vb (t17 && ((Option.isNone (y8.1)) == (y8.2 != 0))))] ?_
        refine xRe ?_
        refine wpq_then ?_
        have eS := (Option.some.inj hS).symm
        subst eS
        exact xRet [] [2] (e3.trans (e7.trans (e10.trans (e13.trans (e16.trans e19))))) ⟨by kernel_rfl, by kernel_rfl⟩ (fun _ _ h => h)
    · intro uu17 hS hN17
      refine wpq_split 19 (b := (y11 == y14)) (by kernel_rfl) (fun q21 => ?_) (fun q21 => ?_)
      · have hS := cond_T q21 hS
        have q21p : y11 = y14 := eq_of_beq q21
        refine xB 2 [] [(3, v8_0), (4, vi y8.2), (19, vb true), (20, vi y8.2), (21, vs A5_0 y5 c5_0)] ?_
        have h5_0 := h5_0.mono e16.b
        obtain ⟨y22, hy22, hS⟩ := bindO_T hS
        refine xE (eC 0 (fun g' lr eb ln => c14 g' (y5 : List AlertDef) A5_0 c5_0 (arr_of_buf h5_0 (Psi.le_b eb) (lentk 2 (by kernel_rfl) ln)) hy22)) ?_
        rintro _ g23 _ e24 ⟨_, rfl, rfl, rfl⟩
        refine xB 2 [] [(3, v8_0), (4, vi y8.2), (24, vb (y8.2 == y22))] ?_
        refine xSel [some 0, some 1] ?_
        refine xSub [(3, v8_0), (4, vi y8.2), (24, vb (y8.2 == y22))] ?_
        exact hN17 _ (Option.some.inj hS).symm _ _ _ e24 ⟨by kernel_rfl, by kernel_rfl⟩
      · have hS := cond_F q21 hS
        have q21p : ¬ (y11 = y14) := ne_of_beq_false_ q21
        refine xB 5 [] [(3, v8_0), (4, vi y8.2), (24, vb false)] ?_
        refine xSel [some 0, some 1] ?_
        refine xSub [(3, v8_0), (4, vi y8.2), (24, vb false)] ?_
        exact hN17 _ (Option.some.inj hS).symm _ _ _ (Gh.le.refl _) ⟨by kernel_rfl, by kernel_rfl⟩

end Go.Proofs.Ytfhchendnfpbkaa
