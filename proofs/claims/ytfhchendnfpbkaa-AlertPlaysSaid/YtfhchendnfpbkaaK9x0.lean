/-
Walks, printed by wip/gen. Conditions: each theorem's own.
-/
import Derived.Test.YtfhchendnfpbkaaA4
namespace Go.Proofs.Ytfhchendnfpbkaa
set_option linter.unusedVariables false
set_option linter.unusedSimpArgs false
open Go.RowKit
def o11 (l : List AlertDef) : (List AlertDef) :=
 (((List.take ((minI (((l).length : Nat) : Int) 18)).toNat l) : List AlertDef))
set_option maxRecDepth 100000 in
theorem c11 (g : Gh) (l : List AlertDef) (Al : Option Addr) (cl : Nat) (fl : Arr g.b tyAlertDef Al cl l) {r : (List AlertDef)} (hS : o11 l = r) :
  Ctr Try.prog 11 [vs Al l cl] g [] (fun v ψ o => ∃ (Ar_0 : Option Addr) (cr_0 : Nat) (kr_0 : Option Bk), v = vs Ar_0 r cr_0 ∧ o = [kr_0] ∧ Buf ψ tyAlertDef 34 (.slice Ar_0 (r).length cr_0) kr_0 r) := by
 unfold o11 at hS
 refine xFn Try.f11 (Try.f11.body.getD .skip) 10 ?_
 have nfl := fl.len
 refine xSq ?_
 refine xRg ?_
 refine xB 1 [] [(0, vs Al l cl)] ?_
 refine xRe ?_
 refine wpq_then ?_
 refine xSq ?_
 refine xRg ?_
 refine xE (eBs (T := tyAlertDef) (p := g.b) (et := 34) (xs := ([] : List AlertDef)) reps_nil (by simp)) ?_
 rintro _ _ _ - ⟨A1, c1, k1, rfl, rfl, rfl, h1⟩
 have z1 := minI_spec (((l).length : Nat) : Int) 18
 have ncapf2 := fl.cap
 have f2 : Arr g.b tyAlertDef (offA Al cl 0 3) (cl - 0) (List.take ((minI (((l).length : Nat) : Int) 18)).toNat l) := fl.cut_to ((minI (((l).length : Nat) : Int) 18)).toNat (by omega)
 have nf2 := f2.len
 have hlf2 : ((minI (((l).length : Nat) : Int) 18)).toNat - 0 = ((List.take ((minI (((l).length : Nat) : Int) 18)).toNat l)).length := by simp only [List.length_take, List.length_drop] <;> omega
 have hvf2 : ((((List.take ((minI (((l).length : Nat) : Int) 18)).toNat l)).length : Nat) : Int) = (minI (((l).length : Nat) : Int) 18) - 0 := by omega
 refine xB 4 [] [(3, vs A1 ([] : List AlertDef) c1), (4, vs Al l cl), (7, vi (minI (((l).length : Nat) : Int) 18))] ?_
 refine xV (qSl (m := 3) (A := Al) (len := (l).length) (c := cl) 0 ((minI (((l).length : Nat) : Int) 18)).toNat none (some (minI (((l).length : Nat) : Int) 18)) ((List.take ((minI (((l).length : Nat) : Int) 18)).toNat l)).length rfl (show _ = _ by omega) (by omega) (by omega) hlf2) ?_
 obtain ⟨nw3, hp3, hs3⟩ := f2.srcB
 refine xE (eApp (T := tyAlertDef) (p := g.b) (et := 34) (bytes := 24) (xs := ([] : List AlertDef)) (ys := ((List.take ((minI (((l).length : Nat) : Int) 18)).toNat l) : List AlertDef)) 0 h1 rfl (fun w hs => hs3 w _ hs) hp3 (by first | omega | (simp only [List.length_cons, List.length_nil] at *; omega)) (by first | omega | (simp only [List.length_cons, List.length_nil] at *; omega))) ?_
 rintro _ _ _ - ⟨A3, c3, k3, rfl, rfl, rfl, h3⟩
 have h3 : Buf g.b tyAlertDef 34 (.slice A3 (((List.take ((minI (((l).length : Nat) : Int) 18)).toNat l) : List AlertDef)).length c3) k3 ((List.take ((minI (((l).length : Nat) : Int) 18)).toNat l) : List AlertDef) := h3
 have nh3 := h3.len
 refine xB 1 [] [(2, vs A3 (List.take ((minI (((l).length : Nat) : Int) 18)).toNat l) c3)] ?_
 refine xRe ?_
 refine wpq_then ?_
 have eS := hS.symm
 subst eS
 exact xRet [some 0] [2] (Gh.le.refl _) ⟨A3, c3, k3, by kernel_rfl, by kernel_rfl, h3⟩ (fun _ _ h => h)

def o37_L0 (s : List UInt8) (s14 : Nat) : Option (Ctl (Nat) (Ctl (Unit) (Bool))) :=
 (cond (decide (((s14 : Nat) : Int) < (((s).length : Nat) : Int))) (bindO (τ := Bool) (cond ((!((decide ((((List.getD (s : List UInt8) s14 0)).toNat : Int) ≥ 65) && decide ((((List.getD (s : List UInt8) s14 0)).toNat : Int) ≤ 90)) || (decide ((((List.getD (s : List UInt8) s14 0)).toNat : Int) ≥ 48) && decide ((((List.getD (s : List UInt8) s14 0)).toNat : Int) ≤ 57))))) (bindO (τ := Bool) (cond (((((List.getD (s : List UInt8) s14 0)).toNat : Int) != 32)) (some (true)) (grd (decide (0 ≤ (IntKind.i64.wrap (((s14 : Nat) : Int) - 1)) ∧ (IntKind.i64.wrap (((s14 : Nat) : Int) - 1)) < (((s).length : Nat) : Int))) (some ((((List.getD (s : List UInt8) ((IntKind.i64.wrap (((s14 : Nat) : Int) - 1))).toNat 0)).toNat : Int) == 32)))) fun t37 => (some (t37))) (some (false))) fun t29 => (cond (t29) (some (Ctl.done (Ctl.done ((false))))) (grd (decide (((s14 : Nat) : Int) + 1 ≤ 9223372036854775807)) (some (Ctl.go (s14 + 1)))))) (some (Ctl.done (Ctl.go ()))))
def o37 (s : List UInt8) : Option (Bool) :=
 (bindO (τ := Bool) (cond (((decide ((((s).length : Nat) : Int) < 1) || decide ((((s).length : Nat) : Int) > 20)) || ((((List.getD (s : List UInt8) 0 0)).toNat : Int) == 32))) (some (true)) (grd (decide (0 ≤ ((((s).length : Nat) : Int) - 1) ∧ ((((s).length : Nat) : Int) - 1) < (((s).length : Nat) : Int))) (some ((((List.getD (s : List UInt8) (((((s).length : Nat) : Int) - 1)).toNat 0)).toNat : Int) == 32)))) fun t5 => (cond (t5) (some ((false))) (joinO (τ := Unit) (ρ := Bool) (loopO (σ := Nat) (ρ := Ctl (Unit) (Bool)) fuelN (o37_L0 s) (0)) fun t9 => (some ((true))))))
set_option maxRecDepth 100000 in
theorem c37 (g : Gh) (s : List UInt8) {r : Bool} (hS : o37 s = some r) :
  Ctr Try.prog 37 [vt s] g [] (fun v ψ o => v = vb r ∧ o = []) := by
 unfold o37 at hS
 refine xFn Try.f37 (Try.f37.body.getD .skip) 69 ?_
 refine xSq ?_
 refine xRg ?_
 refine xB 1 [] [(0, vt s)] ?_
 refine xRe ?_
 refine wpq_then ?_
 refine xSq ?_
 refine xSq ?_
 refine xRg ?_
 refine xB 4 [] [(0, vt s), (8, vb (decide ((((s).length : Nat) : Int) < 1)))] ?_
 refine wpr_grp 8 [(0, vt s), (12, vb (decide ((((s).length : Nat) : Int) < 1) || decide ((((s).length : Nat) : Int) > 20)))] (fun hk3 => ?_) ?_
 ·refine wpq_split 8 (b := decide ((((s).length : Nat) : Int) < 1)) (by kernel_rfl) (fun q1 => ?_) (fun q1 => ?_)
  ·have q1p := of_decide_eq_true q1
   refine xB 4 [] [(0, vt s), (12, vb true)] ?_
   refine wpq_re 12 (v := vb true) (Value.bool ((decide ((((s).length : Nat) : Int) < 1) || decide ((((s).length : Nat) : Int) > 20)))) (by kernel_rfl) (re_or1 q1) ?_
   exact wpq_sub _ (by kernel_rfl) hk3
  ·have q1p := of_decide_eq_false q1
   refine xB 4 [] [(0, vt s), (12, vb (decide ((((s).length : Nat) : Int) > 20)))] ?_
   refine wpq_re 12 (v := vb (decide ((((s).length : Nat) : Int) > 20))) (Value.bool ((decide ((((s).length : Nat) : Int) < 1) || decide ((((s).length : Nat) : Int) > 20)))) (by kernel_rfl) (re_or0 q1) ?_
   exact wpq_sub _ (by kernel_rfl) hk3
 ·refine xB 1 [] [(0, vt s), (13, vb (decide ((((s).length : Nat) : Int) < 1) || decide ((((s).length : Nat) : Int) > 20)))] ?_
  refine wpr_grp 13 [(0, vt s), (17, vb ((decide ((((s).length : Nat) : Int) < 1) || decide ((((s).length : Nat) : Int) > 20)) || ((((List.getD (s : List UInt8) 0 0)).toNat : Int) == 32)))] (fun hk8 => ?_) ?_
  ·refine wpq_split 13 (b := (decide ((((s).length : Nat) : Int) < 1) || decide ((((s).length : Nat) : Int) > 20))) (by kernel_rfl) (fun q2 => ?_) (fun q2 => ?_)
   ·refine xB 4 [] [(0, vt s), (17, vb true)] ?_
    refine wpq_re 17 (v := vb true) (Value.bool (((decide ((((s).length : Nat) : Int) < 1) || decide ((((s).length : Nat) : Int) > 20)) || ((((List.getD (s : List UInt8) 0 0)).toNat : Int) == 32)))) (by kernel_rfl) (re_or1 q2) ?_
    exact wpq_sub _ (by kernel_rfl) hk8
   ·have q2l := (or_false_ q2).1
    have q2r := (or_false_ q2).2
    have q2lp := of_decide_eq_false q2l
    have q2rp := of_decide_eq_false q2r
    have i3 : 0 < (s).length := by omega
    have nb4 := UInt8.toNat_lt (List.getD (s : List UInt8) 0 0)
    refine xB 1 [] [(0, vt s), (13, vb false), (14, vt s)] ?_
    refine xV (qIxS 0 rfl i3) ?_
    refine xB 2 [] [(0, vt s), (17, vb ((((List.getD (s : List UInt8) 0 0)).toNat : Int) == 32))] ?_
    refine wpq_re 17 (v := vb ((((List.getD (s : List UInt8) 0 0)).toNat : Int) == 32)) (Value.bool (((decide ((((s).length : Nat) : Int) < 1) || decide ((((s).length : Nat) : Int) > 20)) || ((((List.getD (s : List UInt8) 0 0)).toNat : Int) == 32)))) (by kernel_rfl) (re_or0 q2) ?_
    exact wpq_sub _ (by kernel_rfl) hk8
  ·refine xB 1 [] [(0, vt s), (18, vb ((decide ((((s).length : Nat) : Int) < 1) || decide ((((s).length : Nat) : Int) > 20)) || ((((List.getD (s : List UInt8) 0 0)).toNat : Int) == 32)))] ?_
   refine xGJo hS 21 (fun g own sl t5 => own = [] ∧ sl = [(0, vt s), (25, vb t5)]) ?_ ?_
   ·rintro g6 _ _ t5 e7 ⟨rfl, rfl⟩ hS
    refine xRe ?_
    refine wpq_then ?_
    refine xCd (t5) (fun h8 => ?_) (fun h8 => ?_)
    ·have hS := cond_T h8 hS
     refine xSq ?_
     refine xRg ?_
     refine xB 1 [] [(2, vb false)] ?_
     refine xRe ?_
     refine wpq_then ?_
     have eS := (Option.some.inj hS).symm
     subst eS
     exact xRet [] [2] e7 ⟨by kernel_rfl, by kernel_rfl⟩ (fun _ _ h => h)
    ·have hS := cond_F h8 hS
     refine xSk ?_
     refine wpq_then ?_
     refine xSub [(0, vt s)] ?_
     refine xSq ?_
     refine xSq ?_
     refine xRg ?_
     refine xB 1 [] [(0, vt s), (3, vi 0)] ?_
     refine xRe ?_
     refine wpq_then ?_
     refine xJoinO hS (fun g own sl t9 => own = [] ∧ sl = []) ?_ ?_
     ·rintro g10 _ _ t9 e11 ⟨rfl, rfl⟩ hS
      refine wpq_then ?_
      refine xSq ?_
      refine xRg ?_
      refine xB 1 [] [(2, vb true)] ?_
      refine xRe ?_
      refine wpq_then ?_
      have eS := (Option.some.inj hS).symm
      subst eS
      exact xRet [] [2] (e7.trans e11) ⟨by kernel_rfl, by kernel_rfl⟩ (fun _ _ h => h)
     ·intro uu9 hS hN9 hD9
      refine xBl 0 ?_
      refine xSub [(0, vt s), (3, vi 0)] ?_
      refine xLo hS (fun g own sl s14 => own = [] ∧ sl = [(0, vt s), (3, vi ((s14 : Nat) : Int))]) ⟨by kernel_rfl, by kernel_rfl⟩ ?_
      rintro g15 _ _ s14 uu14 e16 ⟨rfl, rfl⟩ hS Qr14 hN14 hD14
      unfold o37_L0 at hS
      refine xSq ?_
      refine xSq ?_
      refine xRg ?_
      refine xB 4 [] [(0, vt s), (3, vi ((s14 : Nat) : Int)), (29, vb (decide (((s14 : Nat) : Int) < (((s).length : Nat) : Int))))] ?_
      refine xRe ?_
      refine wpq_then ?_
      refine xCd (decide (((s14 : Nat) : Int) < (((s).length : Nat) : Int))) (fun h17 => ?_) (fun h17 => ?_)
      ·have hS := cond_T h17 hS
       have h17p := of_decide_eq_true h17
       refine xSk ?_
       refine wpq_then ?_
       refine xSub [(0, vt s), (3, vi ((s14 : Nat) : Int))] ?_
       refine xSq ?_
       refine xBl 1 ?_
       refine xSq ?_
       refine xRg ?_
       have i18 : s14 < (s).length := by omega
       have nb19 := UInt8.toNat_lt (List.getD (s : List UInt8) s14 0)
       refine xB 2 [] [(0, vt s), (3, vi ((s14 : Nat) : Int)), (32, vt s), (33, vi ((s14 : Nat) : Int))] ?_
       refine xV (qIxS s14 rfl i18) ?_
       refine xB 2 [] [(0, vt s), (3, vi ((s14 : Nat) : Int)), (36, vb (decide ((((List.getD (s : List UInt8) s14 0)).toNat : Int) ≥ 65)))] ?_
       refine wpr_grp 10 [(0, vt s), (3, vi ((s14 : Nat) : Int)), (41, vb (decide ((((List.getD (s : List UInt8) s14 0)).toNat : Int) ≥ 65) && decide ((((List.getD (s : List UInt8) s14 0)).toNat : Int) ≤ 90)))] (fun hk4 => ?_) ?_
       ·refine wpq_split 36 (b := decide ((((List.getD (s : List UInt8) s14 0)).toNat : Int) ≥ 65)) (by kernel_rfl) (fun q20 => ?_) (fun q20 => ?_)
        ·have q20p := of_decide_eq_true q20
         have i21 : s14 < (s).length := by omega
         have nb22 := UInt8.toNat_lt (List.getD (s : List UInt8) s14 0)
         refine xB 2 [] [(0, vt s), (3, vi ((s14 : Nat) : Int)), (36, vb true), (37, vt s), (38, vi ((s14 : Nat) : Int))] ?_
         refine xV (qIxS s14 rfl i21) ?_
         refine xB 2 [] [(0, vt s), (3, vi ((s14 : Nat) : Int)), (41, vb (decide ((((List.getD (s : List UInt8) s14 0)).toNat : Int) ≤ 90)))] ?_
         refine wpq_re 41 (v := vb (decide ((((List.getD (s : List UInt8) s14 0)).toNat : Int) ≤ 90))) (Value.bool ((decide ((((List.getD (s : List UInt8) s14 0)).toNat : Int) ≥ 65) && decide ((((List.getD (s : List UInt8) s14 0)).toNat : Int) ≤ 90)))) (by kernel_rfl) (re_and1 q20) ?_
         exact wpq_sub _ (by kernel_rfl) hk4
        ·have q20p := of_decide_eq_false q20
         refine xB 5 [] [(0, vt s), (3, vi ((s14 : Nat) : Int)), (41, vb false)] ?_
         refine wpq_re 41 (v := vb false) (Value.bool ((decide ((((List.getD (s : List UInt8) s14 0)).toNat : Int) ≥ 65) && decide ((((List.getD (s : List UInt8) s14 0)).toNat : Int) ≤ 90)))) (by kernel_rfl) (re_and0 q20) ?_
         exact wpq_sub _ (by kernel_rfl) hk4
       ·refine xB 1 [] [(0, vt s), (3, vi ((s14 : Nat) : Int)), (42, vb (decide ((((List.getD (s : List UInt8) s14 0)).toNat : Int) ≥ 65) && decide ((((List.getD (s : List UInt8) s14 0)).toNat : Int) ≤ 90)))] ?_
        refine wpr_grp 22 [(0, vt s), (3, vi ((s14 : Nat) : Int)), (53, vb ((decide ((((List.getD (s : List UInt8) s14 0)).toNat : Int) ≥ 65) && decide ((((List.getD (s : List UInt8) s14 0)).toNat : Int) ≤ 90)) || (decide ((((List.getD (s : List UInt8) s14 0)).toNat : Int) ≥ 48) && decide ((((List.getD (s : List UInt8) s14 0)).toNat : Int) ≤ 57))))] (fun hk10 => ?_) ?_
        ·refine wpq_split 42 (b := (decide ((((List.getD (s : List UInt8) s14 0)).toNat : Int) ≥ 65) && decide ((((List.getD (s : List UInt8) s14 0)).toNat : Int) ≤ 90))) (by kernel_rfl) (fun q23 => ?_) (fun q23 => ?_)
         ·have q23l := (and_true_ q23).1
          have q23r := (and_true_ q23).2
          have q23lp := of_decide_eq_true q23l
          have q23rp := of_decide_eq_true q23r
          refine xB 11 [] [(0, vt s), (3, vi ((s14 : Nat) : Int)), (53, vb true)] ?_
          refine wpq_re 53 (v := vb true) (Value.bool (((decide ((((List.getD (s : List UInt8) s14 0)).toNat : Int) ≥ 65) && decide ((((List.getD (s : List UInt8) s14 0)).toNat : Int) ≤ 90)) || (decide ((((List.getD (s : List UInt8) s14 0)).toNat : Int) ≥ 48) && decide ((((List.getD (s : List UInt8) s14 0)).toNat : Int) ≤ 57))))) (by kernel_rfl) (re_or1 q23) ?_
          exact wpq_sub _ (by kernel_rfl) hk10
         ·have i24 : s14 < (s).length := by omega
          have nb25 := UInt8.toNat_lt (List.getD (s : List UInt8) s14 0)
          refine xB 2 [] [(0, vt s), (3, vi ((s14 : Nat) : Int)), (42, vb false), (43, vt s), (44, vi ((s14 : Nat) : Int))] ?_
          refine xV (qIxS s14 rfl i24) ?_
          refine xB 2 [] [(0, vt s), (3, vi ((s14 : Nat) : Int)), (42, vb false), (47, vb (decide ((((List.getD (s : List UInt8) s14 0)).toNat : Int) ≥ 48)))] ?_
          refine wpr_grp 21 [(0, vt s), (3, vi ((s14 : Nat) : Int)), (42, vb false), (52, vb (decide ((((List.getD (s : List UInt8) s14 0)).toNat : Int) ≥ 48) && decide ((((List.getD (s : List UInt8) s14 0)).toNat : Int) ≤ 57)))] (fun hk15 => ?_) ?_
          ·refine wpq_split 47 (b := decide ((((List.getD (s : List UInt8) s14 0)).toNat : Int) ≥ 48)) (by kernel_rfl) (fun q26 => ?_) (fun q26 => ?_)
           ·have q26p := of_decide_eq_true q26
            have i27 : s14 < (s).length := by omega
            have nb28 := UInt8.toNat_lt (List.getD (s : List UInt8) s14 0)
            refine xB 2 [] [(0, vt s), (3, vi ((s14 : Nat) : Int)), (42, vb false), (47, vb true), (48, vt s), (49, vi ((s14 : Nat) : Int))] ?_
            refine xV (qIxS s14 rfl i27) ?_
            refine xB 2 [] [(0, vt s), (3, vi ((s14 : Nat) : Int)), (42, vb false), (52, vb (decide ((((List.getD (s : List UInt8) s14 0)).toNat : Int) ≤ 57)))] ?_
            refine wpq_re 52 (v := vb (decide ((((List.getD (s : List UInt8) s14 0)).toNat : Int) ≤ 57))) (Value.bool ((decide ((((List.getD (s : List UInt8) s14 0)).toNat : Int) ≥ 48) && decide ((((List.getD (s : List UInt8) s14 0)).toNat : Int) ≤ 57)))) (by kernel_rfl) (re_and1 q26) ?_
            exact wpq_sub _ (by kernel_rfl) hk15
           ·have q26p := of_decide_eq_false q26
            refine xB 5 [] [(0, vt s), (3, vi ((s14 : Nat) : Int)), (42, vb false), (52, vb false)] ?_
            refine wpq_re 52 (v := vb false) (Value.bool ((decide ((((List.getD (s : List UInt8) s14 0)).toNat : Int) ≥ 48) && decide ((((List.getD (s : List UInt8) s14 0)).toNat : Int) ≤ 57)))) (by kernel_rfl) (re_and0 q26) ?_
            exact wpq_sub _ (by kernel_rfl) hk15
          ·refine xB 1 [] [(0, vt s), (3, vi ((s14 : Nat) : Int)), (53, vb (decide ((((List.getD (s : List UInt8) s14 0)).toNat : Int) ≥ 48) && decide ((((List.getD (s : List UInt8) s14 0)).toNat : Int) ≤ 57)))] ?_
           refine wpq_re 53 (v := vb (decide ((((List.getD (s : List UInt8) s14 0)).toNat : Int) ≥ 48) && decide ((((List.getD (s : List UInt8) s14 0)).toNat : Int) ≤ 57))) (Value.bool (((decide ((((List.getD (s : List UInt8) s14 0)).toNat : Int) ≥ 65) && decide ((((List.getD (s : List UInt8) s14 0)).toNat : Int) ≤ 90)) || (decide ((((List.getD (s : List UInt8) s14 0)).toNat : Int) ≥ 48) && decide ((((List.getD (s : List UInt8) s14 0)).toNat : Int) ≤ 57))))) (by kernel_rfl) (re_or0 q23) ?_
           exact wpq_sub _ (by kernel_rfl) hk10
        ·refine xB 1 [] [(0, vt s), (3, vi ((s14 : Nat) : Int)), (4, vb ((decide ((((List.getD (s : List UInt8) s14 0)).toNat : Int) ≥ 65) && decide ((((List.getD (s : List UInt8) s14 0)).toNat : Int) ≤ 90)) || (decide ((((List.getD (s : List UInt8) s14 0)).toNat : Int) ≥ 48) && decide ((((List.getD (s : List UInt8) s14 0)).toNat : Int) ≤ 57))))] ?_
         refine xRe ?_
         refine wpq_then ?_
         refine xSq ?_
         refine xRg ?_
         refine xB 3 [] [(0, vt s), (3, vi ((s14 : Nat) : Int)), (56, vb (!((decide ((((List.getD (s : List UInt8) s14 0)).toNat : Int) ≥ 65) && decide ((((List.getD (s : List UInt8) s14 0)).toNat : Int) ≤ 90)) || (decide ((((List.getD (s : List UInt8) s14 0)).toNat : Int) ≥ 48) && decide ((((List.getD (s : List UInt8) s14 0)).toNat : Int) ≤ 57)))))] ?_
         refine xGJo hS 15 (fun g own sl t29 => own = [] ∧ sl = [(0, vt s), (3, vi ((s14 : Nat) : Int)), (68, vb t29)]) ?_ ?_
         ·rintro g30 _ _ t29 e31 ⟨rfl, rfl⟩ hS
          refine xRe ?_
          refine wpq_then ?_
          refine xCd (t29) (fun h32 => ?_) (fun h32 => ?_)
          ·have hS := cond_T h32 hS
           refine xSq ?_
           refine xRg ?_
           refine xB 1 [] [(2, vb false)] ?_
           refine xRe ?_
           refine wpq_then ?_
           have eS := (Option.some.inj hS).symm
           have eS := (hD14 _ eS).symm
           have eS := (hD9 _ eS).symm
           subst eS
           exact xRet [] [2] (e7.trans (e16.trans e31)) ⟨by kernel_rfl, by kernel_rfl⟩ (fun _ _ h => h)
          ·have hS := cond_F h32 hS
           refine xSk ?_
           refine wpq_blockN ?_
           refine wpq_then ?_
           refine xSub [(0, vt s), (3, vi ((s14 : Nat) : Int))] ?_
           refine xRg ?_
           obtain ⟨q33, hS⟩ := grd_T hS
           have q33p := of_decide_eq_true q33
           refine xB 1 [] [(0, vt s), (3, vi ((s14 : Nat) : Int)), (30, vi ((s14 : Nat) : Int))] ?_
           refine xV (qAdd .i64 (((s14 : Nat) : Int)) (1) (wr64 (by omega))) ?_
           refine xB 1 [] [(0, vt s), (3, vi (((s14 : Nat) : Int) + 1))] ?_
           refine xRe ?_
           refine wpq_thenN ?_
           refine xSub [(0, vt s), (3, vi (((s14 : Nat) : Int) + 1))] ?_
           have eS := (Option.some.inj hS).symm
           exact hN14 _ eS _ _ _ e31 ⟨by kernel_rfl, by kernel_rfl⟩
         ·intro uu29 hS hN29
          refine wpq_split 56 (b := (!((decide ((((List.getD (s : List UInt8) s14 0)).toNat : Int) ≥ 65) && decide ((((List.getD (s : List UInt8) s14 0)).toNat : Int) ≤ 90)) || (decide ((((List.getD (s : List UInt8) s14 0)).toNat : Int) ≥ 48) && decide ((((List.getD (s : List UInt8) s14 0)).toNat : Int) ≤ 57))))) (by kernel_rfl) (fun q34 => ?_) (fun q34 => ?_)
          ·have hS := cond_T q34 hS
           have q34n := not_eq_true_ q34
           have q34nl := (or_false_ q34n).1
           have q34nr := (or_false_ q34n).2
           have i35 : s14 < (s).length := by omega
           have nb36 := UInt8.toNat_lt (List.getD (s : List UInt8) s14 0)
           refine xB 2 [] [(0, vt s), (3, vi ((s14 : Nat) : Int)), (56, vb true), (57, vt s), (58, vi ((s14 : Nat) : Int))] ?_
           refine xV (qIxS s14 rfl i35) ?_
           refine xB 2 [] [(0, vt s), (3, vi ((s14 : Nat) : Int)), (56, vb true), (61, vb ((((List.getD (s : List UInt8) s14 0)).toNat : Int) != 32))] ?_
           refine xGJo hS 14 (fun g own sl t37 => own = [] ∧ sl = [(0, vt s), (3, vi ((s14 : Nat) : Int)), (56, vb true), (67, vb t37)]) ?_ ?_
           ·rintro g38 _ _ t37 e39 ⟨rfl, rfl⟩ hS
            refine xB 1 [] [(0, vt s), (3, vi ((s14 : Nat) : Int)), (68, vb t37)] ?_
            refine xSub [(0, vt s), (3, vi ((s14 : Nat) : Int)), (68, vb t37)] ?_
            exact hN29 _ (Option.some.inj hS).symm _ _ _ e39 ⟨by kernel_rfl, by kernel_rfl⟩
           ·intro uu37 hS hN37
            refine wpq_split 61 (b := ((((List.getD (s : List UInt8) s14 0)).toNat : Int) != 32)) (by kernel_rfl) (fun q40 => ?_) (fun q40 => ?_)
            ·have hS := cond_T q40 hS
             have q40p : ¬ ((((List.getD (s : List UInt8) s14 0)).toNat : Int) = 32) := ne_of_bne_ q40
             refine xB 6 [] [(0, vt s), (3, vi ((s14 : Nat) : Int)), (56, vb true), (67, vb true)] ?_
             refine xSub [(0, vt s), (3, vi ((s14 : Nat) : Int)), (56, vb true), (67, vb true)] ?_
             exact hN37 _ (Option.some.inj hS).symm _ _ _ (Gh.le.refl _) ⟨by kernel_rfl, by kernel_rfl⟩
            ·have hS := cond_F q40 hS
             have q40p : (((List.getD (s : List UInt8) s14 0)).toNat : Int) = 32 := eq_of_bne_false_ q40
             have z48 := i64_in_ (((s14 : Nat) : Int) - 1)
             obtain ⟨q41, hS⟩ := grd_T hS
             have q41p := of_decide_eq_true q41
             have i42 : ((IntKind.i64.wrap (((s14 : Nat) : Int) - 1))).toNat < (s).length := by omega
             have nb43 := UInt8.toNat_lt (List.getD (s : List UInt8) ((IntKind.i64.wrap (((s14 : Nat) : Int) - 1))).toNat 0)
             refine xB 3 [] [(0, vt s), (3, vi ((s14 : Nat) : Int)), (56, vb true), (61, vb false), (62, vt s), (64, vi (IntKind.i64.wrap (((s14 : Nat) : Int) - 1)))] ?_
             refine xV (qIxS ((IntKind.i64.wrap (((s14 : Nat) : Int) - 1))).toNat (show ((IntKind.i64.wrap (((s14 : Nat) : Int) - 1)) : Int) = _ from by omega) i42) ?_
             refine xB 2 [] [(0, vt s), (3, vi ((s14 : Nat) : Int)), (56, vb true), (67, vb ((((List.getD (s : List UInt8) ((IntKind.i64.wrap (((s14 : Nat) : Int) - 1))).toNat 0)).toNat : Int) == 32))] ?_
             refine xSub [(0, vt s), (3, vi ((s14 : Nat) : Int)), (56, vb true), (67, vb ((((List.getD (s : List UInt8) ((IntKind.i64.wrap (((s14 : Nat) : Int) - 1))).toNat 0)).toNat : Int) == 32))] ?_
             exact hN37 _ (Option.some.inj hS).symm _ _ _ (Gh.le.refl _) ⟨by kernel_rfl, by kernel_rfl⟩
          ·have hS := cond_F q34 hS
           have q34n := not_eq_false_ q34
           refine xB 12 [] [(0, vt s), (3, vi ((s14 : Nat) : Int)), (68, vb false)] ?_
           refine xSub [(0, vt s), (3, vi ((s14 : Nat) : Int)), (68, vb false)] ?_
           exact hN29 _ (Option.some.inj hS).symm _ _ _ (Gh.le.refl _) ⟨by kernel_rfl, by kernel_rfl⟩
      ·have hS := cond_F h17 hS
       have h17p := of_decide_eq_false h17
       refine xEx 0 ?_
       refine wpq_thenX ?_
       refine wpq_thenX ?_
       refine wpq_blockE ?_
       refine xSub [] ?_
       have eS := (Option.some.inj hS).symm
       have eS := (hD14 _ eS).symm
       exact hN9 _ eS _ _ _ e16 ⟨by kernel_rfl, by kernel_rfl⟩
   ·intro uu5 hS hN5
    refine wpq_split 18 (b := ((decide ((((s).length : Nat) : Int) < 1) || decide ((((s).length : Nat) : Int) > 20)) || ((((List.getD (s : List UInt8) 0 0)).toNat : Int) == 32))) (by kernel_rfl) (fun q44 => ?_) (fun q44 => ?_)
    ·have hS := cond_T q44 hS
     refine xB 7 [] [(0, vt s), (25, vb true)] ?_
     refine xSub [(0, vt s), (25, vb true)] ?_
     exact hN5 _ (Option.some.inj hS).symm _ _ _ (Gh.le.refl _) ⟨by kernel_rfl, by kernel_rfl⟩
    ·have hS := cond_F q44 hS
     have q44l := (or_false_ q44).1
     have q44r := (or_false_ q44).2
     have q44ll := (or_false_ q44l).1
     have q44lr := (or_false_ q44l).2
     have q44llp := of_decide_eq_false q44ll
     have q44lrp := of_decide_eq_false q44lr
     have q44rp : ¬ ((((List.getD (s : List UInt8) 0 0)).toNat : Int) = 32) := ne_of_beq_false_ q44r
     refine xB 3 [] [(0, vt s), (18, vb false), (19, vt s), (21, vi (((s).length : Nat) : Int))] ?_
     refine xV (qSub .i64 ((((s).length : Nat) : Int)) (1) (wr64 (by omega))) ?_
     obtain ⟨q45, hS⟩ := grd_T hS
     have q45p := of_decide_eq_true q45
     have i46 : (((((s).length : Nat) : Int) - 1)).toNat < (s).length := by omega
     have nb47 := UInt8.toNat_lt (List.getD (s : List UInt8) (((((s).length : Nat) : Int) - 1)).toNat 0)
     refine xV (qIxS (((((s).length : Nat) : Int) - 1)).toNat (show (((((s).length : Nat) : Int) - 1) : Int) = _ from by omega) i46) ?_
     refine xB 2 [] [(0, vt s), (25, vb ((((List.getD (s : List UInt8) (((((s).length : Nat) : Int) - 1)).toNat 0)).toNat : Int) == 32))] ?_
     refine xSub [(0, vt s), (25, vb ((((List.getD (s : List UInt8) (((((s).length : Nat) : Int) - 1)).toNat 0)).toNat : Int) == 32))] ?_
     exact hN5 _ (Option.some.inj hS).symm _ _ _ (Gh.le.refl _) ⟨by kernel_rfl, by kernel_rfl⟩

def o14_L1 (l : List AlertDef) (s7 : Nat) (s31 : Nat) : Option (Ctl (Nat) (Ctl (Unit) (Ctl (Unit) (Ctl (Nat) (Ctl (Unit) (Int)))))) :=
 (cond (decide (((s31 : Nat) : Int) < ((((List.take s7 l)).length : Nat) : Int))) (cond (((List.getD (List.take s7 l) s31 default).name == (List.getD l s7 default).name)) (some (Ctl.done (Ctl.done (Ctl.done (Ctl.done (Ctl.done ((7 : Int)))))))) (grd (decide (((s31 : Nat) : Int) + 1 ≤ 9223372036854775807)) (some (Ctl.go (s31 + 1))))) (some (Ctl.done (Ctl.go ()))))
def o14_L0 (l : List AlertDef) (s7 : Nat) : Option (Ctl (Nat) (Ctl (Unit) (Int))) :=
 (cond (decide (((s7 : Nat) : Int) < (((l).length : Nat) : Int))) (joinO (τ := Unit) (ρ := Ctl (Nat) (Ctl (Unit) (Int))) (bindO (τ := Bool) (o37 (List.getD l s7 default).name) fun y18 => (cond ((!y18)) (some (Ctl.done (Ctl.done (Ctl.done ((5 : Int)))))) (joinO (τ := Unit) (ρ := Ctl (Unit) (Ctl (Nat) (Ctl (Unit) (Int)))) (loopO (σ := Nat) (ρ := Ctl (Unit) (Ctl (Unit) (Ctl (Nat) (Ctl (Unit) (Int))))) fuelN (o14_L1 l s7) (0)) fun t23 => (cond ((decide ((List.getD l s7 default).level < 1) || decide ((List.getD l s7 default).level > 3))) (some (Ctl.done (Ctl.done (Ctl.done ((2 : Int)))))) (cond (((landK .u16 (List.getD l s7 default).inhibit 65025) != 0)) (some (Ctl.done (Ctl.done (Ctl.done ((1 : Int)))))) (some (Ctl.go ()))))))) fun t11 => (grd (decide (((s7 : Nat) : Int) + 1 ≤ 9223372036854775807)) (some (Ctl.go (s7 + 1))))) (some (Ctl.done (Ctl.go ()))))
def o14 (l : List AlertDef) : Option (Int) :=
 (cond (decide ((((l).length : Nat) : Int) > 16)) (some ((3 : Int))) (joinO (τ := Unit) (ρ := Int) (loopO (σ := Nat) (ρ := Ctl (Unit) (Int)) fuelN (o14_L0 l) (0)) fun t2 => (some ((0 : Int)))))
set_option maxRecDepth 100000 in
theorem c14 (g : Gh) (l : List AlertDef) (Al : Option Addr) (cl : Nat) (fl : Arr g.r tyAlertDef Al cl l) {r : Int} (hS : o14 l = some r) :
  Ctr Try.prog 14 [vs Al l cl] g [] (fun v ψ o => v = vi r ∧ o = []) := by
 unfold o14 at hS
 refine xFn Try.f14 (Try.f14.body.getD .skip) 48 ?_
 have nfl := fl.len
 refine xSq ?_
 refine xRg ?_
 refine xB 1 [] [(0, vs Al l cl)] ?_
 refine xRe ?_
 refine wpq_then ?_
 refine xSq ?_
 refine xSq ?_
 refine xRg ?_
 refine xB 3 [] [(0, vs Al l cl), (9, vb (decide ((((l).length : Nat) : Int) > 16)))] ?_
 refine xRe ?_
 refine wpq_then ?_
 refine xCd (decide ((((l).length : Nat) : Int) > 16)) (fun h1 => ?_) (fun h1 => ?_)
 ·have hS := cond_T h1 hS
  have h1p := of_decide_eq_true h1
  refine xSq ?_
  refine xRg ?_
  refine xB 1 [] [(2, vi 3)] ?_
  refine xRe ?_
  refine wpq_then ?_
  have eS := (Option.some.inj hS).symm
  subst eS
  exact xRet [] [2] (Gh.le.refl _) ⟨by kernel_rfl, by kernel_rfl⟩ (fun _ _ h => h)
 ·have hS := cond_F h1 hS
  have h1p := of_decide_eq_false h1
  refine xSk ?_
  refine wpq_then ?_
  refine xSub [(0, vs Al l cl)] ?_
  refine xSq ?_
  refine xSq ?_
  refine xRg ?_
  refine xB 3 [] [(0, vs Al l cl), (10, vs Al l cl), (11, vi (((l).length : Nat) : Int)), (12, vi 0)] ?_
  refine xRe ?_
  refine wpq_then ?_
  refine xJoinO hS (fun g own sl t2 => own = [] ∧ sl = []) ?_ ?_
  ·rintro g3 _ _ t2 e4 ⟨rfl, rfl⟩ hS
   refine wpq_then ?_
   refine xSq ?_
   refine xRg ?_
   refine xB 1 [] [(2, vi 0)] ?_
   refine xRe ?_
   refine wpq_then ?_
   have eS := (Option.some.inj hS).symm
   subst eS
   exact xRet [] [2] e4 ⟨by kernel_rfl, by kernel_rfl⟩ (fun _ _ h => h)
  ·intro uu2 hS hN2 hD2
   refine xBl 0 ?_
   refine xSub [(0, vs Al l cl), (10, vs Al l cl), (11, vi (((l).length : Nat) : Int)), (12, vi 0)] ?_
   refine xLo hS (fun g own sl s7 => own = [] ∧ sl = [(0, vs Al l cl), (10, vs Al l cl), (11, vi (((l).length : Nat) : Int)), (12, vi ((s7 : Nat) : Int))]) ⟨by kernel_rfl, by kernel_rfl⟩ ?_
   rintro g8 _ _ s7 uu7 e9 ⟨rfl, rfl⟩ hS Qr7 hN7 hD7
   unfold o14_L0 at hS
   refine xSq ?_
   refine xRg ?_
   refine xB 1 [] [(0, vs Al l cl), (10, vs Al l cl), (11, vi (((l).length : Nat) : Int)), (12, vi ((s7 : Nat) : Int)), (13, vb (decide (((s7 : Nat) : Int) < (((l).length : Nat) : Int))))] ?_
   refine xRe ?_
   refine wpq_then ?_
   refine xSq ?_
   refine xCd (decide (((s7 : Nat) : Int) < (((l).length : Nat) : Int))) (fun h10 => ?_) (fun h10 => ?_)
   ·have hS := cond_T h10 hS
    have h10p := of_decide_eq_true h10
    refine xSk ?_
    refine wpq_then ?_
    refine xSub [(0, vs Al l cl), (10, vs Al l cl), (11, vi (((l).length : Nat) : Int)), (12, vi ((s7 : Nat) : Int))] ?_
    refine xSq ?_
    refine xJoinO hS (fun g own sl t11 => own = [] ∧ sl = [(0, vs Al l cl), (10, vs Al l cl), (11, vi (((l).length : Nat) : Int)), (12, vi ((s7 : Nat) : Int))]) ?_ ?_
    ·rintro g12 _ _ t11 e13 ⟨rfl, rfl⟩ hS
     refine wpq_then ?_
     refine xRg ?_
     obtain ⟨q14, hS⟩ := grd_T hS
     have q14p := of_decide_eq_true q14
     refine xV (qAdd .i64 (((s7 : Nat) : Int)) (1) (wr64 (by omega))) ?_
     refine xB 1 [] [(0, vs Al l cl), (10, vs Al l cl), (11, vi (((l).length : Nat) : Int)), (12, vi (((s7 : Nat) : Int) + 1))] ?_
     refine xRe ?_
     refine wpq_thenN ?_
     refine xSub [(0, vs Al l cl), (10, vs Al l cl), (11, vi (((l).length : Nat) : Int)), (12, vi (((s7 : Nat) : Int) + 1))] ?_
     have eS := (Option.some.inj hS).symm
     exact hN7 _ eS _ _ _ e13 ⟨by kernel_rfl, by kernel_rfl⟩
    ·intro uu11 hS hN11 hD11
     refine xBl 1 ?_
     refine xSq ?_
     refine xRg ?_
     have fl := fl.mono e9.r
     have i16 : s7 < (l).length := by omega
     obtain ⟨ad15, cs15, hA15, hr15, hc15⟩ := fl.at_ (get_getD (d := default) i16)
     obtain ⟨rfl⟩ := hr15
     refine xB 1 [] [(0, vs Al l cl), (10, vs Al l cl), (11, vi (((l).length : Nat) : Int)), (12, vi ((s7 : Nat) : Int)), (14, vi ((s7 : Nat) : Int))] ?_
     refine xV (qIx s7 3 hA15 rfl i16) ?_
     refine xV (qLdP (Addr.add ad15 (s7 * 3)) 0 hc15) ?_
     refine xE eB ?_
     rintro _ _ _ - ⟨b17, rfl, rfl, rfl⟩
     refine xBo 2 [(5, 0)] [some ⟨b17, 34, [vt ((List.getD l s7 default).name), vy ((List.getD l s7 default).level), Value.int .u16 ((List.getD l s7 default).inhibit)]⟩] [(0, vs Al l cl), (3, vi ((s7 : Nat) : Int)), (4, vp b17 0), (10, vs Al l cl), (11, vi (((l).length : Nat) : Int)), (12, vi ((s7 : Nat) : Int))] ?_
     refine xRe ?_
     refine wpq_then ?_
     refine xSq ?_
     refine xSq ?_
     refine xRg ?_
     refine xB 2 [(1, 0)] [(0, vs Al l cl), (3, vi ((s7 : Nat) : Int)), (4, vp b17 0), (10, vs Al l cl), (11, vi (((l).length : Nat) : Int)), (12, vi ((s7 : Nat) : Int)), (18, vt ((List.getD l s7 default).name))] ?_
     obtain ⟨y18, hy18, hS⟩ := bindO_T hS
     refine xE (eC 0 (fun g' lr eb ln => c37 g' (List.getD l s7 default).name hy18)) ?_
     rintro _ g19 _ e20 ⟨_, rfl, rfl, rfl⟩
     refine xB 1 [] [(0, vs Al l cl), (3, vi ((s7 : Nat) : Int)), (4, vp b17 0), (10, vs Al l cl), (11, vi (((l).length : Nat) : Int)), (12, vi ((s7 : Nat) : Int)), (20, vb (!y18))] ?_
     refine xRe ?_
     refine wpq_then ?_
     refine xCd ((!y18)) (fun h21 => ?_) (fun h21 => ?_)
     ·have hS := cond_T h21 hS
      have h21n := not_eq_true_ h21
      refine xSq ?_
      refine xRg ?_
      refine xB 1 [] [(2, vi 5)] ?_
      refine xRe ?_
      refine wpq_then ?_
      have eS := (Option.some.inj hS).symm
      have eS := (hD11 _ eS).symm
      have eS := (hD7 _ eS).symm
      have eS := (hD2 _ eS).symm
      subst eS
      exact xRet [] [2] (e9.trans e20) ⟨by kernel_rfl, by kernel_rfl⟩ (fun _ _ h => h)
     ·have hS := cond_F h21 hS
      have h21n := not_eq_false_ h21
      refine xSk ?_
      refine wpq_then ?_
      refine xSub [(0, vs Al l cl), (3, vi ((s7 : Nat) : Int)), (4, vp b17 0), (10, vs Al l cl), (11, vi (((l).length : Nat) : Int)), (12, vi ((s7 : Nat) : Int))] ?_
      refine xSq ?_
      refine xSq ?_
      refine xRg ?_
      have fl := fl.mono e20.r
      have ncapf22 := fl.cap
      have f22 : Arr g19.r tyAlertDef (offA Al cl 0 3) (cl - 0) (List.take s7 l) := fl.cut_to s7 (by omega)
      have nf22 := f22.len
      have hlf22 : s7 - 0 = ((List.take s7 l)).length := by simp only [List.length_take, List.length_drop] <;> omega
      have hvf22 : ((((List.take s7 l)).length : Nat) : Int) = ((s7 : Nat) : Int) - 0 := by omega
      refine xB 2 [] [(0, vs Al l cl), (4, vp b17 0), (10, vs Al l cl), (11, vi (((l).length : Nat) : Int)), (12, vi ((s7 : Nat) : Int)), (21, vs Al l cl), (22, vi ((s7 : Nat) : Int))] ?_
      refine xV (qSl (m := 3) (A := Al) (len := (l).length) (c := cl) 0 s7 none (some ((s7 : Nat) : Int)) ((List.take s7 l)).length rfl rfl (by omega) (by omega) hlf22) ?_
      refine xB 2 [] [(0, vs Al l cl), (4, vp b17 0), (10, vs Al l cl), (11, vi (((l).length : Nat) : Int)), (12, vi ((s7 : Nat) : Int)), (23, vs (offA Al cl 0 3) (List.take s7 l) (cl - 0)), (24, vi ((((List.take s7 l)).length : Nat) : Int)), (25, vi 0)] ?_
      refine xRe ?_
      refine wpq_then ?_
      refine xJoinO hS (fun g own sl t23 => own = [some ⟨b17, 34, [vt ((List.getD l s7 default).name), vy ((List.getD l s7 default).level), Value.int .u16 ((List.getD l s7 default).inhibit)]⟩] ∧ sl = [(0, vs Al l cl), (4, vp b17 0), (10, vs Al l cl), (11, vi (((l).length : Nat) : Int)), (12, vi ((s7 : Nat) : Int))]) ?_ ?_
      ·rintro g24 _ _ t23 e25 ⟨rfl, rfl⟩ hS
       refine wpq_then ?_
       refine xSq ?_
       refine xSq ?_
       refine xRg ?_
       refine xB 4 [(1, 0)] [(0, vs Al l cl), (4, vp b17 0), (10, vs Al l cl), (11, vi (((l).length : Nat) : Int)), (12, vi ((s7 : Nat) : Int)), (38, vb (decide ((List.getD l s7 default).level < 1)))] ?_
       refine wpr_grp 8 [(0, vs Al l cl), (4, vp b17 0), (10, vs Al l cl), (11, vi (((l).length : Nat) : Int)), (12, vi ((s7 : Nat) : Int)), (42, vb (decide ((List.getD l s7 default).level < 1) || decide ((List.getD l s7 default).level > 3)))] (fun hk3 => ?_) ?_
       ·refine wpq_split 38 (b := decide ((List.getD l s7 default).level < 1)) (by kernel_rfl) (fun q26 => ?_) (fun q26 => ?_)
        ·have q26p := of_decide_eq_true q26
         refine xB 4 [] [(0, vs Al l cl), (4, vp b17 0), (10, vs Al l cl), (11, vi (((l).length : Nat) : Int)), (12, vi ((s7 : Nat) : Int)), (42, vb true)] ?_
         refine wpq_re 42 (v := vb true) (Value.bool ((decide ((List.getD l s7 default).level < 1) || decide ((List.getD l s7 default).level > 3)))) (by kernel_rfl) (re_or1 q26) ?_
         exact wpq_sub _ (by kernel_rfl) hk3
        ·have q26p := of_decide_eq_false q26
         refine xB 4 [(5, 0)] [(0, vs Al l cl), (4, vp b17 0), (10, vs Al l cl), (11, vi (((l).length : Nat) : Int)), (12, vi ((s7 : Nat) : Int)), (42, vb (decide ((List.getD l s7 default).level > 3)))] ?_
         refine wpq_re 42 (v := vb (decide ((List.getD l s7 default).level > 3))) (Value.bool ((decide ((List.getD l s7 default).level < 1) || decide ((List.getD l s7 default).level > 3)))) (by kernel_rfl) (re_or0 q26) ?_
         exact wpq_sub _ (by kernel_rfl) hk3
       ·refine xRe ?_
        refine wpq_then ?_
        refine xCd ((decide ((List.getD l s7 default).level < 1) || decide ((List.getD l s7 default).level > 3))) (fun h27 => ?_) (fun h27 => ?_)
        ·have hS := cond_T h27 hS
         refine xSq ?_
         refine xRg ?_
         refine xB 1 [] [(2, vi 2)] ?_
         refine xRe ?_
         refine wpq_then ?_
         have eS := (Option.some.inj hS).symm
         have eS := (hD11 _ eS).symm
         have eS := (hD7 _ eS).symm
         have eS := (hD2 _ eS).symm
         subst eS
         exact xRet [] [2] (e9.trans (e20.trans e25)) ⟨by kernel_rfl, by kernel_rfl⟩ (fun _ _ h => h)
        ·have hS := cond_F h27 hS
         have h27l := (or_false_ h27).1
         have h27r := (or_false_ h27).2
         have h27lp := of_decide_eq_false h27l
         have h27rp := of_decide_eq_false h27r
         refine xSk ?_
         refine wpq_then ?_
         refine xSub [(0, vs Al l cl), (4, vp b17 0), (10, vs Al l cl), (11, vi (((l).length : Nat) : Int)), (12, vi ((s7 : Nat) : Int))] ?_
         refine xSq ?_
         refine xRg ?_
         refine xB 4 [(1, 0)] [(0, vs Al l cl), (10, vs Al l cl), (11, vi (((l).length : Nat) : Int)), (12, vi ((s7 : Nat) : Int)), (46, vb ((landK .u16 (List.getD l s7 default).inhibit 65025) != 0))] ?_
         refine xRe ?_
         refine wpq_then ?_
         refine xCd (((landK .u16 (List.getD l s7 default).inhibit 65025) != 0)) (fun h28 => ?_) (fun h28 => ?_)
         ·have hS := cond_T h28 hS
          have h28p : ¬ ((landK .u16 (List.getD l s7 default).inhibit 65025) = 0) := ne_of_bne_ h28
          refine xSq ?_
          refine xRg ?_
          refine xB 1 [] [(2, vi 1)] ?_
          refine xRe ?_
          refine wpq_then ?_
          have eS := (Option.some.inj hS).symm
          have eS := (hD11 _ eS).symm
          have eS := (hD7 _ eS).symm
          have eS := (hD2 _ eS).symm
          subst eS
          exact xRet [] [2] (e9.trans (e20.trans e25)) ⟨by kernel_rfl, by kernel_rfl⟩ (fun _ _ h => h)
         ·have hS := cond_F h28 hS
          have h28p : (landK .u16 (List.getD l s7 default).inhibit 65025) = 0 := eq_of_bne_false_ h28
          refine xSk ?_
          refine wpq_blockN ?_
          refine xSel [] ?_
          refine xSub [(0, vs Al l cl), (10, vs Al l cl), (11, vi (((l).length : Nat) : Int)), (12, vi ((s7 : Nat) : Int))] ?_
          have eS := (Option.some.inj hS).symm
          exact hN11 _ eS _ _ _ (e20.trans e25) ⟨by kernel_rfl, by kernel_rfl⟩
      ·intro uu23 hS hN23 hD23
       refine xBl 2 ?_
       refine xSub [(0, vs Al l cl), (4, vp b17 0), (10, vs Al l cl), (11, vi (((l).length : Nat) : Int)), (12, vi ((s7 : Nat) : Int)), (23, vs (offA Al cl 0 3) (List.take s7 l) (cl - 0)), (24, vi ((((List.take s7 l)).length : Nat) : Int)), (25, vi 0)] ?_
       refine xLo hS (fun g own sl s31 => own = [some ⟨b17, 34, [vt ((List.getD l s7 default).name), vy ((List.getD l s7 default).level), Value.int .u16 ((List.getD l s7 default).inhibit)]⟩] ∧ sl = [(0, vs Al l cl), (4, vp b17 0), (10, vs Al l cl), (11, vi (((l).length : Nat) : Int)), (12, vi ((s7 : Nat) : Int)), (23, vs (offA Al cl 0 3) (List.take s7 l) (cl - 0)), (24, vi ((((List.take s7 l)).length : Nat) : Int)), (25, vi ((s31 : Nat) : Int))]) ⟨by kernel_rfl, by kernel_rfl⟩ ?_
       rintro g32 _ _ s31 uu31 e33 ⟨rfl, rfl⟩ hS Qr31 hN31 hD31
       unfold o14_L1 at hS
       refine xSq ?_
       refine xRg ?_
       refine xB 1 [] [(0, vs Al l cl), (4, vp b17 0), (10, vs Al l cl), (11, vi (((l).length : Nat) : Int)), (12, vi ((s7 : Nat) : Int)), (23, vs (offA Al cl 0 3) (List.take s7 l) (cl - 0)), (24, vi ((((List.take s7 l)).length : Nat) : Int)), (25, vi ((s31 : Nat) : Int)), (26, vb (decide (((s31 : Nat) : Int) < ((((List.take s7 l)).length : Nat) : Int))))] ?_
       refine xRe ?_
       refine wpq_then ?_
       refine xSq ?_
       refine xCd (decide (((s31 : Nat) : Int) < ((((List.take s7 l)).length : Nat) : Int))) (fun h34 => ?_) (fun h34 => ?_)
       ·have hS := cond_T h34 hS
        have h34p := of_decide_eq_true h34
        refine xSk ?_
        refine wpq_then ?_
        refine xSub [(0, vs Al l cl), (4, vp b17 0), (10, vs Al l cl), (11, vi (((l).length : Nat) : Int)), (12, vi ((s7 : Nat) : Int)), (23, vs (offA Al cl 0 3) (List.take s7 l) (cl - 0)), (24, vi ((((List.take s7 l)).length : Nat) : Int)), (25, vi ((s31 : Nat) : Int))] ?_
        refine xSq ?_
        refine xBl 3 ?_
        refine xSq ?_
        refine xRg ?_
        have f22 := f22.mono e33.r
        have i36 : s31 < ((List.take s7 l)).length := by omega
        obtain ⟨ad35, cs35, hA35, hr35, hc35⟩ := f22.at_ (get_getD (d := default) i36)
        obtain ⟨rfl⟩ := hr35
        refine xV (qIx s31 3 hA35 rfl i36) ?_
        refine xV (qLdP (Addr.add ad35 (s31 * 3)) 0 hc35) ?_
        refine xE eB ?_
        rintro _ _ _ - ⟨b37, rfl, rfl, rfl⟩
        refine xBo 1 [(3, 0)] [some ⟨b37, 34, [vt ((List.getD (List.take s7 l) s31 default).name), vy ((List.getD (List.take s7 l) s31 default).level), Value.int .u16 ((List.getD (List.take s7 l) s31 default).inhibit)]⟩, some ⟨b17, 34, [vt ((List.getD l s7 default).name), vy ((List.getD l s7 default).level), Value.int .u16 ((List.getD l s7 default).inhibit)]⟩] [(0, vs Al l cl), (4, vp b17 0), (6, vp b37 0), (10, vs Al l cl), (11, vi (((l).length : Nat) : Int)), (12, vi ((s7 : Nat) : Int)), (23, vs (offA Al cl 0 3) (List.take s7 l) (cl - 0)), (24, vi ((((List.take s7 l)).length : Nat) : Int)), (25, vi ((s31 : Nat) : Int))] ?_
        refine xRe ?_
        refine wpq_then ?_
        refine xSq ?_
        refine xRg ?_
        refine xB 4 [(1, 0), (3, 1)] [(0, vs Al l cl), (4, vp b17 0), (10, vs Al l cl), (11, vi (((l).length : Nat) : Int)), (12, vi ((s7 : Nat) : Int)), (23, vs (offA Al cl 0 3) (List.take s7 l) (cl - 0)), (24, vi ((((List.take s7 l)).length : Nat) : Int)), (25, vi ((s31 : Nat) : Int)), (30, vt ((List.getD (List.take s7 l) s31 default).name)), (32, vt ((List.getD l s7 default).name))] ?_
        refine xV (qEqS ((List.getD (List.take s7 l) s31 default).name) ((List.getD l s7 default).name)) ?_
        refine xRe ?_
        refine wpq_then ?_
        refine xSub [(0, vs Al l cl), (4, vp b17 0), (10, vs Al l cl), (11, vi (((l).length : Nat) : Int)), (12, vi ((s7 : Nat) : Int)), (23, vs (offA Al cl 0 3) (List.take s7 l) (cl - 0)), (24, vi ((((List.take s7 l)).length : Nat) : Int)), (25, vi ((s31 : Nat) : Int)), (33, vb ((List.getD (List.take s7 l) s31 default).name == (List.getD l s7 default).name))] ?_
        refine xCd (((List.getD (List.take s7 l) s31 default).name == (List.getD l s7 default).name)) (fun h38 => ?_) (fun h38 => ?_)
        ·have hS := cond_T h38 hS
         have h38p : (List.getD (List.take s7 l) s31 default).name = (List.getD l s7 default).name := eq_of_beq h38
         refine xSq ?_
         refine xRg ?_
         refine xB 1 [] [(2, vi 7)] ?_
         refine xRe ?_
         refine wpq_then ?_
         have eS := (Option.some.inj hS).symm
         have eS := (hD31 _ eS).symm
         have eS := (hD23 _ eS).symm
         have eS := (hD11 _ eS).symm
         have eS := (hD7 _ eS).symm
         have eS := (hD2 _ eS).symm
         subst eS
         exact xRet [] [2] (e9.trans (e20.trans e33)) ⟨by kernel_rfl, by kernel_rfl⟩ (fun _ _ h => h)
        ·have hS := cond_F h38 hS
         have h38p : ¬ ((List.getD (List.take s7 l) s31 default).name = (List.getD l s7 default).name) := ne_of_beq_false_ h38
         refine xSk ?_
         refine wpq_blockN ?_
         refine wpq_then ?_
         refine xSub [(0, vs Al l cl), (4, vp b17 0), (10, vs Al l cl), (11, vi (((l).length : Nat) : Int)), (12, vi ((s7 : Nat) : Int)), (23, vs (offA Al cl 0 3) (List.take s7 l) (cl - 0)), (24, vi ((((List.take s7 l)).length : Nat) : Int)), (25, vi ((s31 : Nat) : Int))] ?_
         refine xRg ?_
         obtain ⟨q39, hS⟩ := grd_T hS
         have q39p := of_decide_eq_true q39
         refine xV (qAdd .i64 (((s31 : Nat) : Int)) (1) (wr64 (by omega))) ?_
         refine xB 1 [] [(0, vs Al l cl), (4, vp b17 0), (10, vs Al l cl), (11, vi (((l).length : Nat) : Int)), (12, vi ((s7 : Nat) : Int)), (23, vs (offA Al cl 0 3) (List.take s7 l) (cl - 0)), (24, vi ((((List.take s7 l)).length : Nat) : Int)), (25, vi (((s31 : Nat) : Int) + 1))] ?_
         refine xRe ?_
         refine wpq_thenN ?_
         refine xSel [some 1] ?_
         refine xSub [(0, vs Al l cl), (4, vp b17 0), (10, vs Al l cl), (11, vi (((l).length : Nat) : Int)), (12, vi ((s7 : Nat) : Int)), (23, vs (offA Al cl 0 3) (List.take s7 l) (cl - 0)), (24, vi ((((List.take s7 l)).length : Nat) : Int)), (25, vi (((s31 : Nat) : Int) + 1))] ?_
         have eS := (Option.some.inj hS).symm
         exact hN31 _ eS _ _ _ (Gh.le.refl _) ⟨by kernel_rfl, by kernel_rfl⟩
       ·have hS := cond_F h34 hS
        have h34p := of_decide_eq_false h34
        refine xEx 2 ?_
        refine wpq_thenX ?_
        refine wpq_thenX ?_
        refine wpq_blockE ?_
        refine xSub [(0, vs Al l cl), (4, vp b17 0), (10, vs Al l cl), (11, vi (((l).length : Nat) : Int)), (12, vi ((s7 : Nat) : Int))] ?_
        have eS := (Option.some.inj hS).symm
        have eS := (hD31 _ eS).symm
        exact hN23 _ eS _ _ _ e33 ⟨by kernel_rfl, by kernel_rfl⟩
   ·have hS := cond_F h10 hS
    have h10p := of_decide_eq_false h10
    refine xEx 0 ?_
    refine wpq_thenX ?_
    refine wpq_thenX ?_
    refine wpq_blockE ?_
    refine xSub [] ?_
    have eS := (Option.some.inj hS).symm
    have eS := (hD7 _ eS).symm
    exact hN2 _ eS _ _ _ e9 ⟨by kernel_rfl, by kernel_rfl⟩

def o28 (l : List AlertDef) : Option (RBoard × Int) :=
 (bindO (τ := Int) (o14 (l : List AlertDef)) fun y2 => (cond ((y2 != 0)) (some (((⟨([] : List AlertDef), 0, 0, ([] : List Int), ([] : List Bool)⟩ : RBoard), (y2 : Int)))) (grd (decide (0 ≤ (((l).length : Nat) : Int) ∧ (((l).length : Nat) : Int) * 8 ≤ 140737488355328)) (some (((⟨l, 0, 1, (List.replicate (l).length (0 : Int)), (List.replicate (l).length (false : Bool))⟩ : RBoard), (0 : Int)))))))
set_option maxRecDepth 100000 in
theorem c28 (g : Gh) (l : List AlertDef) (Al : Option Addr) (cl : Nat) (fl : Arr g.b tyAlertDef Al cl l) {r : RBoard × Int} (hS : o28 l = some r) :
  Ctr Try.prog 28 [vs Al l cl] g [] (fun v ψ o => ∃ (Ar_0_defs : Option Addr) (cr_0_defs : Nat) (Ar_0_onset : Option Addr) (cr_0_onset : Nat) (kr_0_onset : Option Bk) (Ar_0_acked : Option Addr) (cr_0_acked : Nat) (kr_0_acked : Option Bk), v = Value.tuple #[Value.agg #[vs Ar_0_defs r.1.defs cr_0_defs, vi r.1.steps, vy r.1.phase, vs Ar_0_onset r.1.onset cr_0_onset, vs Ar_0_acked r.1.acked cr_0_acked], vi r.2] ∧ o = [kr_0_onset, kr_0_acked] ∧ Arr ψ tyAlertDef Ar_0_defs cr_0_defs r.1.defs ∧ Buf ψ (tyI .i64) 2 (.slice Ar_0_onset (r.1.onset).length cr_0_onset) kr_0_onset r.1.onset ∧ Buf ψ tyB 4 (.slice Ar_0_acked (r.1.acked).length cr_0_acked) kr_0_acked r.1.acked) := by
 unfold o28 at hS
 refine xFn Try.f28 (Try.f28.body.getD .skip) 19 ?_
 have nfl := fl.len
 refine xSq ?_
 refine xRg ?_
 refine xE eB ?_
 rintro _ _ _ - ⟨b1, rfl, rfl, rfl⟩
 refine xB 1 [] [(0, vs Al l cl), (2, vp b1 0)] ?_
 refine xRe ?_
 refine wpq_then ?_
 refine xSq ?_
 refine xRg ?_
 refine xB 1 [] [(0, vs Al l cl), (2, vp b1 0), (5, vs Al l cl)] ?_
 obtain ⟨y2, hy2, hS⟩ := bindO_T hS
 refine xE (eC 0 (fun g' lr eb ln => c14 g' (l : List AlertDef) Al cl ((fl.mono g.br).mono lr) hy2)) ?_
 rintro _ g3 _ e4 ⟨_, rfl, rfl, rfl⟩
 refine xB 1 [] [(0, vs Al l cl), (2, vp b1 0), (4, vi y2)] ?_
 refine xRe ?_
 refine wpq_then ?_
 refine xSq ?_
 refine xSq ?_
 refine xRg ?_
 refine xB 2 [] [(0, vs Al l cl), (2, vp b1 0), (4, vi y2), (8, vb (y2 != 0))] ?_
 refine xRe ?_
 refine wpq_then ?_
 refine xCd ((y2 != 0)) (fun h5 => ?_) (fun h5 => ?_)
 ·have hS := cond_T h5 hS
  have h5p : ¬ (y2 = 0) := ne_of_bne_ h5
  refine xSq ?_
  refine xRg ?_
  refine xBo 4 [(2, 0)] [some ⟨b1, 57, (cRBoard (⟨([] : List AlertDef), 0, 0, ([] : List Int), ([] : List Bool)⟩ : RBoard) none 0 none 0 none 0)⟩] [(2, vp b1 0), (3, vi y2)] ?_
  refine xRe ?_
  refine wpq_then ?_
  have eS := (Option.some.inj hS).symm
  subst eS
  exact xRetC [none, none] [(2, 0)] e4 ⟨none, 0, none, 0, none, none, 0, none, by kernel_rfl, by kernel_rfl, Arr.nil, Buf.nil, Buf.nil⟩ (fun _ _ h => h)
 ·have hS := cond_F h5 hS
  have h5p : y2 = 0 := eq_of_bne_false_ h5
  refine xSk ?_
  refine wpq_then ?_
  refine xSub [(0, vs Al l cl), (2, vp b1 0)] ?_
  refine xSq ?_
  refine xDr 0 [] [8, 0, 1, 2, 4, 5, 7, 9] [] 10 (fun RG => ?_) (fun _ _ _ _ _ h => h)
  refine xT 5 [0, 1, 2, 4, 5] [] [] [(2, vp b1 0), (11, vs Al l cl), (13, vi (((l).length : Nat) : Int)), (16, vi (((l).length : Nat) : Int))] RG (Psi.le.refl _) ?_
  obtain ⟨q7, hS⟩ := grd_T hS
  have q7p := of_decide_eq_true q7
  refine wpa_meet (fun g own sl => ∃ (A8 : Option Addr) (c8 : Nat) (k8 : Option Bk) (A9 : Option Addr) (c9 : Nat) (k9 : Option Bk), own = [k9, k8, some ⟨b1, 57, (cRBoard (⟨([] : List AlertDef), 0, 0, ([] : List Int), ([] : List Bool)⟩ : RBoard) none 0 none 0 none 0)⟩] ∧ sl = [(2, vp b1 0), (11, vs Al l cl), (14, vs A8 (List.replicate (l).length (0 : Int)) c8), (17, vs A9 (List.replicate (l).length (false : Bool)) c9)] ∧ Buf g.b (tyI .i64) 2 (.slice A8 ((List.replicate (l).length (0 : Int))).length c8) k8 (List.replicate (l).length (0 : Int)) ∧ Buf g.b tyB 4 (.slice A9 ((List.replicate (l).length (false : Bool))).length c9) k9 (List.replicate (l).length (false : Bool))) 3 [true, true, true, true, true, true, true, false, false, false] ?_ (fun hD6 => ?_)
  ·rintro g207 _ _ e208 ⟨A8, c8, k8, A9, c9, k9, rfl, rfl, h8, h9⟩
   have nh8 := h8.len
   have nh9 := h9.len
   have hlh8 : ((List.replicate (l).length (0 : Int))).length = (l).length := List.length_replicate
   have hlh9 : ((List.replicate (l).length (false : Bool))).length = (l).length := List.length_replicate
   refine xT 2 [7] [] [] [(2, vp b1 0), (18, Value.agg #[vs Al l cl, vi 0, vy 1, vs A8 (List.replicate (l).length (0 : Int)) c8, vs A9 (List.replicate (l).length (false : Bool)) c9])] RG e208.r ?_
   refine xO1 (lds := []) 8 ?_
   refine xId (lds := []) e208.r (eStL b1 0 2) ?_
   rintro _ _ _ - ⟨rfl, rfl⟩
   refine kf ?_
   refine xT 0 [9] [] [] [(2, vp b1 0), (3, vi 0)] RG e208.r ?_
   refine xAe (lds := []) ?_
   refine wpq_then ?_
   have fl := fl.mono (e4.trans e208).b
   have eS := (Option.some.inj hS).symm
   subst eS
   exact xRetC [some 1, some 0] [(2, 2)] (e4.trans e208) ⟨Al, cl, A8, c8, k8, A9, c9, k9, by kernel_rfl, by kernel_rfl, fl, h8, h9⟩ (fun _ _ h => h)
  ·refine xO2 (lds := []) 3 6 ?_ ?_
   ·refine xIe (lds := []) (Psi.le.refl _) (eMk (T := (tyI .i64)) (p := g3.b) (et := 2) (bytes := 8) (z := (0 : Int)) (l).length rfl (show (tyI .i64).rep _ _ _ from rfl) (by omega) (by omega)) ?_
    rintro _ _ _ - ⟨A210, c210, k210, rfl, rfl, rfl, h210⟩
    refine kk [] ?_
    have nh210 := h210.len
    have hlh210 : ((List.replicate (l).length (0 : Int))).length = (l).length := List.length_replicate
    refine xO1 (lds := []) 6 ?_
    refine xIe (lds := []) (Psi.le.refl _) (eMk (T := tyB) (p := g3.b) (et := 4) (bytes := 1) (z := (false : Bool)) (l).length rfl (show tyB.rep _ _ _ from rfl) (by omega) (by omega)) ?_
    rintro _ _ _ - ⟨A211, c211, k211, rfl, rfl, rfl, h211⟩
    refine kk [] ?_
    have nh211 := h211.len
    have hlh211 : ((List.replicate (l).length (false : Bool))).length = (l).length := List.length_replicate
    refine xSub [(2, vp b1 0), (11, vs Al l cl), (14, vs A210 (List.replicate (l).length (0 : Int)) c210), (17, vs A211 (List.replicate (l).length (false : Bool)) c211)] ?_
    exact hD6 _ _ _ (Gh.le.refl _) ⟨A210, c210, k210, A211, c211, k211, by kernel_rfl, by kernel_rfl, h210, h211⟩
   ·refine xIe (lds := []) (Psi.le.refl _) (eMk (T := tyB) (p := g3.b) (et := 4) (bytes := 1) (z := (false : Bool)) (l).length rfl (show tyB.rep _ _ _ from rfl) (by omega) (by omega)) ?_
    rintro _ _ _ - ⟨A212, c212, k212, rfl, rfl, rfl, h212⟩
    refine kk [] ?_
    have nh212 := h212.len
    have hlh212 : ((List.replicate (l).length (false : Bool))).length = (l).length := List.length_replicate
    refine xO1 (lds := []) 3 ?_
    refine xIe (lds := []) (Psi.le.refl _) (eMk (T := (tyI .i64)) (p := g3.b) (et := 2) (bytes := 8) (z := (0 : Int)) (l).length rfl (show (tyI .i64).rep _ _ _ from rfl) (by omega) (by omega)) ?_
    rintro _ _ _ - ⟨A214, c214, k214, rfl, rfl, rfl, h214⟩
    refine kk [] ?_
    have nh214 := h214.len
    have hlh214 : ((List.replicate (l).length (0 : Int))).length = (l).length := List.length_replicate
    refine xSel [some 1, some 0, some 2] ?_
    refine xSub [(2, vp b1 0), (11, vs Al l cl), (14, vs A214 (List.replicate (l).length (0 : Int)) c214), (17, vs A212 (List.replicate (l).length (false : Bool)) c212)] ?_
    exact hD6 _ _ _ (Gh.le.refl _) ⟨A214, c214, k214, A212, c212, k212, by kernel_rfl, by kernel_rfl, h214, h212⟩

def o56 (b : RBoard) : Option (RBoard) :=
 (grd (decide ((0 + (b.onset).length) * 8 ≤ 140737488355328)) (some (b)))
set_option maxRecDepth 100000 in
theorem c56 (g : Gh) (b : RBoard) (Ab_defs : Option Addr) (cb_defs : Nat) (Ab_onset : Option Addr) (cb_onset : Nat) (Ab_acked : Option Addr) (cb_acked : Nat) (fb_defs : Arr g.b tyAlertDef Ab_defs cb_defs b.defs) (fb_onset : Arr g.b (tyI .i64) Ab_onset cb_onset b.onset) (fb_acked : Arr g.b tyB Ab_acked cb_acked b.acked) {r : RBoard} (hS : o56 b = some r) :
  Ctr Try.prog 56 [Value.agg #[vs Ab_defs b.defs cb_defs, vi b.steps, vy b.phase, vs Ab_onset b.onset cb_onset, vs Ab_acked b.acked cb_acked]] g [] (fun v ψ o => ∃ (Ar_0_defs : Option Addr) (cr_0_defs : Nat) (Ar_0_onset : Option Addr) (cr_0_onset : Nat) (kr_0_onset : Option Bk) (Ar_0_acked : Option Addr) (cr_0_acked : Nat) (kr_0_acked : Option Bk), v = Value.agg #[vs Ar_0_defs r.defs cr_0_defs, vi r.steps, vy r.phase, vs Ar_0_onset r.onset cr_0_onset, vs Ar_0_acked r.acked cr_0_acked] ∧ o = [kr_0_onset, kr_0_acked] ∧ Arr ψ tyAlertDef Ar_0_defs cr_0_defs r.defs ∧ Buf ψ (tyI .i64) 2 (.slice Ar_0_onset (r.onset).length cr_0_onset) kr_0_onset r.onset ∧ Buf ψ tyB 4 (.slice Ar_0_acked (r.acked).length cr_0_acked) kr_0_acked r.acked) := by
 unfold o56 at hS
 refine xFn Try.f56 (Try.f56.body.getD .skip) 14 ?_
 have nfb_defs := fb_defs.len
 have nfb_onset := fb_onset.len
 have nfb_acked := fb_acked.len
 refine xSq ?_
 refine xRg ?_
 refine xE eB ?_
 rintro _ _ _ - ⟨b1, rfl, rfl, rfl⟩
 refine xE eB ?_
 rintro _ _ _ - ⟨b2, rfl, rfl, rfl⟩
 refine xRe ?_
 refine wpq_then ?_
 refine xSub [(1, vp b1 0), (2, vp b2 0)] ?_
 refine xSq ?_
 refine xRg ?_
 refine xE (eBs (T := (tyI .i64)) (p := g.b) (et := 2) (xs := ([] : List Int)) reps_nil (by simp)) ?_
 rintro _ _ _ - ⟨A3, c3, k3, rfl, rfl, rfl, h3⟩
 refine xB 2 [(2, 2)] [(1, vp b1 0), (2, vp b2 0), (3, vs A3 ([] : List Int) c3), (5, vs Ab_onset b.onset cb_onset)] ?_
 obtain ⟨nw4, hp4, hs4⟩ := fb_onset.srcB
 obtain ⟨q5, hS⟩ := grd_T hS
 have q5p := of_decide_eq_true q5
 refine xE (eApp (T := (tyI .i64)) (p := g.b) (et := 2) (bytes := 8) (xs := ([] : List Int)) (ys := (b.onset : List Int)) 0 h3 rfl (fun w hs => hs4 w _ hs) hp4 (by first | omega | (simp only [List.length_cons, List.length_nil] at *; omega)) (by first | omega | (simp only [List.length_cons, List.length_nil] at *; omega))) ?_
 rintro _ _ _ - ⟨A4, c4, k4, rfl, rfl, rfl, h4⟩
 have h4 : Buf g.b (tyI .i64) 2 (.slice A4 ((b.onset : List Int)).length c4) k4 (b.onset : List Int) := h4
 have nh4 := h4.len
 refine xBo 2 [(5, 2)] [k4, some ⟨b2, 57, (cRBoard (⟨([] : List AlertDef), 0, 0, ([] : List Int), ([] : List Bool)⟩ : RBoard) none 0 none 0 none 0)⟩, some ⟨b1, 57, (cRBoard b Ab_defs cb_defs A4 c4 Ab_acked cb_acked)⟩] [(1, vp b1 0), (2, vp b2 0)] ?_
 refine xRe ?_
 refine wpq_then ?_
 refine xSq ?_
 refine xRg ?_
 refine xE (eBs (T := tyB) (p := g.b) (et := 4) (xs := ([] : List Bool)) reps_nil (by simp)) ?_
 rintro _ _ _ - ⟨A6, c6, k6, rfl, rfl, rfl, h6⟩
 refine xB 2 [(2, 3)] [(1, vp b1 0), (2, vp b2 0), (8, vs A6 ([] : List Bool) c6), (10, vs Ab_acked b.acked cb_acked)] ?_
 obtain ⟨nw7, hp7, hs7⟩ := fb_acked.srcB
 refine xE (eApp (T := tyB) (p := g.b) (et := 4) (bytes := 1) (xs := ([] : List Bool)) (ys := (b.acked : List Bool)) 0 h6 rfl (fun w hs => hs7 w _ hs) hp7 (by first | omega | (simp only [List.length_cons, List.length_nil] at *; omega)) (by first | omega | (simp only [List.length_cons, List.length_nil] at *; omega))) ?_
 rintro _ _ _ - ⟨A7, c7, k7, rfl, rfl, rfl, h7⟩
 have h7 : Buf g.b tyB 4 (.slice A7 ((b.acked : List Bool)).length c7) k7 (b.acked : List Bool) := h7
 have nh7 := h7.len
 refine xBo 2 [(5, 3)] [k7, k4, some ⟨b2, 57, (cRBoard (⟨([] : List AlertDef), 0, 0, ([] : List Int), ([] : List Bool)⟩ : RBoard) none 0 none 0 none 0)⟩, some ⟨b1, 57, (cRBoard b Ab_defs cb_defs A4 c4 A7 c7)⟩] [(1, vp b1 0), (2, vp b2 0)] ?_
 refine xRe ?_
 refine wpq_then ?_
 refine xSq ?_
 refine xRg ?_
 refine xBo 2 [(0, 3), (1, 2)] [k7, k4, some ⟨b2, 57, (cRBoard b Ab_defs cb_defs A4 c4 A7 c7)⟩, some ⟨b1, 57, (cRBoard b Ab_defs cb_defs A4 c4 A7 c7)⟩] [(2, vp b2 0)] ?_
 refine xRe ?_
 refine wpq_then ?_
 have eS := (Option.some.inj hS).symm
 subst eS
 exact xRetC [some 1, some 0] [(2, 2)] (Gh.le.refl _) ⟨Ab_defs, cb_defs, A4, c4, k4, A7, c7, k7, by kernel_rfl, by kernel_rfl, fb_defs, h4, h7⟩ (fun _ _ h => h)

def o29_L0 (conds : Int) (y8 : RBoard) (s22 : Nat × (List Int) × (List Bool)) : Option (Ctl (Nat × (List Int) × (List Bool)) ((List Int) × (List Bool))) :=
 (cond (decide (((s22.1 : Nat) : Int) < (((y8.defs).length : Nat) : Int))) (bindO (τ := (List Int) × (List Bool)) (cond (((landK .u16 (shrK .u16 conds ((s22.1 : Nat) : Int)) 1) == 0)) (grd (decide (s22.1 < (s22.2.1).length)) (grd (decide (s22.1 < (s22.2.2).length)) (some ((((List.set s22.2.1 s22.1 (0 : Int)) : List Int), ((List.set s22.2.2 s22.1 false) : List Bool)))))) (grd (decide (s22.1 < (s22.2.1).length)) (bindO (τ := (List Int) × (List Bool)) (cond (((List.getD s22.2.1 s22.1 0) == 0)) (grd (decide (s22.1 < (s22.2.1).length)) (grd (decide (s22.1 < (s22.2.2).length)) (some ((((List.set s22.2.1 s22.1 ((IntKind.i64.wrap (y8.steps + 1)) : Int)) : List Int), ((List.set s22.2.2 s22.1 false) : List Bool)))))) (some (((s22.2.1 : List Int), (s22.2.2 : List Bool))))) fun t39 => (some (((t39.1 : List Int), (t39.2 : List Bool))))))) fun t26 => (grd (decide (((s22.1 : Nat) : Int) + 1 ≤ 9223372036854775807)) (some (Ctl.go ((s22.1 + 1), (t26.1 : List Int), (t26.2 : List Bool)))))) (some (Ctl.done (((s22.2.1 : List Int), (s22.2.2 : List Bool))))))
def o29_L1 (b : RBoard) (conds : Int) (s51 : Nat) : Option (Ctl (Nat) (Ctl (Unit) (RBoard × Int))) :=
 (cond (decide (((s51 : Nat) : Int) < 16)) (cond ((decide (((s51 : Nat) : Int) ≥ (((b.defs).length : Nat) : Int)) && ((landK .u16 (shrK .u16 conds ((s51 : Nat) : Int)) 1) == 1))) (some (Ctl.done (Ctl.done ((b, (1 : Int)))))) (grd (decide (((s51 : Nat) : Int) + 1 ≤ 9223372036854775807)) (some (Ctl.go (s51 + 1))))) (some (Ctl.done (Ctl.go ()))))
def o29 (b : RBoard) (conds : Int) (phase : Int) : Option (RBoard × Int) :=
 (joinO (τ := Unit) (ρ := RBoard × Int) (loopO (σ := Nat) (ρ := Ctl (Unit) (RBoard × Int)) fuelN (o29_L1 b conds) (0)) fun t3 => (cond ((decide (phase < 1) || decide (phase > 8))) (some ((b, (2 : Int)))) (bindO (τ := RBoard) (o56 b) fun y8 => (bindO (τ := (List Int) × (List Bool)) (loopO (σ := Nat × (List Int) × (List Bool)) (ρ := (List Int) × (List Bool)) fuelN (o29_L0 conds y8) (0, (y8.onset : List Int), (y8.acked : List Bool))) fun t11 => (some (((⟨y8.defs, (IntKind.i64.wrap (y8.steps + 1)), phase, t11.1, t11.2⟩ : RBoard), (0 : Int))))))))
set_option maxRecDepth 100000 in
theorem c29 (g : Gh) (b : RBoard) (Ab_defs : Option Addr) (cb_defs : Nat) (Ab_onset : Option Addr) (cb_onset : Nat) (Ab_acked : Option Addr) (cb_acked : Nat) (conds : Int) (phase : Int) (fb_defs : Arr g.b tyAlertDef Ab_defs cb_defs b.defs) (fb_onset : Arr g.b (tyI .i64) Ab_onset cb_onset b.onset) (fb_acked : Arr g.b tyB Ab_acked cb_acked b.acked) {r : RBoard × Int} (hS : o29 b conds phase = some r) :
  Ctr Try.prog 29 [Value.agg #[vs Ab_defs b.defs cb_defs, vi b.steps, vy b.phase, vs Ab_onset b.onset cb_onset, vs Ab_acked b.acked cb_acked], Value.int .u16 conds, vy phase] g [] (fun v ψ o => ∃ (Ar_0_defs : Option Addr) (cr_0_defs : Nat) (Ar_0_onset : Option Addr) (cr_0_onset : Nat) (Ar_0_acked : Option Addr) (cr_0_acked : Nat), v = Value.tuple #[Value.agg #[vs Ar_0_defs r.1.defs cr_0_defs, vi r.1.steps, vy r.1.phase, vs Ar_0_onset r.1.onset cr_0_onset, vs Ar_0_acked r.1.acked cr_0_acked], vi r.2] ∧ o = [] ∧ Arr ψ tyAlertDef Ar_0_defs cr_0_defs r.1.defs ∧ Arr ψ (tyI .i64) Ar_0_onset cr_0_onset r.1.onset ∧ Arr ψ tyB Ar_0_acked cr_0_acked r.1.acked) := by
 unfold o29 at hS
 refine xFn Try.f29 (Try.f29.body.getD .skip) 79 ?_
 have nfb_defs := fb_defs.len
 have nfb_onset := fb_onset.len
 have nfb_acked := fb_acked.len
 refine xSq ?_
 refine xRg ?_
 refine xE eB ?_
 rintro _ _ _ - ⟨b1, rfl, rfl, rfl⟩
 refine xE eB ?_
 rintro _ _ _ - ⟨b2, rfl, rfl, rfl⟩
 refine xB 1 [] [(1, Value.int .u16 conds), (2, vy phase), (3, vp b1 0), (6, vp b2 0)] ?_
 refine xRe ?_
 refine wpq_then ?_
 refine xSq ?_
 refine xSq ?_
 refine xRg ?_
 refine xB 1 [] [(1, Value.int .u16 conds), (2, vy phase), (3, vp b1 0), (6, vp b2 0), (8, vi 0)] ?_
 refine xRe ?_
 refine wpq_then ?_
 refine xJoinO hS (fun g own sl t3 => own = [some ⟨b2, 57, (cRBoard (⟨([] : List AlertDef), 0, 0, ([] : List Int), ([] : List Bool)⟩ : RBoard) none 0 none 0 none 0)⟩, some ⟨b1, 57, (cRBoard b Ab_defs cb_defs Ab_onset cb_onset Ab_acked cb_acked)⟩] ∧ sl = [(1, Value.int .u16 conds), (2, vy phase), (3, vp b1 0), (6, vp b2 0)]) ?_ ?_
 ·rintro g4 _ _ t3 e5 ⟨rfl, rfl⟩ hS
  refine wpq_then ?_
  refine xSq ?_
  refine xSq ?_
  refine xRg ?_
  refine xB 3 [] [(1, Value.int .u16 conds), (2, vy phase), (3, vp b1 0), (6, vp b2 0), (29, vb (decide (phase < 1)))] ?_
  refine wpr_grp 6 [(1, Value.int .u16 conds), (2, vy phase), (3, vp b1 0), (6, vp b2 0), (32, vb (decide (phase < 1) || decide (phase > 8)))] (fun hk2 => ?_) ?_
  ·refine wpq_split 29 (b := decide (phase < 1)) (by kernel_rfl) (fun q6 => ?_) (fun q6 => ?_)
   ·have q6p := of_decide_eq_true q6
    refine xB 3 [] [(1, Value.int .u16 conds), (2, vy phase), (3, vp b1 0), (6, vp b2 0), (32, vb true)] ?_
    refine wpq_re 32 (v := vb true) (Value.bool ((decide (phase < 1) || decide (phase > 8)))) (by kernel_rfl) (re_or1 q6) ?_
    exact wpq_sub _ (by kernel_rfl) hk2
   ·have q6p := of_decide_eq_false q6
    refine xB 3 [] [(1, Value.int .u16 conds), (2, vy phase), (3, vp b1 0), (6, vp b2 0), (32, vb (decide (phase > 8)))] ?_
    refine wpq_re 32 (v := vb (decide (phase > 8))) (Value.bool ((decide (phase < 1) || decide (phase > 8)))) (by kernel_rfl) (re_or0 q6) ?_
    exact wpq_sub _ (by kernel_rfl) hk2
  ·refine xRe ?_
   refine wpq_then ?_
   refine xCd ((decide (phase < 1) || decide (phase > 8))) (fun h7 => ?_) (fun h7 => ?_)
   ·have hS := cond_T h7 hS
    refine xSq ?_
    refine xRg ?_
    refine xBo 3 [(0, 1), (1, 0)] [some ⟨b2, 57, (cRBoard b Ab_defs cb_defs Ab_onset cb_onset Ab_acked cb_acked)⟩, some ⟨b1, 57, (cRBoard b Ab_defs cb_defs Ab_onset cb_onset Ab_acked cb_acked)⟩] [(6, vp b2 0), (7, vi 2)] ?_
    refine xRe ?_
    refine wpq_then ?_
    have fb_defs := fb_defs.mono e5.b
    have fb_onset := fb_onset.mono e5.b
    have fb_acked := fb_acked.mono e5.b
    have eS := (Option.some.inj hS).symm
    subst eS
    exact xRetC [] [(6, 0)] e5 ⟨Ab_defs, cb_defs, Ab_onset, cb_onset, Ab_acked, cb_acked, by kernel_rfl, by kernel_rfl, fb_defs, fb_onset, fb_acked⟩ (fun _ _ h => h)
   ·have hS := cond_F h7 hS
    have h7l := (or_false_ h7).1
    have h7r := (or_false_ h7).2
    have h7lp := of_decide_eq_false h7l
    have h7rp := of_decide_eq_false h7r
    refine xSk ?_
    refine wpq_then ?_
    refine xSub [(1, Value.int .u16 conds), (2, vy phase), (3, vp b1 0), (6, vp b2 0)] ?_
    refine xSq ?_
    refine xRg ?_
    refine xB 1 [(0, 1)] [(1, Value.int .u16 conds), (2, vy phase), (3, vp b1 0), (6, vp b2 0), (34, Value.agg #[vs Ab_defs b.defs cb_defs, vi b.steps, vy b.phase, vs Ab_onset b.onset cb_onset, vs Ab_acked b.acked cb_acked])] ?_
    have fb_defs := fb_defs.mono e5.b
    have fb_onset := fb_onset.mono e5.b
    have fb_acked := fb_acked.mono e5.b
    obtain ⟨y8, hy8, hS⟩ := bindO_T hS
    refine xE (eC 0 (fun g' lr eb ln => c56 g' b Ab_defs cb_defs Ab_onset cb_onset Ab_acked cb_acked (by rw [eb]; exact fb_defs) (by rw [eb]; exact fb_onset) (by rw [eb]; exact fb_acked) hy8)) ?_
    rintro _ g9 _ e10 ⟨_, rfl, A8_0_defs, c8_0_defs, A8_0_onset, c8_0_onset, k8_0_onset, A8_0_acked, c8_0_acked, k8_0_acked, rfl, rfl, f8_0_defs, h8_0_onset, h8_0_acked⟩
    have nf8_0_defs := f8_0_defs.len
    have nh8_0_onset := h8_0_onset.len
    have nh8_0_acked := h8_0_acked.len
    refine xBo 1 [(2, 3)] [k8_0_onset, k8_0_acked, some ⟨b2, 57, (cRBoard (⟨([] : List AlertDef), 0, 0, ([] : List Int), ([] : List Bool)⟩ : RBoard) none 0 none 0 none 0)⟩, some ⟨b1, 57, (cRBoard y8 A8_0_defs c8_0_defs A8_0_onset c8_0_onset A8_0_acked c8_0_acked)⟩] [(1, Value.int .u16 conds), (2, vy phase), (3, vp b1 0), (6, vp b2 0)] ?_
    refine xRe ?_
    refine wpq_then ?_
    refine xSq ?_
    refine xRg ?_
    have z1 := i64_in_ (y8.steps + 1)
    refine xBo 5 [(1, 3), (4, 3)] [k8_0_onset, k8_0_acked, some ⟨b2, 57, (cRBoard (⟨([] : List AlertDef), 0, 0, ([] : List Int), ([] : List Bool)⟩ : RBoard) none 0 none 0 none 0)⟩, some ⟨b1, 57, (cRBoard ({ y8 with steps := (IntKind.i64.wrap (y8.steps + 1)) }) A8_0_defs c8_0_defs A8_0_onset c8_0_onset A8_0_acked c8_0_acked)⟩] [(1, Value.int .u16 conds), (2, vy phase), (3, vp b1 0), (6, vp b2 0)] ?_
    refine xRe ?_
    refine wpq_then ?_
    refine xSq ?_
    refine xRg ?_
    refine xBo 3 [(2, 3)] [k8_0_onset, k8_0_acked, some ⟨b2, 57, (cRBoard (⟨([] : List AlertDef), 0, 0, ([] : List Int), ([] : List Bool)⟩ : RBoard) none 0 none 0 none 0)⟩, some ⟨b1, 57, (cRBoard ({ y8 with steps := (IntKind.i64.wrap (y8.steps + 1)), phase := phase }) A8_0_defs c8_0_defs A8_0_onset c8_0_onset A8_0_acked c8_0_acked)⟩] [(1, Value.int .u16 conds), (3, vp b1 0), (6, vp b2 0)] ?_
    refine xRe ?_
    refine wpq_then ?_
    refine xSq ?_
    refine xSq ?_
    refine xRg ?_
    refine xB 4 [(1, 3)] [(1, Value.int .u16 conds), (3, vp b1 0), (6, vp b2 0), (44, vi (((y8.defs).length : Nat) : Int)), (45, vi 0)] ?_
    refine xRe ?_
    refine wpq_then ?_
    refine xBindO hS (fun g own sl t11 => ∃ (k11_0 : Option Bk) (k11_1 : Option Bk), own = [some ⟨b2, 57, (cRBoard (⟨([] : List AlertDef), 0, 0, ([] : List Int), ([] : List Bool)⟩ : RBoard) none 0 none 0 none 0)⟩, some ⟨b1, 57, (cRBoard (⟨y8.defs, (IntKind.i64.wrap (y8.steps + 1)), phase, t11.1, t11.2⟩ : RBoard) A8_0_defs c8_0_defs A8_0_onset c8_0_onset A8_0_acked c8_0_acked)⟩, k11_0, k11_1] ∧ sl = [(3, vp b1 0), (6, vp b2 0)] ∧ Buf g.b (tyI .i64) 2 (.slice A8_0_onset (t11.1).length c8_0_onset) k11_0 t11.1 ∧ Buf g.b tyB 4 (.slice A8_0_acked (t11.2).length c8_0_acked) k11_1 t11.2) ?_ ?_
    ·rintro g12 _ _ t11 e13 ⟨k11_0, k11_1, rfl, rfl, h11_0, h11_1⟩ hS
     have nh11_0 := h11_0.len
     have nh11_1 := h11_1.len
     refine wpq_then ?_
     refine xSq ?_
     refine xRg ?_
     refine xBo 3 [(0, 1), (1, 0)] [some ⟨b2, 57, (cRBoard (⟨y8.defs, (IntKind.i64.wrap (y8.steps + 1)), phase, t11.1, t11.2⟩ : RBoard) A8_0_defs c8_0_defs A8_0_onset c8_0_onset A8_0_acked c8_0_acked)⟩, some ⟨b1, 57, (cRBoard (⟨y8.defs, (IntKind.i64.wrap (y8.steps + 1)), phase, t11.1, t11.2⟩ : RBoard) A8_0_defs c8_0_defs A8_0_onset c8_0_onset A8_0_acked c8_0_acked)⟩, k11_0, k11_1] [(6, vp b2 0), (7, vi 0)] ?_
     refine xRe ?_
     refine wpq_then ?_
     refine wpq_freeze 2 (by kernel_rfl) h11_0 (fun g14 e15 f16 => ?_)
     have h11_1 := h11_1.mono e15.b
     refine wpq_freeze 3 (by kernel_rfl) h11_1 (fun g17 e18 f19 => ?_)
     have f8_0_defs := f8_0_defs.mono (e13.trans (e15.trans e18)).b
     have f16 := f16.mono e18.b
     have eS := (Option.some.inj hS).symm
     subst eS
     exact xRetC [] [(6, 0)] (e5.trans (e10.trans (e13.trans (e15.trans e18)))) ⟨A8_0_defs, c8_0_defs, A8_0_onset, c8_0_onset, A8_0_acked, c8_0_acked, by kernel_rfl, by kernel_rfl, f8_0_defs, f16, f19⟩ (fun _ _ h => h)
    ·intro uu11 hS hN11
     refine xBl 2 ?_
     refine xSel [some 2, some 3, some 0, some 1] ?_
     refine xSub [(1, Value.int .u16 conds), (3, vp b1 0), (6, vp b2 0), (44, vi (((y8.defs).length : Nat) : Int)), (45, vi 0)] ?_
     refine xLo hS (fun g own sl s22 => ∃ (k22_1 : Option Bk) (k22_2 : Option Bk), own = [some ⟨b2, 57, (cRBoard (⟨([] : List AlertDef), 0, 0, ([] : List Int), ([] : List Bool)⟩ : RBoard) none 0 none 0 none 0)⟩, some ⟨b1, 57, (cRBoard (⟨y8.defs, (IntKind.i64.wrap (y8.steps + 1)), phase, s22.2.1, s22.2.2⟩ : RBoard) A8_0_defs c8_0_defs A8_0_onset c8_0_onset A8_0_acked c8_0_acked)⟩, k22_1, k22_2] ∧ sl = [(1, Value.int .u16 conds), (3, vp b1 0), (6, vp b2 0), (44, vi (((y8.defs).length : Nat) : Int)), (45, vi ((s22.1 : Nat) : Int))] ∧ Buf g.b (tyI .i64) 2 (.slice A8_0_onset (s22.2.1).length c8_0_onset) k22_1 s22.2.1 ∧ Buf g.b tyB 4 (.slice A8_0_acked (s22.2.2).length c8_0_acked) k22_2 s22.2.2) ⟨k8_0_onset, k8_0_acked, by kernel_rfl, by kernel_rfl, h8_0_onset, h8_0_acked⟩ ?_
     rintro g23 _ _ s22 uu22 e24 ⟨k22_1, k22_2, rfl, rfl, h22_1, h22_2⟩ hS Qr22 hN22 hD22
     have nh22_1 := h22_1.len
     have nh22_2 := h22_2.len
     unfold o29_L0 at hS
     refine xSq ?_
     refine xRg ?_
     refine xB 1 [] [(1, Value.int .u16 conds), (3, vp b1 0), (6, vp b2 0), (44, vi (((y8.defs).length : Nat) : Int)), (45, vi ((s22.1 : Nat) : Int)), (46, vb (decide (((s22.1 : Nat) : Int) < (((y8.defs).length : Nat) : Int))))] ?_
     refine xRe ?_
     refine wpq_then ?_
     refine xSq ?_
     refine xCd (decide (((s22.1 : Nat) : Int) < (((y8.defs).length : Nat) : Int))) (fun h25 => ?_) (fun h25 => ?_)
     ·have hS := cond_T h25 hS
      have h25p := of_decide_eq_true h25
      refine xSk ?_
      refine wpq_then ?_
      refine xSub [(1, Value.int .u16 conds), (3, vp b1 0), (6, vp b2 0), (44, vi (((y8.defs).length : Nat) : Int)), (45, vi ((s22.1 : Nat) : Int))] ?_
      refine xSq ?_
      refine xBl 3 ?_
      refine xSq ?_
      refine xRg ?_
      refine xB 2 [] [(1, Value.int .u16 conds), (3, vp b1 0), (6, vp b2 0), (9, vi ((s22.1 : Nat) : Int)), (44, vi (((y8.defs).length : Nat) : Int)), (45, vi ((s22.1 : Nat) : Int))] ?_
      refine xRe ?_
      refine wpq_then ?_
      refine xSq ?_
      refine xRg ?_
      refine xB 2 [] [(1, Value.int .u16 conds), (3, vp b1 0), (6, vp b2 0), (9, vi ((s22.1 : Nat) : Int)), (44, vi (((y8.defs).length : Nat) : Int)), (45, vi ((s22.1 : Nat) : Int)), (48, Value.int .u16 conds), (49, vi ((s22.1 : Nat) : Int))] ?_
      refine xV (qShr .u16 .i64 (conds) (((s22.1 : Nat) : Int)) (by omega)) ?_
      refine xB 2 [] [(1, Value.int .u16 conds), (3, vp b1 0), (6, vp b2 0), (9, vi ((s22.1 : Nat) : Int)), (44, vi (((y8.defs).length : Nat) : Int)), (45, vi ((s22.1 : Nat) : Int)), (52, vb ((landK .u16 (shrK .u16 conds ((s22.1 : Nat) : Int)) 1) == 0))] ?_
      refine xRe ?_
      refine wpq_then ?_
      refine xBindO hS (fun g own sl t26 => ∃ (k26_0 : Option Bk) (k26_1 : Option Bk), own = [some ⟨b2, 57, (cRBoard (⟨([] : List AlertDef), 0, 0, ([] : List Int), ([] : List Bool)⟩ : RBoard) none 0 none 0 none 0)⟩, some ⟨b1, 57, (cRBoard (⟨y8.defs, (IntKind.i64.wrap (y8.steps + 1)), phase, t26.1, t26.2⟩ : RBoard) A8_0_defs c8_0_defs A8_0_onset c8_0_onset A8_0_acked c8_0_acked)⟩, k26_0, k26_1] ∧ sl = [(1, Value.int .u16 conds), (3, vp b1 0), (6, vp b2 0), (44, vi (((y8.defs).length : Nat) : Int)), (45, vi ((s22.1 : Nat) : Int))] ∧ Buf g.b (tyI .i64) 2 (.slice A8_0_onset (t26.1).length c8_0_onset) k26_0 t26.1 ∧ Buf g.b tyB 4 (.slice A8_0_acked (t26.2).length c8_0_acked) k26_1 t26.2) ?_ ?_
      ·rintro g27 _ _ t26 e28 ⟨k26_0, k26_1, rfl, rfl, h26_0, h26_1⟩ hS
       have nh26_0 := h26_0.len
       have nh26_1 := h26_1.len
       refine wpq_blockN ?_
       refine wpq_then ?_
       refine xRg ?_
       obtain ⟨q29, hS⟩ := grd_T hS
       have q29p := of_decide_eq_true q29
       refine xV (qAdd .i64 (((s22.1 : Nat) : Int)) (1) (wr64 (by omega))) ?_
       refine xB 1 [] [(1, Value.int .u16 conds), (3, vp b1 0), (6, vp b2 0), (44, vi (((y8.defs).length : Nat) : Int)), (45, vi (((s22.1 : Nat) : Int) + 1))] ?_
       refine xRe ?_
       refine wpq_thenN ?_
       refine xSub [(1, Value.int .u16 conds), (3, vp b1 0), (6, vp b2 0), (44, vi (((y8.defs).length : Nat) : Int)), (45, vi (((s22.1 : Nat) : Int) + 1))] ?_
       have eS := (Option.some.inj hS).symm
       exact hN22 _ eS _ _ _ e28 ⟨k26_0, k26_1, by kernel_rfl, by kernel_rfl, h26_0, h26_1⟩
      ·intro uu26 hS hN26
       refine xCd (((landK .u16 (shrK .u16 conds ((s22.1 : Nat) : Int)) 1) == 0)) (fun h30 => ?_) (fun h30 => ?_)
       ·have hS := cond_T h30 hS
        have h30p : (landK .u16 (shrK .u16 conds ((s22.1 : Nat) : Int)) 1) = 0 := eq_of_beq h30
        refine xDr 0 [1, 4] [9, 8] [some ⟨b2, 57, (cRBoard (⟨([] : List AlertDef), 0, 0, ([] : List Int), ([] : List Bool)⟩ : RBoard) none 0 none 0 none 0)⟩, some ⟨b1, 57, (cRBoard (⟨y8.defs, (IntKind.i64.wrap (y8.steps + 1)), phase, s22.2.1, s22.2.2⟩ : RBoard) A8_0_defs c8_0_defs A8_0_onset c8_0_onset A8_0_acked c8_0_acked)⟩] 10 (fun RG => ?_) (fun _ _ _ _ _ h => h)
        obtain ⟨q32, hS⟩ := grd_T hS
        have q32p := of_decide_eq_true q32
        obtain ⟨kc31, cs31, hA31, hk31, hr31, hw31⟩ := h22_1.open_ q32p 0
        obtain ⟨kb31, rfl⟩ : ∃ z, z = kc31 := ⟨_, rfl⟩
        subst hk31
        have hr31 : cs31 = [vi (List.getD s22.2.1 s22.1 0)] := hr31
        subst hr31
        refine xT 4 [0, 1, 2, 3, 4, 5] [(1, 1), (4, 1)] [some 0, some 1] [(1, Value.int .u16 conds), (3, vp b1 0), (6, vp b2 0), (44, vi (((y8.defs).length : Nat) : Int)), (45, vi ((s22.1 : Nat) : Int)), (54, vs A8_0_onset s22.2.1 c8_0_onset), (55, vi ((s22.1 : Nat) : Int)), (57, vs A8_0_acked s22.2.2 c8_0_acked), (58, vi ((s22.1 : Nat) : Int))] RG (Psi.le.refl _) ?_
        refine xTp 6 RG (fun _ => (qIxB s22.1 1 kb31.g hA31 rfl q32p)) ?_
        refine xO1 (lds := [1, 4]) 7 ?_
        refine xId (lds := [1, 4]) (Psi.le.refl _) (eStB s22.1 1 0 2 [vi 0] h22_1 rfl hw31 (show (tyI .i64).rep _ _ _ from rfl) q32p) ?_
        rintro _ _ _ - ⟨k33, rfl, rfl, h33⟩
        refine kk [some 0, some 1] ?_
        have hz33 : (s22.2.1).length = ((List.set s22.2.1 s22.1 (0 : Int))).length := by simp
        obtain ⟨q35, hS⟩ := grd_T hS
        have q35p := of_decide_eq_true q35
        obtain ⟨kc34, cs34, hA34, hk34, hr34, hw34⟩ := h22_2.open_ q35p false
        obtain ⟨kb34, rfl⟩ : ∃ z, z = kc34 := ⟨_, rfl⟩
        subst hk34
        have hr34 : cs34 = [vb (List.getD s22.2.2 s22.1 false)] := hr34
        subst hr34
        refine xTp 8 RG (fun _ => (qIxB s22.1 1 kb34.g hA34 rfl q35p)) ?_
        refine xO1 (lds := [1, 4]) 9 ?_
        refine xId (lds := [1, 4]) (Psi.le.refl _) (eStB s22.1 1 0 3 [vb false] h22_2 rfl hw34 (show tyB.rep _ _ _ from rfl) q35p) ?_
        rintro _ _ _ - ⟨k36, rfl, rfl, h36⟩
        refine kf ?_
        have hz36 : (s22.2.2).length = ((List.set s22.2.2 s22.1 false)).length := by simp
        refine xAe (lds := [1, 4]) ?_
        refine wpq_re 54 (v := Value.slice A8_0_onset ((s22.2.1).length) c8_0_onset) (vs A8_0_onset (List.set s22.2.1 s22.1 (0 : Int)) c8_0_onset) (by kernel_rfl) (congrArg (fun z => Value.slice A8_0_onset z c8_0_onset) hz33) ?_
        have h33 := Buf.re h33 hz33 (rfl : (List.set s22.2.1 s22.1 (0 : Int)) = _)
        refine wpq_re 57 (v := Value.slice A8_0_acked ((s22.2.2).length) c8_0_acked) (vs A8_0_acked (List.set s22.2.2 s22.1 false) c8_0_acked) (by kernel_rfl) (congrArg (fun z => Value.slice A8_0_acked z c8_0_acked) hz36) ?_
        have h36 := Buf.re h36 hz36 (rfl : (List.set s22.2.2 s22.1 false) = _)
        refine xOwn [some ⟨b2, 57, (cRBoard (⟨([] : List AlertDef), 0, 0, ([] : List Int), ([] : List Bool)⟩ : RBoard) none 0 none 0 none 0)⟩, some ⟨b1, 57, [vs A8_0_defs y8.defs c8_0_defs, vi (IntKind.i64.wrap (y8.steps + 1)), vy phase, Value.slice A8_0_onset ((s22.2.1).length) c8_0_onset, Value.slice A8_0_acked ((s22.2.2).length) c8_0_acked]⟩, k33, k36] ?_
        refine wpq_own [some ⟨b2, 57, (cRBoard (⟨([] : List AlertDef), 0, 0, ([] : List Int), ([] : List Bool)⟩ : RBoard) none 0 none 0 none 0)⟩, some ⟨b1, 57, (cRBoard (⟨y8.defs, (IntKind.i64.wrap (y8.steps + 1)), phase, (List.set s22.2.1 s22.1 (0 : Int)), (List.set s22.2.2 s22.1 false)⟩ : RBoard) A8_0_defs c8_0_defs A8_0_onset c8_0_onset A8_0_acked c8_0_acked)⟩, k33, k36] (by rw [hz33, hz36]) ?_
        refine xSub [(1, Value.int .u16 conds), (3, vp b1 0), (6, vp b2 0), (44, vi (((y8.defs).length : Nat) : Int)), (45, vi ((s22.1 : Nat) : Int))] ?_
        have eS := (Option.some.inj hS).symm
        exact hN26 _ eS _ _ _ (Gh.le.refl _) ⟨k33, k36, by kernel_rfl, by kernel_rfl, h33, h36⟩
       ·have hS := cond_F h30 hS
        have h30p : ¬ ((landK .u16 (shrK .u16 conds ((s22.1 : Nat) : Int)) 1) = 0) := ne_of_beq_false_ h30
        refine xSq ?_
        refine xRg ?_
        obtain ⟨q38, hS⟩ := grd_T hS
        have q38p := of_decide_eq_true q38
        obtain ⟨kc37, cs37, hA37, hk37, hr37, hw37⟩ := h22_1.open_ q38p 0
        obtain ⟨kb37, rfl⟩ : ∃ z, z = kc37 := ⟨_, rfl⟩
        subst hk37
        have hr37 : cs37 = [vi (List.getD s22.2.1 s22.1 0)] := hr37
        subst hr37
        refine xB 3 [(1, 1)] [(1, Value.int .u16 conds), (3, vp b1 0), (6, vp b2 0), (9, vi ((s22.1 : Nat) : Int)), (44, vi (((y8.defs).length : Nat) : Int)), (45, vi ((s22.1 : Nat) : Int)), (62, vs A8_0_onset s22.2.1 c8_0_onset), (63, vi ((s22.1 : Nat) : Int))] ?_
        refine xV (qIxB s22.1 1 kb37.g hA37 rfl q38p) ?_
        refine xV (qLdB s22.1 1 0 2 hw37) ?_
        refine xB 1 [] [(1, Value.int .u16 conds), (3, vp b1 0), (6, vp b2 0), (9, vi ((s22.1 : Nat) : Int)), (44, vi (((y8.defs).length : Nat) : Int)), (45, vi ((s22.1 : Nat) : Int)), (66, vb ((List.getD s22.2.1 s22.1 0) == 0))] ?_
        refine xRe ?_
        refine wpq_then ?_
        refine xBindO hS (fun g own sl t39 => ∃ (k39_0 : Option Bk) (k39_1 : Option Bk), own = [some ⟨b2, 57, (cRBoard (⟨([] : List AlertDef), 0, 0, ([] : List Int), ([] : List Bool)⟩ : RBoard) none 0 none 0 none 0)⟩, some ⟨b1, 57, (cRBoard (⟨y8.defs, (IntKind.i64.wrap (y8.steps + 1)), phase, t39.1, t39.2⟩ : RBoard) A8_0_defs c8_0_defs A8_0_onset c8_0_onset A8_0_acked c8_0_acked)⟩, k39_0, k39_1] ∧ sl = [(1, Value.int .u16 conds), (3, vp b1 0), (6, vp b2 0), (44, vi (((y8.defs).length : Nat) : Int)), (45, vi ((s22.1 : Nat) : Int))] ∧ Buf g.b (tyI .i64) 2 (.slice A8_0_onset (t39.1).length c8_0_onset) k39_0 t39.1 ∧ Buf g.b tyB 4 (.slice A8_0_acked (t39.2).length c8_0_acked) k39_1 t39.2) ?_ ?_
        ·rintro g40 _ _ t39 e41 ⟨k39_0, k39_1, rfl, rfl, h39_0, h39_1⟩ hS
         have nh39_0 := h39_0.len
         have nh39_1 := h39_1.len
         refine xSub [(1, Value.int .u16 conds), (3, vp b1 0), (6, vp b2 0), (44, vi (((y8.defs).length : Nat) : Int)), (45, vi ((s22.1 : Nat) : Int))] ?_
         have eS := (Option.some.inj hS).symm
         exact hN26 _ eS _ _ _ e41 ⟨k39_0, k39_1, by kernel_rfl, by kernel_rfl, h39_0, h39_1⟩
        ·intro uu39 hS hN39
         refine xCd (((List.getD s22.2.1 s22.1 0) == 0)) (fun h42 => ?_) (fun h42 => ?_)
         ·have hS := cond_T h42 hS
          have h42p : (List.getD s22.2.1 s22.1 0) = 0 := eq_of_beq h42
          refine xDr 0 [1, 4, 7] [11, 10] [some ⟨b2, 57, (cRBoard (⟨([] : List AlertDef), 0, 0, ([] : List Int), ([] : List Bool)⟩ : RBoard) none 0 none 0 none 0)⟩, some ⟨b1, 57, (cRBoard (⟨y8.defs, (IntKind.i64.wrap (y8.steps + 1)), phase, s22.2.1, s22.2.2⟩ : RBoard) A8_0_defs c8_0_defs A8_0_onset c8_0_onset A8_0_acked c8_0_acked)⟩] 12 (fun RG => ?_) (fun _ _ _ _ _ h => h)
          obtain ⟨q44, hS⟩ := grd_T hS
          have q44p := of_decide_eq_true q44
          obtain ⟨kc43, cs43, hA43, hk43, hr43, hw43⟩ := h22_1.open_ q44p 0
          cases hk43
          have hr43 : cs43 = [vi (List.getD s22.2.1 s22.1 0)] := hr43
          subst hr43
          refine xT 4 [0, 1, 2, 3, 4, 5, 6, 7] [(1, 1), (4, 1), (7, 1)] [some 0, some 1] [(1, Value.int .u16 conds), (3, vp b1 0), (6, vp b2 0), (44, vi (((y8.defs).length : Nat) : Int)), (45, vi ((s22.1 : Nat) : Int)), (68, vs A8_0_onset s22.2.1 c8_0_onset), (69, vi ((s22.1 : Nat) : Int)), (71, vs A8_0_acked s22.2.2 c8_0_acked), (72, vi ((s22.1 : Nat) : Int)), (74, vi (IntKind.i64.wrap (y8.steps + 1)))] RG (Psi.le.refl _) ?_
          refine xTp 8 RG (fun _ => (qIxB s22.1 1 kb37.g hA43 rfl q44p)) ?_
          refine xO1 (lds := [1, 4, 7]) 9 ?_
          refine xId (lds := [1, 4, 7]) (Psi.le.refl _) (eStB s22.1 1 0 2 [vi (IntKind.i64.wrap (y8.steps + 1))] h22_1 rfl hw43 (show (tyI .i64).rep _ _ _ from rfl) q44p) ?_
          rintro _ _ _ - ⟨k45, rfl, rfl, h45⟩
          refine kk [some 0, some 1] ?_
          have hz45 : (s22.2.1).length = ((List.set s22.2.1 s22.1 ((IntKind.i64.wrap (y8.steps + 1)) : Int))).length := by simp
          obtain ⟨q47, hS⟩ := grd_T hS
          have q47p := of_decide_eq_true q47
          obtain ⟨kc46, cs46, hA46, hk46, hr46, hw46⟩ := h22_2.open_ q47p false
          obtain ⟨kb46, rfl⟩ : ∃ z, z = kc46 := ⟨_, rfl⟩
          subst hk46
          have hr46 : cs46 = [vb (List.getD s22.2.2 s22.1 false)] := hr46
          subst hr46
          refine xTp 10 RG (fun _ => (qIxB s22.1 1 kb46.g hA46 rfl q47p)) ?_
          refine xO1 (lds := [1, 4, 7]) 11 ?_
          refine xId (lds := [1, 4, 7]) (Psi.le.refl _) (eStB s22.1 1 0 3 [vb false] h22_2 rfl hw46 (show tyB.rep _ _ _ from rfl) q47p) ?_
          rintro _ _ _ - ⟨k48, rfl, rfl, h48⟩
          refine kf ?_
          have hz48 : (s22.2.2).length = ((List.set s22.2.2 s22.1 false)).length := by simp
          refine xAe (lds := [1, 4, 7]) ?_
          refine wpq_re 68 (v := Value.slice A8_0_onset ((s22.2.1).length) c8_0_onset) (vs A8_0_onset (List.set s22.2.1 s22.1 ((IntKind.i64.wrap (y8.steps + 1)) : Int)) c8_0_onset) (by kernel_rfl) (congrArg (fun z => Value.slice A8_0_onset z c8_0_onset) hz45) ?_
          have h45 := Buf.re h45 hz45 (rfl : (List.set s22.2.1 s22.1 ((IntKind.i64.wrap (y8.steps + 1)) : Int)) = _)
          refine wpq_re 71 (v := Value.slice A8_0_acked ((s22.2.2).length) c8_0_acked) (vs A8_0_acked (List.set s22.2.2 s22.1 false) c8_0_acked) (by kernel_rfl) (congrArg (fun z => Value.slice A8_0_acked z c8_0_acked) hz48) ?_
          have h48 := Buf.re h48 hz48 (rfl : (List.set s22.2.2 s22.1 false) = _)
          refine xOwn [some ⟨b2, 57, (cRBoard (⟨([] : List AlertDef), 0, 0, ([] : List Int), ([] : List Bool)⟩ : RBoard) none 0 none 0 none 0)⟩, some ⟨b1, 57, [vs A8_0_defs y8.defs c8_0_defs, vi (IntKind.i64.wrap (y8.steps + 1)), vy phase, Value.slice A8_0_onset ((s22.2.1).length) c8_0_onset, Value.slice A8_0_acked ((s22.2.2).length) c8_0_acked]⟩, k45, k48] ?_
          refine wpq_own [some ⟨b2, 57, (cRBoard (⟨([] : List AlertDef), 0, 0, ([] : List Int), ([] : List Bool)⟩ : RBoard) none 0 none 0 none 0)⟩, some ⟨b1, 57, (cRBoard (⟨y8.defs, (IntKind.i64.wrap (y8.steps + 1)), phase, (List.set s22.2.1 s22.1 ((IntKind.i64.wrap (y8.steps + 1)) : Int)), (List.set s22.2.2 s22.1 false)⟩ : RBoard) A8_0_defs c8_0_defs A8_0_onset c8_0_onset A8_0_acked c8_0_acked)⟩, k45, k48] (by rw [hz45, hz48]) ?_
          refine xSub [(1, Value.int .u16 conds), (3, vp b1 0), (6, vp b2 0), (44, vi (((y8.defs).length : Nat) : Int)), (45, vi ((s22.1 : Nat) : Int))] ?_
          have eS := (Option.some.inj hS).symm
          exact hN39 _ eS _ _ _ (Gh.le.refl _) ⟨k45, k48, by kernel_rfl, by kernel_rfl, h45, h48⟩
         ·have hS := cond_F h42 hS
          have h42p : ¬ ((List.getD s22.2.1 s22.1 0) = 0) := ne_of_beq_false_ h42
          refine xSk ?_
          refine xSub [(1, Value.int .u16 conds), (3, vp b1 0), (6, vp b2 0), (44, vi (((y8.defs).length : Nat) : Int)), (45, vi ((s22.1 : Nat) : Int))] ?_
          have eS := (Option.some.inj hS).symm
          exact hN39 _ eS _ _ _ (Gh.le.refl _) ⟨(some kb37), k22_2, by kernel_rfl, by kernel_rfl, h22_1, h22_2⟩
     ·have hS := cond_F h25 hS
      have h25p := of_decide_eq_false h25
      refine xEx 2 ?_
      refine wpq_thenX ?_
      refine wpq_thenX ?_
      refine wpq_blockE ?_
      refine xSub [(3, vp b1 0), (6, vp b2 0)] ?_
      have eS := (Option.some.inj hS).symm
      have eS := (hD22 _ eS).symm
      exact hN11 _ eS _ _ _ e24 ⟨k22_1, k22_2, by kernel_rfl, by kernel_rfl, h22_1, h22_2⟩
 ·intro uu3 hS hN3 hD3
  refine xBl 0 ?_
  refine xSub [(1, Value.int .u16 conds), (2, vy phase), (3, vp b1 0), (6, vp b2 0), (8, vi 0)] ?_
  refine xLo hS (fun g own sl s51 => own = [some ⟨b2, 57, (cRBoard (⟨([] : List AlertDef), 0, 0, ([] : List Int), ([] : List Bool)⟩ : RBoard) none 0 none 0 none 0)⟩, some ⟨b1, 57, (cRBoard b Ab_defs cb_defs Ab_onset cb_onset Ab_acked cb_acked)⟩] ∧ sl = [(1, Value.int .u16 conds), (2, vy phase), (3, vp b1 0), (6, vp b2 0), (8, vi ((s51 : Nat) : Int))]) ⟨by kernel_rfl, by kernel_rfl⟩ ?_
  rintro g52 _ _ s51 uu51 e53 ⟨rfl, rfl⟩ hS Qr51 hN51 hD51
  unfold o29_L1 at hS
  refine xSq ?_
  refine xSq ?_
  refine xRg ?_
  refine xB 2 [] [(1, Value.int .u16 conds), (2, vy phase), (3, vp b1 0), (6, vp b2 0), (8, vi ((s51 : Nat) : Int)), (11, vb (decide (((s51 : Nat) : Int) < 16)))] ?_
  refine xRe ?_
  refine wpq_then ?_
  refine xCd (decide (((s51 : Nat) : Int) < 16)) (fun h54 => ?_) (fun h54 => ?_)
  ·have hS := cond_T h54 hS
   have h54p := of_decide_eq_true h54
   refine xSk ?_
   refine wpq_then ?_
   refine xSub [(1, Value.int .u16 conds), (2, vy phase), (3, vp b1 0), (6, vp b2 0), (8, vi ((s51 : Nat) : Int))] ?_
   refine xSq ?_
   refine xBl 1 ?_
   refine xSq ?_
   refine xRg ?_
   refine xB 6 [(2, 1)] [(1, Value.int .u16 conds), (2, vy phase), (3, vp b1 0), (6, vp b2 0), (8, vi ((s51 : Nat) : Int)), (19, vb (decide (((s51 : Nat) : Int) ≥ (((b.defs).length : Nat) : Int))))] ?_
   refine wpr_grp 12 [(1, Value.int .u16 conds), (2, vy phase), (3, vp b1 0), (6, vp b2 0), (8, vi ((s51 : Nat) : Int)), (25, vb (decide (((s51 : Nat) : Int) ≥ (((b.defs).length : Nat) : Int)) && ((landK .u16 (shrK .u16 conds ((s51 : Nat) : Int)) 1) == 1)))] (fun hk5 => ?_) ?_
   ·refine wpq_split 19 (b := decide (((s51 : Nat) : Int) ≥ (((b.defs).length : Nat) : Int))) (by kernel_rfl) (fun q55 => ?_) (fun q55 => ?_)
    ·have q55p := of_decide_eq_true q55
     refine xB 2 [] [(1, Value.int .u16 conds), (2, vy phase), (3, vp b1 0), (6, vp b2 0), (8, vi ((s51 : Nat) : Int)), (19, vb true), (20, Value.int .u16 conds), (21, vi ((s51 : Nat) : Int))] ?_
     refine xV (qShr .u16 .i64 (conds) (((s51 : Nat) : Int)) (by omega)) ?_
     refine xB 3 [] [(1, Value.int .u16 conds), (2, vy phase), (3, vp b1 0), (6, vp b2 0), (8, vi ((s51 : Nat) : Int)), (25, vb ((landK .u16 (shrK .u16 conds ((s51 : Nat) : Int)) 1) == 1))] ?_
     refine wpq_re 25 (v := vb ((landK .u16 (shrK .u16 conds ((s51 : Nat) : Int)) 1) == 1)) (Value.bool ((decide (((s51 : Nat) : Int) ≥ (((b.defs).length : Nat) : Int)) && ((landK .u16 (shrK .u16 conds ((s51 : Nat) : Int)) 1) == 1)))) (by kernel_rfl) (re_and1 q55) ?_
     exact wpq_sub _ (by kernel_rfl) hk5
    ·have q55p := of_decide_eq_false q55
     refine xB 6 [] [(1, Value.int .u16 conds), (2, vy phase), (3, vp b1 0), (6, vp b2 0), (8, vi ((s51 : Nat) : Int)), (25, vb false)] ?_
     refine wpq_re 25 (v := vb false) (Value.bool ((decide (((s51 : Nat) : Int) ≥ (((b.defs).length : Nat) : Int)) && ((landK .u16 (shrK .u16 conds ((s51 : Nat) : Int)) 1) == 1)))) (by kernel_rfl) (re_and0 q55) ?_
     exact wpq_sub _ (by kernel_rfl) hk5
   ·refine xRe ?_
    refine wpq_then ?_
    refine xCd ((decide (((s51 : Nat) : Int) ≥ (((b.defs).length : Nat) : Int)) && ((landK .u16 (shrK .u16 conds ((s51 : Nat) : Int)) 1) == 1))) (fun h56 => ?_) (fun h56 => ?_)
    ·have hS := cond_T h56 hS
     have h56l := (and_true_ h56).1
     have h56r := (and_true_ h56).2
     have h56lp := of_decide_eq_true h56l
     have h56rp : (landK .u16 (shrK .u16 conds ((s51 : Nat) : Int)) 1) = 1 := eq_of_beq h56r
     refine xSq ?_
     refine xRg ?_
     refine xBo 3 [(0, 1), (1, 0)] [some ⟨b2, 57, (cRBoard b Ab_defs cb_defs Ab_onset cb_onset Ab_acked cb_acked)⟩, some ⟨b1, 57, (cRBoard b Ab_defs cb_defs Ab_onset cb_onset Ab_acked cb_acked)⟩] [(6, vp b2 0), (7, vi 1)] ?_
     refine xRe ?_
     refine wpq_then ?_
     have fb_defs := fb_defs.mono e53.b
     have fb_onset := fb_onset.mono e53.b
     have fb_acked := fb_acked.mono e53.b
     have eS := (Option.some.inj hS).symm
     have eS := (hD51 _ eS).symm
     have eS := (hD3 _ eS).symm
     subst eS
     exact xRetC [] [(6, 0)] e53 ⟨Ab_defs, cb_defs, Ab_onset, cb_onset, Ab_acked, cb_acked, by kernel_rfl, by kernel_rfl, fb_defs, fb_onset, fb_acked⟩ (fun _ _ h => h)
    ·have hS := cond_F h56 hS
     refine xSk ?_
     refine wpq_blockN ?_
     refine wpq_then ?_
     refine xSub [(1, Value.int .u16 conds), (2, vy phase), (3, vp b1 0), (6, vp b2 0), (8, vi ((s51 : Nat) : Int))] ?_
     refine xRg ?_
     obtain ⟨q57, hS⟩ := grd_T hS
     have q57p := of_decide_eq_true q57
     refine xB 1 [] [(1, Value.int .u16 conds), (2, vy phase), (3, vp b1 0), (6, vp b2 0), (8, vi ((s51 : Nat) : Int)), (12, vi ((s51 : Nat) : Int))] ?_
     refine xV (qAdd .i64 (((s51 : Nat) : Int)) (1) (wr64 (by omega))) ?_
     refine xB 1 [] [(1, Value.int .u16 conds), (2, vy phase), (3, vp b1 0), (6, vp b2 0), (8, vi (((s51 : Nat) : Int) + 1))] ?_
     refine xRe ?_
     refine wpq_thenN ?_
     refine xSub [(1, Value.int .u16 conds), (2, vy phase), (3, vp b1 0), (6, vp b2 0), (8, vi (((s51 : Nat) : Int) + 1))] ?_
     have eS := (Option.some.inj hS).symm
     exact hN51 _ eS _ _ _ (Gh.le.refl _) ⟨by kernel_rfl, by kernel_rfl⟩
  ·have hS := cond_F h54 hS
   have h54p := of_decide_eq_false h54
   refine xEx 0 ?_
   refine wpq_thenX ?_
   refine wpq_thenX ?_
   refine wpq_blockE ?_
   refine xSub [(1, Value.int .u16 conds), (2, vy phase), (3, vp b1 0), (6, vp b2 0)] ?_
   have eS := (Option.some.inj hS).symm
   have eS := (hD51 _ eS).symm
   exact hN3 _ eS _ _ _ e53 ⟨by kernel_rfl, by kernel_rfl⟩

def o57 (b : RBoard) (i : Int) : Option (Bool) :=
 (grd (decide (0 ≤ i ∧ i < (((b.onset).length : Nat) : Int))) (bindO (τ := Bool) (cond (decide ((List.getD b.onset (i).toNat 0) > 0)) (grd (decide (0 ≤ i ∧ i < (((b.acked).length : Nat) : Int))) (some (!(List.getD b.acked (i).toNat false)))) (some (false))) fun t5 => (bindO (τ := Bool) (cond (t5) (grd (decide (0 ≤ i ∧ i < (((b.defs).length : Nat) : Int))) (grd (decide (0 ≤ b.phase)) (some ((landK .u16 (shrK .u16 (List.getD b.defs (i).toNat default).inhibit b.phase) 1) == 0)))) (some (false))) fun t8 => (some ((t8))))))
set_option maxRecDepth 100000 in
theorem c57 (g : Gh) (b : RBoard) (Ab_defs : Option Addr) (cb_defs : Nat) (Ab_onset : Option Addr) (cb_onset : Nat) (Ab_acked : Option Addr) (cb_acked : Nat) (i : Int) (fb_defs : Arr g.r tyAlertDef Ab_defs cb_defs b.defs) (fb_onset : Arr g.r (tyI .i64) Ab_onset cb_onset b.onset) (fb_acked : Arr g.r tyB Ab_acked cb_acked b.acked) {r : Bool} (hS : o57 b i = some r) :
  Ctr Try.prog 57 [Value.agg #[vs Ab_defs b.defs cb_defs, vi b.steps, vy b.phase, vs Ab_onset b.onset cb_onset, vs Ab_acked b.acked cb_acked], vi i] g [] (fun v ψ o => v = vb r ∧ o = []) := by
 unfold o57 at hS
 refine xFn Try.f57 (Try.f57.body.getD .skip) 32 ?_
 have nfb_defs := fb_defs.len
 have nfb_onset := fb_onset.len
 have nfb_acked := fb_acked.len
 refine xSq ?_
 refine xRg ?_
 refine xE eB ?_
 rintro _ _ _ - ⟨b1, rfl, rfl, rfl⟩
 refine xB 1 [] [(1, vi i), (2, vp b1 0)] ?_
 refine xRe ?_
 refine wpq_then ?_
 refine xSq ?_
 refine xDr 0 [1, 4, 8, 11, 16, 20, 22] [27] [some ⟨b1, 57, (cRBoard b Ab_defs cb_defs Ab_onset cb_onset Ab_acked cb_acked)⟩] 28 (fun RG => ?_) (fun _ _ _ _ _ h => h)
 obtain ⟨q3, hS⟩ := grd_T hS
 have q3p := of_decide_eq_true q3
 have i4 : (i).toNat < (b.onset).length := by omega
 obtain ⟨ad2, cs2, hA2, hr2, hc2⟩ := fb_onset.at_ (get_getD (d := 0) i4)
 have hr2 : cs2 = [vi (List.getD b.onset (i).toNat 0)] := hr2
 subst hr2
 refine xT 25 [0, 1, 2] [(1, 0)] [some 0] [(1, vi i), (2, vp b1 0), (6, vs Ab_onset b.onset cb_onset), (7, vi i)] RG (Psi.le.refl _) ?_
 refine xTp 3 RG (fun _ => (qIx (i).toNat 1 hA2 (show (i : Int) = _ from by omega) i4)) ?_
 refine xTv 4 [some 0] RG (Psi.le.refl _) (qLdP (Addr.add ad2 ((i).toNat * 1)) 0 hc2) ?_
 refine xT 21 [5, 6] [] [some 0] [(1, vi i), (2, vp b1 0), (11, vb (decide ((List.getD b.onset (i).toNat 0) > 0)))] RG (Psi.le.refl _) ?_
 refine xGJoA hS 14 [true, true, true, true, true, true, true, true, true, true, true, true, true, true, false, false, false, false, false, false, false, false, false, false, false, false, false, false] (fun g own sl t5 => own = [some ⟨b1, 57, (cRBoard b Ab_defs cb_defs Ab_onset cb_onset Ab_acked cb_acked)⟩] ∧ sl = [(1, vi i), (2, vp b1 0), (18, vb t5)]) ?_ ?_
 ·rintro g6 _ _ t5 e7 ⟨rfl, rfl⟩ hS
  refine xT 13 [14] [] [some 0] [(1, vi i), (2, vp b1 0), (19, vb t5)] RG e7.r ?_
  refine xGJoA hS 1 [true, true, true, true, true, true, true, true, true, true, true, true, true, true, true, true, true, true, true, true, true, true, true, true, true, true, true, false] (fun g own sl t8 => own = [some ⟨b1, 57, (cRBoard b Ab_defs cb_defs Ab_onset cb_onset Ab_acked cb_acked)⟩] ∧ sl = [(31, vb t8)]) ?_ ?_
  ·rintro g9 _ _ t8 e10 ⟨rfl, rfl⟩ hS
   refine xT 0 [27] [] [some 0] [(4, vb t8)] RG (e7.trans e10).r ?_
   refine xAe (lds := [1, 4, 8, 11, 16, 20, 22]) ?_
   refine wpq_then ?_
   have eS := (Option.some.inj hS).symm
   subst eS
   exact xRet [] [4] (e7.trans e10) ⟨by kernel_rfl, by kernel_rfl⟩ (fun _ _ h => h)
  ·intro uu8 hS hN8
   refine wpq_split 19 (b := t5) (by kernel_rfl) (fun q11 => ?_) (fun q11 => ?_)
   ·have hS := cond_T q11 hS
    obtain ⟨q13, hS⟩ := grd_T hS
    have q13p := of_decide_eq_true q13
    have i14 : (i).toNat < (b.defs).length := by omega
    obtain ⟨ad12, cs12, hA12, hr12, hc12⟩ := fb_defs.at_ (get_getD (d := default) i14)
    obtain ⟨rfl⟩ := hr12
    refine xT 10 [15, 16, 17] [(16, 0)] [some 0] [(2, vp b1 0), (19, vb true), (21, vs Ab_defs b.defs cb_defs), (22, vi i)] RG e7.r ?_
    refine xTp 18 RG (fun _ => (qIx (i).toNat 3 hA12 (show (i : Int) = _ from by omega) i14)) ?_
    refine xT 8 [19] [] [some 0] [(2, vp b1 0), (19, vb true), (24, Value.pointer (some (Addr.add (Addr.add ad12 ((i).toNat * 3)) 2)))] RG e7.r ?_
    refine xTv 20 [some 0] RG e7.r (qLdP (Addr.add ad12 ((i).toNat * 3)) 2 hc12) ?_
    obtain ⟨q15, hS⟩ := grd_T hS
    have q15p := of_decide_eq_true q15
    refine xT 5 [21, 22] [(22, 0)] [some 0] [(19, vb true), (25, Value.int .u16 ((List.getD b.defs (i).toNat default).inhibit)), (27, vy b.phase)] RG e7.r ?_
    refine xTp 23 RG (fun _ => (qShr .u16 .u8 ((List.getD b.defs (i).toNat default).inhibit) (b.phase) (by omega))) ?_
    refine xT 1 [24, 25, 26] [] [some 0] [(31, vb ((landK .u16 (shrK .u16 (List.getD b.defs (i).toNat default).inhibit b.phase) 1) == 0))] RG e7.r ?_
    refine xSub [(31, vb ((landK .u16 (shrK .u16 (List.getD b.defs (i).toNat default).inhibit b.phase) 1) == 0))] ?_
    exact hN8 _ (Option.some.inj hS).symm _ _ _ (Gh.le.refl _) ⟨by kernel_rfl, by kernel_rfl⟩
   ·have hS := cond_F q11 hS
    refine xT 1 [15, 16, 17, 18, 19, 20, 21, 22, 23, 24, 25, 26] [] [some 0] [(31, vb false)] RG e7.r ?_
    refine xSub [(31, vb false)] ?_
    exact hN8 _ (Option.some.inj hS).symm _ _ _ (Gh.le.refl _) ⟨by kernel_rfl, by kernel_rfl⟩
 ·intro uu5 hS hN5
  refine wpq_split 11 (b := decide ((List.getD b.onset (i).toNat 0) > 0)) (by kernel_rfl) (fun q16 => ?_) (fun q16 => ?_)
  ·have hS := cond_T q16 hS
   have q16p := of_decide_eq_true q16
   obtain ⟨q18, hS⟩ := grd_T hS
   have q18p := of_decide_eq_true q18
   have i19 : (i).toNat < (b.acked).length := by omega
   obtain ⟨ad17, cs17, hA17, hr17, hc17⟩ := fb_acked.at_ (get_getD (d := false) i19)
   have hr17 : cs17 = [vb (List.getD b.acked (i).toNat false)] := hr17
   subst hr17
   refine xT 18 [7, 8, 9] [(8, 0)] [some 0] [(1, vi i), (2, vp b1 0), (11, vb true), (13, vs Ab_acked b.acked cb_acked), (14, vi i)] RG (Psi.le.refl _) ?_
   refine xTp 10 RG (fun _ => (qIx (i).toNat 1 hA17 (show (i : Int) = _ from by omega) i19)) ?_
   refine xTv 11 [some 0] RG (Psi.le.refl _) (qLdP (Addr.add ad17 ((i).toNat * 1)) 0 hc17) ?_
   refine xT 14 [12, 13] [] [some 0] [(1, vi i), (2, vp b1 0), (18, vb (!(List.getD b.acked (i).toNat false)))] RG (Psi.le.refl _) ?_
   refine xSub [(1, vi i), (2, vp b1 0), (18, vb (!(List.getD b.acked (i).toNat false)))] ?_
   exact hN5 _ (Option.some.inj hS).symm _ _ _ (Gh.le.refl _) ⟨by kernel_rfl, by kernel_rfl⟩
  ·have hS := cond_F q16 hS
   have q16p := of_decide_eq_false q16
   refine xT 14 [7, 8, 9, 10, 11, 12, 13] [] [some 0] [(1, vi i), (2, vp b1 0), (18, vb false)] RG (Psi.le.refl _) ?_
   refine xSub [(1, vi i), (2, vp b1 0), (18, vb false)] ?_
   exact hN5 _ (Option.some.inj hS).symm _ _ _ (Gh.le.refl _) ⟨by kernel_rfl, by kernel_rfl⟩

def o30 (b : RBoard) (i : Int) : Option (RBoard × Int) :=
 (cond ((decide (i < 0) || decide (i ≥ (((b.defs).length : Nat) : Int)))) (some ((b, (2 : Int)))) (bindO (τ := Bool) (o57 b (i : Int)) fun y5 => (cond ((!y5)) (some ((b, (8 : Int)))) (bindO (τ := RBoard) (o56 b) fun y9 => (grd (decide (0 ≤ i ∧ i < (((y9.acked).length : Nat) : Int))) (some ((({ y9 with acked := (List.set y9.acked (i).toNat true) }), (0 : Int)))))))))
set_option maxRecDepth 100000 in
theorem c30 (g : Gh) (b : RBoard) (Ab_defs : Option Addr) (cb_defs : Nat) (Ab_onset : Option Addr) (cb_onset : Nat) (Ab_acked : Option Addr) (cb_acked : Nat) (i : Int) (fb_defs : Arr g.b tyAlertDef Ab_defs cb_defs b.defs) (fb_onset : Arr g.b (tyI .i64) Ab_onset cb_onset b.onset) (fb_acked : Arr g.b tyB Ab_acked cb_acked b.acked) {r : RBoard × Int} (hS : o30 b i = some r) :
  Ctr Try.prog 30 [Value.agg #[vs Ab_defs b.defs cb_defs, vi b.steps, vy b.phase, vs Ab_onset b.onset cb_onset, vs Ab_acked b.acked cb_acked], vi i] g [] (fun v ψ o => ∃ (Ar_0_defs : Option Addr) (cr_0_defs : Nat) (Ar_0_onset : Option Addr) (cr_0_onset : Nat) (Ar_0_acked : Option Addr) (cr_0_acked : Nat), v = Value.tuple #[Value.agg #[vs Ar_0_defs r.1.defs cr_0_defs, vi r.1.steps, vy r.1.phase, vs Ar_0_onset r.1.onset cr_0_onset, vs Ar_0_acked r.1.acked cr_0_acked], vi r.2] ∧ o = [] ∧ Arr ψ tyAlertDef Ar_0_defs cr_0_defs r.1.defs ∧ Arr ψ (tyI .i64) Ar_0_onset cr_0_onset r.1.onset ∧ Arr ψ tyB Ar_0_acked cr_0_acked r.1.acked) := by
 unfold o30 at hS
 refine xFn Try.f30 (Try.f30.body.getD .skip) 28 ?_
 have nfb_defs := fb_defs.len
 have nfb_onset := fb_onset.len
 have nfb_acked := fb_acked.len
 refine xSq ?_
 refine xRg ?_
 refine xE eB ?_
 rintro _ _ _ - ⟨b1, rfl, rfl, rfl⟩
 refine xE eB ?_
 rintro _ _ _ - ⟨b2, rfl, rfl, rfl⟩
 refine xB 1 [] [(1, vi i), (2, vp b1 0), (4, vp b2 0)] ?_
 refine xRe ?_
 refine wpq_then ?_
 refine xSq ?_
 refine xSq ?_
 refine xRg ?_
 refine xB 3 [] [(1, vi i), (2, vp b1 0), (4, vp b2 0), (8, vb (decide (i < 0)))] ?_
 refine wpr_grp 9 [(1, vi i), (2, vp b1 0), (4, vp b2 0), (14, vb (decide (i < 0) || decide (i ≥ (((b.defs).length : Nat) : Int))))] (fun hk2 => ?_) ?_
 ·refine wpq_split 8 (b := decide (i < 0)) (by kernel_rfl) (fun q3 => ?_) (fun q3 => ?_)
  ·have q3p := of_decide_eq_true q3
   refine xB 6 [] [(1, vi i), (2, vp b1 0), (4, vp b2 0), (14, vb true)] ?_
   refine wpq_re 14 (v := vb true) (Value.bool ((decide (i < 0) || decide (i ≥ (((b.defs).length : Nat) : Int))))) (by kernel_rfl) (re_or1 q3) ?_
   exact wpq_sub _ (by kernel_rfl) hk2
  ·have q3p := of_decide_eq_false q3
   refine xB 6 [(5, 1)] [(1, vi i), (2, vp b1 0), (4, vp b2 0), (14, vb (decide (i ≥ (((b.defs).length : Nat) : Int))))] ?_
   refine wpq_re 14 (v := vb (decide (i ≥ (((b.defs).length : Nat) : Int)))) (Value.bool ((decide (i < 0) || decide (i ≥ (((b.defs).length : Nat) : Int))))) (by kernel_rfl) (re_or0 q3) ?_
   exact wpq_sub _ (by kernel_rfl) hk2
 ·refine xRe ?_
  refine wpq_then ?_
  refine xCd ((decide (i < 0) || decide (i ≥ (((b.defs).length : Nat) : Int)))) (fun h4 => ?_) (fun h4 => ?_)
  ·have hS := cond_T h4 hS
   refine xSq ?_
   refine xRg ?_
   refine xBo 3 [(0, 1), (1, 0)] [some ⟨b2, 57, (cRBoard b Ab_defs cb_defs Ab_onset cb_onset Ab_acked cb_acked)⟩, some ⟨b1, 57, (cRBoard b Ab_defs cb_defs Ab_onset cb_onset Ab_acked cb_acked)⟩] [(4, vp b2 0), (5, vi 2)] ?_
   refine xRe ?_
   refine wpq_then ?_
   have eS := (Option.some.inj hS).symm
   subst eS
   exact xRetC [] [(4, 0)] (Gh.le.refl _) ⟨Ab_defs, cb_defs, Ab_onset, cb_onset, Ab_acked, cb_acked, by kernel_rfl, by kernel_rfl, fb_defs, fb_onset, fb_acked⟩ (fun _ _ h => h)
  ·have hS := cond_F h4 hS
   have h4l := (or_false_ h4).1
   have h4r := (or_false_ h4).2
   have h4lp := of_decide_eq_false h4l
   have h4rp := of_decide_eq_false h4r
   refine xSk ?_
   refine wpq_then ?_
   refine xSub [(1, vi i), (2, vp b1 0), (4, vp b2 0)] ?_
   refine xSq ?_
   refine xSq ?_
   refine xRg ?_
   refine xB 2 [(0, 1)] [(1, vi i), (2, vp b1 0), (4, vp b2 0), (16, Value.agg #[vs Ab_defs b.defs cb_defs, vi b.steps, vy b.phase, vs Ab_onset b.onset cb_onset, vs Ab_acked b.acked cb_acked]), (17, vi i)] ?_
   obtain ⟨y5, hy5, hS⟩ := bindO_T hS
   refine xE (eC 0 (fun g' lr eb ln => c57 g' b Ab_defs cb_defs Ab_onset cb_onset Ab_acked cb_acked (i : Int) ((fb_defs.mono g.br).mono lr) ((fb_onset.mono g.br).mono lr) ((fb_acked.mono g.br).mono lr) hy5)) ?_
   rintro _ g6 _ e7 ⟨_, rfl, rfl, rfl⟩
   refine xB 1 [] [(1, vi i), (2, vp b1 0), (4, vp b2 0), (19, vb (!y5))] ?_
   refine xRe ?_
   refine wpq_then ?_
   refine xCd ((!y5)) (fun h8 => ?_) (fun h8 => ?_)
   ·have hS := cond_T h8 hS
    have h8n := not_eq_true_ h8
    refine xSq ?_
    refine xRg ?_
    refine xBo 3 [(0, 1), (1, 0)] [some ⟨b2, 57, (cRBoard b Ab_defs cb_defs Ab_onset cb_onset Ab_acked cb_acked)⟩, some ⟨b1, 57, (cRBoard b Ab_defs cb_defs Ab_onset cb_onset Ab_acked cb_acked)⟩] [(4, vp b2 0), (5, vi 8)] ?_
    refine xRe ?_
    refine wpq_then ?_
    have fb_defs := fb_defs.mono e7.b
    have fb_onset := fb_onset.mono e7.b
    have fb_acked := fb_acked.mono e7.b
    have eS := (Option.some.inj hS).symm
    subst eS
    exact xRetC [] [(4, 0)] e7 ⟨Ab_defs, cb_defs, Ab_onset, cb_onset, Ab_acked, cb_acked, by kernel_rfl, by kernel_rfl, fb_defs, fb_onset, fb_acked⟩ (fun _ _ h => h)
   ·have hS := cond_F h8 hS
    have h8n := not_eq_false_ h8
    refine xSk ?_
    refine wpq_then ?_
    refine xSub [(1, vi i), (2, vp b1 0), (4, vp b2 0)] ?_
    refine xSq ?_
    refine xRg ?_
    refine xB 1 [(0, 1)] [(1, vi i), (2, vp b1 0), (4, vp b2 0), (21, Value.agg #[vs Ab_defs b.defs cb_defs, vi b.steps, vy b.phase, vs Ab_onset b.onset cb_onset, vs Ab_acked b.acked cb_acked])] ?_
    have fb_defs := fb_defs.mono e7.b
    have fb_onset := fb_onset.mono e7.b
    have fb_acked := fb_acked.mono e7.b
    obtain ⟨y9, hy9, hS⟩ := bindO_T hS
    refine xE (eC 0 (fun g' lr eb ln => c56 g' b Ab_defs cb_defs Ab_onset cb_onset Ab_acked cb_acked (by rw [eb]; exact fb_defs) (by rw [eb]; exact fb_onset) (by rw [eb]; exact fb_acked) hy9)) ?_
    rintro _ g10 _ e11 ⟨_, rfl, A9_0_defs, c9_0_defs, A9_0_onset, c9_0_onset, k9_0_onset, A9_0_acked, c9_0_acked, k9_0_acked, rfl, rfl, f9_0_defs, h9_0_onset, h9_0_acked⟩
    have nf9_0_defs := f9_0_defs.len
    have nh9_0_onset := h9_0_onset.len
    have nh9_0_acked := h9_0_acked.len
    refine xBo 1 [(2, 3)] [k9_0_onset, k9_0_acked, some ⟨b2, 57, (cRBoard (⟨([] : List AlertDef), 0, 0, ([] : List Int), ([] : List Bool)⟩ : RBoard) none 0 none 0 none 0)⟩, some ⟨b1, 57, (cRBoard y9 A9_0_defs c9_0_defs A9_0_onset c9_0_onset A9_0_acked c9_0_acked)⟩] [(1, vi i), (2, vp b1 0), (4, vp b2 0)] ?_
    refine xRe ?_
    refine wpq_then ?_
    refine xSq ?_
    refine xRg ?_
    obtain ⟨q13, hS⟩ := grd_T hS
    have q13p := of_decide_eq_true q13
    have i14 : (i).toNat < (y9.acked).length := by omega
    obtain ⟨kc12, cs12, hA12, hk12, hr12, hw12⟩ := h9_0_acked.open_ i14 false
    obtain ⟨kb12, rfl⟩ : ∃ z, z = kc12 := ⟨_, rfl⟩
    subst hk12
    have hr12 : cs12 = [vb (List.getD y9.acked (i).toNat false)] := hr12
    subst hr12
    refine xB 3 [(1, 3)] [(2, vp b1 0), (4, vp b2 0), (24, vs A9_0_acked y9.acked c9_0_acked), (25, vi i)] ?_
    refine xV (qIxB (i).toNat 1 kb12.g hA12 (show (i : Int) = _ from by omega) i14) ?_
    refine xD (eStB (i).toNat 1 0 1 [vb true] h9_0_acked rfl hw12 (show tyB.rep _ _ _ from rfl) i14) ?_
    rintro _ _ _ - ⟨k15, rfl, rfl, h15⟩
    have hz15 : (y9.acked).length = ((List.set y9.acked (i).toNat true)).length := by simp
    refine xRe ?_
    refine wpq_then ?_
    refine xSub [(2, vp b1 0), (4, vp b2 0)] ?_
    refine xSq ?_
    refine xRg ?_
    refine xBo 3 [(0, 3), (1, 2)] [k9_0_onset, k15, some ⟨b2, 57, [vs A9_0_defs y9.defs c9_0_defs, vi y9.steps, vy y9.phase, vs A9_0_onset y9.onset c9_0_onset, Value.slice A9_0_acked ((y9.acked).length) c9_0_acked]⟩, some ⟨b1, 57, [vs A9_0_defs y9.defs c9_0_defs, vi y9.steps, vy y9.phase, vs A9_0_onset y9.onset c9_0_onset, Value.slice A9_0_acked ((y9.acked).length) c9_0_acked]⟩] [(4, vp b2 0), (5, vi 0)] ?_
    refine xRe ?_
    refine wpq_then ?_
    refine xOwn [k9_0_onset, k15, some ⟨b2, 57, [vs A9_0_defs y9.defs c9_0_defs, vi y9.steps, vy y9.phase, vs A9_0_onset y9.onset c9_0_onset, Value.slice A9_0_acked ((y9.acked).length) c9_0_acked]⟩, some ⟨b1, 57, [vs A9_0_defs y9.defs c9_0_defs, vi y9.steps, vy y9.phase, vs A9_0_onset y9.onset c9_0_onset, Value.slice A9_0_acked ((y9.acked).length) c9_0_acked]⟩] ?_
    have h15 := Buf.re h15 hz15 (rfl : (List.set y9.acked (i).toNat true) = _)
    refine wpq_own [k9_0_onset, k15, some ⟨b2, 57, (cRBoard ({ y9 with acked := (List.set y9.acked (i).toNat true) }) A9_0_defs c9_0_defs A9_0_onset c9_0_onset A9_0_acked c9_0_acked)⟩, some ⟨b1, 57, (cRBoard ({ y9 with acked := (List.set y9.acked (i).toNat true) }) A9_0_defs c9_0_defs A9_0_onset c9_0_onset A9_0_acked c9_0_acked)⟩] (by rw [hz15]) ?_
    refine wpq_freeze 0 (by kernel_rfl) h9_0_onset (fun g16 e17 f18 => ?_)
    have h15 := h15.mono e17.b
    refine wpq_freeze 1 (by kernel_rfl) h15 (fun g19 e20 f21 => ?_)
    have f9_0_defs := f9_0_defs.mono (e17.trans e20).b
    have f18 := f18.mono e20.b
    have eS := (Option.some.inj hS).symm
    subst eS
    exact xRetC [] [(4, 2)] (e7.trans (e11.trans (e17.trans e20))) ⟨A9_0_defs, c9_0_defs, A9_0_onset, c9_0_onset, A9_0_acked, c9_0_acked, by kernel_rfl, by kernel_rfl, f9_0_defs, f18, f21⟩ (fun _ _ h => h)

def o24_L0 (y1 : (List Int)) (s9 : Nat × (List Cnd)) : Option (Ctl (Nat × (List Cnd)) ((List Cnd))) :=
 (cond (decide (((s9.1 : Nat) : Int) < (((y1).length : Nat) : Int))) (grd (decide (0 ≤ (List.getD y1 s9.1 0) ∧ (List.getD y1 s9.1 0) < (((s9.2).length : Nat) : Int))) (grd (decide (((s9.1 : Nat) : Int) + 1 ≤ 9223372036854775807)) (some (Ctl.go ((s9.1 + 1), ((List.set s9.2 ((List.getD y1 s9.1 0)).toNat ({ (List.getD s9.2 ((List.getD y1 s9.1 0)).toNat default) with acked := true })) : List Cnd)))))) (some (Ctl.done ((s9.2 : List Cnd)))))
def o24 (b : Board) : Option (Board × Int) :=
 (bindO (τ := (List Int)) (o19 b) fun y1 => (bindO (τ := (List Cnd)) (loopO (σ := Nat × (List Cnd)) (ρ := (List Cnd)) fuelN (o24_L0 y1) (0, (b.conds : List Cnd))) fun t4 => (some ((({ b with conds := t4 }), ((((y1).length : Nat) : Int) : Int))))))
set_option maxRecDepth 100000 in
theorem c24 (g : Gh) (b_b : Nat) (b : Board) (Ab_defs : Option Addr) (cb_defs : Nat) (Ab_conds : Option Addr) (cb_conds : Nat) (kb_conds : Option Bk) (fb_defs : Arr g.b tyAlertDef Ab_defs cb_defs b.defs) (hb_conds : Buf g.b tyCnd 79 (.slice Ab_conds (b.conds).length cb_conds) kb_conds b.conds) {r : Board × Int} (hS : o24 b = some r) :
  Ctr Try.prog 24 [vp b_b 0] g [some ⟨b_b, 71, (cBoard b Ab_defs cb_defs Ab_conds cb_conds)⟩, kb_conds] (fun v ψ o => ∃ (Ao_b_defs : Option Addr) (co_b_defs : Nat) (Ao_b_conds : Option Addr) (co_b_conds : Nat) (ko_b_conds : Option Bk), v = vi r.2 ∧ o = [some ⟨b_b, 71, (cBoard r.1 Ao_b_defs co_b_defs Ao_b_conds co_b_conds)⟩, ko_b_conds] ∧ Arr ψ tyAlertDef Ao_b_defs co_b_defs r.1.defs ∧ Buf ψ tyCnd 79 (.slice Ao_b_conds (r.1.conds).length co_b_conds) ko_b_conds r.1.conds) := by
 unfold o24 at hS
 refine xFn Try.f24 (Try.f24.body.getD .skip) 24 ?_
 have nfb_defs := fb_defs.len
 have nhb_conds := hb_conds.len
 refine xSq ?_
 refine xRg ?_
 refine xB 1 [] [(0, vp b_b 0)] ?_
 refine xRe ?_
 refine wpq_then ?_
 refine xSq ?_
 refine xRg ?_
 refine xB 1 [] [(0, vp b_b 0), (6, vp b_b 0)] ?_
 obtain ⟨y1, hy1, hS⟩ := bindO_T hS
 refine xE (eC 0 (fun g' lr eb ln => c19 g' ⟨b_b, 0, none⟩ b Ab_defs cb_defs Ab_conds cb_conds (cells_lent' 0 b_b 0 (cBoard b Ab_defs cb_defs Ab_conds cb_conds) ln) ((fb_defs.mono g.br).mono lr) (arrm_of_buf hb_conds eb (lentk 1 (by kernel_rfl) ln)) hy1)) ?_
 rintro _ g2 _ e3 ⟨_, rfl, A1_0, c1_0, k1_0, rfl, rfl, h1_0⟩
 have nh1_0 := h1_0.len
 refine xB 1 [] [(0, vp b_b 0), (3, vs A1_0 y1 c1_0)] ?_
 refine xRe ?_
 refine wpq_then ?_
 refine xSq ?_
 refine xSq ?_
 refine xRg ?_
 refine xB 3 [] [(0, vp b_b 0), (3, vs A1_0 y1 c1_0), (8, vs A1_0 y1 c1_0), (9, vi (((y1).length : Nat) : Int)), (10, vi 0)] ?_
 refine xRe ?_
 refine wpq_then ?_
 refine xBindO hS (fun g own sl t4 => ∃ (k4_0 : Option Bk), own = [some ⟨b_b, 71, (cBoard ({ b with conds := t4 }) Ab_defs cb_defs Ab_conds cb_conds)⟩, k1_0, k4_0] ∧ sl = [(3, vs A1_0 y1 c1_0)] ∧ Buf g.b tyCnd 79 (.slice Ab_conds (t4).length cb_conds) k4_0 t4) ?_ ?_
 ·rintro g5 _ _ t4 e6 ⟨k4_0, rfl, rfl, h4_0⟩ hS
  have nh4_0 := h4_0.len
  refine wpq_then ?_
  refine xSq ?_
  refine xRg ?_
  refine xB 3 [] [(2, vi (((y1).length : Nat) : Int))] ?_
  refine xRe ?_
  refine wpq_then ?_
  have fb_defs := fb_defs.mono (e3.trans e6).b
  have eS := (Option.some.inj hS).symm
  subst eS
  exact xRet [some 0, some 2] [2] (e3.trans e6) ⟨Ab_defs, cb_defs, Ab_conds, cb_conds, k4_0, by kernel_rfl, by kernel_rfl, fb_defs, h4_0⟩ (fun _ _ h => h)
 ·intro uu4 hS hN4
  refine xBl 0 ?_
  have hb_conds := hb_conds.mono e3.b
  refine xSel [some 1, some 0, some 2] ?_
  refine xSub [(0, vp b_b 0), (3, vs A1_0 y1 c1_0), (8, vs A1_0 y1 c1_0), (9, vi (((y1).length : Nat) : Int)), (10, vi 0)] ?_
  refine xLo hS (fun g own sl s9 => ∃ (k9_1 : Option Bk), own = [some ⟨b_b, 71, (cBoard ({ b with conds := s9.2 }) Ab_defs cb_defs Ab_conds cb_conds)⟩, k1_0, k9_1] ∧ sl = [(0, vp b_b 0), (3, vs A1_0 y1 c1_0), (8, vs A1_0 y1 c1_0), (9, vi (((y1).length : Nat) : Int)), (10, vi ((s9.1 : Nat) : Int))] ∧ Buf g.b tyCnd 79 (.slice Ab_conds (s9.2).length cb_conds) k9_1 s9.2) ⟨kb_conds, by kernel_rfl, by kernel_rfl, hb_conds⟩ ?_
  rintro g10 _ _ s9 uu9 e11 ⟨k9_1, rfl, rfl, h9_1⟩ hS Qr9 hN9 hD9
  have nh9_1 := h9_1.len
  unfold o24_L0 at hS
  refine xSq ?_
  refine xRg ?_
  refine xB 1 [] [(0, vp b_b 0), (3, vs A1_0 y1 c1_0), (8, vs A1_0 y1 c1_0), (9, vi (((y1).length : Nat) : Int)), (10, vi ((s9.1 : Nat) : Int)), (11, vb (decide (((s9.1 : Nat) : Int) < (((y1).length : Nat) : Int))))] ?_
  refine xRe ?_
  refine wpq_then ?_
  refine xSq ?_
  refine xCd (decide (((s9.1 : Nat) : Int) < (((y1).length : Nat) : Int))) (fun h12 => ?_) (fun h12 => ?_)
  ·have hS := cond_T h12 hS
   have h12p := of_decide_eq_true h12
   refine xSk ?_
   refine wpq_then ?_
   refine xSub [(0, vp b_b 0), (3, vs A1_0 y1 c1_0), (8, vs A1_0 y1 c1_0), (9, vi (((y1).length : Nat) : Int)), (10, vi ((s9.1 : Nat) : Int))] ?_
   refine xSq ?_
   refine xBl 1 ?_
   refine xSq ?_
   refine xRg ?_
   have h1_0 := h1_0.mono e11.b
   have i14 : s9.1 < (y1).length := by omega
   obtain ⟨kc13, cs13, hA13, hk13, hr13, hw13⟩ := h1_0.open_ i14 0
   obtain ⟨kb13, rfl⟩ : ∃ z, z = kc13 := ⟨_, rfl⟩
   subst hk13
   have hr13 : cs13 = [vi (List.getD y1 s9.1 0)] := hr13
   subst hr13
   refine xV (qIxB s9.1 1 kb13.g hA13 rfl i14) ?_
   refine xV (qLdB s9.1 1 0 1 hw13) ?_
   refine xB 1 [] [(0, vp b_b 0), (3, vs A1_0 y1 c1_0), (5, vi (List.getD y1 s9.1 0)), (8, vs A1_0 y1 c1_0), (9, vi (((y1).length : Nat) : Int)), (10, vi ((s9.1 : Nat) : Int))] ?_
   refine xRe ?_
   refine wpq_then ?_
   refine xRg ?_
   obtain ⟨q16, hS⟩ := grd_T hS
   have q16p := of_decide_eq_true q16
   have i17 : ((List.getD y1 s9.1 0)).toNat < (s9.2).length := by omega
   obtain ⟨kc15, cs15, hA15, hk15, hr15, hw15⟩ := h9_1.open_ i17 default
   obtain ⟨kb15, rfl⟩ : ∃ z, z = kc15 := ⟨_, rfl⟩
   subst hk15
   obtain ⟨rfl⟩ := hr15
   refine xB 5 [(3, 0)] [(0, vp b_b 0), (3, vs A1_0 y1 c1_0), (8, vs A1_0 y1 c1_0), (9, vi (((y1).length : Nat) : Int)), (10, vi ((s9.1 : Nat) : Int)), (17, vs Ab_conds s9.2 cb_conds), (18, vi (List.getD y1 s9.1 0))] ?_
   refine xV (qIxB ((List.getD y1 s9.1 0)).toNat 2 kb15.g hA15 (show ((List.getD y1 s9.1 0) : Int) = _ from by omega) i17) ?_
   refine xB 1 [] [(0, vp b_b 0), (3, vs A1_0 y1 c1_0), (8, vs A1_0 y1 c1_0), (9, vi (((y1).length : Nat) : Int)), (10, vi ((s9.1 : Nat) : Int)), (20, Value.pointer (some ⟨kb15.g, ((List.getD y1 s9.1 0)).toNat * 2 + 1, none⟩))] ?_
   refine xD (eStB ((List.getD y1 s9.1 0)).toNat 2 1 2 [vb true] h9_1 rfl hw15 (show tyCnd.rep _ _ ({ (List.getD s9.2 ((List.getD y1 s9.1 0)).toNat default) with acked := true }) from rfl) i17) ?_
   rintro _ _ _ - ⟨k18, rfl, rfl, h18⟩
   have hz18 : (s9.2).length = ((List.set s9.2 ((List.getD y1 s9.1 0)).toNat ({ (List.getD s9.2 ((List.getD y1 s9.1 0)).toNat default) with acked := true }))).length := by simp
   refine xRe ?_
   refine wpq_blockN ?_
   refine wpq_then ?_
   refine xSub [(0, vp b_b 0), (3, vs A1_0 y1 c1_0), (8, vs A1_0 y1 c1_0), (9, vi (((y1).length : Nat) : Int)), (10, vi ((s9.1 : Nat) : Int))] ?_
   refine xRg ?_
   obtain ⟨q19, hS⟩ := grd_T hS
   have q19p := of_decide_eq_true q19
   refine xV (qAdd .i64 (((s9.1 : Nat) : Int)) (1) (wr64 (by omega))) ?_
   refine xB 1 [] [(0, vp b_b 0), (3, vs A1_0 y1 c1_0), (8, vs A1_0 y1 c1_0), (9, vi (((y1).length : Nat) : Int)), (10, vi (((s9.1 : Nat) : Int) + 1))] ?_
   refine xRe ?_
   refine wpq_thenN ?_
   refine xOwn [some ⟨b_b, 71, [vs Ab_defs b.defs cb_defs, vi b.steps, vy b.phase, Value.slice Ab_conds ((s9.2).length) cb_conds]⟩, (some kb13), k18] ?_
   have h18 := Buf.re h18 hz18 (rfl : (List.set s9.2 ((List.getD y1 s9.1 0)).toNat ({ (List.getD s9.2 ((List.getD y1 s9.1 0)).toNat default) with acked := true })) = _)
   refine wpq_own [some ⟨b_b, 71, (cBoard ({ b with conds := (List.set s9.2 ((List.getD y1 s9.1 0)).toNat ({ (List.getD s9.2 ((List.getD y1 s9.1 0)).toNat default) with acked := true })) }) Ab_defs cb_defs Ab_conds cb_conds)⟩, (some kb13), k18] (by rw [hz18]) ?_
   refine xSub [(0, vp b_b 0), (3, vs A1_0 y1 c1_0), (8, vs A1_0 y1 c1_0), (9, vi (((y1).length : Nat) : Int)), (10, vi (((s9.1 : Nat) : Int) + 1))] ?_
   have eS := (Option.some.inj hS).symm
   exact hN9 _ eS _ _ _ (Gh.le.refl _) ⟨k18, by kernel_rfl, by kernel_rfl, h18⟩
  ·have hS := cond_F h12 hS
   have h12p := of_decide_eq_false h12
   refine xEx 0 ?_
   refine wpq_thenX ?_
   refine wpq_thenX ?_
   refine wpq_blockE ?_
   refine xSub [(3, vs A1_0 y1 c1_0)] ?_
   have eS := (Option.some.inj hS).symm
   have eS := (hD9 _ eS).symm
   exact hN4 _ eS _ _ _ e11 ⟨k9_1, by kernel_rfl, by kernel_rfl, h9_1⟩

def o64 (b : RBoard) (i : Int) (j : Int) : Option (Bool) :=
 (grd (decide (0 ≤ i ∧ i < (((b.defs).length : Nat) : Int))) (grd (decide (0 ≤ j ∧ j < (((b.defs).length : Nat) : Int))) (cond (((List.getD b.defs (i).toNat default).level != (List.getD b.defs (j).toNat default).level)) (grd (decide (0 ≤ i ∧ i < (((b.defs).length : Nat) : Int))) (grd (decide (0 ≤ j ∧ j < (((b.defs).length : Nat) : Int))) (some ((decide ((List.getD b.defs (i).toNat default).level < (List.getD b.defs (j).toNat default).level)))))) (grd (decide (0 ≤ i ∧ i < (((b.onset).length : Nat) : Int))) (grd (decide (0 ≤ j ∧ j < (((b.onset).length : Nat) : Int))) (cond (((List.getD b.onset (i).toNat 0) != (List.getD b.onset (j).toNat 0))) (grd (decide (0 ≤ i ∧ i < (((b.onset).length : Nat) : Int))) (grd (decide (0 ≤ j ∧ j < (((b.onset).length : Nat) : Int))) (some ((decide ((List.getD b.onset (i).toNat 0) > (List.getD b.onset (j).toNat 0))))))) (some ((decide (i < j))))))))))
set_option maxRecDepth 100000 in
theorem c64 (g : Gh) (b : RBoard) (Ab_defs : Option Addr) (cb_defs : Nat) (Ab_onset : Option Addr) (cb_onset : Nat) (Ab_acked : Option Addr) (cb_acked : Nat) (i : Int) (j : Int) (fb_defs : Arr g.r tyAlertDef Ab_defs cb_defs b.defs) (fb_onset : Arr g.r (tyI .i64) Ab_onset cb_onset b.onset) (fb_acked : Arr g.r tyB Ab_acked cb_acked b.acked) {r : Bool} (hS : o64 b i j = some r) :
  Ctr Try.prog 64 [Value.agg #[vs Ab_defs b.defs cb_defs, vi b.steps, vy b.phase, vs Ab_onset b.onset cb_onset, vs Ab_acked b.acked cb_acked], vi i, vi j] g [] (fun v ψ o => v = vb r ∧ o = []) := by
 unfold o64 at hS
 refine xFn Try.f64 (Try.f64.body.getD .skip) 58 ?_
 have nfb_defs := fb_defs.len
 have nfb_onset := fb_onset.len
 have nfb_acked := fb_acked.len
 refine xSq ?_
 refine xRg ?_
 refine xE eB ?_
 rintro _ _ _ - ⟨b1, rfl, rfl, rfl⟩
 refine xB 1 [] [(1, vi i), (2, vi j), (3, vp b1 0)] ?_
 refine xRe ?_
 refine wpq_then ?_
 refine xSq ?_
 refine xSq ?_
 refine xDr 0 [1, 5, 7, 11] [] [some ⟨b1, 57, (cRBoard b Ab_defs cb_defs Ab_onset cb_onset Ab_acked cb_acked)⟩] 13 (fun RG => ?_) (fun _ _ _ _ _ h => h)
 obtain ⟨q3, hS⟩ := grd_T hS
 have q3p := of_decide_eq_true q3
 have i4 : (i).toNat < (b.defs).length := by omega
 obtain ⟨ad2, cs2, hA2, hr2, hc2⟩ := fb_defs.at_ (get_getD (d := default) i4)
 obtain ⟨rfl⟩ := hr2
 refine xT 10 [0, 1, 2] [(1, 0)] [some 0] [(1, vi i), (2, vi j), (3, vp b1 0), (8, vs Ab_defs b.defs cb_defs), (9, vi i)] RG (Psi.le.refl _) ?_
 refine xTp 3 RG (fun _ => (qIx (i).toNat 3 hA2 (show (i : Int) = _ from by omega) i4)) ?_
 refine xT 8 [4] [] [some 0] [(1, vi i), (2, vi j), (3, vp b1 0), (11, Value.pointer (some (Addr.add (Addr.add ad2 ((i).toNat * 3)) 1)))] RG (Psi.le.refl _) ?_
 refine xTv 5 [some 0] RG (Psi.le.refl _) (qLdP (Addr.add ad2 ((i).toNat * 3)) 1 hc2) ?_
 obtain ⟨q6, hS⟩ := grd_T hS
 have q6p := of_decide_eq_true q6
 have i7 : (j).toNat < (b.defs).length := by omega
 obtain ⟨ad5, cs5, hA5, hr5, hc5⟩ := fb_defs.at_ (get_getD (d := default) i7)
 obtain ⟨rfl⟩ := hr5
 refine xT 4 [6, 7, 8] [(7, 0)] [some 0] [(1, vi i), (2, vi j), (3, vp b1 0), (12, vy ((List.getD b.defs (i).toNat default).level)), (14, vs Ab_defs b.defs cb_defs), (15, vi j)] RG (Psi.le.refl _) ?_
 refine xTp 9 RG (fun _ => (qIx (j).toNat 3 hA5 (show (j : Int) = _ from by omega) i7)) ?_
 refine xT 2 [10] [] [some 0] [(1, vi i), (2, vi j), (3, vp b1 0), (12, vy ((List.getD b.defs (i).toNat default).level)), (17, Value.pointer (some (Addr.add (Addr.add ad5 ((j).toNat * 3)) 1)))] RG (Psi.le.refl _) ?_
 refine xTv 11 [some 0] RG (Psi.le.refl _) (qLdP (Addr.add ad5 ((j).toNat * 3)) 1 hc5) ?_
 refine xT 0 [12] [] [some 0] [(1, vi i), (2, vi j), (3, vp b1 0), (19, vb ((List.getD b.defs (i).toNat default).level != (List.getD b.defs (j).toNat default).level))] RG (Psi.le.refl _) ?_
 refine xAe (lds := [1, 5, 7, 11]) ?_
 refine wpq_then ?_
 refine xCd (((List.getD b.defs (i).toNat default).level != (List.getD b.defs (j).toNat default).level)) (fun h8 => ?_) (fun h8 => ?_)
 ·have hS := cond_T h8 hS
  have h8p : ¬ ((List.getD b.defs (i).toNat default).level = (List.getD b.defs (j).toNat default).level) := ne_of_bne_ h8
  refine xSq ?_
  refine xDr 0 [1, 5, 7, 11] [13] [some ⟨b1, 57, (cRBoard b Ab_defs cb_defs Ab_onset cb_onset Ab_acked cb_acked)⟩] 14 (fun RG => ?_) (fun _ _ _ _ _ h => h)
  obtain ⟨q10, hS⟩ := grd_T hS
  have q10p := of_decide_eq_true q10
  have i11 : (i).toNat < (b.defs).length := by omega
  obtain ⟨ad9, cs9, hA9, hr9, hc9⟩ := fb_defs.at_ (get_getD (d := default) i11)
  obtain ⟨rfl⟩ := hr9
  refine xT 11 [0, 1, 2] [(1, 0)] [some 0] [(2, vi j), (3, vp b1 0), (21, vs Ab_defs b.defs cb_defs), (22, vi i)] RG (Psi.le.refl _) ?_
  refine xTp 3 RG (fun _ => (qIx (i).toNat 3 hA9 (show (i : Int) = _ from by omega) i11)) ?_
  refine xT 9 [4] [] [some 0] [(2, vi j), (3, vp b1 0), (24, Value.pointer (some (Addr.add (Addr.add ad9 ((i).toNat * 3)) 1)))] RG (Psi.le.refl _) ?_
  refine xTv 5 [some 0] RG (Psi.le.refl _) (qLdP (Addr.add ad9 ((i).toNat * 3)) 1 hc9) ?_
  obtain ⟨q13, hS⟩ := grd_T hS
  have q13p := of_decide_eq_true q13
  have i14 : (j).toNat < (b.defs).length := by omega
  obtain ⟨ad12, cs12, hA12, hr12, hc12⟩ := fb_defs.at_ (get_getD (d := default) i14)
  obtain ⟨rfl⟩ := hr12
  refine xT 5 [6, 7, 8] [(7, 0)] [some 0] [(25, vy ((List.getD b.defs (i).toNat default).level)), (27, vs Ab_defs b.defs cb_defs), (28, vi j)] RG (Psi.le.refl _) ?_
  refine xTp 9 RG (fun _ => (qIx (j).toNat 3 hA12 (show (j : Int) = _ from by omega) i14)) ?_
  refine xT 3 [10] [] [some 0] [(25, vy ((List.getD b.defs (i).toNat default).level)), (30, Value.pointer (some (Addr.add (Addr.add ad12 ((j).toNat * 3)) 1)))] RG (Psi.le.refl _) ?_
  refine xTv 11 [some 0] RG (Psi.le.refl _) (qLdP (Addr.add ad12 ((j).toNat * 3)) 1 hc12) ?_
  refine xT 0 [12, 13] [] [some 0] [(6, vb (decide ((List.getD b.defs (i).toNat default).level < (List.getD b.defs (j).toNat default).level)))] RG (Psi.le.refl _) ?_
  refine xAe (lds := [1, 5, 7, 11]) ?_
  refine wpq_then ?_
  have eS := (Option.some.inj hS).symm
  subst eS
  exact xRet [] [6] (Gh.le.refl _) ⟨by kernel_rfl, by kernel_rfl⟩ (fun _ _ h => h)
 ·have hS := cond_F h8 hS
  have h8p : (List.getD b.defs (i).toNat default).level = (List.getD b.defs (j).toNat default).level := eq_of_bne_false_ h8
  refine xSk ?_
  refine wpq_then ?_
  refine xSub [(1, vi i), (2, vi j), (3, vp b1 0)] ?_
  refine xSq ?_
  refine xSq ?_
  refine xDr 0 [1, 4, 6, 9] [] [some ⟨b1, 57, (cRBoard b Ab_defs cb_defs Ab_onset cb_onset Ab_acked cb_acked)⟩] 11 (fun RG => ?_) (fun _ _ _ _ _ h => h)
  obtain ⟨q16, hS⟩ := grd_T hS
  have q16p := of_decide_eq_true q16
  have i17 : (i).toNat < (b.onset).length := by omega
  obtain ⟨ad15, cs15, hA15, hr15, hc15⟩ := fb_onset.at_ (get_getD (d := 0) i17)
  have hr15 : cs15 = [vi (List.getD b.onset (i).toNat 0)] := hr15
  subst hr15
  refine xT 8 [0, 1, 2] [(1, 0)] [some 0] [(1, vi i), (2, vi j), (3, vp b1 0), (34, vs Ab_onset b.onset cb_onset), (35, vi i)] RG (Psi.le.refl _) ?_
  refine xTp 3 RG (fun _ => (qIx (i).toNat 1 hA15 (show (i : Int) = _ from by omega) i17)) ?_
  refine xTv 4 [some 0] RG (Psi.le.refl _) (qLdP (Addr.add ad15 ((i).toNat * 1)) 0 hc15) ?_
  obtain ⟨q19, hS⟩ := grd_T hS
  have q19p := of_decide_eq_true q19
  have i20 : (j).toNat < (b.onset).length := by omega
  obtain ⟨ad18, cs18, hA18, hr18, hc18⟩ := fb_onset.at_ (get_getD (d := 0) i20)
  have hr18 : cs18 = [vi (List.getD b.onset (j).toNat 0)] := hr18
  subst hr18
  refine xT 3 [5, 6, 7] [(6, 0)] [some 0] [(1, vi i), (2, vi j), (3, vp b1 0), (37, vi (List.getD b.onset (i).toNat 0)), (39, vs Ab_onset b.onset cb_onset), (40, vi j)] RG (Psi.le.refl _) ?_
  refine xTp 8 RG (fun _ => (qIx (j).toNat 1 hA18 (show (j : Int) = _ from by omega) i20)) ?_
  refine xTv 9 [some 0] RG (Psi.le.refl _) (qLdP (Addr.add ad18 ((j).toNat * 1)) 0 hc18) ?_
  refine xT 0 [10] [] [some 0] [(1, vi i), (2, vi j), (3, vp b1 0), (43, vb ((List.getD b.onset (i).toNat 0) != (List.getD b.onset (j).toNat 0)))] RG (Psi.le.refl _) ?_
  refine xAe (lds := [1, 4, 6, 9]) ?_
  refine wpq_then ?_
  refine xCd (((List.getD b.onset (i).toNat 0) != (List.getD b.onset (j).toNat 0))) (fun h21 => ?_) (fun h21 => ?_)
  ·have hS := cond_T h21 hS
   have h21p : ¬ ((List.getD b.onset (i).toNat 0) = (List.getD b.onset (j).toNat 0)) := ne_of_bne_ h21
   refine xSq ?_
   refine xDr 0 [1, 4, 6, 9] [11] [some ⟨b1, 57, (cRBoard b Ab_defs cb_defs Ab_onset cb_onset Ab_acked cb_acked)⟩] 12 (fun RG => ?_) (fun _ _ _ _ _ h => h)
   obtain ⟨q23, hS⟩ := grd_T hS
   have q23p := of_decide_eq_true q23
   have i24 : (i).toNat < (b.onset).length := by omega
   obtain ⟨ad22, cs22, hA22, hr22, hc22⟩ := fb_onset.at_ (get_getD (d := 0) i24)
   have hr22 : cs22 = [vi (List.getD b.onset (i).toNat 0)] := hr22
   subst hr22
   refine xT 9 [0, 1, 2] [(1, 0)] [some 0] [(2, vi j), (3, vp b1 0), (45, vs Ab_onset b.onset cb_onset), (46, vi i)] RG (Psi.le.refl _) ?_
   refine xTp 3 RG (fun _ => (qIx (i).toNat 1 hA22 (show (i : Int) = _ from by omega) i24)) ?_
   refine xTv 4 [some 0] RG (Psi.le.refl _) (qLdP (Addr.add ad22 ((i).toNat * 1)) 0 hc22) ?_
   obtain ⟨q26, hS⟩ := grd_T hS
   have q26p := of_decide_eq_true q26
   have i27 : (j).toNat < (b.onset).length := by omega
   obtain ⟨ad25, cs25, hA25, hr25, hc25⟩ := fb_onset.at_ (get_getD (d := 0) i27)
   have hr25 : cs25 = [vi (List.getD b.onset (j).toNat 0)] := hr25
   subst hr25
   refine xT 4 [5, 6, 7] [(6, 0)] [some 0] [(48, vi (List.getD b.onset (i).toNat 0)), (50, vs Ab_onset b.onset cb_onset), (51, vi j)] RG (Psi.le.refl _) ?_
   refine xTp 8 RG (fun _ => (qIx (j).toNat 1 hA25 (show (j : Int) = _ from by omega) i27)) ?_
   refine xTv 9 [some 0] RG (Psi.le.refl _) (qLdP (Addr.add ad25 ((j).toNat * 1)) 0 hc25) ?_
   refine xT 0 [10, 11] [] [some 0] [(6, vb (decide ((List.getD b.onset (i).toNat 0) > (List.getD b.onset (j).toNat 0))))] RG (Psi.le.refl _) ?_
   refine xAe (lds := [1, 4, 6, 9]) ?_
   refine wpq_then ?_
   have eS := (Option.some.inj hS).symm
   subst eS
   exact xRet [] [6] (Gh.le.refl _) ⟨by kernel_rfl, by kernel_rfl⟩ (fun _ _ h => h)
  ·have hS := cond_F h21 hS
   have h21p : (List.getD b.onset (i).toNat 0) = (List.getD b.onset (j).toNat 0) := eq_of_bne_false_ h21
   refine xSk ?_
   refine wpq_then ?_
   refine xSub [(1, vi i), (2, vi j)] ?_
   refine xSq ?_
   refine xRg ?_
   refine xB 4 [] [(6, vb (decide (i < j)))] ?_
   refine xRe ?_
   refine wpq_then ?_
   have eS := (Option.some.inj hS).symm
   subst eS
   exact xRet [] [6] (Gh.le.refl _) ⟨by kernel_rfl, by kernel_rfl⟩ (fun _ _ h => h)

def o50_L1 (b : RBoard) (s7 : (List Int) × Nat) (s39 : Nat) : Option (Ctl (Nat) (Nat)) :=
 (bindO (τ := Bool) (cond (decide (((s39 : Nat) : Int) < (((s7.1).length : Nat) : Int))) (bindO (τ := Bool) (o64 b ((List.getD s7.1 s39 0) : Int) (((s7.2 : Nat) : Int) : Int)) fun y50 => (some (y50))) (some (false))) fun t42 => (cond (t42) (grd (decide (((s39 : Nat) : Int) + 1 ≤ 9223372036854775807)) (some (Ctl.go (s39 + 1)))) (some (Ctl.done (s39)))))
def o50_L0 (b : RBoard) (s7 : (List Int) × Nat) : Option (Ctl ((List Int) × Nat) ((List Int))) :=
 (cond (decide (((s7.2 : Nat) : Int) < (((b.defs).length : Nat) : Int))) (bindO (τ := (List Int)) (bindO (τ := Bool) (o57 b (((s7.2 : Nat) : Int) : Int)) fun y15 => (cond ((!y15)) (some ((s7.1 : List Int))) (bindO (τ := Nat) (loopO (σ := Nat) (ρ := Nat) fuelN (o50_L1 b s7) (0)) fun t19 => (grd (decide (((t19 : Nat) : Int) ≤ (((s7.1).length : Nat) : Int))) (grd (decide ((0 + ((List.take t19 s7.1)).length) * 8 ≤ 140737488355328)) (grd (decide ((((List.take t19 s7.1)).length + (([(((s7.2 : Nat) : Int) : Int)] : List Int)).length) * 8 ≤ 140737488355328)) (grd (decide (((t19 : Nat) : Int) ≤ (((s7.1).length : Nat) : Int))) (grd (decide (((((List.take t19 s7.1) ++ ([(((s7.2 : Nat) : Int) : Int)] : List Int))).length + ((List.drop t19 s7.1)).length) * 8 ≤ 140737488355328)) (some (((((List.take t19 s7.1) ++ ([(((s7.2 : Nat) : Int) : Int)] : List Int)) ++ (List.drop t19 s7.1)) : List Int))))))))))) fun t11 => (grd (decide (((s7.2 : Nat) : Int) + 1 ≤ 9223372036854775807)) (some (Ctl.go ((t11 : List Int), (s7.2 + 1)))))) (some (Ctl.done ((s7.1 : List Int)))))
def o50 (b : RBoard) : Option ((List Int)) :=
 (bindO (τ := (List Int)) (loopO (σ := (List Int) × Nat) (ρ := (List Int)) fuelN (o50_L0 b) (([] : List Int), 0)) fun t2 => (some ((t2 : List Int))))
set_option maxRecDepth 100000 in
theorem c50 (g : Gh) (b : RBoard) (Ab_defs : Option Addr) (cb_defs : Nat) (Ab_onset : Option Addr) (cb_onset : Nat) (Ab_acked : Option Addr) (cb_acked : Nat) (fb_defs : Arr g.r tyAlertDef Ab_defs cb_defs b.defs) (fb_onset : Arr g.r (tyI .i64) Ab_onset cb_onset b.onset) (fb_acked : Arr g.r tyB Ab_acked cb_acked b.acked) {r : (List Int)} (hS : o50 b = some r) :
  Ctr Try.prog 50 [Value.agg #[vs Ab_defs b.defs cb_defs, vi b.steps, vy b.phase, vs Ab_onset b.onset cb_onset, vs Ab_acked b.acked cb_acked]] g [] (fun v ψ o => ∃ (Ar_0 : Option Addr) (cr_0 : Nat) (kr_0 : Option Bk), v = vs Ar_0 r cr_0 ∧ o = [kr_0] ∧ Buf ψ (tyI .i64) 3 (.slice Ar_0 (r).length cr_0) kr_0 r) := by
 unfold o50 at hS
 refine xFn Try.f50 (Try.f50.body.getD .skip) 48 ?_
 have nfb_defs := fb_defs.len
 have nfb_onset := fb_onset.len
 have nfb_acked := fb_acked.len
 refine xSq ?_
 refine xRg ?_
 refine xE eB ?_
 rintro _ _ _ - ⟨b1, rfl, rfl, rfl⟩
 refine xB 1 [] [(1, vp b1 0)] ?_
 refine xRe ?_
 refine wpq_then ?_
 refine xSq ?_
 refine xRg ?_
 refine xB 1 [] [(1, vp b1 0), (3, Value.slice none 0 0)] ?_
 refine xRe ?_
 refine wpq_then ?_
 refine xSq ?_
 refine xSq ?_
 refine xRg ?_
 refine xB 4 [(1, 0)] [(1, vp b1 0), (3, Value.slice none 0 0), (9, vi (((b.defs).length : Nat) : Int)), (10, vi 0)] ?_
 refine xRe ?_
 refine wpq_then ?_
 refine xBindO hS (fun g own sl t2 => ∃ (A2_0 : Option Addr) (c2_0 : Nat) (k2_0 : Option Bk), own = [k2_0] ∧ sl = [(3, vs A2_0 t2 c2_0)] ∧ Buf g.b (tyI .i64) 3 (.slice A2_0 (t2).length c2_0) k2_0 t2) ?_ ?_
 ·rintro g3 _ _ t2 e4 ⟨A2_0, c2_0, k2_0, rfl, rfl, h2_0⟩ hS
  have nh2_0 := h2_0.len
  refine wpq_then ?_
  refine xSq ?_
  refine xRg ?_
  refine xB 2 [] [(2, vs A2_0 t2 c2_0)] ?_
  refine xRe ?_
  refine wpq_then ?_
  have eS := (Option.some.inj hS).symm
  subst eS
  exact xRet [some 0] [2] e4 ⟨A2_0, c2_0, k2_0, by kernel_rfl, by kernel_rfl, h2_0⟩ (fun _ _ h => h)
 ·intro uu2 hS hN2
  refine xBl 0 ?_
  refine xSel [some 0, none] ?_
  refine xSub [(1, vp b1 0), (3, Value.slice none 0 0), (9, vi (((b.defs).length : Nat) : Int)), (10, vi 0)] ?_
  refine xLo hS (fun g own sl s7 => ∃ (A7_0 : Option Addr) (c7_0 : Nat) (k7_0 : Option Bk), own = [some ⟨b1, 57, (cRBoard b Ab_defs cb_defs Ab_onset cb_onset Ab_acked cb_acked)⟩, k7_0] ∧ sl = [(1, vp b1 0), (3, vs A7_0 s7.1 c7_0), (9, vi (((b.defs).length : Nat) : Int)), (10, vi ((s7.2 : Nat) : Int))] ∧ Buf g.b (tyI .i64) 3 (.slice A7_0 (s7.1).length c7_0) k7_0 s7.1) ⟨none, 0, none, by kernel_rfl, by kernel_rfl, Buf.nil⟩ ?_
  rintro g8 _ _ s7 uu7 e9 ⟨A7_0, c7_0, k7_0, rfl, rfl, h7_0⟩ hS Qr7 hN7 hD7
  have nh7_0 := h7_0.len
  unfold o50_L0 at hS
  refine xSq ?_
  refine xRg ?_
  refine xB 1 [] [(1, vp b1 0), (3, vs A7_0 s7.1 c7_0), (9, vi (((b.defs).length : Nat) : Int)), (10, vi ((s7.2 : Nat) : Int)), (11, vb (decide (((s7.2 : Nat) : Int) < (((b.defs).length : Nat) : Int))))] ?_
  refine xRe ?_
  refine wpq_then ?_
  refine xSq ?_
  refine xCd (decide (((s7.2 : Nat) : Int) < (((b.defs).length : Nat) : Int))) (fun h10 => ?_) (fun h10 => ?_)
  ·have hS := cond_T h10 hS
   have h10p := of_decide_eq_true h10
   refine xSk ?_
   refine wpq_then ?_
   refine xSub [(1, vp b1 0), (3, vs A7_0 s7.1 c7_0), (9, vi (((b.defs).length : Nat) : Int)), (10, vi ((s7.2 : Nat) : Int))] ?_
   refine xSq ?_
   refine xBindO hS (fun g own sl t11 => ∃ (A11_0 : Option Addr) (c11_0 : Nat) (k11_0 : Option Bk), own = [some ⟨b1, 57, (cRBoard b Ab_defs cb_defs Ab_onset cb_onset Ab_acked cb_acked)⟩, k11_0] ∧ sl = [(1, vp b1 0), (3, vs A11_0 t11 c11_0), (9, vi (((b.defs).length : Nat) : Int)), (10, vi ((s7.2 : Nat) : Int))] ∧ Buf g.b (tyI .i64) 3 (.slice A11_0 (t11).length c11_0) k11_0 t11) ?_ ?_
   ·rintro g12 _ _ t11 e13 ⟨A11_0, c11_0, k11_0, rfl, rfl, h11_0⟩ hS
    have nh11_0 := h11_0.len
    refine wpq_then ?_
    refine xRg ?_
    obtain ⟨q14, hS⟩ := grd_T hS
    have q14p := of_decide_eq_true q14
    refine xV (qAdd .i64 (((s7.2 : Nat) : Int)) (1) (wr64 (by omega))) ?_
    refine xB 1 [] [(1, vp b1 0), (3, vs A11_0 t11 c11_0), (9, vi (((b.defs).length : Nat) : Int)), (10, vi (((s7.2 : Nat) : Int) + 1))] ?_
    refine xRe ?_
    refine wpq_thenN ?_
    refine xSub [(1, vp b1 0), (3, vs A11_0 t11 c11_0), (9, vi (((b.defs).length : Nat) : Int)), (10, vi (((s7.2 : Nat) : Int) + 1))] ?_
    have eS := (Option.some.inj hS).symm
    exact hN7 _ eS _ _ _ e13 ⟨A11_0, c11_0, k11_0, by kernel_rfl, by kernel_rfl, h11_0⟩
   ·intro uu11 hS hN11
    refine xBl 1 ?_
    refine xSq ?_
    refine xRg ?_
    refine xB 2 [] [(1, vp b1 0), (3, vs A7_0 s7.1 c7_0), (4, vi ((s7.2 : Nat) : Int)), (9, vi (((b.defs).length : Nat) : Int)), (10, vi ((s7.2 : Nat) : Int))] ?_
    refine xRe ?_
    refine wpq_then ?_
    refine xSq ?_
    refine xSq ?_
    refine xRg ?_
    refine xB 2 [(0, 0)] [(1, vp b1 0), (3, vs A7_0 s7.1 c7_0), (4, vi ((s7.2 : Nat) : Int)), (9, vi (((b.defs).length : Nat) : Int)), (10, vi ((s7.2 : Nat) : Int)), (13, Value.agg #[vs Ab_defs b.defs cb_defs, vi b.steps, vy b.phase, vs Ab_onset b.onset cb_onset, vs Ab_acked b.acked cb_acked]), (14, vi ((s7.2 : Nat) : Int))] ?_
    have fb_defs := fb_defs.mono e9.r
    have fb_onset := fb_onset.mono e9.r
    have fb_acked := fb_acked.mono e9.r
    obtain ⟨y15, hy15, hS⟩ := bindO_T hS
    refine xE (eC 0 (fun g' lr eb ln => c57 g' b Ab_defs cb_defs Ab_onset cb_onset Ab_acked cb_acked (((s7.2 : Nat) : Int) : Int) (fb_defs.mono lr) (fb_onset.mono lr) (fb_acked.mono lr) hy15)) ?_
    rintro _ g16 _ e17 ⟨_, rfl, rfl, rfl⟩
    refine xB 1 [] [(1, vp b1 0), (3, vs A7_0 s7.1 c7_0), (4, vi ((s7.2 : Nat) : Int)), (9, vi (((b.defs).length : Nat) : Int)), (10, vi ((s7.2 : Nat) : Int)), (16, vb (!y15))] ?_
    refine xRe ?_
    refine wpq_then ?_
    refine xCd ((!y15)) (fun h18 => ?_) (fun h18 => ?_)
    ·have hS := cond_T h18 hS
     have h18n := not_eq_true_ h18
     refine xEx 1 ?_
     refine wpq_thenX ?_
     refine wpq_blockE ?_
     have h7_0 := h7_0.mono e17.b
     refine xSub [(1, vp b1 0), (3, vs A7_0 s7.1 c7_0), (9, vi (((b.defs).length : Nat) : Int)), (10, vi ((s7.2 : Nat) : Int))] ?_
     have eS := (Option.some.inj hS).symm
     exact hN11 _ eS _ _ _ e17 ⟨A7_0, c7_0, k7_0, by kernel_rfl, by kernel_rfl, h7_0⟩
    ·have hS := cond_F h18 hS
     have h18n := not_eq_false_ h18
     refine xSk ?_
     refine wpq_then ?_
     refine xSub [(1, vp b1 0), (3, vs A7_0 s7.1 c7_0), (4, vi ((s7.2 : Nat) : Int)), (9, vi (((b.defs).length : Nat) : Int)), (10, vi ((s7.2 : Nat) : Int))] ?_
     refine xSq ?_
     refine xRg ?_
     refine xB 1 [] [(1, vp b1 0), (3, vs A7_0 s7.1 c7_0), (4, vi ((s7.2 : Nat) : Int)), (5, vi 0), (9, vi (((b.defs).length : Nat) : Int)), (10, vi ((s7.2 : Nat) : Int))] ?_
     refine xRe ?_
     refine wpq_then ?_
     refine xSq ?_
     refine xBindO hS (fun g own sl t19 => own = [some ⟨b1, 57, (cRBoard b Ab_defs cb_defs Ab_onset cb_onset Ab_acked cb_acked)⟩, k7_0] ∧ sl = [(1, vp b1 0), (3, vs A7_0 s7.1 c7_0), (4, vi ((s7.2 : Nat) : Int)), (5, vi ((t19 : Nat) : Int)), (9, vi (((b.defs).length : Nat) : Int)), (10, vi ((s7.2 : Nat) : Int))]) ?_ ?_
     ·rintro g20 _ _ t19 e21 ⟨rfl, rfl⟩ hS
      refine wpq_then ?_
      refine xSq ?_
      refine xRg ?_
      refine xE (eBs (T := (tyI .i64)) (p := g20.b) (et := 3) (xs := ([] : List Int)) reps_nil (by simp)) ?_
      rintro _ _ _ - ⟨A22, c22, k22, rfl, rfl, rfl, h22⟩
      refine xB 2 [] [(1, vp b1 0), (3, vs A7_0 s7.1 c7_0), (4, vi ((s7.2 : Nat) : Int)), (5, vi ((t19 : Nat) : Int)), (9, vi (((b.defs).length : Nat) : Int)), (10, vi ((s7.2 : Nat) : Int)), (32, vs A22 ([] : List Int) c22), (33, vs A7_0 s7.1 c7_0), (34, vi ((t19 : Nat) : Int))] ?_
      have h7_0 := h7_0.mono (e17.trans e21).b
      refine wpq_freeze 2 (by kernel_rfl) h7_0 (fun g23 e24 f25 => ?_)
      obtain ⟨q26, hS⟩ := grd_T hS
      have q26p := of_decide_eq_true q26
      have ncapf27 := f25.cap
      have f27 : Arr g23.b (tyI .i64) (offA A7_0 c7_0 0 1) (c7_0 - 0) (List.take t19 s7.1) := f25.cut_to t19 (by omega)
      have nf27 := f27.len
      have hlf27 : t19 - 0 = ((List.take t19 s7.1)).length := by simp only [List.length_take, List.length_drop] <;> omega
      have hvf27 : ((((List.take t19 s7.1)).length : Nat) : Int) = ((t19 : Nat) : Int) - 0 := by omega
      refine xV (qSl (m := 1) (A := A7_0) (len := (s7.1).length) (c := c7_0) 0 t19 none (some ((t19 : Nat) : Int)) ((List.take t19 s7.1)).length rfl rfl (by omega) (by omega) hlf27) ?_
      have h22 := h22.mono e24.b
      obtain ⟨nw28, hp28, hs28⟩ := f27.srcB
      obtain ⟨q29, hS⟩ := grd_T hS
      have q29p := of_decide_eq_true q29
      refine xE (eApp (T := (tyI .i64)) (p := g23.b) (et := 3) (bytes := 8) (xs := ([] : List Int)) (ys := ((List.take t19 s7.1) : List Int)) 0 h22 rfl (fun w hs => hs28 w _ hs) hp28 (by first | omega | (simp only [List.length_cons, List.length_nil] at *; omega)) (by first | omega | (simp only [List.length_cons, List.length_nil] at *; omega))) ?_
      rintro _ _ _ - ⟨A28, c28, k28, rfl, rfl, rfl, h28⟩
      have h28 : Buf g23.b (tyI .i64) 3 (.slice A28 (((List.take t19 s7.1) : List Int)).length c28) k28 ((List.take t19 s7.1) : List Int) := h28
      have nh28 := h28.len
      refine xB 1 [] [(1, vp b1 0), (3, vs A7_0 s7.1 c7_0), (4, vi ((s7.2 : Nat) : Int)), (5, vi ((t19 : Nat) : Int)), (6, vs A28 (List.take t19 s7.1) c28), (9, vi (((b.defs).length : Nat) : Int)), (10, vi ((s7.2 : Nat) : Int))] ?_
      refine xRe ?_
      refine wpq_then ?_
      refine xSq ?_
      refine xRg ?_
      refine xB 2 [] [(1, vp b1 0), (3, vs A7_0 s7.1 c7_0), (5, vi ((t19 : Nat) : Int)), (6, vs A28 (List.take t19 s7.1) c28), (9, vi (((b.defs).length : Nat) : Int)), (10, vi ((s7.2 : Nat) : Int)), (37, vs A28 (List.take t19 s7.1) c28), (38, vi ((s7.2 : Nat) : Int))] ?_
      refine xE (eBs (T := (tyI .i64)) (p := g23.b) (et := 3) (xs := ([(((s7.2 : Nat) : Int) : Int)] : List Int)) (reps_cons (c := [vi ((s7.2 : Nat) : Int)]) (show (tyI .i64).rep _ _ _ from rfl) reps_nil) (by simp)) ?_
      rintro _ _ _ - ⟨A30, c30, k30, rfl, rfl, rfl, h30⟩
      obtain ⟨nw31, hp31, hs31⟩ := h30.srcO (g := g23)
      obtain ⟨q32, hS⟩ := grd_T hS
      have q32p := of_decide_eq_true q32
      refine xE (eApp (T := (tyI .i64)) (p := g23.b) (et := 3) (bytes := 8) (xs := ((List.take t19 s7.1) : List Int)) (ys := (([(((s7.2 : Nat) : Int) : Int)] : List Int) : List Int)) 1 h28 rfl (fun w hs => hs31 0 w _ hs (by kernel_rfl)) hp31 (by first | omega | (simp only [List.length_cons, List.length_nil] at *; omega)) (by first | omega | (simp only [List.length_cons, List.length_nil] at *; omega))) ?_
      rintro _ _ _ - ⟨A31, c31, k31, rfl, rfl, rfl, h31⟩
      have nh31 := h31.len
      have hz31 : (((List.take t19 s7.1) ++ ([(((s7.2 : Nat) : Int) : Int)] : List Int)) : List Int).length = ((List.take t19 s7.1)).length + (([(((s7.2 : Nat) : Int) : Int)] : List Int)).length := List.length_append
      refine xB 1 [] [(1, vp b1 0), (3, vs A7_0 s7.1 c7_0), (5, vi ((t19 : Nat) : Int)), (6, vs A31 ((List.take t19 s7.1) ++ ([(((s7.2 : Nat) : Int) : Int)] : List Int)) c31), (9, vi (((b.defs).length : Nat) : Int)), (10, vi ((s7.2 : Nat) : Int))] ?_
      refine xRe ?_
      refine wpq_then ?_
      refine xRg ?_
      obtain ⟨q33, hS⟩ := grd_T hS
      have q33p := of_decide_eq_true q33
      have ncapf34 := f25.cap
      have f34 : Arr g23.b (tyI .i64) (offA A7_0 c7_0 t19 1) (c7_0 - t19) (List.drop t19 s7.1) := f25.cut_from t19 (by omega)
      have nf34 := f34.len
      have hlf34 : (s7.1).length - t19 = ((List.drop t19 s7.1)).length := by simp only [List.length_take, List.length_drop] <;> omega
      have hvf34 : ((((List.drop t19 s7.1)).length : Nat) : Int) = (((s7.1).length : Nat) : Int) - ((t19 : Nat) : Int) := by omega
      refine xB 3 [] [(1, vp b1 0), (3, vs A7_0 s7.1 c7_0), (9, vi (((b.defs).length : Nat) : Int)), (10, vi ((s7.2 : Nat) : Int)), (41, vs A31 ((List.take t19 s7.1) ++ ([(((s7.2 : Nat) : Int) : Int)] : List Int)) c31), (42, vs A7_0 s7.1 c7_0), (43, vi ((t19 : Nat) : Int))] ?_
      refine xV (qSl (m := 1) (A := A7_0) (len := (s7.1).length) (c := c7_0) t19 (s7.1).length (some ((t19 : Nat) : Int)) none ((List.drop t19 s7.1)).length rfl rfl (by omega) (by omega) hlf34) ?_
      obtain ⟨nw35, hp35, hs35⟩ := f34.srcB
      obtain ⟨q36, hS⟩ := grd_T hS
      have q36p := of_decide_eq_true q36
      refine xE (eApp (T := (tyI .i64)) (p := g23.b) (et := 3) (bytes := 8) (xs := (((List.take t19 s7.1) ++ ([(((s7.2 : Nat) : Int) : Int)] : List Int)) : List Int)) (ys := ((List.drop t19 s7.1) : List Int)) 1 h31 rfl (fun w hs => hs35 w _ hs) hp35 (by first | omega | (simp only [List.length_cons, List.length_nil] at *; omega)) (by first | omega | (simp only [List.length_cons, List.length_nil] at *; omega))) ?_
      rintro _ _ _ - ⟨A35, c35, k35, rfl, rfl, rfl, h35⟩
      have nh35 := h35.len
      have hz35 : ((((List.take t19 s7.1) ++ ([(((s7.2 : Nat) : Int) : Int)] : List Int)) ++ (List.drop t19 s7.1)) : List Int).length = (((List.take t19 s7.1) ++ ([(((s7.2 : Nat) : Int) : Int)] : List Int))).length + ((List.drop t19 s7.1)).length := List.length_append
      refine xB 1 [] [(1, vp b1 0), (3, vs A35 (((List.take t19 s7.1) ++ ([(((s7.2 : Nat) : Int) : Int)] : List Int)) ++ (List.drop t19 s7.1)) c35), (9, vi (((b.defs).length : Nat) : Int)), (10, vi ((s7.2 : Nat) : Int))] ?_
      refine xRe ?_
      refine wpq_blockN ?_
      refine xSel [some 2, some 1] ?_
      refine xSub [(1, vp b1 0), (3, vs A35 (((List.take t19 s7.1) ++ ([(((s7.2 : Nat) : Int) : Int)] : List Int)) ++ (List.drop t19 s7.1)) c35), (9, vi (((b.defs).length : Nat) : Int)), (10, vi ((s7.2 : Nat) : Int))] ?_
      have eS := (Option.some.inj hS).symm
      exact hN11 _ eS _ _ _ (e17.trans (e21.trans e24)) ⟨A35, c35, k35, by kernel_rfl, by kernel_rfl, h35⟩
     ·intro uu19 hS hN19
      refine xBl 2 ?_
      refine xSub [(1, vp b1 0), (3, vs A7_0 s7.1 c7_0), (4, vi ((s7.2 : Nat) : Int)), (5, vi 0), (9, vi (((b.defs).length : Nat) : Int)), (10, vi ((s7.2 : Nat) : Int))] ?_
      refine xLo hS (fun g own sl s39 => own = [some ⟨b1, 57, (cRBoard b Ab_defs cb_defs Ab_onset cb_onset Ab_acked cb_acked)⟩, k7_0] ∧ sl = [(1, vp b1 0), (3, vs A7_0 s7.1 c7_0), (4, vi ((s7.2 : Nat) : Int)), (5, vi ((s39 : Nat) : Int)), (9, vi (((b.defs).length : Nat) : Int)), (10, vi ((s7.2 : Nat) : Int))]) ⟨by kernel_rfl, by kernel_rfl⟩ ?_
      rintro g40 _ _ s39 uu39 e41 ⟨rfl, rfl⟩ hS Qr39 hN39 hD39
      unfold o50_L1 at hS
      refine xSq ?_
      refine xSq ?_
      refine xDr 0 [5, 9] [] [some ⟨b1, 57, (cRBoard b Ab_defs cb_defs Ab_onset cb_onset Ab_acked cb_acked)⟩, k7_0] 13 (fun RG => ?_) (fun _ _ _ _ _ h => h)
      refine xT 8 [0, 1, 2, 3, 4] [] [some 0, some 1] [(1, vp b1 0), (3, vs A7_0 s7.1 c7_0), (4, vi ((s7.2 : Nat) : Int)), (5, vi ((s39 : Nat) : Int)), (9, vi (((b.defs).length : Nat) : Int)), (10, vi ((s7.2 : Nat) : Int)), (21, vb (decide (((s39 : Nat) : Int) < (((s7.1).length : Nat) : Int))))] RG (Psi.le.refl _) ?_
      refine xGJoA hS 0 [true, true, true, true, true, true, true, true, true, true, true, true, true] (fun g own sl t42 => own = [some ⟨b1, 57, (cRBoard b Ab_defs cb_defs Ab_onset cb_onset Ab_acked cb_acked)⟩, k7_0] ∧ sl = [(1, vp b1 0), (3, vs A7_0 s7.1 c7_0), (4, vi ((s7.2 : Nat) : Int)), (5, vi ((s39 : Nat) : Int)), (9, vi (((b.defs).length : Nat) : Int)), (10, vi ((s7.2 : Nat) : Int)), (29, vb t42)]) ?_ ?_
      ·rintro g43 _ _ t42 e44 ⟨rfl, rfl⟩ hS
       refine xAe (lds := [5, 9]) ?_
       refine wpq_then ?_
       refine xCd (t42) (fun h45 => ?_) (fun h45 => ?_)
       ·have hS := cond_T h45 hS
        refine xSk ?_
        refine wpq_then ?_
        refine xSub [(1, vp b1 0), (3, vs A7_0 s7.1 c7_0), (4, vi ((s7.2 : Nat) : Int)), (5, vi ((s39 : Nat) : Int)), (9, vi (((b.defs).length : Nat) : Int)), (10, vi ((s7.2 : Nat) : Int))] ?_
        refine xBl 3 ?_
        refine xRg ?_
        obtain ⟨q46, hS⟩ := grd_T hS
        have q46p := of_decide_eq_true q46
        refine xB 1 [] [(1, vp b1 0), (3, vs A7_0 s7.1 c7_0), (4, vi ((s7.2 : Nat) : Int)), (5, vi ((s39 : Nat) : Int)), (9, vi (((b.defs).length : Nat) : Int)), (10, vi ((s7.2 : Nat) : Int)), (30, vi ((s39 : Nat) : Int))] ?_
        refine xV (qAdd .i64 (((s39 : Nat) : Int)) (1) (wr64 (by omega))) ?_
        refine xB 1 [] [(1, vp b1 0), (3, vs A7_0 s7.1 c7_0), (4, vi ((s7.2 : Nat) : Int)), (5, vi (((s39 : Nat) : Int) + 1)), (9, vi (((b.defs).length : Nat) : Int)), (10, vi ((s7.2 : Nat) : Int))] ?_
        refine xRe ?_
        refine wpq_blockN ?_
        refine wpq_thenN ?_
        refine xSub [(1, vp b1 0), (3, vs A7_0 s7.1 c7_0), (4, vi ((s7.2 : Nat) : Int)), (5, vi (((s39 : Nat) : Int) + 1)), (9, vi (((b.defs).length : Nat) : Int)), (10, vi ((s7.2 : Nat) : Int))] ?_
        have eS := (Option.some.inj hS).symm
        exact hN39 _ eS _ _ _ e44 ⟨by kernel_rfl, by kernel_rfl⟩
       ·have hS := cond_F h45 hS
        refine xEx 2 ?_
        refine wpq_thenX ?_
        refine wpq_thenX ?_
        refine wpq_blockE ?_
        refine xSub [(1, vp b1 0), (3, vs A7_0 s7.1 c7_0), (4, vi ((s7.2 : Nat) : Int)), (5, vi ((s39 : Nat) : Int)), (9, vi (((b.defs).length : Nat) : Int)), (10, vi ((s7.2 : Nat) : Int))] ?_
        have eS := (Option.some.inj hS).symm
        have eS := (hD39 _ eS).symm
        exact hN19 _ eS _ _ _ (e41.trans e44) ⟨by kernel_rfl, by kernel_rfl⟩
      ·intro uu42 hS hN42
       refine wpq_split 21 (b := decide (((s39 : Nat) : Int) < (((s7.1).length : Nat) : Int))) (by kernel_rfl) (fun q47 => ?_) (fun q47 => ?_)
       ·have hS := cond_T q47 hS
        have q47p := of_decide_eq_true q47
        have h7_0 := h7_0.mono (e17.trans e41).b
        have i49 : s39 < (s7.1).length := by omega
        obtain ⟨kc48, cs48, hA48, hk48, hr48, hw48⟩ := h7_0.open_ i49 0
        obtain ⟨kb48, rfl⟩ : ∃ z, z = kc48 := ⟨_, rfl⟩
        subst hk48
        have hr48 : cs48 = [vi (List.getD s7.1 s39 0)] := hr48
        subst hr48
        refine xT 5 [5, 6, 7] [(5, 0)] [some 0, some 1] [(1, vp b1 0), (3, vs A7_0 s7.1 c7_0), (4, vi ((s7.2 : Nat) : Int)), (5, vi ((s39 : Nat) : Int)), (9, vi (((b.defs).length : Nat) : Int)), (10, vi ((s7.2 : Nat) : Int)), (21, vb true), (22, Value.agg #[vs Ab_defs b.defs cb_defs, vi b.steps, vy b.phase, vs Ab_onset b.onset cb_onset, vs Ab_acked b.acked cb_acked]), (23, vs A7_0 s7.1 c7_0), (24, vi ((s39 : Nat) : Int))] RG (Psi.le.refl _) ?_
        refine xTp 8 RG (fun _ => (qIxB s39 1 kb48.g hA48 rfl i49)) ?_
        refine xTv 9 [some 0, some 1] RG (Psi.le.refl _) (qLdB s39 1 0 1 hw48) ?_
        refine xT 2 [10] [] [some 0, some 1] [(1, vp b1 0), (3, vs A7_0 s7.1 c7_0), (4, vi ((s7.2 : Nat) : Int)), (5, vi ((s39 : Nat) : Int)), (9, vi (((b.defs).length : Nat) : Int)), (10, vi ((s7.2 : Nat) : Int)), (21, vb true), (22, Value.agg #[vs Ab_defs b.defs cb_defs, vi b.steps, vy b.phase, vs Ab_onset b.onset cb_onset, vs Ab_acked b.acked cb_acked]), (26, vi (List.getD s7.1 s39 0)), (27, vi ((s7.2 : Nat) : Int))] RG (Psi.le.refl _) ?_
        have fb_defs := fb_defs.mono (e17.trans e41).r
        have fb_onset := fb_onset.mono (e17.trans e41).r
        have fb_acked := fb_acked.mono (e17.trans e41).r
        obtain ⟨y50, hy50, hS⟩ := bindO_T hS
        refine xO1 (lds := [5, 9]) 11 ?_
        refine xIe (lds := [5, 9]) (Psi.le.refl _) (eC 0 (fun g' lr eb ln => c64 g' b Ab_defs cb_defs Ab_onset cb_onset Ab_acked cb_acked ((List.getD s7.1 s39 0) : Int) (((s7.2 : Nat) : Int) : Int) (fb_defs.mono lr) (fb_onset.mono lr) (fb_acked.mono lr) hy50)) ?_
        rintro _ g51 _ e52 ⟨_, rfl, rfl, rfl⟩
        refine kk [some 0, some 1] ?_
        refine xT 0 [12] [] [some 0, some 1] [(1, vp b1 0), (3, vs A7_0 s7.1 c7_0), (4, vi ((s7.2 : Nat) : Int)), (5, vi ((s39 : Nat) : Int)), (9, vi (((b.defs).length : Nat) : Int)), (10, vi ((s7.2 : Nat) : Int)), (29, vb y50)] RG e52.r ?_
        refine xSub [(1, vp b1 0), (3, vs A7_0 s7.1 c7_0), (4, vi ((s7.2 : Nat) : Int)), (5, vi ((s39 : Nat) : Int)), (9, vi (((b.defs).length : Nat) : Int)), (10, vi ((s7.2 : Nat) : Int)), (29, vb y50)] ?_
        exact hN42 _ (Option.some.inj hS).symm _ _ _ e52 ⟨by kernel_rfl, by kernel_rfl⟩
       ·have hS := cond_F q47 hS
        have q47p := of_decide_eq_false q47
        refine xT 2 [5, 6, 7, 8, 9, 10] [] [some 0, some 1] [(1, vp b1 0), (3, vs A7_0 s7.1 c7_0), (4, vi ((s7.2 : Nat) : Int)), (5, vi ((s39 : Nat) : Int)), (9, vi (((b.defs).length : Nat) : Int)), (10, vi ((s7.2 : Nat) : Int)), (21, vb false), (22, undef), (26, undef), (27, undef)] RG (Psi.le.refl _) ?_
        refine xO1 (lds := [5, 9]) 11 ?_
        refine xIb (lds := [5, 9]) [] ?_
        refine xT 0 [12] [] [some 0, some 1] [(1, vp b1 0), (3, vs A7_0 s7.1 c7_0), (4, vi ((s7.2 : Nat) : Int)), (5, vi ((s39 : Nat) : Int)), (9, vi (((b.defs).length : Nat) : Int)), (10, vi ((s7.2 : Nat) : Int)), (29, vb false)] RG (Psi.le.refl _) ?_
        refine xSub [(1, vp b1 0), (3, vs A7_0 s7.1 c7_0), (4, vi ((s7.2 : Nat) : Int)), (5, vi ((s39 : Nat) : Int)), (9, vi (((b.defs).length : Nat) : Int)), (10, vi ((s7.2 : Nat) : Int)), (29, vb false)] ?_
        exact hN42 _ (Option.some.inj hS).symm _ _ _ (Gh.le.refl _) ⟨by kernel_rfl, by kernel_rfl⟩
  ·have hS := cond_F h10 hS
   have h10p := of_decide_eq_false h10
   refine xEx 0 ?_
   refine wpq_thenX ?_
   refine wpq_thenX ?_
   refine wpq_blockE ?_
   refine xSel [some 1] ?_
   refine xSub [(3, vs A7_0 s7.1 c7_0)] ?_
   have eS := (Option.some.inj hS).symm
   have eS := (hD7 _ eS).symm
   exact hN2 _ eS _ _ _ e9 ⟨A7_0, c7_0, k7_0, by kernel_rfl, by kernel_rfl, h7_0⟩

def o31_L0 (y3 : (List Int)) (s11 : Nat × RBoard) : Option (Ctl (Nat × RBoard) (RBoard)) :=
 (cond (decide (((s11.1 : Nat) : Int) < (((y3).length : Nat) : Int))) (bindO (τ := RBoard × Int) (o30 s11.2 ((List.getD y3 s11.1 0) : Int)) fun y17 => (grd (decide (((s11.1 : Nat) : Int) + 1 ≤ 9223372036854775807)) (some (Ctl.go ((s11.1 + 1), (y17.1 : RBoard)))))) (some (Ctl.done ((s11.2 : RBoard)))))
def o31 (b : RBoard) : Option (RBoard × Int) :=
 (bindO (τ := (List Int)) (o50 b) fun y3 => (bindO (τ := RBoard) (loopO (σ := Nat × RBoard) (ρ := RBoard) fuelN (o31_L0 y3) (0, (b : RBoard))) fun t6 => (some ((t6, ((((y3).length : Nat) : Int) : Int))))))
set_option maxRecDepth 100000 in
theorem c31 (g : Gh) (b : RBoard) (Ab_defs : Option Addr) (cb_defs : Nat) (Ab_onset : Option Addr) (cb_onset : Nat) (Ab_acked : Option Addr) (cb_acked : Nat) (fb_defs : Arr g.b tyAlertDef Ab_defs cb_defs b.defs) (fb_onset : Arr g.b (tyI .i64) Ab_onset cb_onset b.onset) (fb_acked : Arr g.b tyB Ab_acked cb_acked b.acked) {r : RBoard × Int} (hS : o31 b = some r) :
  Ctr Try.prog 31 [Value.agg #[vs Ab_defs b.defs cb_defs, vi b.steps, vy b.phase, vs Ab_onset b.onset cb_onset, vs Ab_acked b.acked cb_acked]] g [] (fun v ψ o => ∃ (Ar_0_defs : Option Addr) (cr_0_defs : Nat) (Ar_0_onset : Option Addr) (cr_0_onset : Nat) (Ar_0_acked : Option Addr) (cr_0_acked : Nat), v = Value.tuple #[Value.agg #[vs Ar_0_defs r.1.defs cr_0_defs, vi r.1.steps, vy r.1.phase, vs Ar_0_onset r.1.onset cr_0_onset, vs Ar_0_acked r.1.acked cr_0_acked], vi r.2] ∧ o = [] ∧ Arr ψ tyAlertDef Ar_0_defs cr_0_defs r.1.defs ∧ Arr ψ (tyI .i64) Ar_0_onset cr_0_onset r.1.onset ∧ Arr ψ tyB Ar_0_acked cr_0_acked r.1.acked) := by
 unfold o31 at hS
 refine xFn Try.f31 (Try.f31.body.getD .skip) 25 ?_
 have nfb_defs := fb_defs.len
 have nfb_onset := fb_onset.len
 have nfb_acked := fb_acked.len
 refine xSq ?_
 refine xRg ?_
 refine xE eB ?_
 rintro _ _ _ - ⟨b1, rfl, rfl, rfl⟩
 refine xE eB ?_
 rintro _ _ _ - ⟨b2, rfl, rfl, rfl⟩
 refine xB 1 [] [(1, vp b1 0), (2, vp b2 0)] ?_
 refine xRe ?_
 refine wpq_then ?_
 refine xSq ?_
 refine xRg ?_
 refine xB 1 [(0, 1)] [(1, vp b1 0), (2, vp b2 0), (7, Value.agg #[vs Ab_defs b.defs cb_defs, vi b.steps, vy b.phase, vs Ab_onset b.onset cb_onset, vs Ab_acked b.acked cb_acked])] ?_
 obtain ⟨y3, hy3, hS⟩ := bindO_T hS
 refine xE (eC 0 (fun g' lr eb ln => c50 g' b Ab_defs cb_defs Ab_onset cb_onset Ab_acked cb_acked ((fb_defs.mono g.br).mono lr) ((fb_onset.mono g.br).mono lr) ((fb_acked.mono g.br).mono lr) hy3)) ?_
 rintro _ g4 _ e5 ⟨_, rfl, A3_0, c3_0, k3_0, rfl, rfl, h3_0⟩
 have nh3_0 := h3_0.len
 refine xB 1 [] [(1, vp b1 0), (2, vp b2 0), (4, vs A3_0 y3 c3_0)] ?_
 refine xRe ?_
 refine wpq_then ?_
 refine xSq ?_
 refine xSq ?_
 refine xRg ?_
 refine xB 3 [] [(1, vp b1 0), (2, vp b2 0), (4, vs A3_0 y3 c3_0), (9, vs A3_0 y3 c3_0), (10, vi (((y3).length : Nat) : Int)), (11, vi 0)] ?_
 refine xRe ?_
 refine wpq_then ?_
 refine xBindO hS (fun g own sl t6 => ∃ (A6_0_defs : Option Addr) (c6_0_defs : Nat) (A6_0_onset : Option Addr) (c6_0_onset : Nat) (A6_0_acked : Option Addr) (c6_0_acked : Nat), own = [some ⟨b2, 57, (cRBoard (⟨([] : List AlertDef), 0, 0, ([] : List Int), ([] : List Bool)⟩ : RBoard) none 0 none 0 none 0)⟩, some ⟨b1, 57, (cRBoard t6 A6_0_defs c6_0_defs A6_0_onset c6_0_onset A6_0_acked c6_0_acked)⟩, k3_0] ∧ sl = [(1, vp b1 0), (2, vp b2 0), (4, vs A3_0 y3 c3_0)] ∧ Arr g.b tyAlertDef A6_0_defs c6_0_defs t6.defs ∧ Arr g.b (tyI .i64) A6_0_onset c6_0_onset t6.onset ∧ Arr g.b tyB A6_0_acked c6_0_acked t6.acked) ?_ ?_
 ·rintro g7 _ _ t6 e8 ⟨A6_0_defs, c6_0_defs, A6_0_onset, c6_0_onset, A6_0_acked, c6_0_acked, rfl, rfl, f6_0_defs, f6_0_onset, f6_0_acked⟩ hS
  have nf6_0_defs := f6_0_defs.len
  have nf6_0_onset := f6_0_onset.len
  have nf6_0_acked := f6_0_acked.len
  refine wpq_then ?_
  refine xSq ?_
  refine xRg ?_
  refine xBo 5 [(0, 1), (3, 0)] [some ⟨b2, 57, (cRBoard t6 A6_0_defs c6_0_defs A6_0_onset c6_0_onset A6_0_acked c6_0_acked)⟩, some ⟨b1, 57, (cRBoard t6 A6_0_defs c6_0_defs A6_0_onset c6_0_onset A6_0_acked c6_0_acked)⟩, k3_0] [(2, vp b2 0), (3, vi (((y3).length : Nat) : Int))] ?_
  refine xRe ?_
  refine wpq_then ?_
  have eS := (Option.some.inj hS).symm
  subst eS
  exact xRetC [] [(2, 0)] (e5.trans e8) ⟨A6_0_defs, c6_0_defs, A6_0_onset, c6_0_onset, A6_0_acked, c6_0_acked, by kernel_rfl, by kernel_rfl, f6_0_defs, f6_0_onset, f6_0_acked⟩ (fun _ _ h => h)
 ·intro uu6 hS hN6
  refine xBl 0 ?_
  have fb_defs := fb_defs.mono e5.b
  have fb_onset := fb_onset.mono e5.b
  have fb_acked := fb_acked.mono e5.b
  refine xSel [some 1, some 2, some 0] ?_
  refine xSub [(1, vp b1 0), (2, vp b2 0), (4, vs A3_0 y3 c3_0), (9, vs A3_0 y3 c3_0), (10, vi (((y3).length : Nat) : Int)), (11, vi 0)] ?_
  refine xLo hS (fun g own sl s11 => ∃ (A11_1_defs : Option Addr) (c11_1_defs : Nat) (A11_1_onset : Option Addr) (c11_1_onset : Nat) (A11_1_acked : Option Addr) (c11_1_acked : Nat), own = [some ⟨b2, 57, (cRBoard (⟨([] : List AlertDef), 0, 0, ([] : List Int), ([] : List Bool)⟩ : RBoard) none 0 none 0 none 0)⟩, some ⟨b1, 57, (cRBoard s11.2 A11_1_defs c11_1_defs A11_1_onset c11_1_onset A11_1_acked c11_1_acked)⟩, k3_0] ∧ sl = [(1, vp b1 0), (2, vp b2 0), (4, vs A3_0 y3 c3_0), (9, vs A3_0 y3 c3_0), (10, vi (((y3).length : Nat) : Int)), (11, vi ((s11.1 : Nat) : Int))] ∧ Arr g.b tyAlertDef A11_1_defs c11_1_defs s11.2.defs ∧ Arr g.b (tyI .i64) A11_1_onset c11_1_onset s11.2.onset ∧ Arr g.b tyB A11_1_acked c11_1_acked s11.2.acked) ⟨Ab_defs, cb_defs, Ab_onset, cb_onset, Ab_acked, cb_acked, by kernel_rfl, by kernel_rfl, fb_defs, fb_onset, fb_acked⟩ ?_
  rintro g12 _ _ s11 uu11 e13 ⟨A11_1_defs, c11_1_defs, A11_1_onset, c11_1_onset, A11_1_acked, c11_1_acked, rfl, rfl, f11_1_defs, f11_1_onset, f11_1_acked⟩ hS Qr11 hN11 hD11
  have nf11_1_defs := f11_1_defs.len
  have nf11_1_onset := f11_1_onset.len
  have nf11_1_acked := f11_1_acked.len
  unfold o31_L0 at hS
  refine xSq ?_
  refine xRg ?_
  refine xB 1 [] [(1, vp b1 0), (2, vp b2 0), (4, vs A3_0 y3 c3_0), (9, vs A3_0 y3 c3_0), (10, vi (((y3).length : Nat) : Int)), (11, vi ((s11.1 : Nat) : Int)), (12, vb (decide (((s11.1 : Nat) : Int) < (((y3).length : Nat) : Int))))] ?_
  refine xRe ?_
  refine wpq_then ?_
  refine xSq ?_
  refine xCd (decide (((s11.1 : Nat) : Int) < (((y3).length : Nat) : Int))) (fun h14 => ?_) (fun h14 => ?_)
  ·have hS := cond_T h14 hS
   have h14p := of_decide_eq_true h14
   refine xSk ?_
   refine wpq_then ?_
   refine xSub [(1, vp b1 0), (2, vp b2 0), (4, vs A3_0 y3 c3_0), (9, vs A3_0 y3 c3_0), (10, vi (((y3).length : Nat) : Int)), (11, vi ((s11.1 : Nat) : Int))] ?_
   refine xSq ?_
   refine xBl 1 ?_
   refine xSq ?_
   refine xRg ?_
   have h3_0 := h3_0.mono e13.b
   have i16 : s11.1 < (y3).length := by omega
   obtain ⟨kc15, cs15, hA15, hk15, hr15, hw15⟩ := h3_0.open_ i16 0
   obtain ⟨kb15, rfl⟩ : ∃ z, z = kc15 := ⟨_, rfl⟩
   subst hk15
   have hr15 : cs15 = [vi (List.getD y3 s11.1 0)] := hr15
   subst hr15
   refine xV (qIxB s11.1 1 kb15.g hA15 rfl i16) ?_
   refine xV (qLdB s11.1 1 0 2 hw15) ?_
   refine xB 1 [] [(1, vp b1 0), (2, vp b2 0), (4, vs A3_0 y3 c3_0), (6, vi (List.getD y3 s11.1 0)), (9, vs A3_0 y3 c3_0), (10, vi (((y3).length : Nat) : Int)), (11, vi ((s11.1 : Nat) : Int))] ?_
   refine xRe ?_
   refine wpq_then ?_
   refine xRg ?_
   refine xB 2 [(0, 1)] [(1, vp b1 0), (2, vp b2 0), (4, vs A3_0 y3 c3_0), (9, vs A3_0 y3 c3_0), (10, vi (((y3).length : Nat) : Int)), (11, vi ((s11.1 : Nat) : Int)), (16, Value.agg #[vs A11_1_defs s11.2.defs c11_1_defs, vi s11.2.steps, vy s11.2.phase, vs A11_1_onset s11.2.onset c11_1_onset, vs A11_1_acked s11.2.acked c11_1_acked]), (17, vi (List.getD y3 s11.1 0))] ?_
   obtain ⟨y17, hy17, hS⟩ := bindO_T hS
   refine xE (eC 0 (fun g' lr eb ln => c30 g' s11.2 A11_1_defs c11_1_defs A11_1_onset c11_1_onset A11_1_acked c11_1_acked ((List.getD y3 s11.1 0) : Int) (by rw [eb]; exact f11_1_defs) (by rw [eb]; exact f11_1_onset) (by rw [eb]; exact f11_1_acked) hy17)) ?_
   rintro _ g18 _ e19 ⟨_, rfl, A17_0_defs, c17_0_defs, A17_0_onset, c17_0_onset, A17_0_acked, c17_0_acked, rfl, rfl, f17_0_defs, f17_0_onset, f17_0_acked⟩
   have nf17_0_defs := f17_0_defs.len
   have nf17_0_onset := f17_0_onset.len
   have nf17_0_acked := f17_0_acked.len
   refine xBo 4 [(6, 1)] [some ⟨b2, 57, (cRBoard (⟨([] : List AlertDef), 0, 0, ([] : List Int), ([] : List Bool)⟩ : RBoard) none 0 none 0 none 0)⟩, some ⟨b1, 57, (cRBoard y17.1 A17_0_defs c17_0_defs A17_0_onset c17_0_onset A17_0_acked c17_0_acked)⟩, (some kb15)] [(1, vp b1 0), (2, vp b2 0), (4, vs A3_0 y3 c3_0), (9, vs A3_0 y3 c3_0), (10, vi (((y3).length : Nat) : Int)), (11, vi ((s11.1 : Nat) : Int))] ?_
   refine xRe ?_
   refine wpq_blockN ?_
   refine wpq_then ?_
   refine xRg ?_
   obtain ⟨q20, hS⟩ := grd_T hS
   have q20p := of_decide_eq_true q20
   refine xV (qAdd .i64 (((s11.1 : Nat) : Int)) (1) (wr64 (by omega))) ?_
   refine xB 1 [] [(1, vp b1 0), (2, vp b2 0), (4, vs A3_0 y3 c3_0), (9, vs A3_0 y3 c3_0), (10, vi (((y3).length : Nat) : Int)), (11, vi (((s11.1 : Nat) : Int) + 1))] ?_
   refine xRe ?_
   refine wpq_thenN ?_
   refine xSub [(1, vp b1 0), (2, vp b2 0), (4, vs A3_0 y3 c3_0), (9, vs A3_0 y3 c3_0), (10, vi (((y3).length : Nat) : Int)), (11, vi (((s11.1 : Nat) : Int) + 1))] ?_
   have eS := (Option.some.inj hS).symm
   exact hN11 _ eS _ _ _ e19 ⟨A17_0_defs, c17_0_defs, A17_0_onset, c17_0_onset, A17_0_acked, c17_0_acked, by kernel_rfl, by kernel_rfl, f17_0_defs, f17_0_onset, f17_0_acked⟩
  ·have hS := cond_F h14 hS
   have h14p := of_decide_eq_false h14
   refine xEx 0 ?_
   refine wpq_thenX ?_
   refine wpq_thenX ?_
   refine wpq_blockE ?_
   refine xSub [(1, vp b1 0), (2, vp b2 0), (4, vs A3_0 y3 c3_0)] ?_
   have eS := (Option.some.inj hS).symm
   have eS := (hD11 _ eS).symm
   exact hN6 _ eS _ _ _ e13 ⟨A11_1_defs, c11_1_defs, A11_1_onset, c11_1_onset, A11_1_acked, c11_1_acked, by kernel_rfl, by kernel_rfl, f11_1_defs, f11_1_onset, f11_1_acked⟩

def o47_L0 (n : Int) (s7 : (List UInt8) × Nat) : Option (Ctl ((List UInt8) × Nat) ((List UInt8))) :=
 (cond (decide (((s7.2 : Nat) : Int) < ((((List.replicate 8 (0 : UInt8))).length : Nat) : Int))) (grd (decide (0 ≤ (IntKind.i64.wrap (8 * ((s7.2 : Nat) : Int))))) (grd (decide (s7.2 < (s7.1).length)) (grd (decide (((s7.2 : Nat) : Int) + 1 ≤ 9223372036854775807)) (some (Ctl.go (((List.set s7.1 s7.2 (u8 (IntKind.u8.wrap (shrK .i64 n (IntKind.i64.wrap (8 * ((s7.2 : Nat) : Int))))))) : List UInt8), (s7.2 + 1))))))) (some (Ctl.done ((s7.1 : List UInt8)))))
def o47 (n : Int) : Option ((List UInt8)) :=
 (bindO (τ := (List UInt8)) (loopO (σ := (List UInt8) × Nat) (ρ := (List UInt8)) fuelN (o47_L0 n) (((List.replicate 8 (0 : UInt8)) : List UInt8), 0)) fun t2 => (some ((t2 : List UInt8))))
set_option maxRecDepth 100000 in
theorem c47 (g : Gh) (n : Int) {r : (List UInt8)} (hS : o47 n = some r) :
  Ctr Try.prog 47 [vi n] g [] (fun v ψ o => ∃ (Ar_0 : Option Addr) (cr_0 : Nat) (kr_0 : Option Bk), v = vs Ar_0 r cr_0 ∧ o = [kr_0] ∧ Buf ψ tyU8 5 (.slice Ar_0 (r).length cr_0) kr_0 r) := by
 unfold o47 at hS
 refine xFn Try.f47 (Try.f47.body.getD .skip) 21 ?_
 refine xSq ?_
 refine xRg ?_
 refine xB 1 [] [(0, vi n)] ?_
 refine xRe ?_
 refine wpq_then ?_
 refine xSq ?_
 refine xRg ?_
 refine xE (eMk (T := tyU8) (p := g.b) (et := 5) (bytes := 1) (z := (0 : UInt8)) 8 rfl (show tyU8.rep _ _ _ from rfl) (by omega) (by omega)) ?_
 rintro _ _ _ - ⟨A1, c1, k1, rfl, rfl, rfl, h1⟩
 have nh1 := h1.len
 have hlh1 : ((List.replicate 8 (0 : UInt8))).length = 8 := List.length_replicate
 refine xB 1 [] [(0, vi n), (3, vs A1 (List.replicate 8 (0 : UInt8)) c1)] ?_
 refine xRe ?_
 refine wpq_then ?_
 refine xSq ?_
 refine xSq ?_
 refine xRg ?_
 refine xB 3 [] [(0, vi n), (3, vs A1 (List.replicate 8 (0 : UInt8)) c1), (7, vi ((((List.replicate 8 (0 : UInt8))).length : Nat) : Int)), (8, vi 0)] ?_
 refine xRe ?_
 refine wpq_then ?_
 refine xBindO hS (fun g own sl t2 => ∃ (k2_0 : Option Bk), own = [k2_0] ∧ sl = [(3, vs A1 t2 c1)] ∧ Buf g.b tyU8 5 (.slice A1 (t2).length c1) k2_0 t2) ?_ ?_
 ·rintro g3 _ _ t2 e4 ⟨k2_0, rfl, rfl, h2_0⟩ hS
  have nh2_0 := h2_0.len
  refine wpq_then ?_
  refine xSq ?_
  refine xRg ?_
  refine xB 2 [] [(2, vs A1 t2 c1)] ?_
  refine xRe ?_
  refine wpq_then ?_
  have eS := (Option.some.inj hS).symm
  subst eS
  exact xRet [some 0] [2] e4 ⟨A1, c1, k2_0, by kernel_rfl, by kernel_rfl, h2_0⟩ (fun _ _ h => h)
 ·intro uu2 hS hN2
  refine xBl 0 ?_
  refine xSub [(0, vi n), (3, vs A1 (List.replicate 8 (0 : UInt8)) c1), (7, vi ((((List.replicate 8 (0 : UInt8))).length : Nat) : Int)), (8, vi 0)] ?_
  refine xLo hS (fun g own sl s7 => ∃ (k7_0 : Option Bk), own = [k7_0] ∧ sl = [(0, vi n), (3, vs A1 s7.1 c1), (7, vi ((((List.replicate 8 (0 : UInt8))).length : Nat) : Int)), (8, vi ((s7.2 : Nat) : Int))] ∧ Buf g.b tyU8 5 (.slice A1 (s7.1).length c1) k7_0 s7.1) ⟨k1, by kernel_rfl, by kernel_rfl, h1⟩ ?_
  rintro g8 _ _ s7 uu7 e9 ⟨k7_0, rfl, rfl, h7_0⟩ hS Qr7 hN7 hD7
  have nh7_0 := h7_0.len
  unfold o47_L0 at hS
  refine xSq ?_
  refine xRg ?_
  refine xB 1 [] [(0, vi n), (3, vs A1 s7.1 c1), (7, vi ((((List.replicate 8 (0 : UInt8))).length : Nat) : Int)), (8, vi ((s7.2 : Nat) : Int)), (9, vb (decide (((s7.2 : Nat) : Int) < ((((List.replicate 8 (0 : UInt8))).length : Nat) : Int))))] ?_
  refine xRe ?_
  refine wpq_then ?_
  refine xSq ?_
  refine xCd (decide (((s7.2 : Nat) : Int) < ((((List.replicate 8 (0 : UInt8))).length : Nat) : Int))) (fun h10 => ?_) (fun h10 => ?_)
  ·have hS := cond_T h10 hS
   have h10p := of_decide_eq_true h10
   refine xSk ?_
   refine wpq_then ?_
   refine xSub [(0, vi n), (3, vs A1 s7.1 c1), (7, vi ((((List.replicate 8 (0 : UInt8))).length : Nat) : Int)), (8, vi ((s7.2 : Nat) : Int))] ?_
   refine xSq ?_
   refine xBl 1 ?_
   refine xSq ?_
   refine xRg ?_
   refine xB 2 [] [(0, vi n), (3, vs A1 s7.1 c1), (4, vi ((s7.2 : Nat) : Int)), (7, vi ((((List.replicate 8 (0 : UInt8))).length : Nat) : Int)), (8, vi ((s7.2 : Nat) : Int))] ?_
   refine xRe ?_
   refine wpq_then ?_
   refine xRg ?_
   have z23 := i64_in_ (8 * ((s7.2 : Nat) : Int))
   obtain ⟨q11, hS⟩ := grd_T hS
   have q11p := of_decide_eq_true q11
   refine xB 5 [] [(0, vi n), (3, vs A1 s7.1 c1), (7, vi ((((List.replicate 8 (0 : UInt8))).length : Nat) : Int)), (8, vi ((s7.2 : Nat) : Int)), (11, vs A1 s7.1 c1), (12, vi ((s7.2 : Nat) : Int)), (13, vi n), (15, vi (IntKind.i64.wrap (8 * ((s7.2 : Nat) : Int))))] ?_
   refine xV (qShr .i64 .i64 (n) ((IntKind.i64.wrap (8 * ((s7.2 : Nat) : Int)))) (by omega)) ?_
   have z24 := u8_in_ (shrK .i64 n (IntKind.i64.wrap (8 * ((s7.2 : Nat) : Int))))
   obtain ⟨q13, hS⟩ := grd_T hS
   have q13p := of_decide_eq_true q13
   obtain ⟨kc12, cs12, hA12, hk12, hr12, hw12⟩ := h7_0.open_ q13p 0
   obtain ⟨kb12, rfl⟩ : ∃ z, z = kc12 := ⟨_, rfl⟩
   subst hk12
   have hr12 : cs12 = [vy ((List.getD s7.1 s7.2 0).toNat : Int)] := hr12
   subst hr12
   have nb12 := UInt8.toNat_lt (List.getD s7.1 s7.2 0)
   refine xB 1 [] [(0, vi n), (3, vs A1 s7.1 c1), (7, vi ((((List.replicate 8 (0 : UInt8))).length : Nat) : Int)), (8, vi ((s7.2 : Nat) : Int)), (11, vs A1 s7.1 c1), (12, vi ((s7.2 : Nat) : Int)), (17, vy (IntKind.u8.wrap (shrK .i64 n (IntKind.i64.wrap (8 * ((s7.2 : Nat) : Int))))))] ?_
   refine xV (qIxB s7.2 1 kb12.g hA12 rfl q13p) ?_
   refine xD (eStB s7.2 1 0 0 [vy (IntKind.u8.wrap (shrK .i64 n (IntKind.i64.wrap (8 * ((s7.2 : Nat) : Int)))))] h7_0 rfl hw12 (u8_rep (wrapU8_rng _)) q13p) ?_
   rintro _ _ _ - ⟨k14, rfl, rfl, h14⟩
   have hz14 : (s7.1).length = ((List.set s7.1 s7.2 (u8 (IntKind.u8.wrap (shrK .i64 n (IntKind.i64.wrap (8 * ((s7.2 : Nat) : Int)))))))).length := by simp
   refine xRe ?_
   refine wpq_blockN ?_
   refine wpq_then ?_
   refine xSub [(0, vi n), (3, Value.slice A1 ((s7.1).length) c1), (7, vi ((((List.replicate 8 (0 : UInt8))).length : Nat) : Int)), (8, vi ((s7.2 : Nat) : Int))] ?_
   refine xRg ?_
   obtain ⟨q15, hS⟩ := grd_T hS
   have q15p := of_decide_eq_true q15
   refine xV (qAdd .i64 (((s7.2 : Nat) : Int)) (1) (wr64 (by omega))) ?_
   refine xB 1 [] [(0, vi n), (3, Value.slice A1 ((s7.1).length) c1), (7, vi ((((List.replicate 8 (0 : UInt8))).length : Nat) : Int)), (8, vi (((s7.2 : Nat) : Int) + 1))] ?_
   refine xRe ?_
   refine wpq_thenN ?_
   refine wpq_re 3 (v := Value.slice A1 ((s7.1).length) c1) (vs A1 (List.set s7.1 s7.2 (u8 (IntKind.u8.wrap (shrK .i64 n (IntKind.i64.wrap (8 * ((s7.2 : Nat) : Int))))))) c1) (by kernel_rfl) (congrArg (fun z => Value.slice A1 z c1) hz14) ?_
   have h14 := Buf.re h14 hz14 (rfl : (List.set s7.1 s7.2 (u8 (IntKind.u8.wrap (shrK .i64 n (IntKind.i64.wrap (8 * ((s7.2 : Nat) : Int))))))) = _)
   refine xSub [(0, vi n), (3, vs A1 (List.set s7.1 s7.2 (u8 (IntKind.u8.wrap (shrK .i64 n (IntKind.i64.wrap (8 * ((s7.2 : Nat) : Int))))))) c1), (7, vi ((((List.replicate 8 (0 : UInt8))).length : Nat) : Int)), (8, vi (((s7.2 : Nat) : Int) + 1))] ?_
   have eS := (Option.some.inj hS).symm
   exact hN7 _ eS _ _ _ (Gh.le.refl _) ⟨k14, by kernel_rfl, by kernel_rfl, h14⟩
  ·have hS := cond_F h10 hS
   have h10p := of_decide_eq_false h10
   refine xEx 0 ?_
   refine wpq_thenX ?_
   refine wpq_thenX ?_
   refine wpq_blockE ?_
   refine xSub [(3, vs A1 s7.1 c1)] ?_
   have eS := (Option.some.inj hS).symm
   have eS := (hD7 _ eS).symm
   exact hN2 _ eS _ _ _ e9 ⟨k7_0, by kernel_rfl, by kernel_rfl, h7_0⟩

end Go.Proofs.Ytfhchendnfpbkaa
