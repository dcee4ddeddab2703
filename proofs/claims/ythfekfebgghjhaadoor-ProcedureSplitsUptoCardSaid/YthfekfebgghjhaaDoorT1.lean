/-
Walks, printed by wip/gen. Conditions: each theorem's own.
-/
import Derived.Test.YthfekfebgghjhaaDoorT0
namespace Go.Proofs.YthfekfebgghjhaaDoor
set_option linter.unusedVariables false
set_option linter.unusedSimpArgs false
open Go.RowKit
def o71_L0 (s : List UInt8) (s7 : Nat) : Option (Ctl (Nat) (Ctl (Unit) (Bool))) :=
  (cond (decide (((s7 : Nat) : Int) < (((s).length : Nat) : Int))) (cond (((decide ((((List.getD (s : List UInt8) s7 0)).toNat : Int) < 65) || decide ((((List.getD (s : List UInt8) s7 0)).toNat : Int) > 90)) && (decide ((((List.getD (s : List UInt8) s7 0)).toNat : Int) < 48) || decide ((((List.getD (s : List UInt8) s7 0)).toNat : Int) > 57)))) (some (Ctl.done (Ctl.done ((false))))) (grd (decide (((s7 : Nat) : Int) + 1 ≤ 9223372036854775807)) (some (Ctl.go (s7 + 1))))) (some (Ctl.done (Ctl.go ()))))
def o71 (s : List UInt8) : Option (Bool) :=
  (cond (((((s).length : Nat) : Int) != 2)) (some ((false))) (joinO (τ := Unit) (ρ := Bool) (loopO (σ := Nat) (ρ := Ctl (Unit) (Bool)) fuelN (o71_L0 s) (0)) fun t2 => (some ((true)))))
set_option maxRecDepth 100000 in
theorem C71 (g : Gh) (s : List UInt8) {r : Bool} (hS : o71 s = some r) :
    Ctr Tryd.prog 71 [vt s] g [] (fun v ψ o => v = vb r ∧ o = []) := by
  unfold o71 at hS
  refine xFn Tryd.f71 (Tryd.f71.body.getD .skip) 35 ?_
  refine xSq ?_
  refine xRg ?_
  refine xB 1 [] [(0, vt s)] ?_
  refine xRe ?_
  refine wpq_then ?_
  refine xSq ?_
  refine xSq ?_
  refine xRg ?_
  refine xB 3 [] [(0, vt s), (6, vb ((((s).length : Nat) : Int) != 2))] ?_
  refine xRe ?_
  refine wpq_then ?_
  refine xCd (((((s).length : Nat) : Int) != 2)) (fun h1 => ?_) (fun h1 => ?_)
  · have hS := cond_T h1 hS
    have h1p : ¬ ((((s).length : Nat) : Int) = 2) := ne_of_bne_ h1
    refine xSq ?_
    refine xRg ?_
    refine xB 1 [] [(2, vb false)] ?_
    refine xRe ?_
    refine wpq_then ?_
    have eS := (Option.some.inj hS).symm
    subst eS
    exact xRet [] [2] (Gh.le.refl _) ⟨by kernel_rfl, by kernel_rfl⟩ (fun _ _ h => h)
  · have hS := cond_F h1 hS
    have h1p : (((s).length : Nat) : Int) = 2 := eq_of_bne_false_ h1
    refine xSk ?_
    refine wpq_then ?_
    refine xSub [(0, vt s)] ?_
    refine xSq ?_
    refine xSq ?_
    refine xRg ?_
    refine xB 3 [] [(0, vt s), (8, vi (((s).length : Nat) : Int)), (9, vi 0)] ?_
    refine xRe ?_
    refine wpq_then ?_
    refine xJoinO hS (fun g own sl t2 => own = [] ∧ sl = []) ?_ ?_
    · rintro g3 _ _ t2 e4 ⟨rfl, rfl⟩ hS
      refine wpq_then ?_
      refine xSq ?_
      refine xRg ?_
      refine xB 1 [] [(2, vb true)] ?_
      refine xRe ?_
      refine wpq_then ?_
      have eS := (Option.some.inj hS).symm
      subst eS
      exact xRet [] [2] e4 ⟨by kernel_rfl, by kernel_rfl⟩ (fun _ _ h => h)
    · intro uu2 hS hN2 hD2
      refine xBl 0 ?_
      refine xSub [(0, vt s), (8, vi (((s).length : Nat) : Int)), (9, vi 0)] ?_
      refine xLo hS (fun g own sl s7 => own = [] ∧ sl = [(0, vt s), (8, vi (((s).length : Nat) : Int)), (9, vi ((s7 : Nat) : Int))]) ⟨by kernel_rfl, by kernel_rfl⟩ ?_
      rintro g8 _ _ s7 uu7 e9 ⟨rfl, rfl⟩ hS Qr7 hN7 hD7
      unfold o71_L0 at hS
      refine xSq ?_
      refine xRg ?_
      refine xB 1 [] [(0, vt s), (8, vi (((s).length : Nat) : Int)), (9, vi ((s7 : Nat) : Int)), (10, vb (decide (((s7 : Nat) : Int) < (((s).length : Nat) : Int))))] ?_
      refine xRe ?_
      refine wpq_then ?_
      refine xSq ?_
      refine xCd (decide (((s7 : Nat) : Int) < (((s).length : Nat) : Int))) (fun h10 => ?_) (fun h10 => ?_)
      · have hS := cond_T h10 hS
        have h10p := of_decide_eq_true h10
        refine xSk ?_
        refine wpq_then ?_
        refine xSub [(0, vt s), (8, vi (((s).length : Nat) : Int)), (9, vi ((s7 : Nat) : Int))] ?_
        refine xSq ?_
        refine xBl 1 ?_
        refine xSq ?_
        refine xRg ?_
        refine xB 2 [] [(0, vt s), (3, vi ((s7 : Nat) : Int)), (8, vi (((s).length : Nat) : Int)), (9, vi ((s7 : Nat) : Int))] ?_
        refine xRe ?_
        refine wpq_then ?_
        refine xSq ?_
        refine xRg ?_
        have i11 : s7 < (s).length := by omega
        have nb12 := UInt8.toNat_lt (List.getD (s : List UInt8) s7 0)
        refine xB 2 [] [(0, vt s), (3, vi ((s7 : Nat) : Int)), (8, vi (((s).length : Nat) : Int)), (9, vi ((s7 : Nat) : Int)), (12, vt s), (13, vi ((s7 : Nat) : Int))] ?_
        refine xV (qIxS s7 rfl i11) ?_
        refine xB 2 [] [(0, vt s), (3, vi ((s7 : Nat) : Int)), (8, vi (((s).length : Nat) : Int)), (9, vi ((s7 : Nat) : Int)), (16, vb (decide ((((List.getD (s : List UInt8) s7 0)).toNat : Int) < 65)))] ?_
        refine wpr_grp 10 [(0, vt s), (3, vi ((s7 : Nat) : Int)), (8, vi (((s).length : Nat) : Int)), (9, vi ((s7 : Nat) : Int)), (21, vb (decide ((((List.getD (s : List UInt8) s7 0)).toNat : Int) < 65) || decide ((((List.getD (s : List UInt8) s7 0)).toNat : Int) > 90)))] (fun hk4 => ?_) ?_
        · refine wpq_split 16 (b := decide ((((List.getD (s : List UInt8) s7 0)).toNat : Int) < 65)) (by kernel_rfl) (fun q13 => ?_) (fun q13 => ?_)
          · have q13p := of_decide_eq_true q13
            refine xB 5 [] [(0, vt s), (3, vi ((s7 : Nat) : Int)), (8, vi (((s).length : Nat) : Int)), (9, vi ((s7 : Nat) : Int)), (21, vb true)] ?_
            refine wpq_re 21 (v := vb true) (Value.bool ((decide ((((List.getD (s : List UInt8) s7 0)).toNat : Int) < 65) || decide ((((List.getD (s : List UInt8) s7 0)).toNat : Int) > 90)))) (by kernel_rfl) (re_or1 q13) ?_
            exact wpq_sub _ (by kernel_rfl) hk4
          · have q13p := of_decide_eq_false q13
            have i14 : s7 < (s).length := by omega
            have nb15 := UInt8.toNat_lt (List.getD (s : List UInt8) s7 0)
            refine xB 2 [] [(0, vt s), (3, vi ((s7 : Nat) : Int)), (8, vi (((s).length : Nat) : Int)), (9, vi ((s7 : Nat) : Int)), (16, vb false), (17, vt s), (18, vi ((s7 : Nat) : Int))] ?_
            refine xV (qIxS s7 rfl i14) ?_
            refine xB 2 [] [(0, vt s), (3, vi ((s7 : Nat) : Int)), (8, vi (((s).length : Nat) : Int)), (9, vi ((s7 : Nat) : Int)), (21, vb (decide ((((List.getD (s : List UInt8) s7 0)).toNat : Int) > 90)))] ?_
            refine wpq_re 21 (v := vb (decide ((((List.getD (s : List UInt8) s7 0)).toNat : Int) > 90))) (Value.bool ((decide ((((List.getD (s : List UInt8) s7 0)).toNat : Int) < 65) || decide ((((List.getD (s : List UInt8) s7 0)).toNat : Int) > 90)))) (by kernel_rfl) (re_or0 q13) ?_
            exact wpq_sub _ (by kernel_rfl) hk4
        · refine xB 1 [] [(0, vt s), (3, vi ((s7 : Nat) : Int)), (8, vi (((s).length : Nat) : Int)), (9, vi ((s7 : Nat) : Int)), (22, vb (decide ((((List.getD (s : List UInt8) s7 0)).toNat : Int) < 65) || decide ((((List.getD (s : List UInt8) s7 0)).toNat : Int) > 90)))] ?_
          refine wpr_grp 22 [(0, vt s), (8, vi (((s).length : Nat) : Int)), (9, vi ((s7 : Nat) : Int)), (33, vb ((decide ((((List.getD (s : List UInt8) s7 0)).toNat : Int) < 65) || decide ((((List.getD (s : List UInt8) s7 0)).toNat : Int) > 90)) && (decide ((((List.getD (s : List UInt8) s7 0)).toNat : Int) < 48) || decide ((((List.getD (s : List UInt8) s7 0)).toNat : Int) > 57))))] (fun hk10 => ?_) ?_
          · refine wpq_split 22 (b := (decide ((((List.getD (s : List UInt8) s7 0)).toNat : Int) < 65) || decide ((((List.getD (s : List UInt8) s7 0)).toNat : Int) > 90))) (by kernel_rfl) (fun q16 => ?_) (fun q16 => ?_)
            · have i17 : s7 < (s).length := by omega
              have nb18 := UInt8.toNat_lt (List.getD (s : List UInt8) s7 0)
              refine xB 2 [] [(0, vt s), (3, vi ((s7 : Nat) : Int)), (8, vi (((s).length : Nat) : Int)), (9, vi ((s7 : Nat) : Int)), (22, vb true), (23, vt s), (24, vi ((s7 : Nat) : Int))] ?_
              refine xV (qIxS s7 rfl i17) ?_
              refine xB 2 [] [(0, vt s), (3, vi ((s7 : Nat) : Int)), (8, vi (((s).length : Nat) : Int)), (9, vi ((s7 : Nat) : Int)), (22, vb true), (27, vb (decide ((((List.getD (s : List UInt8) s7 0)).toNat : Int) < 48)))] ?_
              refine wpr_grp 21 [(0, vt s), (8, vi (((s).length : Nat) : Int)), (9, vi ((s7 : Nat) : Int)), (22, vb true), (32, vb (decide ((((List.getD (s : List UInt8) s7 0)).toNat : Int) < 48) || decide ((((List.getD (s : List UInt8) s7 0)).toNat : Int) > 57)))] (fun hk15 => ?_) ?_
              · refine wpq_split 27 (b := decide ((((List.getD (s : List UInt8) s7 0)).toNat : Int) < 48)) (by kernel_rfl) (fun q19 => ?_) (fun q19 => ?_)
                · have q19p := of_decide_eq_true q19
                  refine xB 5 [] [(0, vt s), (8, vi (((s).length : Nat) : Int)), (9, vi ((s7 : Nat) : Int)), (22, vb true), (32, vb true)] ?_
                  refine wpq_re 32 (v := vb true) (Value.bool ((decide ((((List.getD (s : List UInt8) s7 0)).toNat : Int) < 48) || decide ((((List.getD (s : List UInt8) s7 0)).toNat : Int) > 57)))) (by kernel_rfl) (re_or1 q19) ?_
                  exact wpq_sub _ (by kernel_rfl) hk15
                · have q19p := of_decide_eq_false q19
                  have i20 : s7 < (s).length := by omega
                  have nb21 := UInt8.toNat_lt (List.getD (s : List UInt8) s7 0)
                  refine xB 2 [] [(0, vt s), (8, vi (((s).length : Nat) : Int)), (9, vi ((s7 : Nat) : Int)), (22, vb true), (27, vb false), (28, vt s), (29, vi ((s7 : Nat) : Int))] ?_
                  refine xV (qIxS s7 rfl i20) ?_
                  refine xB 2 [] [(0, vt s), (8, vi (((s).length : Nat) : Int)), (9, vi ((s7 : Nat) : Int)), (22, vb true), (32, vb (decide ((((List.getD (s : List UInt8) s7 0)).toNat : Int) > 57)))] ?_
                  refine wpq_re 32 (v := vb (decide ((((List.getD (s : List UInt8) s7 0)).toNat : Int) > 57))) (Value.bool ((decide ((((List.getD (s : List UInt8) s7 0)).toNat : Int) < 48) || decide ((((List.getD (s : List UInt8) s7 0)).toNat : Int) > 57)))) (by kernel_rfl) (re_or0 q19) ?_
                  exact wpq_sub _ (by kernel_rfl) hk15
              · refine xB 1 [] [(0, vt s), (8, vi (((s).length : Nat) : Int)), (9, vi ((s7 : Nat) : Int)), (33, vb (decide ((((List.getD (s : List UInt8) s7 0)).toNat : Int) < 48) || decide ((((List.getD (s : List UInt8) s7 0)).toNat : Int) > 57)))] ?_
                refine wpq_re 33 (v := vb (decide ((((List.getD (s : List UInt8) s7 0)).toNat : Int) < 48) || decide ((((List.getD (s : List UInt8) s7 0)).toNat : Int) > 57))) (Value.bool (((decide ((((List.getD (s : List UInt8) s7 0)).toNat : Int) < 65) || decide ((((List.getD (s : List UInt8) s7 0)).toNat : Int) > 90)) && (decide ((((List.getD (s : List UInt8) s7 0)).toNat : Int) < 48) || decide ((((List.getD (s : List UInt8) s7 0)).toNat : Int) > 57))))) (by kernel_rfl) (re_and1 q16) ?_
                exact wpq_sub _ (by kernel_rfl) hk10
            · have q16l := (or_false_ q16).1
              have q16r := (or_false_ q16).2
              have q16lp := of_decide_eq_false q16l
              have q16rp := of_decide_eq_false q16r
              refine xB 11 [] [(0, vt s), (8, vi (((s).length : Nat) : Int)), (9, vi ((s7 : Nat) : Int)), (33, vb false)] ?_
              refine wpq_re 33 (v := vb false) (Value.bool (((decide ((((List.getD (s : List UInt8) s7 0)).toNat : Int) < 65) || decide ((((List.getD (s : List UInt8) s7 0)).toNat : Int) > 90)) && (decide ((((List.getD (s : List UInt8) s7 0)).toNat : Int) < 48) || decide ((((List.getD (s : List UInt8) s7 0)).toNat : Int) > 57))))) (by kernel_rfl) (re_and0 q16) ?_
              exact wpq_sub _ (by kernel_rfl) hk10
          · refine xRe ?_
            refine wpq_then ?_
            refine xCd (((decide ((((List.getD (s : List UInt8) s7 0)).toNat : Int) < 65) || decide ((((List.getD (s : List UInt8) s7 0)).toNat : Int) > 90)) && (decide ((((List.getD (s : List UInt8) s7 0)).toNat : Int) < 48) || decide ((((List.getD (s : List UInt8) s7 0)).toNat : Int) > 57)))) (fun h22 => ?_) (fun h22 => ?_)
            · have hS := cond_T h22 hS
              have h22l := (and_true_ h22).1
              have h22r := (and_true_ h22).2
              refine xSq ?_
              refine xRg ?_
              refine xB 1 [] [(2, vb false)] ?_
              refine xRe ?_
              refine wpq_then ?_
              have eS := (Option.some.inj hS).symm
              have eS := (hD7 _ eS).symm
              have eS := (hD2 _ eS).symm
              subst eS
              exact xRet [] [2] e9 ⟨by kernel_rfl, by kernel_rfl⟩ (fun _ _ h => h)
            · have hS := cond_F h22 hS
              refine xSk ?_
              refine wpq_blockN ?_
              refine wpq_then ?_
              refine xSub [(0, vt s), (8, vi (((s).length : Nat) : Int)), (9, vi ((s7 : Nat) : Int))] ?_
              refine xRg ?_
              obtain ⟨q23, hS⟩ := grd_T hS
              have q23p := of_decide_eq_true q23
              refine xV (qAdd .i64 (((s7 : Nat) : Int)) (1) (wr64 (by omega))) ?_
              refine xB 1 [] [(0, vt s), (8, vi (((s).length : Nat) : Int)), (9, vi (((s7 : Nat) : Int) + 1))] ?_
              refine xRe ?_
              refine wpq_thenN ?_
              refine xSub [(0, vt s), (8, vi (((s).length : Nat) : Int)), (9, vi (((s7 : Nat) : Int) + 1))] ?_
              have eS := (Option.some.inj hS).symm
              exact hN7 _ eS _ _ _ (Gh.le.refl _) ⟨by kernel_rfl, by kernel_rfl⟩
      · have hS := cond_F h10 hS
        have h10p := of_decide_eq_false h10
        refine xEx 0 ?_
        refine wpq_thenX ?_
        refine wpq_thenX ?_
        refine wpq_blockE ?_
        refine xSub [] ?_
        have eS := (Option.some.inj hS).symm
        have eS := (hD7 _ eS).symm
        exact hN2 _ eS _ _ _ e9 ⟨by kernel_rfl, by kernel_rfl⟩

def o63 (ref : List UInt8) : Option ((List UInt8) × (List UInt8) × Int) :=
  (bindO (τ := (List UInt8) × (List UInt8) × Bool) (o70k47 ref) fun y1 => (cond ((!y1.2.2)) (some (([], [], (4 : Int)))) (bindO (τ := Bool) (o35 y1.1 (6 : Int)) fun y5 => (bindO (τ := Bool) (cond ((!y5)) (some (true)) (bindO (τ := Bool) (o35 y1.2.1 (6 : Int)) fun y13 => (bindO (τ := Bool) (cond ((!y13)) (bindO (τ := Bool) (o71 y1.2.1) fun y20 => (some (!y20))) (some (false))) fun t16 => (some (t16))))) fun t8 => (cond (t8) (some (([], [], (5 : Int)))) (some ((y1.1, y1.2.1, (0 : Int)))))))))
set_option maxRecDepth 100000 in
theorem C63 (g : Gh) (ref : List UInt8) {r : (List UInt8) × (List UInt8) × Int} (hS : o63 ref = some r) :
    Ctr Tryd.prog 63 [vt ref] g [] (fun v ψ o => v = Value.tuple #[vt r.1, vt r.2.1, vi r.2.2] ∧ o = []) := by
  unfold o63 at hS
  refine xFn Tryd.f63 (Tryd.f63.body.getD .skip) 29 ?_
  refine xSq ?_
  refine xRg ?_
  refine xB 3 [] [(0, vt ref)] ?_
  refine xRe ?_
  refine wpq_then ?_
  refine xSq ?_
  refine xRg ?_
  refine xB 1 [] [(7, vt ref)] ?_
  obtain ⟨y1, hy1, hS⟩ := bindO_T hS
  refine xE (eC 0 (fun g' lr eb ln => C70k47 g' ref hy1)) ?_
  rintro _ g2 _ e3 ⟨_, rfl, rfl, rfl⟩
  refine xB 7 [] [(2, vt y1.1), (3, vt y1.2.1), (5, vb y1.2.2)] ?_
  refine xRe ?_
  refine wpq_then ?_
  refine xSq ?_
  refine xSq ?_
  refine xRg ?_
  refine xB 2 [] [(2, vt y1.1), (3, vt y1.2.1), (13, vb (!y1.2.2))] ?_
  refine xRe ?_
  refine wpq_then ?_
  refine xCd ((!y1.2.2)) (fun h4 => ?_) (fun h4 => ?_)
  · have hS := cond_T h4 hS
    have h4n := not_eq_true_ h4
    refine xSq ?_
    refine xRg ?_
    refine xB 3 [] [(2, vt ([])), (3, vt ([])), (4, vi 4)] ?_
    refine xRe ?_
    refine wpq_then ?_
    have eS := (Option.some.inj hS).symm
    subst eS
    exact xRet [] [2, 3, 4] e3 ⟨by kernel_rfl, by kernel_rfl⟩ (fun _ _ h => h)
  · have hS := cond_F h4 hS
    have h4n := not_eq_false_ h4
    refine xSk ?_
    refine wpq_then ?_
    refine xSub [(2, vt y1.1), (3, vt y1.2.1)] ?_
    refine xSq ?_
    refine xSq ?_
    refine xRg ?_
    refine xB 1 [] [(2, vt y1.1), (3, vt y1.2.1), (14, vt y1.1)] ?_
    obtain ⟨y5, hy5, hS⟩ := bindO_T hS
    refine xE (eC 0 (fun g' lr eb ln => C35 g' y1.1 (6 : Int) hy5)) ?_
    rintro _ g6 _ e7 ⟨_, rfl, rfl, rfl⟩
    refine xB 2 [] [(2, vt y1.1), (3, vt y1.2.1), (17, vb (!y5))] ?_
    refine xGJo hS 13 (fun g own sl t8 => own = [] ∧ sl = [(2, vt y1.1), (3, vt y1.2.1), (26, vb t8)]) ?_ ?_
    · rintro g9 _ _ t8 e10 ⟨rfl, rfl⟩ hS
      refine xRe ?_
      refine wpq_then ?_
      refine xCd (t8) (fun h11 => ?_) (fun h11 => ?_)
      · have hS := cond_T h11 hS
        refine xSq ?_
        refine xRg ?_
        refine xB 3 [] [(2, vt ([])), (3, vt ([])), (4, vi 5)] ?_
        refine xRe ?_
        refine wpq_then ?_
        have eS := (Option.some.inj hS).symm
        subst eS
        exact xRet [] [2, 3, 4] (e3.trans (e7.trans e10)) ⟨by kernel_rfl, by kernel_rfl⟩ (fun _ _ h => h)
      · have hS := cond_F h11 hS
        refine xSk ?_
        refine wpq_then ?_
        refine xSub [(2, vt y1.1), (3, vt y1.2.1)] ?_
        refine xSq ?_
        refine xRg ?_
        refine xB 5 [] [(2, vt y1.1), (3, vt y1.2.1), (4, vi 0)] ?_
        refine xRe ?_
        refine wpq_then ?_
        have eS := (Option.some.inj hS).symm
        subst eS
        exact xRet [] [2, 3, 4] (e3.trans (e7.trans e10)) ⟨by kernel_rfl, by kernel_rfl⟩ (fun _ _ h => h)
    · intro uu8 hS hN8
      refine wpq_split 17 (b := (!y5)) (by kernel_rfl) (fun q12 => ?_) (fun q12 => ?_)
      · have hS := cond_T q12 hS
        have q12n := not_eq_true_ q12
        refine xB 9 [] [(2, vt y1.1), (3, vt y1.2.1), (26, vb true)] ?_
        refine xSub [(2, vt y1.1), (3, vt y1.2.1), (26, vb true)] ?_
        exact hN8 _ (Option.some.inj hS).symm _ _ _ (Gh.le.refl _) ⟨by kernel_rfl, by kernel_rfl⟩
      · have hS := cond_F q12 hS
        have q12n := not_eq_false_ q12
        refine xB 1 [] [(2, vt y1.1), (3, vt y1.2.1), (17, vb false), (18, vt y1.2.1)] ?_
        obtain ⟨y13, hy13, hS⟩ := bindO_T hS
        refine xE (eC 0 (fun g' lr eb ln => C35 g' y1.2.1 (6 : Int) hy13)) ?_
        rintro _ g14 _ e15 ⟨_, rfl, rfl, rfl⟩
        refine xB 2 [] [(2, vt y1.1), (3, vt y1.2.1), (17, vb false), (21, vb (!y13))] ?_
        refine xGJo hS 12 (fun g own sl t16 => own = [] ∧ sl = [(2, vt y1.1), (3, vt y1.2.1), (17, vb false), (25, vb t16)]) ?_ ?_
        · rintro g17 _ _ t16 e18 ⟨rfl, rfl⟩ hS
          refine xB 1 [] [(2, vt y1.1), (3, vt y1.2.1), (26, vb t16)] ?_
          refine xSub [(2, vt y1.1), (3, vt y1.2.1), (26, vb t16)] ?_
          exact hN8 _ (Option.some.inj hS).symm _ _ _ (e15.trans e18) ⟨by kernel_rfl, by kernel_rfl⟩
        · intro uu16 hS hN16
          refine wpq_split 21 (b := (!y13)) (by kernel_rfl) (fun q19 => ?_) (fun q19 => ?_)
          · have hS := cond_T q19 hS
            have q19n := not_eq_true_ q19
            refine xB 1 [] [(2, vt y1.1), (3, vt y1.2.1), (17, vb false), (21, vb true), (22, vt y1.2.1)] ?_
            obtain ⟨y20, hy20, hS⟩ := bindO_T hS
            refine xE (eC 0 (fun g' lr eb ln => C71 g' y1.2.1 hy20)) ?_
            rintro _ g21 _ e22 ⟨_, rfl, rfl, rfl⟩
            refine xB 2 [] [(2, vt y1.1), (3, vt y1.2.1), (17, vb false), (25, vb (!y20))] ?_
            refine xSub [(2, vt y1.1), (3, vt y1.2.1), (17, vb false), (25, vb (!y20))] ?_
            exact hN16 _ (Option.some.inj hS).symm _ _ _ e22 ⟨by kernel_rfl, by kernel_rfl⟩
          · have hS := cond_F q19 hS
            have q19n := not_eq_false_ q19
            refine xB 4 [] [(2, vt y1.1), (3, vt y1.2.1), (17, vb false), (25, vb false)] ?_
            refine xSub [(2, vt y1.1), (3, vt y1.2.1), (17, vb false), (25, vb false)] ?_
            exact hN16 _ (Option.some.inj hS).symm _ _ _ (Gh.le.refl _) ⟨by kernel_rfl, by kernel_rfl⟩

def o46 (s : List UInt8) (used : Bool) : Option (Int) :=
  (cond (used) (bindO (τ := (List UInt8) × (List UInt8) × Int) (o63 s) fun y2 => (cond ((y2.2.2 != 0)) (some ((5 : Int))) (some ((0 : Int))))) (cond ((!(s == []))) (some ((1 : Int))) (some ((0 : Int)))))
set_option maxRecDepth 100000 in
theorem C46 (g : Gh) (s : List UInt8) (used : Bool) {r : Int} (hS : o46 s used = some r) :
    Ctr Tryd.prog 46 [vt s, vb used] g [] (fun v ψ o => v = vi r ∧ o = []) := by
  unfold o46 at hS
  refine xFn Tryd.f46 (Tryd.f46.body.getD .skip) 19 ?_
  refine xSq ?_
  refine xRg ?_
  refine xB 1 [] [(0, vt s), (1, vb used)] ?_
  refine xRe ?_
  refine wpq_then ?_
  refine xSq ?_
  refine xSq ?_
  refine xRg ?_
  refine xB 1 [] [(0, vt s), (8, vb used)] ?_
  refine xRe ?_
  refine wpq_then ?_
  refine xCd (used) (fun h1 => ?_) (fun h1 => ?_)
  · have hS := cond_T h1 hS
    refine xSq ?_
    refine xSq ?_
    refine xRg ?_
    refine xB 1 [] [(10, vt s)] ?_
    obtain ⟨y2, hy2, hS⟩ := bindO_T hS
    refine xE (eC 0 (fun g' lr eb ln => C63 g' s hy2)) ?_
    rintro _ g3 _ e4 ⟨_, rfl, rfl, rfl⟩
    refine xB 7 [] [(7, vi y2.2.2)] ?_
    refine xRe ?_
    refine wpq_then ?_
    refine xSq ?_
    refine xRg ?_
    refine xB 2 [] [(16, vb (y2.2.2 != 0))] ?_
    refine xRe ?_
    refine wpq_then ?_
    refine xCd ((y2.2.2 != 0)) (fun h5 => ?_) (fun h5 => ?_)
    · have hS := cond_T h5 hS
      have h5p : ¬ (y2.2.2 = 0) := ne_of_bne_ h5
      refine xSq ?_
      refine xRg ?_
      refine xB 1 [] [(4, vi 5)] ?_
      refine xRe ?_
      refine wpq_then ?_
      have eS := (Option.some.inj hS).symm
      subst eS
      exact xRet [] [4] e4 ⟨by kernel_rfl, by kernel_rfl⟩ (fun _ _ h => h)
    · have hS := cond_F h5 hS
      have h5p : y2.2.2 = 0 := eq_of_bne_false_ h5
      refine xSk ?_
      refine wpq_then ?_
      refine xSub [] ?_
      refine xSq ?_
      refine xRg ?_
      refine xB 1 [] [(4, vi 0)] ?_
      refine xRe ?_
      refine wpq_then ?_
      have eS := (Option.some.inj hS).symm
      subst eS
      exact xRet [] [4] e4 ⟨by kernel_rfl, by kernel_rfl⟩ (fun _ _ h => h)
  · have hS := cond_F h1 hS
    refine xSk ?_
    refine wpq_then ?_
    refine xSub [(0, vt s)] ?_
    refine xSq ?_
    refine xSq ?_
    refine xRg ?_
    refine xB 1 [] [(17, vt s)] ?_
    refine xV (qNeS (s) ([])) ?_
    refine xRe ?_
    refine wpq_then ?_
    refine xSub [(18, vb (!(s == [])))] ?_
    refine xCd ((!(s == []))) (fun h6 => ?_) (fun h6 => ?_)
    · have hS := cond_T h6 hS
      have h6n := not_eq_true_ h6
      have h6np : ¬ (s = []) := ne_of_beq_false_ h6n
      refine xSq ?_
      refine xRg ?_
      refine xB 1 [] [(4, vi 1)] ?_
      refine xRe ?_
      refine wpq_then ?_
      have eS := (Option.some.inj hS).symm
      subst eS
      exact xRet [] [4] (Gh.le.refl _) ⟨by kernel_rfl, by kernel_rfl⟩ (fun _ _ h => h)
    · have hS := cond_F h6 hS
      have h6n := not_eq_false_ h6
      have h6np : s = [] := eq_of_beq h6n
      refine xSk ?_
      refine wpq_then ?_
      refine xSub [] ?_
      refine xSq ?_
      refine xRg ?_
      refine xB 1 [] [(4, vi 0)] ?_
      refine xRe ?_
      refine wpq_then ?_
      have eS := (Option.some.inj hS).symm
      subst eS
      exact xRet [] [4] (Gh.le.refl _) ⟨by kernel_rfl, by kernel_rfl⟩ (fun _ _ h => h)

def o47 (n : Int) (used : Bool) (lo : Int) (hi : Int) : Int :=
  (cond ((used && (decide (n < lo) || decide (n > hi)))) ((2 : Int)) (cond (((!used) && (n != 0))) ((1 : Int)) ((0 : Int))))
set_option maxRecDepth 100000 in
theorem C47 (g : Gh) (n : Int) (used : Bool) (lo : Int) (hi : Int) {r : Int} (hS : o47 n used lo hi = r) :
    Ctr Tryd.prog 47 [vi n, vb used, vi lo, vi hi] g [] (fun v ψ o => v = vi r ∧ o = []) := by
  unfold o47 at hS
  refine xFn Tryd.f47 (Tryd.f47.body.getD .skip) 28 ?_
  refine xSq ?_
  refine xRg ?_
  refine xB 1 [] [(0, vi n), (1, vb used), (2, vi lo), (3, vi hi)] ?_
  refine xRe ?_
  refine wpq_then ?_
  refine xSq ?_
  refine xBl 0 ?_
  refine xSq ?_
  refine xRg ?_
  refine xB 2 [] [(0, vi n), (1, vb used), (2, vi lo), (3, vi hi), (11, vb used)] ?_
  refine wpr_grp 11 [(0, vi n), (1, vb used), (20, vb (used && (decide (n < lo) || decide (n > hi))))] (fun hk1 => ?_) ?_
  · refine wpq_split 11 (b := used) (by kernel_rfl) (fun q1 => ?_) (fun q1 => ?_)
    · refine xB 4 [] [(0, vi n), (1, vb used), (3, vi hi), (11, vb true), (15, vb (decide (n < lo)))] ?_
      refine wpr_grp 10 [(0, vi n), (1, vb used), (11, vb true), (19, vb (decide (n < lo) || decide (n > hi)))] (fun hk5 => ?_) ?_
      · refine wpq_split 15 (b := decide (n < lo)) (by kernel_rfl) (fun q2 => ?_) (fun q2 => ?_)
        · have q2p := of_decide_eq_true q2
          refine xB 4 [] [(0, vi n), (1, vb used), (11, vb true), (19, vb true)] ?_
          refine wpq_re 19 (v := vb true) (Value.bool ((decide (n < lo) || decide (n > hi)))) (by kernel_rfl) (re_or1 q2) ?_
          exact wpq_sub _ (by kernel_rfl) hk5
        · have q2p := of_decide_eq_false q2
          refine xB 4 [] [(0, vi n), (1, vb used), (11, vb true), (19, vb (decide (n > hi)))] ?_
          refine wpq_re 19 (v := vb (decide (n > hi))) (Value.bool ((decide (n < lo) || decide (n > hi)))) (by kernel_rfl) (re_or0 q2) ?_
          exact wpq_sub _ (by kernel_rfl) hk5
      · refine xB 1 [] [(0, vi n), (1, vb used), (20, vb (decide (n < lo) || decide (n > hi)))] ?_
        refine wpq_re 20 (v := vb (decide (n < lo) || decide (n > hi))) (Value.bool ((used && (decide (n < lo) || decide (n > hi))))) (by kernel_rfl) (re_and1 q1) ?_
        exact wpq_sub _ (by kernel_rfl) hk1
    · refine xB 9 [] [(0, vi n), (1, vb used), (20, vb false)] ?_
      refine wpq_re 20 (v := vb false) (Value.bool ((used && (decide (n < lo) || decide (n > hi))))) (by kernel_rfl) (re_and0 q1) ?_
      exact wpq_sub _ (by kernel_rfl) hk1
  · refine xB 1 [] [(0, vi n), (1, vb used), (9, vb (used && (decide (n < lo) || decide (n > hi))))] ?_
    refine xRe ?_
    refine wpq_then ?_
    refine xCd ((used && (decide (n < lo) || decide (n > hi)))) (fun h3 => ?_) (fun h3 => ?_)
    · have hS := cond_T h3 hS
      have h3l := (and_true_ h3).1
      have h3r := (and_true_ h3).2
      refine xSq ?_
      refine xRg ?_
      refine xB 1 [] [(8, vi 2)] ?_
      refine xRe ?_
      refine wpq_then ?_
      have eS := hS.symm
      subst eS
      exact xRet [] [8] (Gh.le.refl _) ⟨by kernel_rfl, by kernel_rfl⟩ (fun _ _ h => h)
    · have hS := cond_F h3 hS
      refine xSq ?_
      refine xRg ?_
      refine xB 3 [] [(0, vi n), (24, vb (!used))] ?_
      refine wpr_grp 6 [(27, vb ((!used) && (n != 0)))] (fun hk2 => ?_) ?_
      · refine wpq_split 24 (b := (!used)) (by kernel_rfl) (fun q4 => ?_) (fun q4 => ?_)
        · have q4n := not_eq_true_ q4
          refine xB 3 [] [(27, vb (n != 0))] ?_
          refine wpq_re 27 (v := vb (n != 0)) (Value.bool (((!used) && (n != 0)))) (by kernel_rfl) (re_and1 q4) ?_
          exact wpq_sub _ (by kernel_rfl) hk2
        · have q4n := not_eq_false_ q4
          refine xB 3 [] [(27, vb false)] ?_
          refine wpq_re 27 (v := vb false) (Value.bool (((!used) && (n != 0)))) (by kernel_rfl) (re_and0 q4) ?_
          exact wpq_sub _ (by kernel_rfl) hk2
      · refine xB 1 [] [(21, vb ((!used) && (n != 0)))] ?_
        refine xRe ?_
        refine wpq_then ?_
        refine xCd (((!used) && (n != 0))) (fun h5 => ?_) (fun h5 => ?_)
        · have hS := cond_T h5 hS
          have h5l := (and_true_ h5).1
          have h5r := (and_true_ h5).2
          have h5ln := not_eq_true_ h5l
          have h5rp : ¬ (n = 0) := ne_of_bne_ h5r
          refine xSq ?_
          refine xRg ?_
          refine xB 1 [] [(8, vi 1)] ?_
          refine xRe ?_
          refine wpq_then ?_
          have eS := hS.symm
          subst eS
          exact xRet [] [8] (Gh.le.refl _) ⟨by kernel_rfl, by kernel_rfl⟩ (fun _ _ h => h)
        · have hS := cond_F h5 hS
          refine xSk ?_
          refine wpq_blockN ?_
          refine wpq_then ?_
          refine xSub [] ?_
          refine xSq ?_
          refine xRg ?_
          refine xB 1 [] [(8, vi 0)] ?_
          refine xRe ?_
          refine wpq_then ?_
          have eS := hS.symm
          subst eS
          exact xRet [] [8] (Gh.le.refl _) ⟨by kernel_rfl, by kernel_rfl⟩ (fun _ _ h => h)

def o25 (l : Leg) : Option (Int) :=
  (letJ (τ := Bool) (o45 (l.type_ : Int)) fun y2 => (cond ((!y2)) (some ((17 : Int))) (grd (decide (0 ≤ l.type_ ∧ l.type_ < 18)) (bindO (τ := Int) (o46 l.fix (((landK .u16 (List.getD usesL (l.type_).toNat 0) 1) != 0))) fun y10 => (cond ((y10 != 0)) (some ((y10 : Int))) (bindO (τ := Int) (o46 l.center (((landK .u16 (List.getD usesL (l.type_).toNat 0) 2) != 0))) fun y14 => (cond ((y14 != 0)) (some ((y14 : Int))) (joinO (τ := Unit) (ρ := Int) (cond (((landK .u16 (List.getD usesL (l.type_).toNat 0) 4) != 0)) (cond (((l.turn != 1) && (l.turn != 2))) (some (Ctl.done ((1 : Int)))) (some (Ctl.go ()))) (cond ((l.turn != 0)) (some (Ctl.done ((1 : Int)))) (some (Ctl.go ())))) fun t18 => (cond ((l.over && ((landK .u16 (List.getD usesL (l.type_).toNat 0) 8) == 0))) (some ((1 : Int))) (letJ (τ := Int) (o47 (l.course : Int) (((landK .u16 (List.getD usesL (l.type_).toNat 0) 16) != 0)) (0 : Int) (129599999 : Int)) fun y23 => (cond ((y23 != 0)) (some ((y23 : Int))) (letJ (τ := Int) (o47 (l.dist : Int) (((landK .u16 (List.getD usesL (l.type_).toNat 0) 32) != 0)) (1 : Int) (2000000 : Int)) fun y27 => (cond ((y27 != 0)) (some ((y27 : Int))) (letJ (τ := Int) (o47 (l.radius : Int) (((landK .u16 (List.getD usesL (l.type_).toNat 0) 64) != 0)) (1 : Int) (2000000 : Int)) fun y31 => (cond ((y31 != 0)) (some ((y31 : Int))) (letJ (τ := Int) (o47 (l.theta : Int) (((landK .u16 (List.getD usesL (l.type_).toNat 0) 128) != 0)) (0 : Int) (129599999 : Int)) fun y35 => (cond ((y35 != 0)) (some ((y35 : Int))) (cond (((decide (l.alt.lo < -200000) || decide (l.alt.lo > l.alt.hi)) || decide (l.alt.hi > 6000000))) (some ((2 : Int))) (cond (((((l.type_ == 7) || (l.type_ == 11)) || (l.type_ == 14)) && (l.alt.lo == -200000))) (some ((2 : Int))) (cond ((((decide (l.speed < 0) || decide (l.speed > 1000)) || decide (l.rnp < 0)) || decide (l.rnp > 120000))) (some ((2 : Int))) (some ((0 : Int)))))))))))))))))))))))
set_option maxRecDepth 100000 in
theorem C25 (g : Gh) (l : Leg) (fG0 : Arr g.r (tyI .u16) (some ⟨0, 0, none⟩) 18 usesL) {r : Int} (hS : o25 l = some r) :
    Ctr Tryd.prog 25 [Value.agg #[vy l.type_, vt l.fix, vt l.center, vy l.turn, vb l.over, vi l.course, vi l.dist, vi l.radius, vi l.theta, vi l.alt.lo, vi l.alt.hi, vi l.speed, vi l.rnp]] g [] (fun v ψ o => v = vi r ∧ o = []) := by
  unfold o25 at hS
  refine xFn Tryd.f25 (Tryd.f25.body.getD .skip) 154 ?_
  have hlG0 := hlUses
  have nfG0 := fG0.len
  refine xSq ?_
  refine xRg ?_
  refine xE eB ?_
  rintro _ _ _ - ⟨b1, rfl, rfl, rfl⟩
  refine xB 1 [] [(1, vp b1 0)] ?_
  refine xRe ?_
  refine wpq_then ?_
  refine xSq ?_
  refine xSq ?_
  refine xRg ?_
  refine xB 2 [(1, 0)] [(1, vp b1 0), (12, vy l.type_)] ?_
  obtain ⟨y2, hy2, hS⟩ := letJ_T hS
  refine xE (eC 0 (fun g' lr eb ln => C45 g' (l.type_ : Int) hy2)) ?_
  rintro _ g3 _ e4 ⟨_, rfl, rfl, rfl⟩
  refine xB 1 [] [(1, vp b1 0), (14, vb (!y2))] ?_
  refine xRe ?_
  refine wpq_then ?_
  refine xCd ((!y2)) (fun h5 => ?_) (fun h5 => ?_)
  · have hS := cond_T h5 hS
    have h5n := not_eq_true_ h5
    refine xSq ?_
    refine xRg ?_
    refine xB 1 [] [(2, vi 17)] ?_
    refine xRe ?_
    refine wpq_then ?_
    have eS := (Option.some.inj hS).symm
    subst eS
    exact xRet [] [2] e4 ⟨by kernel_rfl, by kernel_rfl⟩ (fun _ _ h => h)
  · have hS := cond_F h5 hS
    have h5n := not_eq_false_ h5
    refine xSk ?_
    refine wpq_then ?_
    refine xSub [(1, vp b1 0)] ?_
    refine xSq ?_
    refine xRg ?_
    have fG0 := fG0.mono e4.r
    obtain ⟨q7, hS⟩ := grd_T hS
    have q7p := of_decide_eq_true q7
    have i8 : (l.type_).toNat < 18 := by omega
    have i9 : (l.type_).toNat < (usesL).length := by omega
    obtain ⟨ad6, cs6, hA6, hr6, hc6⟩ := fG0.at_ (get_getD (d := 0) i9)
    have hr6 : cs6 = [Value.int .u16 (List.getD usesL (l.type_).toNat 0)] := hr6
    subst hr6
    refine xB 2 [(1, 0)] [(1, vp b1 0), (16, vy l.type_)] ?_
    refine xV (qIxP (l.type_).toNat 1 hA6 (show (l.type_ : Int) = _ from by omega) i8) ?_
    refine xV (qLdP (Addr.add ad6 ((l.type_).toNat * 1)) 0 hc6) ?_
    refine xB 1 [] [(1, vp b1 0), (3, Value.int .u16 (List.getD usesL (l.type_).toNat 0))] ?_
    refine xRe ?_
    refine wpq_then ?_
    refine xSq ?_
    refine xSq ?_
    refine xRg ?_
    refine xB 5 [(1, 0)] [(1, vp b1 0), (3, Value.int .u16 (List.getD usesL (l.type_).toNat 0)), (20, vt l.fix), (23, vb ((landK .u16 (List.getD usesL (l.type_).toNat 0) 1) != 0))] ?_
    obtain ⟨y10, hy10, hS⟩ := bindO_T hS
    refine xE (eC 0 (fun g' lr eb ln => C46 g' l.fix (((landK .u16 (List.getD usesL (l.type_).toNat 0) 1) != 0)) hy10)) ?_
    rintro _ g11 _ e12 ⟨_, rfl, rfl, rfl⟩
    refine xB 1 [] [(1, vp b1 0), (3, Value.int .u16 (List.getD usesL (l.type_).toNat 0)), (4, vi y10)] ?_
    refine xRe ?_
    refine wpq_then ?_
    refine xSq ?_
    refine xRg ?_
    refine xB 2 [] [(1, vp b1 0), (3, Value.int .u16 (List.getD usesL (l.type_).toNat 0)), (4, vi y10), (26, vb (y10 != 0))] ?_
    refine xRe ?_
    refine wpq_then ?_
    refine xCd ((y10 != 0)) (fun h13 => ?_) (fun h13 => ?_)
    · have hS := cond_T h13 hS
      have h13p : ¬ (y10 = 0) := ne_of_bne_ h13
      refine xSq ?_
      refine xRg ?_
      refine xB 2 [] [(2, vi y10)] ?_
      refine xRe ?_
      refine wpq_then ?_
      have eS := (Option.some.inj hS).symm
      subst eS
      exact xRet [] [2] (e4.trans e12) ⟨by kernel_rfl, by kernel_rfl⟩ (fun _ _ h => h)
    · have hS := cond_F h13 hS
      have h13p : y10 = 0 := eq_of_bne_false_ h13
      refine xSk ?_
      refine wpq_then ?_
      refine xSub [(1, vp b1 0), (3, Value.int .u16 (List.getD usesL (l.type_).toNat 0))] ?_
      refine xSq ?_
      refine xSq ?_
      refine xRg ?_
      refine xB 5 [(1, 0)] [(1, vp b1 0), (3, Value.int .u16 (List.getD usesL (l.type_).toNat 0)), (29, vt l.center), (32, vb ((landK .u16 (List.getD usesL (l.type_).toNat 0) 2) != 0))] ?_
      obtain ⟨y14, hy14, hS⟩ := bindO_T hS
      refine xE (eC 0 (fun g' lr eb ln => C46 g' l.center (((landK .u16 (List.getD usesL (l.type_).toNat 0) 2) != 0)) hy14)) ?_
      rintro _ g15 _ e16 ⟨_, rfl, rfl, rfl⟩
      refine xB 1 [] [(1, vp b1 0), (3, Value.int .u16 (List.getD usesL (l.type_).toNat 0)), (5, vi y14)] ?_
      refine xRe ?_
      refine wpq_then ?_
      refine xSq ?_
      refine xRg ?_
      refine xB 2 [] [(1, vp b1 0), (3, Value.int .u16 (List.getD usesL (l.type_).toNat 0)), (5, vi y14), (35, vb (y14 != 0))] ?_
      refine xRe ?_
      refine wpq_then ?_
      refine xCd ((y14 != 0)) (fun h17 => ?_) (fun h17 => ?_)
      · have hS := cond_T h17 hS
        have h17p : ¬ (y14 = 0) := ne_of_bne_ h17
        refine xSq ?_
        refine xRg ?_
        refine xB 2 [] [(2, vi y14)] ?_
        refine xRe ?_
        refine wpq_then ?_
        have eS := (Option.some.inj hS).symm
        subst eS
        exact xRet [] [2] (e4.trans (e12.trans e16)) ⟨by kernel_rfl, by kernel_rfl⟩ (fun _ _ h => h)
      · have hS := cond_F h17 hS
        have h17p : y14 = 0 := eq_of_bne_false_ h17
        refine xSk ?_
        refine wpq_then ?_
        refine xSub [(1, vp b1 0), (3, Value.int .u16 (List.getD usesL (l.type_).toNat 0))] ?_
        refine xSq ?_
        refine xSq ?_
        refine xRg ?_
        refine xB 3 [] [(1, vp b1 0), (3, Value.int .u16 (List.getD usesL (l.type_).toNat 0)), (39, vb ((landK .u16 (List.getD usesL (l.type_).toNat 0) 4) != 0))] ?_
        refine xRe ?_
        refine wpq_then ?_
        refine xJoinO hS (fun g own sl t18 => own = [some ⟨b1, 46, (cLeg l)⟩] ∧ sl = [(1, vp b1 0), (3, Value.int .u16 (List.getD usesL (l.type_).toNat 0))]) ?_ ?_
        · rintro g19 _ _ t18 e20 ⟨rfl, rfl⟩ hS
          refine wpq_then ?_
          refine xSq ?_
          refine xSq ?_
          refine xRg ?_
          refine xB 3 [(1, 0)] [(1, vp b1 0), (3, Value.int .u16 (List.getD usesL (l.type_).toNat 0)), (53, vb l.over)] ?_
          refine wpr_grp 7 [(1, vp b1 0), (3, Value.int .u16 (List.getD usesL (l.type_).toNat 0)), (57, vb (l.over && ((landK .u16 (List.getD usesL (l.type_).toNat 0) 8) == 0)))] (fun hk2 => ?_) ?_
          · refine wpq_split 53 (b := l.over) (by kernel_rfl) (fun q21 => ?_) (fun q21 => ?_)
            · refine xB 4 [] [(1, vp b1 0), (3, Value.int .u16 (List.getD usesL (l.type_).toNat 0)), (57, vb ((landK .u16 (List.getD usesL (l.type_).toNat 0) 8) == 0))] ?_
              refine wpq_re 57 (v := vb ((landK .u16 (List.getD usesL (l.type_).toNat 0) 8) == 0)) (Value.bool ((l.over && ((landK .u16 (List.getD usesL (l.type_).toNat 0) 8) == 0)))) (by kernel_rfl) (re_and1 q21) ?_
              exact wpq_sub _ (by kernel_rfl) hk2
            · refine xB 4 [] [(1, vp b1 0), (3, Value.int .u16 (List.getD usesL (l.type_).toNat 0)), (57, vb false)] ?_
              refine wpq_re 57 (v := vb false) (Value.bool ((l.over && ((landK .u16 (List.getD usesL (l.type_).toNat 0) 8) == 0)))) (by kernel_rfl) (re_and0 q21) ?_
              exact wpq_sub _ (by kernel_rfl) hk2
          · refine xRe ?_
            refine wpq_then ?_
            refine xCd ((l.over && ((landK .u16 (List.getD usesL (l.type_).toNat 0) 8) == 0))) (fun h22 => ?_) (fun h22 => ?_)
            · have hS := cond_T h22 hS
              have h22l := (and_true_ h22).1
              have h22r := (and_true_ h22).2
              have h22rp : (landK .u16 (List.getD usesL (l.type_).toNat 0) 8) = 0 := eq_of_beq h22r
              refine xSq ?_
              refine xRg ?_
              refine xB 1 [] [(2, vi 1)] ?_
              refine xRe ?_
              refine wpq_then ?_
              have eS := (Option.some.inj hS).symm
              subst eS
              exact xRet [] [2] (e4.trans (e12.trans (e16.trans e20))) ⟨by kernel_rfl, by kernel_rfl⟩ (fun _ _ h => h)
            · have hS := cond_F h22 hS
              refine xSk ?_
              refine wpq_then ?_
              refine xSub [(1, vp b1 0), (3, Value.int .u16 (List.getD usesL (l.type_).toNat 0))] ?_
              refine xSq ?_
              refine xSq ?_
              refine xRg ?_
              refine xB 5 [(1, 0)] [(1, vp b1 0), (3, Value.int .u16 (List.getD usesL (l.type_).toNat 0)), (59, vi l.course), (62, vb ((landK .u16 (List.getD usesL (l.type_).toNat 0) 16) != 0))] ?_
              obtain ⟨y23, hy23, hS⟩ := letJ_T hS
              refine xE (eC 0 (fun g' lr eb ln => C47 g' (l.course : Int) (((landK .u16 (List.getD usesL (l.type_).toNat 0) 16) != 0)) (0 : Int) (129599999 : Int) hy23)) ?_
              rintro _ g24 _ e25 ⟨_, rfl, rfl, rfl⟩
              refine xB 1 [] [(1, vp b1 0), (3, Value.int .u16 (List.getD usesL (l.type_).toNat 0)), (6, vi y23)] ?_
              refine xRe ?_
              refine wpq_then ?_
              refine xSq ?_
              refine xRg ?_
              refine xB 2 [] [(1, vp b1 0), (3, Value.int .u16 (List.getD usesL (l.type_).toNat 0)), (6, vi y23), (65, vb (y23 != 0))] ?_
              refine xRe ?_
              refine wpq_then ?_
              refine xCd ((y23 != 0)) (fun h26 => ?_) (fun h26 => ?_)
              · have hS := cond_T h26 hS
                have h26p : ¬ (y23 = 0) := ne_of_bne_ h26
                refine xSq ?_
                refine xRg ?_
                refine xB 2 [] [(2, vi y23)] ?_
                refine xRe ?_
                refine wpq_then ?_
                have eS := (Option.some.inj hS).symm
                subst eS
                exact xRet [] [2] (e4.trans (e12.trans (e16.trans (e20.trans e25)))) ⟨by kernel_rfl, by kernel_rfl⟩ (fun _ _ h => h)
              · have hS := cond_F h26 hS
                have h26p : y23 = 0 := eq_of_bne_false_ h26
                refine xSk ?_
                refine wpq_then ?_
                refine xSub [(1, vp b1 0), (3, Value.int .u16 (List.getD usesL (l.type_).toNat 0))] ?_
                refine xSq ?_
                refine xSq ?_
                refine xRg ?_
                refine xB 5 [(1, 0)] [(1, vp b1 0), (3, Value.int .u16 (List.getD usesL (l.type_).toNat 0)), (68, vi l.dist), (71, vb ((landK .u16 (List.getD usesL (l.type_).toNat 0) 32) != 0))] ?_
                obtain ⟨y27, hy27, hS⟩ := letJ_T hS
                refine xE (eC 0 (fun g' lr eb ln => C47 g' (l.dist : Int) (((landK .u16 (List.getD usesL (l.type_).toNat 0) 32) != 0)) (1 : Int) (2000000 : Int) hy27)) ?_
                rintro _ g28 _ e29 ⟨_, rfl, rfl, rfl⟩
                refine xB 1 [] [(1, vp b1 0), (3, Value.int .u16 (List.getD usesL (l.type_).toNat 0)), (7, vi y27)] ?_
                refine xRe ?_
                refine wpq_then ?_
                refine xSq ?_
                refine xRg ?_
                refine xB 2 [] [(1, vp b1 0), (3, Value.int .u16 (List.getD usesL (l.type_).toNat 0)), (7, vi y27), (74, vb (y27 != 0))] ?_
                refine xRe ?_
                refine wpq_then ?_
                refine xCd ((y27 != 0)) (fun h30 => ?_) (fun h30 => ?_)
                · have hS := cond_T h30 hS
                  have h30p : ¬ (y27 = 0) := ne_of_bne_ h30
                  refine xSq ?_
                  refine xRg ?_
                  refine xB 2 [] [(2, vi y27)] ?_
                  refine xRe ?_
                  refine wpq_then ?_
                  have eS := (Option.some.inj hS).symm
                  subst eS
                  exact xRet [] [2] (e4.trans (e12.trans (e16.trans (e20.trans (e25.trans e29))))) ⟨by kernel_rfl, by kernel_rfl⟩ (fun _ _ h => h)
                · have hS := cond_F h30 hS
                  have h30p : y27 = 0 := eq_of_bne_false_ h30
                  refine xSk ?_
                  refine wpq_then ?_
                  refine xSub [(1, vp b1 0), (3, Value.int .u16 (List.getD usesL (l.type_).toNat 0))] ?_
                  refine xSq ?_
                  refine xSq ?_
                  refine xRg ?_
                  refine xB 5 [(1, 0)] [(1, vp b1 0), (3, Value.int .u16 (List.getD usesL (l.type_).toNat 0)), (77, vi l.radius), (80, vb ((landK .u16 (List.getD usesL (l.type_).toNat 0) 64) != 0))] ?_
                  obtain ⟨y31, hy31, hS⟩ := letJ_T hS
                  refine xE (eC 0 (fun g' lr eb ln => C47 g' (l.radius : Int) (((landK .u16 (List.getD usesL (l.type_).toNat 0) 64) != 0)) (1 : Int) (2000000 : Int) hy31)) ?_
                  rintro _ g32 _ e33 ⟨_, rfl, rfl, rfl⟩
                  refine xB 1 [] [(1, vp b1 0), (3, Value.int .u16 (List.getD usesL (l.type_).toNat 0)), (8, vi y31)] ?_
                  refine xRe ?_
                  refine wpq_then ?_
                  refine xSq ?_
                  refine xRg ?_
                  refine xB 2 [] [(1, vp b1 0), (3, Value.int .u16 (List.getD usesL (l.type_).toNat 0)), (8, vi y31), (83, vb (y31 != 0))] ?_
                  refine xRe ?_
                  refine wpq_then ?_
                  refine xCd ((y31 != 0)) (fun h34 => ?_) (fun h34 => ?_)
                  · have hS := cond_T h34 hS
                    have h34p : ¬ (y31 = 0) := ne_of_bne_ h34
                    refine xSq ?_
                    refine xRg ?_
                    refine xB 2 [] [(2, vi y31)] ?_
                    refine xRe ?_
                    refine wpq_then ?_
                    have eS := (Option.some.inj hS).symm
                    subst eS
                    exact xRet [] [2] (e4.trans (e12.trans (e16.trans (e20.trans (e25.trans (e29.trans e33)))))) ⟨by kernel_rfl, by kernel_rfl⟩ (fun _ _ h => h)
                  · have hS := cond_F h34 hS
                    have h34p : y31 = 0 := eq_of_bne_false_ h34
                    refine xSk ?_
                    refine wpq_then ?_
                    refine xSub [(1, vp b1 0), (3, Value.int .u16 (List.getD usesL (l.type_).toNat 0))] ?_
                    refine xSq ?_
                    refine xSq ?_
                    refine xRg ?_
                    refine xB 5 [(1, 0)] [(1, vp b1 0), (86, vi l.theta), (89, vb ((landK .u16 (List.getD usesL (l.type_).toNat 0) 128) != 0))] ?_
                    obtain ⟨y35, hy35, hS⟩ := letJ_T hS
                    refine xE (eC 0 (fun g' lr eb ln => C47 g' (l.theta : Int) (((landK .u16 (List.getD usesL (l.type_).toNat 0) 128) != 0)) (0 : Int) (129599999 : Int) hy35)) ?_
                    rintro _ g36 _ e37 ⟨_, rfl, rfl, rfl⟩
                    refine xB 1 [] [(1, vp b1 0), (9, vi y35)] ?_
                    refine xRe ?_
                    refine wpq_then ?_
                    refine xSq ?_
                    refine xRg ?_
                    refine xB 2 [] [(1, vp b1 0), (9, vi y35), (92, vb (y35 != 0))] ?_
                    refine xRe ?_
                    refine wpq_then ?_
                    refine xCd ((y35 != 0)) (fun h38 => ?_) (fun h38 => ?_)
                    · have hS := cond_T h38 hS
                      have h38p : ¬ (y35 = 0) := ne_of_bne_ h38
                      refine xSq ?_
                      refine xRg ?_
                      refine xB 2 [] [(2, vi y35)] ?_
                      refine xRe ?_
                      refine wpq_then ?_
                      have eS := (Option.some.inj hS).symm
                      subst eS
                      exact xRet [] [2] (e4.trans (e12.trans (e16.trans (e20.trans (e25.trans (e29.trans (e33.trans e37))))))) ⟨by kernel_rfl, by kernel_rfl⟩ (fun _ _ h => h)
                    · have hS := cond_F h38 hS
                      have h38p : y35 = 0 := eq_of_bne_false_ h38
                      refine xSk ?_
                      refine wpq_then ?_
                      refine xSub [(1, vp b1 0)] ?_
                      refine xSq ?_
                      refine xRg ?_
                      refine xB 4 [(1, 0)] [(1, vp b1 0), (97, vb (l.type_ == 7))] ?_
                      refine wpr_grp 8 [(1, vp b1 0), (101, vb ((l.type_ == 7) || (l.type_ == 11)))] (fun hk3 => ?_) ?_
                      · refine wpq_split 97 (b := (l.type_ == 7)) (by kernel_rfl) (fun q39 => ?_) (fun q39 => ?_)
                        · have q39p : l.type_ = 7 := eq_of_beq q39
                          refine xB 4 [] [(1, vp b1 0), (101, vb true)] ?_
                          refine wpq_re 101 (v := vb true) (Value.bool (((l.type_ == 7) || (l.type_ == 11)))) (by kernel_rfl) (re_or1 q39) ?_
                          exact wpq_sub _ (by kernel_rfl) hk3
                        · have q39p : ¬ (l.type_ = 7) := ne_of_beq_false_ q39
                          refine xB 4 [(5, 0)] [(1, vp b1 0), (101, vb (l.type_ == 11))] ?_
                          refine wpq_re 101 (v := vb (l.type_ == 11)) (Value.bool (((l.type_ == 7) || (l.type_ == 11)))) (by kernel_rfl) (re_or0 q39) ?_
                          exact wpq_sub _ (by kernel_rfl) hk3
                      · refine xB 1 [] [(1, vp b1 0), (102, vb ((l.type_ == 7) || (l.type_ == 11)))] ?_
                        refine wpr_grp 13 [(1, vp b1 0), (106, vb (((l.type_ == 7) || (l.type_ == 11)) || (l.type_ == 14)))] (fun hk8 => ?_) ?_
                        · refine wpq_split 102 (b := ((l.type_ == 7) || (l.type_ == 11))) (by kernel_rfl) (fun q40 => ?_) (fun q40 => ?_)
                          · refine xB 4 [] [(1, vp b1 0), (106, vb true)] ?_
                            refine wpq_re 106 (v := vb true) (Value.bool ((((l.type_ == 7) || (l.type_ == 11)) || (l.type_ == 14)))) (by kernel_rfl) (re_or1 q40) ?_
                            exact wpq_sub _ (by kernel_rfl) hk8
                          · have q40l := (or_false_ q40).1
                            have q40r := (or_false_ q40).2
                            have q40lp : ¬ (l.type_ = 7) := ne_of_beq_false_ q40l
                            have q40rp : ¬ (l.type_ = 11) := ne_of_beq_false_ q40r
                            refine xB 4 [(10, 0)] [(1, vp b1 0), (106, vb (l.type_ == 14))] ?_
                            refine wpq_re 106 (v := vb (l.type_ == 14)) (Value.bool ((((l.type_ == 7) || (l.type_ == 11)) || (l.type_ == 14)))) (by kernel_rfl) (re_or0 q40) ?_
                            exact wpq_sub _ (by kernel_rfl) hk8
                        · refine xB 1 [] [(1, vp b1 0), (10, vb (((l.type_ == 7) || (l.type_ == 11)) || (l.type_ == 14)))] ?_
                          refine xRe ?_
                          refine wpq_then ?_
                          refine xSq ?_
                          refine xBl 0 ?_
                          refine xSq ?_
                          refine xRg ?_
                          refine xB 5 [(2, 0)] [(1, vp b1 0), (10, vb (((l.type_ == 7) || (l.type_ == 11)) || (l.type_ == 14))), (112, vb (decide (l.alt.lo < -200000)))] ?_
                          refine wpr_grp 13 [(1, vp b1 0), (10, vb (((l.type_ == 7) || (l.type_ == 11)) || (l.type_ == 14))), (120, vb (decide (l.alt.lo < -200000) || decide (l.alt.lo > l.alt.hi)))] (fun hk4 => ?_) ?_
                          · refine wpq_split 112 (b := decide (l.alt.lo < -200000)) (by kernel_rfl) (fun q41 => ?_) (fun q41 => ?_)
                            · have q41p := of_decide_eq_true q41
                              refine xB 8 [] [(1, vp b1 0), (10, vb (((l.type_ == 7) || (l.type_ == 11)) || (l.type_ == 14))), (120, vb true)] ?_
                              refine wpq_re 120 (v := vb true) (Value.bool ((decide (l.alt.lo < -200000) || decide (l.alt.lo > l.alt.hi)))) (by kernel_rfl) (re_or1 q41) ?_
                              exact wpq_sub _ (by kernel_rfl) hk4
                            · have q41p := of_decide_eq_false q41
                              refine xB 8 [(7, 0), (10, 0)] [(1, vp b1 0), (10, vb (((l.type_ == 7) || (l.type_ == 11)) || (l.type_ == 14))), (120, vb (decide (l.alt.lo > l.alt.hi)))] ?_
                              refine wpq_re 120 (v := vb (decide (l.alt.lo > l.alt.hi))) (Value.bool ((decide (l.alt.lo < -200000) || decide (l.alt.lo > l.alt.hi)))) (by kernel_rfl) (re_or0 q41) ?_
                              exact wpq_sub _ (by kernel_rfl) hk4
                          · refine xB 1 [] [(1, vp b1 0), (10, vb (((l.type_ == 7) || (l.type_ == 11)) || (l.type_ == 14))), (121, vb (decide (l.alt.lo < -200000) || decide (l.alt.lo > l.alt.hi)))] ?_
                            refine wpr_grp 19 [(1, vp b1 0), (10, vb (((l.type_ == 7) || (l.type_ == 11)) || (l.type_ == 14))), (126, vb ((decide (l.alt.lo < -200000) || decide (l.alt.lo > l.alt.hi)) || decide (l.alt.hi > 6000000)))] (fun hk13 => ?_) ?_
                            · refine wpq_split 121 (b := (decide (l.alt.lo < -200000) || decide (l.alt.lo > l.alt.hi))) (by kernel_rfl) (fun q42 => ?_) (fun q42 => ?_)
                              · refine xB 5 [] [(1, vp b1 0), (10, vb (((l.type_ == 7) || (l.type_ == 11)) || (l.type_ == 14))), (126, vb true)] ?_
                                refine wpq_re 126 (v := vb true) (Value.bool (((decide (l.alt.lo < -200000) || decide (l.alt.lo > l.alt.hi)) || decide (l.alt.hi > 6000000)))) (by kernel_rfl) (re_or1 q42) ?_
                                exact wpq_sub _ (by kernel_rfl) hk13
                              · have q42l := (or_false_ q42).1
                                have q42r := (or_false_ q42).2
                                have q42lp := of_decide_eq_false q42l
                                have q42rp := of_decide_eq_false q42r
                                refine xB 5 [(16, 0)] [(1, vp b1 0), (10, vb (((l.type_ == 7) || (l.type_ == 11)) || (l.type_ == 14))), (126, vb (decide (l.alt.hi > 6000000)))] ?_
                                refine wpq_re 126 (v := vb (decide (l.alt.hi > 6000000))) (Value.bool (((decide (l.alt.lo < -200000) || decide (l.alt.lo > l.alt.hi)) || decide (l.alt.hi > 6000000)))) (by kernel_rfl) (re_or0 q42) ?_
                                exact wpq_sub _ (by kernel_rfl) hk13
                            · refine xB 1 [] [(1, vp b1 0), (10, vb (((l.type_ == 7) || (l.type_ == 11)) || (l.type_ == 14))), (107, vb ((decide (l.alt.lo < -200000) || decide (l.alt.lo > l.alt.hi)) || decide (l.alt.hi > 6000000)))] ?_
                              refine xRe ?_
                              refine wpq_then ?_
                              refine xCd (((decide (l.alt.lo < -200000) || decide (l.alt.lo > l.alt.hi)) || decide (l.alt.hi > 6000000))) (fun h43 => ?_) (fun h43 => ?_)
                              · have hS := cond_T h43 hS
                                refine xSq ?_
                                refine xRg ?_
                                refine xB 1 [] [(2, vi 2)] ?_
                                refine xRe ?_
                                refine wpq_then ?_
                                have eS := (Option.some.inj hS).symm
                                subst eS
                                exact xRet [] [2] (e4.trans (e12.trans (e16.trans (e20.trans (e25.trans (e29.trans (e33.trans e37))))))) ⟨by kernel_rfl, by kernel_rfl⟩ (fun _ _ h => h)
                              · have hS := cond_F h43 hS
                                have h43l := (or_false_ h43).1
                                have h43r := (or_false_ h43).2
                                have h43ll := (or_false_ h43l).1
                                have h43lr := (or_false_ h43l).2
                                have h43llp := of_decide_eq_false h43ll
                                have h43lrp := of_decide_eq_false h43lr
                                have h43rp := of_decide_eq_false h43r
                                refine xSq ?_
                                refine xRg ?_
                                refine xB 2 [] [(1, vp b1 0), (129, vb (((l.type_ == 7) || (l.type_ == 11)) || (l.type_ == 14)))] ?_
                                refine wpr_grp 7 [(1, vp b1 0), (134, vb ((((l.type_ == 7) || (l.type_ == 11)) || (l.type_ == 14)) && (l.alt.lo == -200000)))] (fun hk1 => ?_) ?_
                                · refine wpq_split 129 (b := (((l.type_ == 7) || (l.type_ == 11)) || (l.type_ == 14))) (by kernel_rfl) (fun q44 => ?_) (fun q44 => ?_)
                                  · refine xB 5 [(4, 0)] [(1, vp b1 0), (134, vb (l.alt.lo == -200000))] ?_
                                    refine wpq_re 134 (v := vb (l.alt.lo == -200000)) (Value.bool (((((l.type_ == 7) || (l.type_ == 11)) || (l.type_ == 14)) && (l.alt.lo == -200000)))) (by kernel_rfl) (re_and1 q44) ?_
                                    exact wpq_sub _ (by kernel_rfl) hk1
                                  · have q44l := (or_false_ q44).1
                                    have q44r := (or_false_ q44).2
                                    have q44ll := (or_false_ q44l).1
                                    have q44lr := (or_false_ q44l).2
                                    have q44llp : ¬ (l.type_ = 7) := ne_of_beq_false_ q44ll
                                    have q44lrp : ¬ (l.type_ = 11) := ne_of_beq_false_ q44lr
                                    have q44rp : ¬ (l.type_ = 14) := ne_of_beq_false_ q44r
                                    refine xB 5 [] [(1, vp b1 0), (134, vb false)] ?_
                                    refine wpq_re 134 (v := vb false) (Value.bool (((((l.type_ == 7) || (l.type_ == 11)) || (l.type_ == 14)) && (l.alt.lo == -200000)))) (by kernel_rfl) (re_and0 q44) ?_
                                    exact wpq_sub _ (by kernel_rfl) hk1
                                · refine xB 1 [] [(1, vp b1 0), (127, vb ((((l.type_ == 7) || (l.type_ == 11)) || (l.type_ == 14)) && (l.alt.lo == -200000)))] ?_
                                  refine xRe ?_
                                  refine wpq_then ?_
                                  refine xCd (((((l.type_ == 7) || (l.type_ == 11)) || (l.type_ == 14)) && (l.alt.lo == -200000))) (fun h45 => ?_) (fun h45 => ?_)
                                  · have hS := cond_T h45 hS
                                    have h45l := (and_true_ h45).1
                                    have h45r := (and_true_ h45).2
                                    have h45rp : l.alt.lo = -200000 := eq_of_beq h45r
                                    refine xSq ?_
                                    refine xRg ?_
                                    refine xB 1 [] [(2, vi 2)] ?_
                                    refine xRe ?_
                                    refine wpq_then ?_
                                    have eS := (Option.some.inj hS).symm
                                    subst eS
                                    exact xRet [] [2] (e4.trans (e12.trans (e16.trans (e20.trans (e25.trans (e29.trans (e33.trans e37))))))) ⟨by kernel_rfl, by kernel_rfl⟩ (fun _ _ h => h)
                                  · have hS := cond_F h45 hS
                                    refine xSq ?_
                                    refine xRg ?_
                                    refine xB 4 [(1, 0)] [(1, vp b1 0), (139, vb (decide (l.speed < 0)))] ?_
                                    refine wpr_grp 8 [(1, vp b1 0), (143, vb (decide (l.speed < 0) || decide (l.speed > 1000)))] (fun hk3 => ?_) ?_
                                    · refine wpq_split 139 (b := decide (l.speed < 0)) (by kernel_rfl) (fun q46 => ?_) (fun q46 => ?_)
                                      · have q46p := of_decide_eq_true q46
                                        refine xB 4 [] [(1, vp b1 0), (143, vb true)] ?_
                                        refine wpq_re 143 (v := vb true) (Value.bool ((decide (l.speed < 0) || decide (l.speed > 1000)))) (by kernel_rfl) (re_or1 q46) ?_
                                        exact wpq_sub _ (by kernel_rfl) hk3
                                      · have q46p := of_decide_eq_false q46
                                        refine xB 4 [(5, 0)] [(1, vp b1 0), (143, vb (decide (l.speed > 1000)))] ?_
                                        refine wpq_re 143 (v := vb (decide (l.speed > 1000))) (Value.bool ((decide (l.speed < 0) || decide (l.speed > 1000)))) (by kernel_rfl) (re_or0 q46) ?_
                                        exact wpq_sub _ (by kernel_rfl) hk3
                                    · refine xB 1 [] [(1, vp b1 0), (144, vb (decide (l.speed < 0) || decide (l.speed > 1000)))] ?_
                                      refine wpr_grp 13 [(1, vp b1 0), (148, vb ((decide (l.speed < 0) || decide (l.speed > 1000)) || decide (l.rnp < 0)))] (fun hk8 => ?_) ?_
                                      · refine wpq_split 144 (b := (decide (l.speed < 0) || decide (l.speed > 1000))) (by kernel_rfl) (fun q47 => ?_) (fun q47 => ?_)
                                        · refine xB 4 [] [(1, vp b1 0), (148, vb true)] ?_
                                          refine wpq_re 148 (v := vb true) (Value.bool (((decide (l.speed < 0) || decide (l.speed > 1000)) || decide (l.rnp < 0)))) (by kernel_rfl) (re_or1 q47) ?_
                                          exact wpq_sub _ (by kernel_rfl) hk8
                                        · have q47l := (or_false_ q47).1
                                          have q47r := (or_false_ q47).2
                                          have q47lp := of_decide_eq_false q47l
                                          have q47rp := of_decide_eq_false q47r
                                          refine xB 4 [(10, 0)] [(1, vp b1 0), (148, vb (decide (l.rnp < 0)))] ?_
                                          refine wpq_re 148 (v := vb (decide (l.rnp < 0))) (Value.bool (((decide (l.speed < 0) || decide (l.speed > 1000)) || decide (l.rnp < 0)))) (by kernel_rfl) (re_or0 q47) ?_
                                          exact wpq_sub _ (by kernel_rfl) hk8
                                      · refine xB 1 [] [(1, vp b1 0), (149, vb ((decide (l.speed < 0) || decide (l.speed > 1000)) || decide (l.rnp < 0)))] ?_
                                        refine wpr_grp 18 [(153, vb (((decide (l.speed < 0) || decide (l.speed > 1000)) || decide (l.rnp < 0)) || decide (l.rnp > 120000)))] (fun hk13 => ?_) ?_
                                        · refine wpq_split 149 (b := ((decide (l.speed < 0) || decide (l.speed > 1000)) || decide (l.rnp < 0))) (by kernel_rfl) (fun q48 => ?_) (fun q48 => ?_)
                                          · refine xB 4 [] [(153, vb true)] ?_
                                            refine wpq_re 153 (v := vb true) (Value.bool ((((decide (l.speed < 0) || decide (l.speed > 1000)) || decide (l.rnp < 0)) || decide (l.rnp > 120000)))) (by kernel_rfl) (re_or1 q48) ?_
                                            exact wpq_sub _ (by kernel_rfl) hk13
                                          · have q48l := (or_false_ q48).1
                                            have q48r := (or_false_ q48).2
                                            have q48ll := (or_false_ q48l).1
                                            have q48lr := (or_false_ q48l).2
                                            have q48llp := of_decide_eq_false q48ll
                                            have q48lrp := of_decide_eq_false q48lr
                                            have q48rp := of_decide_eq_false q48r
                                            refine xB 4 [(15, 0)] [(153, vb (decide (l.rnp > 120000)))] ?_
                                            refine wpq_re 153 (v := vb (decide (l.rnp > 120000))) (Value.bool ((((decide (l.speed < 0) || decide (l.speed > 1000)) || decide (l.rnp < 0)) || decide (l.rnp > 120000)))) (by kernel_rfl) (re_or0 q48) ?_
                                            exact wpq_sub _ (by kernel_rfl) hk13
                                        · refine xB 1 [] [(135, vb (((decide (l.speed < 0) || decide (l.speed > 1000)) || decide (l.rnp < 0)) || decide (l.rnp > 120000)))] ?_
                                          refine xRe ?_
                                          refine wpq_then ?_
                                          refine xCd ((((decide (l.speed < 0) || decide (l.speed > 1000)) || decide (l.rnp < 0)) || decide (l.rnp > 120000))) (fun h49 => ?_) (fun h49 => ?_)
                                          · have hS := cond_T h49 hS
                                            refine xSq ?_
                                            refine xRg ?_
                                            refine xB 1 [] [(2, vi 2)] ?_
                                            refine xRe ?_
                                            refine wpq_then ?_
                                            have eS := (Option.some.inj hS).symm
                                            subst eS
                                            exact xRet [] [2] (e4.trans (e12.trans (e16.trans (e20.trans (e25.trans (e29.trans (e33.trans e37))))))) ⟨by kernel_rfl, by kernel_rfl⟩ (fun _ _ h => h)
                                          · have hS := cond_F h49 hS
                                            have h49l := (or_false_ h49).1
                                            have h49r := (or_false_ h49).2
                                            have h49ll := (or_false_ h49l).1
                                            have h49lr := (or_false_ h49l).2
                                            have h49lll := (or_false_ h49ll).1
                                            have h49llr := (or_false_ h49ll).2
                                            have h49lllp := of_decide_eq_false h49lll
                                            have h49llrp := of_decide_eq_false h49llr
                                            have h49lrp := of_decide_eq_false h49lr
                                            have h49rp := of_decide_eq_false h49r
                                            refine xSk ?_
                                            refine wpq_blockN ?_
                                            refine wpq_then ?_
                                            refine xSub [] ?_
                                            refine xSq ?_
                                            refine xRg ?_
                                            refine xB 1 [] [(2, vi 0)] ?_
                                            refine xRe ?_
                                            refine wpq_then ?_
                                            have eS := (Option.some.inj hS).symm
                                            subst eS
                                            exact xRet [] [2] (e4.trans (e12.trans (e16.trans (e20.trans (e25.trans (e29.trans (e33.trans e37))))))) ⟨by kernel_rfl, by kernel_rfl⟩ (fun _ _ h => h)
        · intro uu18 hS hN18 hD18
          refine xCd (((landK .u16 (List.getD usesL (l.type_).toNat 0) 4) != 0)) (fun h50 => ?_) (fun h50 => ?_)
          · have hS := cond_T h50 hS
            have h50p : ¬ ((landK .u16 (List.getD usesL (l.type_).toNat 0) 4) = 0) := ne_of_bne_ h50
            refine xSq ?_
            refine xRg ?_
            refine xB 4 [(1, 0)] [(1, vp b1 0), (3, Value.int .u16 (List.getD usesL (l.type_).toNat 0)), (43, vb (l.turn != 1))] ?_
            refine wpr_grp 8 [(1, vp b1 0), (3, Value.int .u16 (List.getD usesL (l.type_).toNat 0)), (47, vb ((l.turn != 1) && (l.turn != 2)))] (fun hk3 => ?_) ?_
            · refine wpq_split 43 (b := (l.turn != 1)) (by kernel_rfl) (fun q51 => ?_) (fun q51 => ?_)
              · have q51p : ¬ (l.turn = 1) := ne_of_bne_ q51
                refine xB 4 [(5, 0)] [(1, vp b1 0), (3, Value.int .u16 (List.getD usesL (l.type_).toNat 0)), (47, vb (l.turn != 2))] ?_
                refine wpq_re 47 (v := vb (l.turn != 2)) (Value.bool (((l.turn != 1) && (l.turn != 2)))) (by kernel_rfl) (re_and1 q51) ?_
                exact wpq_sub _ (by kernel_rfl) hk3
              · have q51p : l.turn = 1 := eq_of_bne_false_ q51
                refine xB 4 [] [(1, vp b1 0), (3, Value.int .u16 (List.getD usesL (l.type_).toNat 0)), (47, vb false)] ?_
                refine wpq_re 47 (v := vb false) (Value.bool (((l.turn != 1) && (l.turn != 2)))) (by kernel_rfl) (re_and0 q51) ?_
                exact wpq_sub _ (by kernel_rfl) hk3
            · refine xRe ?_
              refine wpq_then ?_
              refine xCd (((l.turn != 1) && (l.turn != 2))) (fun h52 => ?_) (fun h52 => ?_)
              · have hS := cond_T h52 hS
                have h52l := (and_true_ h52).1
                have h52r := (and_true_ h52).2
                have h52lp : ¬ (l.turn = 1) := ne_of_bne_ h52l
                have h52rp : ¬ (l.turn = 2) := ne_of_bne_ h52r
                refine xSq ?_
                refine xRg ?_
                refine xB 1 [] [(2, vi 1)] ?_
                refine xRe ?_
                refine wpq_then ?_
                have eS := (Option.some.inj hS).symm
                have eS := (hD18 _ eS).symm
                subst eS
                exact xRet [] [2] (e4.trans (e12.trans e16)) ⟨by kernel_rfl, by kernel_rfl⟩ (fun _ _ h => h)
              · have hS := cond_F h52 hS
                refine xSk ?_
                refine xSub [(1, vp b1 0), (3, Value.int .u16 (List.getD usesL (l.type_).toNat 0))] ?_
                have eS := (Option.some.inj hS).symm
                exact hN18 _ eS _ _ _ (Gh.le.refl _) ⟨by kernel_rfl, by kernel_rfl⟩
          · have hS := cond_F h50 hS
            have h50p : (landK .u16 (List.getD usesL (l.type_).toNat 0) 4) = 0 := eq_of_bne_false_ h50
            refine xSq ?_
            refine xRg ?_
            refine xB 3 [(1, 0)] [(1, vp b1 0), (3, Value.int .u16 (List.getD usesL (l.type_).toNat 0)), (50, vb (l.turn != 0))] ?_
            refine xRe ?_
            refine wpq_then ?_
            refine xCd ((l.turn != 0)) (fun h53 => ?_) (fun h53 => ?_)
            · have hS := cond_T h53 hS
              have h53p : ¬ (l.turn = 0) := ne_of_bne_ h53
              refine xSq ?_
              refine xRg ?_
              refine xB 1 [] [(2, vi 1)] ?_
              refine xRe ?_
              refine wpq_then ?_
              have eS := (Option.some.inj hS).symm
              have eS := (hD18 _ eS).symm
              subst eS
              exact xRet [] [2] (e4.trans (e12.trans e16)) ⟨by kernel_rfl, by kernel_rfl⟩ (fun _ _ h => h)
            · have hS := cond_F h53 hS
              have h53p : l.turn = 0 := eq_of_bne_false_ h53
              refine xSk ?_
              refine xSub [(1, vp b1 0), (3, Value.int .u16 (List.getD usesL (l.type_).toNat 0))] ?_
              have eS := (Option.some.inj hS).symm
              exact hN18 _ eS _ _ _ (Gh.le.refl _) ⟨by kernel_rfl, by kernel_rfl⟩

def o58 (p : Proc) (k : Int) (t : Int) : Bool :=
  (joinI (τ := Unit) (ρ := Bool) (cond (((k == 4) || ((k == 1) && (p.kind == 1)))) (letJ (τ := Bool) (cond ((t == 3)) ((t == 3)) (letJ (τ := Bool) (cond ((t == 4)) ((t == 4)) (letJ (τ := Bool) (cond ((t == 7)) ((t == 7)) (letJ (τ := Bool) (cond ((t == 8)) ((t == 8)) ((t == 10))) fun t21 => (t21))) fun t17 => (t17))) fun t13 => (t13))) fun t8 => (cond (t8) (Ctl.done ((true))) (Ctl.go ()))) (Ctl.go ())) fun t4 => (((t == 1))))
set_option maxRecDepth 100000 in
theorem C58 (g : Gh) (p : Proc) (Ap_parts : Option Addr) (cp_parts : Nat) (k : Int) (t : Int) (fp_parts : Arr g.r tyPart Ap_parts cp_parts p.parts) {r : Bool} (hS : o58 p k t = r) :
    Ctr Tryd.prog 58 [Value.agg #[vt p.airport, vt p.name, vy p.kind, vs Ap_parts p.parts cp_parts], vy k, vy t] g [] (fun v ψ o => v = vb r ∧ o = []) := by
  unfold o58 at hS
  refine xFn Tryd.f58 (Tryd.f58.body.getD .skip) 27 ?_
  have nfp_parts := fp_parts.len
  refine xSq ?_
  refine xRg ?_
  refine xE eB ?_
  rintro _ _ _ - ⟨b1, rfl, rfl, rfl⟩
  refine xB 1 [] [(1, vy k), (2, vy t), (3, vp b1 0)] ?_
  refine xRe ?_
  refine wpq_then ?_
  refine xSq ?_
  refine xSq ?_
  refine xRg ?_
  refine xB 3 [] [(1, vy k), (2, vy t), (3, vp b1 0), (9, vb (k == 4))] ?_
  refine wpr_grp 11 [(2, vy t), (17, vb ((k == 4) || ((k == 1) && (p.kind == 1))))] (fun hk2 => ?_) ?_
  · refine wpq_split 9 (b := (k == 4)) (by kernel_rfl) (fun q2 => ?_) (fun q2 => ?_)
    · have q2p : k = 4 := eq_of_beq q2
      refine xB 8 [] [(2, vy t), (17, vb true)] ?_
      refine wpq_re 17 (v := vb true) (Value.bool (((k == 4) || ((k == 1) && (p.kind == 1))))) (by kernel_rfl) (re_or1 q2) ?_
      exact wpq_sub _ (by kernel_rfl) hk2
    · have q2p : ¬ (k = 4) := ne_of_beq_false_ q2
      refine xB 3 [] [(2, vy t), (3, vp b1 0), (9, vb false), (12, vb (k == 1))] ?_
      refine wpr_grp 10 [(2, vy t), (9, vb false), (16, vb ((k == 1) && (p.kind == 1)))] (fun hk5 => ?_) ?_
      · refine wpq_split 12 (b := (k == 1)) (by kernel_rfl) (fun q3 => ?_) (fun q3 => ?_)
        · have q3p : k = 1 := eq_of_beq q3
          refine xB 4 [(7, 0)] [(2, vy t), (9, vb false), (16, vb (p.kind == 1))] ?_
          refine wpq_re 16 (v := vb (p.kind == 1)) (Value.bool (((k == 1) && (p.kind == 1)))) (by kernel_rfl) (re_and1 q3) ?_
          exact wpq_sub _ (by kernel_rfl) hk5
        · have q3p : ¬ (k = 1) := ne_of_beq_false_ q3
          refine xB 4 [] [(2, vy t), (9, vb false), (16, vb false)] ?_
          refine wpq_re 16 (v := vb false) (Value.bool (((k == 1) && (p.kind == 1)))) (by kernel_rfl) (re_and0 q3) ?_
          exact wpq_sub _ (by kernel_rfl) hk5
      · refine xB 1 [] [(2, vy t), (17, vb ((k == 1) && (p.kind == 1)))] ?_
        refine wpq_re 17 (v := vb ((k == 1) && (p.kind == 1))) (Value.bool (((k == 4) || ((k == 1) && (p.kind == 1))))) (by kernel_rfl) (re_or0 q2) ?_
        exact wpq_sub _ (by kernel_rfl) hk2
  · refine xRe ?_
    refine wpq_then ?_
    refine xJoinI hS (fun g own sl t4 => own = [] ∧ sl = [(2, vy t)]) ?_ ?_
    · rintro g5 _ _ t4 e6 ⟨rfl, rfl⟩ hS
      refine wpq_then ?_
      refine xSq ?_
      refine xRg ?_
      refine xB 3 [] [(6, vb (t == 1))] ?_
      refine xRe ?_
      refine wpq_then ?_
      have eS := hS.symm
      subst eS
      exact xRet [] [6] e6 ⟨by kernel_rfl, by kernel_rfl⟩ (fun _ _ h => h)
    · intro uu4 hS hN4 hD4
      refine xCd (((k == 4) || ((k == 1) && (p.kind == 1)))) (fun h7 => ?_) (fun h7 => ?_)
      · have hS := cond_T h7 hS
        refine xSq ?_
        refine xRg ?_
        refine xB 1 [] [(2, vy t), (18, vy t)] ?_
        refine xRe ?_
        refine wpq_then ?_
        refine xBl 0 ?_
        refine xSq ?_
        refine xSq ?_
        refine xRg ?_
        refine xB 2 [] [(2, vy t), (18, vy t), (19, vb (t == 3))] ?_
        refine xRe ?_
        refine wpq_then ?_
        refine xLetJ hS (fun g own sl t8 => own = [] ∧ sl = [(2, vy t), (19, vb t8)]) ?_ ?_
        · rintro g9 _ _ t8 e10 ⟨rfl, rfl⟩ hS
          refine wpq_then ?_
          refine xCd (t8) (fun h11 => ?_) (fun h11 => ?_)
          · have hS := cond_T h11 hS
            refine xSq ?_
            refine xRg ?_
            refine xB 1 [] [(6, vb true)] ?_
            refine xRe ?_
            refine wpq_then ?_
            have eS := hS.symm
            have eS := (hD4 _ eS).symm
            subst eS
            exact xRet [] [6] e10 ⟨by kernel_rfl, by kernel_rfl⟩ (fun _ _ h => h)
          · have hS := cond_F h11 hS
            refine xSk ?_
            refine wpq_blockN ?_
            refine xSub [(2, vy t)] ?_
            have eS := hS.symm
            exact hN4 _ eS _ _ _ e10 ⟨by kernel_rfl, by kernel_rfl⟩
        · intro uu8 hS hN8
          refine xCd ((t == 3)) (fun h12 => ?_) (fun h12 => ?_)
          · have hS := cond_T h12 hS
            have h12p : t = 3 := eq_of_beq h12
            refine xSk ?_
            refine xSel [] ?_
            refine xSub [(2, vy t), (19, vb (t == 3))] ?_
            have eS := hS.symm
            exact hN8 _ eS _ _ _ (Gh.le.refl _) ⟨by kernel_rfl, by kernel_rfl⟩
          · have hS := cond_F h12 hS
            have h12p : ¬ (t = 3) := ne_of_beq_false_ h12
            refine xSq ?_
            refine xRg ?_
            refine xB 2 [] [(2, vy t), (18, vy t), (19, vb (t == 4))] ?_
            refine xRe ?_
            refine wpq_then ?_
            refine xLetJ hS (fun g own sl t13 => own = [] ∧ sl = [(2, vy t), (19, vb t13)]) ?_ ?_
            · rintro g14 _ _ t13 e15 ⟨rfl, rfl⟩ hS
              refine xSub [(2, vy t), (19, vb t13)] ?_
              have eS := hS.symm
              exact hN8 _ eS _ _ _ e15 ⟨by kernel_rfl, by kernel_rfl⟩
            · intro uu13 hS hN13
              refine xCd ((t == 4)) (fun h16 => ?_) (fun h16 => ?_)
              · have hS := cond_T h16 hS
                have h16p : t = 4 := eq_of_beq h16
                refine xSk ?_
                refine xSel [] ?_
                refine xSub [(2, vy t), (19, vb (t == 4))] ?_
                have eS := hS.symm
                exact hN13 _ eS _ _ _ (Gh.le.refl _) ⟨by kernel_rfl, by kernel_rfl⟩
              · have hS := cond_F h16 hS
                have h16p : ¬ (t = 4) := ne_of_beq_false_ h16
                refine xSq ?_
                refine xRg ?_
                refine xB 2 [] [(2, vy t), (18, vy t), (19, vb (t == 7))] ?_
                refine xRe ?_
                refine wpq_then ?_
                refine xLetJ hS (fun g own sl t17 => own = [] ∧ sl = [(2, vy t), (19, vb t17)]) ?_ ?_
                · rintro g18 _ _ t17 e19 ⟨rfl, rfl⟩ hS
                  refine xSub [(2, vy t), (19, vb t17)] ?_
                  have eS := hS.symm
                  exact hN13 _ eS _ _ _ e19 ⟨by kernel_rfl, by kernel_rfl⟩
                · intro uu17 hS hN17
                  refine xCd ((t == 7)) (fun h20 => ?_) (fun h20 => ?_)
                  · have hS := cond_T h20 hS
                    have h20p : t = 7 := eq_of_beq h20
                    refine xSk ?_
                    refine xSel [] ?_
                    refine xSub [(2, vy t), (19, vb (t == 7))] ?_
                    have eS := hS.symm
                    exact hN17 _ eS _ _ _ (Gh.le.refl _) ⟨by kernel_rfl, by kernel_rfl⟩
                  · have hS := cond_F h20 hS
                    have h20p : ¬ (t = 7) := ne_of_beq_false_ h20
                    refine xSq ?_
                    refine xRg ?_
                    refine xB 2 [] [(2, vy t), (18, vy t), (19, vb (t == 8))] ?_
                    refine xRe ?_
                    refine wpq_then ?_
                    refine xLetJ hS (fun g own sl t21 => own = [] ∧ sl = [(2, vy t), (19, vb t21)]) ?_ ?_
                    · rintro g22 _ _ t21 e23 ⟨rfl, rfl⟩ hS
                      refine xSub [(2, vy t), (19, vb t21)] ?_
                      have eS := hS.symm
                      exact hN17 _ eS _ _ _ e23 ⟨by kernel_rfl, by kernel_rfl⟩
                    · intro uu21 hS hN21
                      refine xCd ((t == 8)) (fun h24 => ?_) (fun h24 => ?_)
                      · have hS := cond_T h24 hS
                        have h24p : t = 8 := eq_of_beq h24
                        refine xSk ?_
                        refine xSel [] ?_
                        refine xSub [(2, vy t), (19, vb (t == 8))] ?_
                        have eS := hS.symm
                        exact hN21 _ eS _ _ _ (Gh.le.refl _) ⟨by kernel_rfl, by kernel_rfl⟩
                      · have hS := cond_F h24 hS
                        have h24p : ¬ (t = 8) := ne_of_beq_false_ h24
                        refine xRg ?_
                        refine xB 2 [] [(2, vy t), (19, vb (t == 10))] ?_
                        refine xRe ?_
                        refine xSel [] ?_
                        refine xSub [(2, vy t), (19, vb (t == 10))] ?_
                        have eS := hS.symm
                        exact hN21 _ eS _ _ _ (Gh.le.refl _) ⟨by kernel_rfl, by kernel_rfl⟩
      · have hS := cond_F h7 hS
        have h7l := (or_false_ h7).1
        have h7r := (or_false_ h7).2
        have h7lp : ¬ (k = 4) := ne_of_beq_false_ h7l
        refine xSk ?_
        refine xSel [] ?_
        refine xSub [(2, vy t)] ?_
        have eS := hS.symm
        exact hN4 _ eS _ _ _ (Gh.le.refl _) ⟨by kernel_rfl, by kernel_rfl⟩

def o37_L0 (p : Proc) (i : Int) (s30 : Nat) : Option (Ctl (Nat) (Ctl (Unit) (Int))) :=
  (cond (decide (((s30 : Nat) : Int) < ((((List.getD p.parts (i).toNat default).legs).length : Nat) : Int))) (bindO (τ := Int) (o25 (List.getD (List.getD p.parts (i).toNat default).legs s30 default)) fun y37 => (cond ((y37 != 0)) (some (Ctl.done (Ctl.done ((y37 : Int))))) (letJ (τ := Bool) (cond ((((s30 : Nat) : Int) == 0)) (letJ (τ := Bool) (o58 p ((List.getD p.parts (i).toNat default).kind : Int) ((List.getD (List.getD p.parts (i).toNat default).legs s30 default).type_ : Int)) fun y61 => (!y61)) (false)) fun t41 => (bindO (τ := Bool) (cond (t41) (some (true)) (bindO (τ := Bool) (cond (decide (((s30 : Nat) : Int) > 0)) (grd (decide (0 ≤ (((s30 : Nat) : Int) - 1) ∧ (((s30 : Nat) : Int) - 1) < ((((List.getD p.parts (i).toNat default).legs).length : Nat) : Int))) (letJ (τ := Bool) (o26 (List.getD (List.getD p.parts (i).toNat default).legs ((((s30 : Nat) : Int) - 1)).toNat default) (List.getD (List.getD p.parts (i).toNat default).legs s30 default)) fun y57 => (some (!y57)))) (some (false))) fun t50 => (some (t50)))) fun t44 => (cond (t44) (some (Ctl.done (Ctl.done ((9 : Int))))) (grd (decide (((s30 : Nat) : Int) + 1 ≤ 9223372036854775807)) (some (Ctl.go (s30 + 1))))))))) (some (Ctl.done (Ctl.go ()))))
def o37 (p : Proc) (i : Int) : Option (Int) :=
  (letJ (τ := (List UInt8)) (o36 (p.kind : Int)) fun y2 => (grd (decide (0 ≤ i ∧ i < (((p.parts).length : Nat) : Int))) (bindO (τ := Int) (o57 (y2 : List UInt8) ((List.getD p.parts (i).toNat default).kind : Int)) fun y9 => (cond (decide (y9 < 0)) (some ((17 : Int))) (joinO (τ := Unit) (ρ := Int) (cond (decide (i > 0)) (grd (decide (-9223372036854775808 ≤ i - 1 ∧ i - 1 ≤ 9223372036854775807)) (grd (decide (0 ≤ (i - 1) ∧ (i - 1) < (((p.parts).length : Nat) : Int))) (bindO (τ := Int) (o57 (y2 : List UInt8) ((List.getD p.parts ((i - 1)).toNat default).kind : Int)) fun y74 => (cond ((decide (y9 < y74) || ((y9 == y74) && (strLt (List.getD p.parts (i).toNat default).name (List.getD p.parts ((i - 1)).toNat default).name)))) (some (Ctl.done ((9 : Int)))) (cond (((y9 == y74) && ((List.getD p.parts (i).toNat default).name == (List.getD p.parts ((i - 1)).toNat default).name))) (some (Ctl.done ((7 : Int)))) (some (Ctl.go ()))))))) (some (Ctl.go ()))) fun t13 => (bindO (τ := Bool) (cond ((((List.getD p.parts (i).toNat default).kind == 1) || ((List.getD p.parts (i).toNat default).kind == 3))) (bindO (τ := Bool) (o35 (List.getD p.parts (i).toNat default).name (8 : Int)) fun y65 => (some (!y65))) (some (false))) fun t17 => (cond ((t17 || ((!(((List.getD p.parts (i).toNat default).kind == 1) || ((List.getD p.parts (i).toNat default).kind == 3))) && (!((List.getD p.parts (i).toNat default).name == []))))) (some ((5 : Int))) (cond ((((((List.getD p.parts (i).toNat default).legs).length : Nat) : Int) == 0)) (some ((1 : Int))) (cond (decide (((((List.getD p.parts (i).toNat default).legs).length : Nat) : Int) > 24)) (some ((3 : Int))) (joinO (τ := Unit) (ρ := Int) (loopO (σ := Nat) (ρ := Ctl (Unit) (Int)) fuelN (o37_L0 p i) (0)) fun t25 => (some ((0 : Int)))))))))))))
set_option maxRecDepth 100000 in
theorem C37 (g : Gh) (p : Proc) (Ap_parts : Option Addr) (cp_parts : Nat) (i : Int) (fp_parts : Arr g.r tyPart Ap_parts cp_parts p.parts) (fG0 : Arr g.r (tyI .u16) (some ⟨0, 0, none⟩) 18 usesL) {r : Int} (hS : o37 p i = some r) :
    Ctr Tryd.prog 37 [Value.agg #[vt p.airport, vt p.name, vy p.kind, vs Ap_parts p.parts cp_parts], vi i] g [] (fun v ψ o => v = vi r ∧ o = []) := by
  unfold o37 at hS
  refine xFn Tryd.f37 (Tryd.f37.body.getD .skip) 142 ?_
  have hlG0 := hlUses
  have nfp_parts := fp_parts.len
  have nfG0 := fG0.len
  refine xSq ?_
  refine xRg ?_
  refine xE eB ?_
  rintro _ _ _ - ⟨b1, rfl, rfl, rfl⟩
  refine xB 1 [] [(1, vi i), (2, vp b1 0)] ?_
  refine xRe ?_
  refine wpq_then ?_
  refine xSq ?_
  refine xRg ?_
  refine xB 2 [(1, 0)] [(1, vi i), (2, vp b1 0), (15, vy p.kind)] ?_
  obtain ⟨y2, hy2, hS⟩ := letJ_T hS
  refine xE (eC 0 (fun g' lr eb ln => C36 g' (p.kind : Int) hy2)) ?_
  rintro _ g3 _ e4 ⟨_, rfl, A2_0, c2_0, k2_0, rfl, rfl, h2_0, hq2_0⟩
  have nh2_0 := h2_0.len
  refine xB 1 [] [(1, vi i), (2, vp b1 0), (5, vs A2_0 y2 c2_0)] ?_
  refine xRe ?_
  refine wpq_then ?_
  refine xSq ?_
  refine xRg ?_
  have fp_parts := fp_parts.mono e4.r
  obtain ⟨q6, hS⟩ := grd_T hS
  have q6p := of_decide_eq_true q6
  have i7 : (i).toNat < (p.parts).length := by omega
  obtain ⟨ad5, cs5, hA5, hr5, hc5⟩ := fp_parts.at_ (get_getD (d := default) i7)
  obtain ⟨A5_legs, c5_legs, rfl, f5_legs⟩ := hr5
  have nf5_legs := f5_legs.len
  refine xB 3 [(1, 1)] [(1, vi i), (2, vp b1 0), (5, vs A2_0 y2 c2_0), (18, vs Ap_parts p.parts cp_parts), (19, vi i)] ?_
  refine xV (qIx (i).toNat 3 hA5 (show (i : Int) = _ from by omega) i7) ?_
  refine xV (qLdP (Addr.add ad5 ((i).toNat * 3)) 0 hc5) ?_
  refine xE eB ?_
  rintro _ _ _ - ⟨b8, rfl, rfl, rfl⟩
  refine xBo 1 [(6, 0)] [some ⟨b8, 35, [vy ((List.getD p.parts (i).toNat default).kind), vt ((List.getD p.parts (i).toNat default).name), vs A5_legs ((List.getD p.parts (i).toNat default).legs) c5_legs]⟩, k2_0, some ⟨b1, 25, (cProc p Ap_parts cp_parts)⟩] [(1, vi i), (2, vp b1 0), (5, vs A2_0 y2 c2_0), (6, vp b8 0)] ?_
  refine xRe ?_
  refine wpq_then ?_
  refine xSq ?_
  refine xRg ?_
  refine xB 3 [(2, 0)] [(1, vi i), (2, vp b1 0), (5, vs A2_0 y2 c2_0), (6, vp b8 0), (22, vs A2_0 y2 c2_0), (24, vy ((List.getD p.parts (i).toNat default).kind))] ?_
  obtain ⟨y9, hy9, hS⟩ := bindO_T hS
  refine xE (eC 0 (fun g' lr eb ln => C57 g' (y2 : List UInt8) A2_0 c2_0 ((List.getD p.parts (i).toNat default).kind : Int) (arr_of_buf h2_0 (Psi.le_b eb) (lentk 1 (by kernel_rfl) ln)) hy9)) ?_
  rintro _ g10 _ e11 ⟨_, rfl, rfl, rfl⟩
  refine xB 1 [] [(1, vi i), (2, vp b1 0), (5, vs A2_0 y2 c2_0), (6, vp b8 0), (7, vi y9)] ?_
  refine xRe ?_
  refine wpq_then ?_
  refine xSq ?_
  refine xSq ?_
  refine xRg ?_
  refine xB 2 [] [(1, vi i), (2, vp b1 0), (5, vs A2_0 y2 c2_0), (6, vp b8 0), (7, vi y9), (27, vb (decide (y9 < 0)))] ?_
  refine xRe ?_
  refine wpq_then ?_
  refine xCd (decide (y9 < 0)) (fun h12 => ?_) (fun h12 => ?_)
  · have hS := cond_T h12 hS
    have h12p := of_decide_eq_true h12
    refine xSq ?_
    refine xRg ?_
    refine xB 1 [] [(4, vi 17)] ?_
    refine xRe ?_
    refine wpq_then ?_
    have eS := (Option.some.inj hS).symm
    subst eS
    exact xRet [] [4] (e4.trans e11) ⟨by kernel_rfl, by kernel_rfl⟩ (fun _ _ h => h)
  · have hS := cond_F h12 hS
    have h12p := of_decide_eq_false h12
    refine xSk ?_
    refine wpq_then ?_
    refine xSub [(1, vi i), (2, vp b1 0), (5, vs A2_0 y2 c2_0), (6, vp b8 0), (7, vi y9)] ?_
    refine xSq ?_
    refine xSq ?_
    refine xRg ?_
    refine xB 2 [] [(1, vi i), (2, vp b1 0), (5, vs A2_0 y2 c2_0), (6, vp b8 0), (7, vi y9), (29, vb (decide (i > 0)))] ?_
    refine xRe ?_
    refine wpq_then ?_
    refine xJoinO hS (fun g own sl t13 => own = [some ⟨b8, 35, [vy ((List.getD p.parts (i).toNat default).kind), vt ((List.getD p.parts (i).toNat default).name), vs A5_legs ((List.getD p.parts (i).toNat default).legs) c5_legs]⟩, some ⟨b1, 25, (cProc p Ap_parts cp_parts)⟩] ∧ sl = [(2, vp b1 0), (6, vp b8 0)]) ?_ ?_
    · rintro g14 _ _ t13 e15 ⟨rfl, rfl⟩ hS
      refine wpq_then ?_
      refine xSq ?_
      refine xRg ?_
      refine xB 4 [(1, 0)] [(2, vp b1 0), (6, vp b8 0), (70, vb ((List.getD p.parts (i).toNat default).kind == 1))] ?_
      refine wpr_grp 8 [(2, vp b1 0), (6, vp b8 0), (74, vb (((List.getD p.parts (i).toNat default).kind == 1) || ((List.getD p.parts (i).toNat default).kind == 3)))] (fun hk3 => ?_) ?_
      · refine wpq_split 70 (b := ((List.getD p.parts (i).toNat default).kind == 1)) (by kernel_rfl) (fun q16 => ?_) (fun q16 => ?_)
        · have q16p : (List.getD p.parts (i).toNat default).kind = 1 := eq_of_beq q16
          refine xB 4 [] [(2, vp b1 0), (6, vp b8 0), (74, vb true)] ?_
          refine wpq_re 74 (v := vb true) (Value.bool ((((List.getD p.parts (i).toNat default).kind == 1) || ((List.getD p.parts (i).toNat default).kind == 3)))) (by kernel_rfl) (re_or1 q16) ?_
          exact wpq_sub _ (by kernel_rfl) hk3
        · have q16p : ¬ ((List.getD p.parts (i).toNat default).kind = 1) := ne_of_beq_false_ q16
          refine xB 4 [(5, 0)] [(2, vp b1 0), (6, vp b8 0), (74, vb ((List.getD p.parts (i).toNat default).kind == 3))] ?_
          refine wpq_re 74 (v := vb ((List.getD p.parts (i).toNat default).kind == 3)) (Value.bool ((((List.getD p.parts (i).toNat default).kind == 1) || ((List.getD p.parts (i).toNat default).kind == 3)))) (by kernel_rfl) (re_or0 q16) ?_
          exact wpq_sub _ (by kernel_rfl) hk3
      · refine xB 1 [] [(2, vp b1 0), (6, vp b8 0), (10, vb (((List.getD p.parts (i).toNat default).kind == 1) || ((List.getD p.parts (i).toNat default).kind == 3)))] ?_
        refine xRe ?_
        refine wpq_then ?_
        refine xSq ?_
        refine xBl 1 ?_
        refine xSq ?_
        refine xRg ?_
        refine xB 2 [] [(2, vp b1 0), (6, vp b8 0), (10, vb (((List.getD p.parts (i).toNat default).kind == 1) || ((List.getD p.parts (i).toNat default).kind == 3))), (77, vb (((List.getD p.parts (i).toNat default).kind == 1) || ((List.getD p.parts (i).toNat default).kind == 3)))] ?_
        refine xGJo hS 7 (fun g own sl t17 => own = [some ⟨b8, 35, [vy ((List.getD p.parts (i).toNat default).kind), vt ((List.getD p.parts (i).toNat default).name), vs A5_legs ((List.getD p.parts (i).toNat default).legs) c5_legs]⟩, some ⟨b1, 25, (cProc p Ap_parts cp_parts)⟩] ∧ sl = [(2, vp b1 0), (6, vp b8 0), (10, vb (((List.getD p.parts (i).toNat default).kind == 1) || ((List.getD p.parts (i).toNat default).kind == 3))), (82, vb t17)]) ?_ ?_
        · rintro g18 _ _ t17 e19 ⟨rfl, rfl⟩ hS
          refine xB 1 [] [(2, vp b1 0), (6, vp b8 0), (10, vb (((List.getD p.parts (i).toNat default).kind == 1) || ((List.getD p.parts (i).toNat default).kind == 3))), (83, vb t17)] ?_
          refine wpr_grp 16 [(2, vp b1 0), (6, vp b8 0), (91, vb (t17 || ((!(((List.getD p.parts (i).toNat default).kind == 1) || ((List.getD p.parts (i).toNat default).kind == 3))) && (!((List.getD p.parts (i).toNat default).name == [])))))] (fun hk7 => ?_) ?_
          · refine wpq_split 83 (b := t17) (by kernel_rfl) (fun q20 => ?_) (fun q20 => ?_)
            · refine xB 8 [] [(2, vp b1 0), (6, vp b8 0), (91, vb true)] ?_
              refine wpq_re 91 (v := vb true) (Value.bool ((t17 || ((!(((List.getD p.parts (i).toNat default).kind == 1) || ((List.getD p.parts (i).toNat default).kind == 3))) && (!((List.getD p.parts (i).toNat default).name == [])))))) (by kernel_rfl) (re_or1 q20) ?_
              exact wpq_sub _ (by kernel_rfl) hk7
            · refine xB 3 [] [(2, vp b1 0), (6, vp b8 0), (83, vb false), (86, vb (!(((List.getD p.parts (i).toNat default).kind == 1) || ((List.getD p.parts (i).toNat default).kind == 3))))] ?_
              refine wpr_grp 15 [(2, vp b1 0), (6, vp b8 0), (83, vb false), (90, vb ((!(((List.getD p.parts (i).toNat default).kind == 1) || ((List.getD p.parts (i).toNat default).kind == 3))) && (!((List.getD p.parts (i).toNat default).name == []))))] (fun hk10 => ?_) ?_
              · refine wpq_split 86 (b := (!(((List.getD p.parts (i).toNat default).kind == 1) || ((List.getD p.parts (i).toNat default).kind == 3)))) (by kernel_rfl) (fun q21 => ?_) (fun q21 => ?_)
                · have q21n := not_eq_true_ q21
                  have q21nl := (or_false_ q21n).1
                  have q21nr := (or_false_ q21n).2
                  have q21nlp : ¬ ((List.getD p.parts (i).toNat default).kind = 1) := ne_of_beq_false_ q21nl
                  have q21nrp : ¬ ((List.getD p.parts (i).toNat default).kind = 3) := ne_of_beq_false_ q21nr
                  refine xB 2 [(12, 0)] [(2, vp b1 0), (6, vp b8 0), (83, vb false), (86, vb true), (88, vt ((List.getD p.parts (i).toNat default).name))] ?_
                  refine xV (qNeS ((List.getD p.parts (i).toNat default).name) ([])) ?_
                  refine xB 1 [] [(2, vp b1 0), (6, vp b8 0), (83, vb false), (90, vb (!((List.getD p.parts (i).toNat default).name == [])))] ?_
                  refine wpq_re 90 (v := vb (!((List.getD p.parts (i).toNat default).name == []))) (Value.bool (((!(((List.getD p.parts (i).toNat default).kind == 1) || ((List.getD p.parts (i).toNat default).kind == 3))) && (!((List.getD p.parts (i).toNat default).name == []))))) (by kernel_rfl) (re_and1 q21) ?_
                  exact wpq_sub _ (by kernel_rfl) hk10
                · have q21n := not_eq_false_ q21
                  refine xB 4 [] [(2, vp b1 0), (6, vp b8 0), (83, vb false), (90, vb false)] ?_
                  refine wpq_re 90 (v := vb false) (Value.bool (((!(((List.getD p.parts (i).toNat default).kind == 1) || ((List.getD p.parts (i).toNat default).kind == 3))) && (!((List.getD p.parts (i).toNat default).name == []))))) (by kernel_rfl) (re_and0 q21) ?_
                  exact wpq_sub _ (by kernel_rfl) hk10
              · refine xB 1 [] [(2, vp b1 0), (6, vp b8 0), (91, vb ((!(((List.getD p.parts (i).toNat default).kind == 1) || ((List.getD p.parts (i).toNat default).kind == 3))) && (!((List.getD p.parts (i).toNat default).name == []))))] ?_
                refine wpq_re 91 (v := vb ((!(((List.getD p.parts (i).toNat default).kind == 1) || ((List.getD p.parts (i).toNat default).kind == 3))) && (!((List.getD p.parts (i).toNat default).name == [])))) (Value.bool ((t17 || ((!(((List.getD p.parts (i).toNat default).kind == 1) || ((List.getD p.parts (i).toNat default).kind == 3))) && (!((List.getD p.parts (i).toNat default).name == [])))))) (by kernel_rfl) (re_or0 q20) ?_
                exact wpq_sub _ (by kernel_rfl) hk7
          · refine xB 1 [] [(2, vp b1 0), (6, vp b8 0), (75, vb (t17 || ((!(((List.getD p.parts (i).toNat default).kind == 1) || ((List.getD p.parts (i).toNat default).kind == 3))) && (!((List.getD p.parts (i).toNat default).name == [])))))] ?_
            refine xRe ?_
            refine wpq_then ?_
            refine xCd ((t17 || ((!(((List.getD p.parts (i).toNat default).kind == 1) || ((List.getD p.parts (i).toNat default).kind == 3))) && (!((List.getD p.parts (i).toNat default).name == []))))) (fun h22 => ?_) (fun h22 => ?_)
            · have hS := cond_T h22 hS
              refine xSq ?_
              refine xRg ?_
              refine xB 1 [] [(4, vi 5)] ?_
              refine xRe ?_
              refine wpq_then ?_
              have eS := (Option.some.inj hS).symm
              subst eS
              exact xRet [] [4] (e4.trans (e11.trans (e15.trans e19))) ⟨by kernel_rfl, by kernel_rfl⟩ (fun _ _ h => h)
            · have hS := cond_F h22 hS
              have h22l := (or_false_ h22).1
              have h22r := (or_false_ h22).2
              refine xSq ?_
              refine xRg ?_
              refine xB 5 [(1, 0)] [(2, vp b1 0), (6, vp b8 0), (92, vb (((((List.getD p.parts (i).toNat default).legs).length : Nat) : Int) == 0))] ?_
              refine xRe ?_
              refine wpq_then ?_
              refine xCd ((((((List.getD p.parts (i).toNat default).legs).length : Nat) : Int) == 0)) (fun h23 => ?_) (fun h23 => ?_)
              · have hS := cond_T h23 hS
                have h23p : ((((List.getD p.parts (i).toNat default).legs).length : Nat) : Int) = 0 := eq_of_beq h23
                refine xSq ?_
                refine xRg ?_
                refine xB 1 [] [(4, vi 1)] ?_
                refine xRe ?_
                refine wpq_then ?_
                have eS := (Option.some.inj hS).symm
                subst eS
                exact xRet [] [4] (e4.trans (e11.trans (e15.trans e19))) ⟨by kernel_rfl, by kernel_rfl⟩ (fun _ _ h => h)
              · have hS := cond_F h23 hS
                have h23p : ¬ (((((List.getD p.parts (i).toNat default).legs).length : Nat) : Int) = 0) := ne_of_beq_false_ h23
                refine xSq ?_
                refine xRg ?_
                refine xB 5 [(1, 0)] [(2, vp b1 0), (6, vp b8 0), (97, vb (decide (((((List.getD p.parts (i).toNat default).legs).length : Nat) : Int) > 24)))] ?_
                refine xRe ?_
                refine wpq_then ?_
                refine xCd (decide (((((List.getD p.parts (i).toNat default).legs).length : Nat) : Int) > 24)) (fun h24 => ?_) (fun h24 => ?_)
                · have hS := cond_T h24 hS
                  have h24p := of_decide_eq_true h24
                  refine xSq ?_
                  refine xRg ?_
                  refine xB 1 [] [(4, vi 3)] ?_
                  refine xRe ?_
                  refine wpq_then ?_
                  have eS := (Option.some.inj hS).symm
                  subst eS
                  exact xRet [] [4] (e4.trans (e11.trans (e15.trans e19))) ⟨by kernel_rfl, by kernel_rfl⟩ (fun _ _ h => h)
                · have hS := cond_F h24 hS
                  have h24p := of_decide_eq_false h24
                  refine xSk ?_
                  refine wpq_blockN ?_
                  refine wpq_then ?_
                  refine xSub [(2, vp b1 0), (6, vp b8 0)] ?_
                  refine xSq ?_
                  refine xSq ?_
                  refine xRg ?_
                  refine xB 4 [(1, 0)] [(2, vp b1 0), (6, vp b8 0), (103, vs A5_legs ((List.getD p.parts (i).toNat default).legs) c5_legs), (104, vi ((((List.getD p.parts (i).toNat default).legs).length : Nat) : Int)), (105, vi 0)] ?_
                  refine xRe ?_
                  refine wpq_then ?_
                  refine xJoinO hS (fun g own sl t25 => own = [] ∧ sl = []) ?_ ?_
                  · rintro g26 _ _ t25 e27 ⟨rfl, rfl⟩ hS
                    refine wpq_then ?_
                    refine xSq ?_
                    refine xRg ?_
                    refine xB 1 [] [(4, vi 0)] ?_
                    refine xRe ?_
                    refine wpq_then ?_
                    have eS := (Option.some.inj hS).symm
                    subst eS
                    exact xRet [] [4] (e4.trans (e11.trans (e15.trans (e19.trans e27)))) ⟨by kernel_rfl, by kernel_rfl⟩ (fun _ _ h => h)
                  · intro uu25 hS hN25 hD25
                    refine xBl 2 ?_
                    refine xSub [(2, vp b1 0), (6, vp b8 0), (103, vs A5_legs ((List.getD p.parts (i).toNat default).legs) c5_legs), (104, vi ((((List.getD p.parts (i).toNat default).legs).length : Nat) : Int)), (105, vi 0)] ?_
                    refine xLo hS (fun g own sl s30 => own = [some ⟨b8, 35, [vy ((List.getD p.parts (i).toNat default).kind), vt ((List.getD p.parts (i).toNat default).name), vs A5_legs ((List.getD p.parts (i).toNat default).legs) c5_legs]⟩, some ⟨b1, 25, (cProc p Ap_parts cp_parts)⟩] ∧ sl = [(2, vp b1 0), (6, vp b8 0), (103, vs A5_legs ((List.getD p.parts (i).toNat default).legs) c5_legs), (104, vi ((((List.getD p.parts (i).toNat default).legs).length : Nat) : Int)), (105, vi ((s30 : Nat) : Int))]) ⟨by kernel_rfl, by kernel_rfl⟩ ?_
                    rintro g31 _ _ s30 uu30 e32 ⟨rfl, rfl⟩ hS Qr30 hN30 hD30
                    unfold o37_L0 at hS
                    refine xSq ?_
                    refine xRg ?_
                    refine xB 1 [] [(2, vp b1 0), (6, vp b8 0), (103, vs A5_legs ((List.getD p.parts (i).toNat default).legs) c5_legs), (104, vi ((((List.getD p.parts (i).toNat default).legs).length : Nat) : Int)), (105, vi ((s30 : Nat) : Int)), (106, vb (decide (((s30 : Nat) : Int) < ((((List.getD p.parts (i).toNat default).legs).length : Nat) : Int))))] ?_
                    refine xRe ?_
                    refine wpq_then ?_
                    refine xSq ?_
                    refine xCd (decide (((s30 : Nat) : Int) < ((((List.getD p.parts (i).toNat default).legs).length : Nat) : Int))) (fun h33 => ?_) (fun h33 => ?_)
                    · have hS := cond_T h33 hS
                      have h33p := of_decide_eq_true h33
                      refine xSk ?_
                      refine wpq_then ?_
                      refine xSub [(2, vp b1 0), (6, vp b8 0), (103, vs A5_legs ((List.getD p.parts (i).toNat default).legs) c5_legs), (104, vi ((((List.getD p.parts (i).toNat default).legs).length : Nat) : Int)), (105, vi ((s30 : Nat) : Int))] ?_
                      refine xSq ?_
                      refine xBl 3 ?_
                      refine xSq ?_
                      refine xRg ?_
                      have f5_legs := f5_legs.mono (e11.trans (e15.trans (e19.trans e32))).r
                      have i35 : s30 < ((List.getD p.parts (i).toNat default).legs).length := by omega
                      obtain ⟨ad34, cs34, hA34, hr34, hc34⟩ := f5_legs.at_ (get_getD (d := default) i35)
                      obtain ⟨rfl⟩ := hr34
                      refine xB 1 [] [(2, vp b1 0), (6, vp b8 0), (103, vs A5_legs ((List.getD p.parts (i).toNat default).legs) c5_legs), (104, vi ((((List.getD p.parts (i).toNat default).legs).length : Nat) : Int)), (105, vi ((s30 : Nat) : Int)), (107, vi ((s30 : Nat) : Int))] ?_
                      refine xV (qIx s30 13 hA34 rfl i35) ?_
                      refine xV (qLdP (Addr.add ad34 (s30 * 13)) 0 hc34) ?_
                      refine xE eB ?_
                      rintro _ _ _ - ⟨b36, rfl, rfl, rfl⟩
                      refine xBo 2 [(5, 0)] [some ⟨b36, 46, (cLeg (List.getD (List.getD p.parts (i).toNat default).legs s30 default))⟩, some ⟨b8, 35, [vy ((List.getD p.parts (i).toNat default).kind), vt ((List.getD p.parts (i).toNat default).name), vs A5_legs ((List.getD p.parts (i).toNat default).legs) c5_legs]⟩, some ⟨b1, 25, (cProc p Ap_parts cp_parts)⟩] [(2, vp b1 0), (6, vp b8 0), (11, vi ((s30 : Nat) : Int)), (12, vp b36 0), (103, vs A5_legs ((List.getD p.parts (i).toNat default).legs) c5_legs), (104, vi ((((List.getD p.parts (i).toNat default).legs).length : Nat) : Int)), (105, vi ((s30 : Nat) : Int))] ?_
                      refine xRe ?_
                      refine wpq_then ?_
                      refine xSq ?_
                      refine xSq ?_
                      refine xRg ?_
                      refine xB 1 [(0, 0)] [(2, vp b1 0), (6, vp b8 0), (11, vi ((s30 : Nat) : Int)), (12, vp b36 0), (103, vs A5_legs ((List.getD p.parts (i).toNat default).legs) c5_legs), (104, vi ((((List.getD p.parts (i).toNat default).legs).length : Nat) : Int)), (105, vi ((s30 : Nat) : Int)), (110, Value.agg #[vy ((List.getD (List.getD p.parts (i).toNat default).legs s30 default).type_), vt ((List.getD (List.getD p.parts (i).toNat default).legs s30 default).fix), vt ((List.getD (List.getD p.parts (i).toNat default).legs s30 default).center), vy ((List.getD (List.getD p.parts (i).toNat default).legs s30 default).turn), vb ((List.getD (List.getD p.parts (i).toNat default).legs s30 default).over), vi ((List.getD (List.getD p.parts (i).toNat default).legs s30 default).course), vi ((List.getD (List.getD p.parts (i).toNat default).legs s30 default).dist), vi ((List.getD (List.getD p.parts (i).toNat default).legs s30 default).radius), vi ((List.getD (List.getD p.parts (i).toNat default).legs s30 default).theta), vi ((List.getD (List.getD p.parts (i).toNat default).legs s30 default).alt.lo), vi ((List.getD (List.getD p.parts (i).toNat default).legs s30 default).alt.hi), vi ((List.getD (List.getD p.parts (i).toNat default).legs s30 default).speed), vi ((List.getD (List.getD p.parts (i).toNat default).legs s30 default).rnp)])] ?_
                      have fG0 := fG0.mono (e4.trans (e11.trans (e15.trans (e19.trans e32)))).r
                      obtain ⟨y37, hy37, hS⟩ := bindO_T hS
                      refine xE (eC 0 (fun g' lr eb ln => C25 g' (List.getD (List.getD p.parts (i).toNat default).legs s30 default) (fG0.mono lr) hy37)) ?_
                      rintro _ g38 _ e39 ⟨_, rfl, rfl, rfl⟩
                      refine xB 1 [] [(2, vp b1 0), (6, vp b8 0), (11, vi ((s30 : Nat) : Int)), (12, vp b36 0), (13, vi y37), (103, vs A5_legs ((List.getD p.parts (i).toNat default).legs) c5_legs), (104, vi ((((List.getD p.parts (i).toNat default).legs).length : Nat) : Int)), (105, vi ((s30 : Nat) : Int))] ?_
                      refine xRe ?_
                      refine wpq_then ?_
                      refine xSq ?_
                      refine xRg ?_
                      refine xB 2 [] [(2, vp b1 0), (6, vp b8 0), (11, vi ((s30 : Nat) : Int)), (12, vp b36 0), (13, vi y37), (103, vs A5_legs ((List.getD p.parts (i).toNat default).legs) c5_legs), (104, vi ((((List.getD p.parts (i).toNat default).legs).length : Nat) : Int)), (105, vi ((s30 : Nat) : Int)), (113, vb (y37 != 0))] ?_
                      refine xRe ?_
                      refine wpq_then ?_
                      refine xCd ((y37 != 0)) (fun h40 => ?_) (fun h40 => ?_)
                      · have hS := cond_T h40 hS
                        have h40p : ¬ (y37 = 0) := ne_of_bne_ h40
                        refine xSq ?_
                        refine xRg ?_
                        refine xB 2 [] [(4, vi y37)] ?_
                        refine xRe ?_
                        refine wpq_then ?_
                        have eS := (Option.some.inj hS).symm
                        have eS := (hD30 _ eS).symm
                        have eS := (hD25 _ eS).symm
                        subst eS
                        exact xRet [] [4] (e4.trans (e11.trans (e15.trans (e19.trans (e32.trans e39))))) ⟨by kernel_rfl, by kernel_rfl⟩ (fun _ _ h => h)
                      · have hS := cond_F h40 hS
                        have h40p : y37 = 0 := eq_of_bne_false_ h40
                        refine xSk ?_
                        refine wpq_then ?_
                        refine xSub [(2, vp b1 0), (6, vp b8 0), (11, vi ((s30 : Nat) : Int)), (12, vp b36 0), (103, vs A5_legs ((List.getD p.parts (i).toNat default).legs) c5_legs), (104, vi ((((List.getD p.parts (i).toNat default).legs).length : Nat) : Int)), (105, vi ((s30 : Nat) : Int))] ?_
                        refine xSq ?_
                        refine xDr 0 [3, 5, 7, 16, 20, 21] [] [some ⟨b36, 46, (cLeg (List.getD (List.getD p.parts (i).toNat default).legs s30 default))⟩, some ⟨b8, 35, [vy ((List.getD p.parts (i).toNat default).kind), vt ((List.getD p.parts (i).toNat default).name), vs A5_legs ((List.getD p.parts (i).toNat default).legs) c5_legs]⟩, some ⟨b1, 25, (cProc p Ap_parts cp_parts)⟩] 26 (fun RG => ?_) (fun _ _ _ _ _ h => h)
                        refine xT 23 [0, 1, 2] [] [some 0, some 1, some 2] [(2, vp b1 0), (6, vp b8 0), (11, vi ((s30 : Nat) : Int)), (12, vp b36 0), (103, vs A5_legs ((List.getD p.parts (i).toNat default).legs) c5_legs), (104, vi ((((List.getD p.parts (i).toNat default).legs).length : Nat) : Int)), (105, vi ((s30 : Nat) : Int)), (117, vb (((s30 : Nat) : Int) == 0))] RG (Psi.le.refl _) ?_
                        refine xGJlA hS 15 [true, true, true, true, true, true, true, true, true, true, true, false, false, false, false, false, false, false, false, false, false, false, false, false, false, false] (fun g own sl t41 => own = [some ⟨b36, 46, (cLeg (List.getD (List.getD p.parts (i).toNat default).legs s30 default))⟩, some ⟨b8, 35, [vy ((List.getD p.parts (i).toNat default).kind), vt ((List.getD p.parts (i).toNat default).name), vs A5_legs ((List.getD p.parts (i).toNat default).legs) c5_legs]⟩, some ⟨b1, 25, (cProc p Ap_parts cp_parts)⟩] ∧ sl = [(2, vp b1 0), (6, vp b8 0), (11, vi ((s30 : Nat) : Int)), (12, vp b36 0), (103, vs A5_legs ((List.getD p.parts (i).toNat default).legs) c5_legs), (104, vi ((((List.getD p.parts (i).toNat default).legs).length : Nat) : Int)), (105, vi ((s30 : Nat) : Int)), (125, vb t41)]) ?_ ?_
                        · rintro g42 _ _ t41 e43 ⟨rfl, rfl⟩ hS
                          refine xT 14 [11] [] [some 0, some 1, some 2] [(2, vp b1 0), (6, vp b8 0), (11, vi ((s30 : Nat) : Int)), (12, vp b36 0), (103, vs A5_legs ((List.getD p.parts (i).toNat default).legs) c5_legs), (104, vi ((((List.getD p.parts (i).toNat default).legs).length : Nat) : Int)), (105, vi ((s30 : Nat) : Int)), (126, vb t41)] RG e43.r ?_
                          refine xGJoA hS 0 [true, true, true, true, true, true, true, true, true, true, true, true, true, true, true, true, true, true, true, true, true, true, true, true, true, true] (fun g own sl t44 => own = [some ⟨b36, 46, (cLeg (List.getD (List.getD p.parts (i).toNat default).legs s30 default))⟩, some ⟨b8, 35, [vy ((List.getD p.parts (i).toNat default).kind), vt ((List.getD p.parts (i).toNat default).name), vs A5_legs ((List.getD p.parts (i).toNat default).legs) c5_legs]⟩, some ⟨b1, 25, (cProc p Ap_parts cp_parts)⟩] ∧ sl = [(2, vp b1 0), (6, vp b8 0), (103, vs A5_legs ((List.getD p.parts (i).toNat default).legs) c5_legs), (104, vi ((((List.getD p.parts (i).toNat default).legs).length : Nat) : Int)), (105, vi ((s30 : Nat) : Int)), (140, vb t44)]) ?_ ?_
                          · rintro g45 _ _ t44 e46 ⟨rfl, rfl⟩ hS
                            refine xAe (lds := [3, 5, 7, 16, 20, 21]) ?_
                            refine wpq_then ?_
                            refine xCd (t44) (fun h47 => ?_) (fun h47 => ?_)
                            · have hS := cond_T h47 hS
                              refine xSq ?_
                              refine xRg ?_
                              refine xB 1 [] [(4, vi 9)] ?_
                              refine xRe ?_
                              refine wpq_then ?_
                              have eS := (Option.some.inj hS).symm
                              have eS := (hD30 _ eS).symm
                              have eS := (hD25 _ eS).symm
                              subst eS
                              exact xRet [] [4] (e4.trans (e11.trans (e15.trans (e19.trans (e32.trans (e39.trans (e43.trans e46))))))) ⟨by kernel_rfl, by kernel_rfl⟩ (fun _ _ h => h)
                            · have hS := cond_F h47 hS
                              refine xSk ?_
                              refine wpq_blockN ?_
                              refine wpq_then ?_
                              refine xSub [(2, vp b1 0), (6, vp b8 0), (103, vs A5_legs ((List.getD p.parts (i).toNat default).legs) c5_legs), (104, vi ((((List.getD p.parts (i).toNat default).legs).length : Nat) : Int)), (105, vi ((s30 : Nat) : Int))] ?_
                              refine xRg ?_
                              obtain ⟨q48, hS⟩ := grd_T hS
                              have q48p := of_decide_eq_true q48
                              refine xV (qAdd .i64 (((s30 : Nat) : Int)) (1) (wr64 (by omega))) ?_
                              refine xB 1 [] [(2, vp b1 0), (6, vp b8 0), (103, vs A5_legs ((List.getD p.parts (i).toNat default).legs) c5_legs), (104, vi ((((List.getD p.parts (i).toNat default).legs).length : Nat) : Int)), (105, vi (((s30 : Nat) : Int) + 1))] ?_
                              refine xRe ?_
                              refine wpq_thenN ?_
                              refine xSel [some 1, some 2] ?_
                              refine xSub [(2, vp b1 0), (6, vp b8 0), (103, vs A5_legs ((List.getD p.parts (i).toNat default).legs) c5_legs), (104, vi ((((List.getD p.parts (i).toNat default).legs).length : Nat) : Int)), (105, vi (((s30 : Nat) : Int) + 1))] ?_
                              have eS := (Option.some.inj hS).symm
                              exact hN30 _ eS _ _ _ (e39.trans (e43.trans e46)) ⟨by kernel_rfl, by kernel_rfl⟩
                          · intro uu44 hS hN44
                            refine wpq_split 126 (b := t41) (by kernel_rfl) (fun q49 => ?_) (fun q49 => ?_)
                            · have hS := cond_T q49 hS
                              refine xT 4 [12, 13, 14, 15, 16, 17, 18, 19, 20, 21] [] [some 0, some 1, some 2] [(2, vp b1 0), (6, vp b8 0), (103, vs A5_legs ((List.getD p.parts (i).toNat default).legs) c5_legs), (104, vi ((((List.getD p.parts (i).toNat default).legs).length : Nat) : Int)), (105, vi ((s30 : Nat) : Int)), (126, vb true), (129, undef), (135, undef), (136, undef)] RG e43.r ?_
                              refine xO1 (lds := [3, 5, 7, 16, 20, 21]) 22 ?_
                              refine xIb (lds := [3, 5, 7, 16, 20, 21]) [] ?_
                              refine xT 0 [23, 24, 25] [] [some 0, some 1, some 2] [(2, vp b1 0), (6, vp b8 0), (103, vs A5_legs ((List.getD p.parts (i).toNat default).legs) c5_legs), (104, vi ((((List.getD p.parts (i).toNat default).legs).length : Nat) : Int)), (105, vi ((s30 : Nat) : Int)), (140, vb true)] RG e43.r ?_
                              refine xSub [(2, vp b1 0), (6, vp b8 0), (103, vs A5_legs ((List.getD p.parts (i).toNat default).legs) c5_legs), (104, vi ((((List.getD p.parts (i).toNat default).legs).length : Nat) : Int)), (105, vi ((s30 : Nat) : Int)), (140, vb true)] ?_
                              exact hN44 _ (Option.some.inj hS).symm _ _ _ (Gh.le.refl _) ⟨by kernel_rfl, by kernel_rfl⟩
                            · have hS := cond_F q49 hS
                              refine xT 11 [12, 13, 14] [] [some 0, some 1, some 2] [(2, vp b1 0), (6, vp b8 0), (11, vi ((s30 : Nat) : Int)), (12, vp b36 0), (103, vs A5_legs ((List.getD p.parts (i).toNat default).legs) c5_legs), (104, vi ((((List.getD p.parts (i).toNat default).legs).length : Nat) : Int)), (105, vi ((s30 : Nat) : Int)), (126, vb false), (129, vb (decide (((s30 : Nat) : Int) > 0)))] RG e43.r ?_
                              refine xGJoA hS 1 [true, true, true, true, true, true, true, true, true, true, true, true, true, true, true, true, true, true, true, true, true, true, true, true, true, false] (fun g own sl t50 => own = [some ⟨b36, 46, (cLeg (List.getD (List.getD p.parts (i).toNat default).legs s30 default))⟩, some ⟨b8, 35, [vy ((List.getD p.parts (i).toNat default).kind), vt ((List.getD p.parts (i).toNat default).name), vs A5_legs ((List.getD p.parts (i).toNat default).legs) c5_legs]⟩, some ⟨b1, 25, (cProc p Ap_parts cp_parts)⟩] ∧ sl = [(2, vp b1 0), (6, vp b8 0), (103, vs A5_legs ((List.getD p.parts (i).toNat default).legs) c5_legs), (104, vi ((((List.getD p.parts (i).toNat default).legs).length : Nat) : Int)), (105, vi ((s30 : Nat) : Int)), (126, vb false), (139, vb t50)]) ?_ ?_
                              · rintro g51 _ _ t50 e52 ⟨rfl, rfl⟩ hS
                                refine xT 0 [25] [] [some 0, some 1, some 2] [(2, vp b1 0), (6, vp b8 0), (103, vs A5_legs ((List.getD p.parts (i).toNat default).legs) c5_legs), (104, vi ((((List.getD p.parts (i).toNat default).legs).length : Nat) : Int)), (105, vi ((s30 : Nat) : Int)), (140, vb t50)] RG (e43.trans e52).r ?_
                                refine xSub [(2, vp b1 0), (6, vp b8 0), (103, vs A5_legs ((List.getD p.parts (i).toNat default).legs) c5_legs), (104, vi ((((List.getD p.parts (i).toNat default).legs).length : Nat) : Int)), (105, vi ((s30 : Nat) : Int)), (140, vb t50)] ?_
                                exact hN44 _ (Option.some.inj hS).symm _ _ _ e52 ⟨by kernel_rfl, by kernel_rfl⟩
                              · intro uu50 hS hN50
                                refine wpq_split 129 (b := decide (((s30 : Nat) : Int) > 0)) (by kernel_rfl) (fun q53 => ?_) (fun q53 => ?_)
                                · have hS := cond_T q53 hS
                                  have q53p := of_decide_eq_true q53
                                  refine xT 8 [15, 16, 17] [(16, 1)] [some 0, some 1, some 2] [(2, vp b1 0), (6, vp b8 0), (12, vp b36 0), (103, vs A5_legs ((List.getD p.parts (i).toNat default).legs) c5_legs), (104, vi ((((List.getD p.parts (i).toNat default).legs).length : Nat) : Int)), (105, vi ((s30 : Nat) : Int)), (126, vb false), (129, vb true), (131, vs A5_legs ((List.getD p.parts (i).toNat default).legs) c5_legs), (132, vi ((s30 : Nat) : Int))] RG e43.r ?_
                                  refine xTp 18 RG (fun _ => (qSub .i64 (((s30 : Nat) : Int)) (1) (wr64 (by omega)))) ?_
                                  have f5_legs := f5_legs.mono e39.r
                                  obtain ⟨q55, hS⟩ := grd_T hS
                                  have q55p := of_decide_eq_true q55
                                  have i56 : ((((s30 : Nat) : Int) - 1)).toNat < ((List.getD p.parts (i).toNat default).legs).length := by omega
                                  obtain ⟨ad54, cs54, hA54, hr54, hc54⟩ := f5_legs.at_ (get_getD (d := default) i56)
                                  obtain ⟨rfl⟩ := hr54
                                  refine xTp 19 RG (fun _ => (qIx ((((s30 : Nat) : Int) - 1)).toNat 13 hA54 (show ((((s30 : Nat) : Int) - 1) : Int) = _ from by omega) i56)) ?_
                                  refine xTv 20 [some 0, some 1, some 2] RG e43.r (qLdP (Addr.add ad54 (((((s30 : Nat) : Int) - 1)).toNat * 13)) 0 hc54) ?_
                                  refine xT 4 [21] [(21, 0)] [some 0, some 1, some 2] [(2, vp b1 0), (6, vp b8 0), (103, vs A5_legs ((List.getD p.parts (i).toNat default).legs) c5_legs), (104, vi ((((List.getD p.parts (i).toNat default).legs).length : Nat) : Int)), (105, vi ((s30 : Nat) : Int)), (126, vb false), (129, vb true), (135, Value.agg #[vy ((List.getD (List.getD p.parts (i).toNat default).legs ((((s30 : Nat) : Int) - 1)).toNat default).type_), vt ((List.getD (List.getD p.parts (i).toNat default).legs ((((s30 : Nat) : Int) - 1)).toNat default).fix), vt ((List.getD (List.getD p.parts (i).toNat default).legs ((((s30 : Nat) : Int) - 1)).toNat default).center), vy ((List.getD (List.getD p.parts (i).toNat default).legs ((((s30 : Nat) : Int) - 1)).toNat default).turn), vb ((List.getD (List.getD p.parts (i).toNat default).legs ((((s30 : Nat) : Int) - 1)).toNat default).over), vi ((List.getD (List.getD p.parts (i).toNat default).legs ((((s30 : Nat) : Int) - 1)).toNat default).course), vi ((List.getD (List.getD p.parts (i).toNat default).legs ((((s30 : Nat) : Int) - 1)).toNat default).dist), vi ((List.getD (List.getD p.parts (i).toNat default).legs ((((s30 : Nat) : Int) - 1)).toNat default).radius), vi ((List.getD (List.getD p.parts (i).toNat default).legs ((((s30 : Nat) : Int) - 1)).toNat default).theta), vi ((List.getD (List.getD p.parts (i).toNat default).legs ((((s30 : Nat) : Int) - 1)).toNat default).alt.lo), vi ((List.getD (List.getD p.parts (i).toNat default).legs ((((s30 : Nat) : Int) - 1)).toNat default).alt.hi), vi ((List.getD (List.getD p.parts (i).toNat default).legs ((((s30 : Nat) : Int) - 1)).toNat default).speed), vi ((List.getD (List.getD p.parts (i).toNat default).legs ((((s30 : Nat) : Int) - 1)).toNat default).rnp)]), (136, Value.agg #[vy ((List.getD (List.getD p.parts (i).toNat default).legs s30 default).type_), vt ((List.getD (List.getD p.parts (i).toNat default).legs s30 default).fix), vt ((List.getD (List.getD p.parts (i).toNat default).legs s30 default).center), vy ((List.getD (List.getD p.parts (i).toNat default).legs s30 default).turn), vb ((List.getD (List.getD p.parts (i).toNat default).legs s30 default).over), vi ((List.getD (List.getD p.parts (i).toNat default).legs s30 default).course), vi ((List.getD (List.getD p.parts (i).toNat default).legs s30 default).dist), vi ((List.getD (List.getD p.parts (i).toNat default).legs s30 default).radius), vi ((List.getD (List.getD p.parts (i).toNat default).legs s30 default).theta), vi ((List.getD (List.getD p.parts (i).toNat default).legs s30 default).alt.lo), vi ((List.getD (List.getD p.parts (i).toNat default).legs s30 default).alt.hi), vi ((List.getD (List.getD p.parts (i).toNat default).legs s30 default).speed), vi ((List.getD (List.getD p.parts (i).toNat default).legs s30 default).rnp)])] RG e43.r ?_
                                  obtain ⟨y57, hy57, hS⟩ := letJ_T hS
                                  refine xO1 (lds := [3, 5, 7, 16, 20, 21]) 22 ?_
                                  refine xIe (lds := [3, 5, 7, 16, 20, 21]) e43.r (eC 0 (fun g' lr eb ln => C26 g' (List.getD (List.getD p.parts (i).toNat default).legs ((((s30 : Nat) : Int) - 1)).toNat default) (List.getD (List.getD p.parts (i).toNat default).legs s30 default) hy57)) ?_
                                  rintro _ g58 _ e59 ⟨_, rfl, rfl, rfl⟩
                                  refine kk [some 0, some 1, some 2] ?_
                                  refine xT 1 [23, 24] [] [some 0, some 1, some 2] [(2, vp b1 0), (6, vp b8 0), (103, vs A5_legs ((List.getD p.parts (i).toNat default).legs) c5_legs), (104, vi ((((List.getD p.parts (i).toNat default).legs).length : Nat) : Int)), (105, vi ((s30 : Nat) : Int)), (126, vb false), (139, vb (!y57))] RG (e43.trans e59).r ?_
                                  refine xSub [(2, vp b1 0), (6, vp b8 0), (103, vs A5_legs ((List.getD p.parts (i).toNat default).legs) c5_legs), (104, vi ((((List.getD p.parts (i).toNat default).legs).length : Nat) : Int)), (105, vi ((s30 : Nat) : Int)), (126, vb false), (139, vb (!y57))] ?_
                                  exact hN50 _ (Option.some.inj hS).symm _ _ _ e59 ⟨by kernel_rfl, by kernel_rfl⟩
                                · have hS := cond_F q53 hS
                                  have q53p := of_decide_eq_false q53
                                  refine xT 4 [15, 16, 17, 18, 19, 20, 21] [] [some 0, some 1, some 2] [(2, vp b1 0), (6, vp b8 0), (103, vs A5_legs ((List.getD p.parts (i).toNat default).legs) c5_legs), (104, vi ((((List.getD p.parts (i).toNat default).legs).length : Nat) : Int)), (105, vi ((s30 : Nat) : Int)), (126, vb false), (129, vb false), (135, undef), (136, undef)] RG e43.r ?_
                                  refine xO1 (lds := [3, 5, 7, 16, 20, 21]) 22 ?_
                                  refine xIb (lds := [3, 5, 7, 16, 20, 21]) [] ?_
                                  refine xT 1 [23, 24] [] [some 0, some 1, some 2] [(2, vp b1 0), (6, vp b8 0), (103, vs A5_legs ((List.getD p.parts (i).toNat default).legs) c5_legs), (104, vi ((((List.getD p.parts (i).toNat default).legs).length : Nat) : Int)), (105, vi ((s30 : Nat) : Int)), (126, vb false), (139, vb false)] RG e43.r ?_
                                  refine xSub [(2, vp b1 0), (6, vp b8 0), (103, vs A5_legs ((List.getD p.parts (i).toNat default).legs) c5_legs), (104, vi ((((List.getD p.parts (i).toNat default).legs).length : Nat) : Int)), (105, vi ((s30 : Nat) : Int)), (126, vb false), (139, vb false)] ?_
                                  exact hN50 _ (Option.some.inj hS).symm _ _ _ (Gh.le.refl _) ⟨by kernel_rfl, by kernel_rfl⟩
                        · intro uu41 hS hN41
                          refine wpq_split 117 (b := (((s30 : Nat) : Int) == 0)) (by kernel_rfl) (fun q60 => ?_) (fun q60 => ?_)
                          · have hS := cond_T q60 hS
                            have q60p : ((s30 : Nat) : Int) = 0 := eq_of_beq q60
                            refine xT 18 [3, 4, 5, 6, 7] [(3, 2), (5, 1), (7, 0)] [some 0, some 1, some 2] [(2, vp b1 0), (6, vp b8 0), (11, vi ((s30 : Nat) : Int)), (12, vp b36 0), (103, vs A5_legs ((List.getD p.parts (i).toNat default).legs) c5_legs), (104, vi ((((List.getD p.parts (i).toNat default).legs).length : Nat) : Int)), (105, vi ((s30 : Nat) : Int)), (117, vb true), (118, Value.agg #[vt p.airport, vt p.name, vy p.kind, vs Ap_parts p.parts cp_parts]), (120, vy ((List.getD p.parts (i).toNat default).kind)), (122, vy ((List.getD (List.getD p.parts (i).toNat default).legs s30 default).type_))] RG (Psi.le.refl _) ?_
                            have fp_parts := fp_parts.mono (e11.trans (e15.trans (e19.trans (e32.trans e39)))).r
                            obtain ⟨y61, hy61, hS⟩ := letJ_T hS
                            refine xO1 (lds := [3, 5, 7, 16, 20, 21]) 8 ?_
                            refine xIe (lds := [3, 5, 7, 16, 20, 21]) (Psi.le.refl _) (eC 0 (fun g' lr eb ln => C58 g' p Ap_parts cp_parts ((List.getD p.parts (i).toNat default).kind : Int) ((List.getD (List.getD p.parts (i).toNat default).legs s30 default).type_ : Int) (fp_parts.mono lr) hy61)) ?_
                            rintro _ g62 _ e63 ⟨_, rfl, rfl, rfl⟩
                            refine kk [some 0, some 1, some 2] ?_
                            refine xT 15 [9, 10] [] [some 0, some 1, some 2] [(2, vp b1 0), (6, vp b8 0), (11, vi ((s30 : Nat) : Int)), (12, vp b36 0), (103, vs A5_legs ((List.getD p.parts (i).toNat default).legs) c5_legs), (104, vi ((((List.getD p.parts (i).toNat default).legs).length : Nat) : Int)), (105, vi ((s30 : Nat) : Int)), (125, vb (!y61))] RG e63.r ?_
                            refine xSub [(2, vp b1 0), (6, vp b8 0), (11, vi ((s30 : Nat) : Int)), (12, vp b36 0), (103, vs A5_legs ((List.getD p.parts (i).toNat default).legs) c5_legs), (104, vi ((((List.getD p.parts (i).toNat default).legs).length : Nat) : Int)), (105, vi ((s30 : Nat) : Int)), (125, vb (!y61))] ?_
                            exact hN41 _ hS.symm _ _ _ e63 ⟨by kernel_rfl, by kernel_rfl⟩
                          · have hS := cond_F q60 hS
                            have q60p : ¬ (((s30 : Nat) : Int) = 0) := ne_of_beq_false_ q60
                            refine xT 18 [3, 4, 5, 6, 7] [] [some 0, some 1, some 2] [(2, vp b1 0), (6, vp b8 0), (11, vi ((s30 : Nat) : Int)), (12, vp b36 0), (103, vs A5_legs ((List.getD p.parts (i).toNat default).legs) c5_legs), (104, vi ((((List.getD p.parts (i).toNat default).legs).length : Nat) : Int)), (105, vi ((s30 : Nat) : Int)), (117, vb false), (118, undef), (120, undef), (122, undef)] RG (Psi.le.refl _) ?_
                            refine xO1 (lds := [3, 5, 7, 16, 20, 21]) 8 ?_
                            refine xIb (lds := [3, 5, 7, 16, 20, 21]) [] ?_
                            refine xT 15 [9, 10] [] [some 0, some 1, some 2] [(2, vp b1 0), (6, vp b8 0), (11, vi ((s30 : Nat) : Int)), (12, vp b36 0), (103, vs A5_legs ((List.getD p.parts (i).toNat default).legs) c5_legs), (104, vi ((((List.getD p.parts (i).toNat default).legs).length : Nat) : Int)), (105, vi ((s30 : Nat) : Int)), (125, vb false)] RG (Psi.le.refl _) ?_
                            refine xSub [(2, vp b1 0), (6, vp b8 0), (11, vi ((s30 : Nat) : Int)), (12, vp b36 0), (103, vs A5_legs ((List.getD p.parts (i).toNat default).legs) c5_legs), (104, vi ((((List.getD p.parts (i).toNat default).legs).length : Nat) : Int)), (105, vi ((s30 : Nat) : Int)), (125, vb false)] ?_
                            exact hN41 _ hS.symm _ _ _ (Gh.le.refl _) ⟨by kernel_rfl, by kernel_rfl⟩
                    · have hS := cond_F h33 hS
                      have h33p := of_decide_eq_false h33
                      refine xEx 2 ?_
                      refine wpq_thenX ?_
                      refine wpq_thenX ?_
                      refine wpq_blockE ?_
                      refine xSel [] ?_
                      refine xSub [] ?_
                      have eS := (Option.some.inj hS).symm
                      have eS := (hD30 _ eS).symm
                      exact hN25 _ eS _ _ _ e32 ⟨by kernel_rfl, by kernel_rfl⟩
        · intro uu17 hS hN17
          refine wpq_split 77 (b := (((List.getD p.parts (i).toNat default).kind == 1) || ((List.getD p.parts (i).toNat default).kind == 3))) (by kernel_rfl) (fun q64 => ?_) (fun q64 => ?_)
          · have hS := cond_T q64 hS
            refine xB 2 [(3, 0)] [(2, vp b1 0), (6, vp b8 0), (10, vb (((List.getD p.parts (i).toNat default).kind == 1) || ((List.getD p.parts (i).toNat default).kind == 3))), (77, vb true), (79, vt ((List.getD p.parts (i).toNat default).name))] ?_
            obtain ⟨y65, hy65, hS⟩ := bindO_T hS
            refine xE (eC 0 (fun g' lr eb ln => C35 g' (List.getD p.parts (i).toNat default).name (8 : Int) hy65)) ?_
            rintro _ g66 _ e67 ⟨_, rfl, rfl, rfl⟩
            refine xB 2 [] [(2, vp b1 0), (6, vp b8 0), (10, vb (((List.getD p.parts (i).toNat default).kind == 1) || ((List.getD p.parts (i).toNat default).kind == 3))), (82, vb (!y65))] ?_
            refine xSub [(2, vp b1 0), (6, vp b8 0), (10, vb (((List.getD p.parts (i).toNat default).kind == 1) || ((List.getD p.parts (i).toNat default).kind == 3))), (82, vb (!y65))] ?_
            exact hN17 _ (Option.some.inj hS).symm _ _ _ e67 ⟨by kernel_rfl, by kernel_rfl⟩
          · have hS := cond_F q64 hS
            have q64l := (or_false_ q64).1
            have q64r := (or_false_ q64).2
            have q64lp : ¬ ((List.getD p.parts (i).toNat default).kind = 1) := ne_of_beq_false_ q64l
            have q64rp : ¬ ((List.getD p.parts (i).toNat default).kind = 3) := ne_of_beq_false_ q64r
            refine xB 5 [] [(2, vp b1 0), (6, vp b8 0), (10, vb (((List.getD p.parts (i).toNat default).kind == 1) || ((List.getD p.parts (i).toNat default).kind == 3))), (82, vb false)] ?_
            refine xSub [(2, vp b1 0), (6, vp b8 0), (10, vb (((List.getD p.parts (i).toNat default).kind == 1) || ((List.getD p.parts (i).toNat default).kind == 3))), (82, vb false)] ?_
            exact hN17 _ (Option.some.inj hS).symm _ _ _ (Gh.le.refl _) ⟨by kernel_rfl, by kernel_rfl⟩
    · intro uu13 hS hN13 hD13
      refine xCd (decide (i > 0)) (fun h68 => ?_) (fun h68 => ?_)
      · have hS := cond_T h68 hS
        have h68p := of_decide_eq_true h68
        refine xSq ?_
        refine xRg ?_
        obtain ⟨q69, hS⟩ := grd_T hS
        have q69p := of_decide_eq_true q69
        refine xB 3 [(1, 2)] [(2, vp b1 0), (5, vs A2_0 y2 c2_0), (6, vp b8 0), (7, vi y9), (31, vs Ap_parts p.parts cp_parts), (32, vi i)] ?_
        refine xV (qSub .i64 (i) (1) (wr64 (by omega))) ?_
        have fp_parts := fp_parts.mono e11.r
        obtain ⟨q71, hS⟩ := grd_T hS
        have q71p := of_decide_eq_true q71
        have i72 : ((i - 1)).toNat < (p.parts).length := by omega
        obtain ⟨ad70, cs70, hA70, hr70, hc70⟩ := fp_parts.at_ (get_getD (d := default) i72)
        obtain ⟨A70_legs, c70_legs, rfl, f70_legs⟩ := hr70
        have nf70_legs := f70_legs.len
        refine xV (qIx ((i - 1)).toNat 3 hA70 (show ((i - 1) : Int) = _ from by omega) i72) ?_
        refine xV (qLdP (Addr.add ad70 (((i - 1)).toNat * 3)) 0 hc70) ?_
        refine xE eB ?_
        rintro _ _ _ - ⟨b73, rfl, rfl, rfl⟩
        refine xBo 1 [(7, 0)] [some ⟨b73, 35, [vy ((List.getD p.parts ((i - 1)).toNat default).kind), vt ((List.getD p.parts ((i - 1)).toNat default).name), vs A70_legs ((List.getD p.parts ((i - 1)).toNat default).legs) c70_legs]⟩, some ⟨b8, 35, [vy ((List.getD p.parts (i).toNat default).kind), vt ((List.getD p.parts (i).toNat default).name), vs A5_legs ((List.getD p.parts (i).toNat default).legs) c5_legs]⟩, k2_0, some ⟨b1, 25, (cProc p Ap_parts cp_parts)⟩] [(2, vp b1 0), (5, vs A2_0 y2 c2_0), (6, vp b8 0), (7, vi y9), (8, vp b73 0)] ?_
        refine xRe ?_
        refine wpq_then ?_
        refine xSq ?_
        refine xRg ?_
        refine xB 3 [(2, 0)] [(2, vp b1 0), (6, vp b8 0), (7, vi y9), (8, vp b73 0), (36, vs A2_0 y2 c2_0), (38, vy ((List.getD p.parts ((i - 1)).toNat default).kind))] ?_
        have h2_0 := h2_0.mono e11.b
        obtain ⟨y74, hy74, hS⟩ := bindO_T hS
        refine xE (eC 0 (fun g' lr eb ln => C57 g' (y2 : List UInt8) A2_0 c2_0 ((List.getD p.parts ((i - 1)).toNat default).kind : Int) (arr_of_buf h2_0 (Psi.le_b eb) (lentk 2 (by kernel_rfl) ln)) hy74)) ?_
        rintro _ g75 _ e76 ⟨_, rfl, rfl, rfl⟩
        refine xB 1 [] [(2, vp b1 0), (6, vp b8 0), (7, vi y9), (8, vp b73 0), (9, vi y74)] ?_
        refine xRe ?_
        refine wpq_then ?_
        refine xBl 0 ?_
        refine xSq ?_
        refine xRg ?_
        refine xB 4 [] [(2, vp b1 0), (6, vp b8 0), (7, vi y9), (8, vp b73 0), (9, vi y74), (44, vb (decide (y9 < y74)))] ?_
        refine wpr_grp 15 [(2, vp b1 0), (6, vp b8 0), (7, vi y9), (8, vp b73 0), (9, vi y74), (55, vb (decide (y9 < y74) || ((y9 == y74) && (strLt (List.getD p.parts (i).toNat default).name (List.getD p.parts ((i - 1)).toNat default).name))))] (fun hk3 => ?_) ?_
        · refine wpq_split 44 (b := decide (y9 < y74)) (by kernel_rfl) (fun q77 => ?_) (fun q77 => ?_)
          · have q77p := of_decide_eq_true q77
            refine xB 11 [] [(2, vp b1 0), (6, vp b8 0), (7, vi y9), (8, vp b73 0), (9, vi y74), (55, vb true)] ?_
            refine wpq_re 55 (v := vb true) (Value.bool ((decide (y9 < y74) || ((y9 == y74) && (strLt (List.getD p.parts (i).toNat default).name (List.getD p.parts ((i - 1)).toNat default).name))))) (by kernel_rfl) (re_or1 q77) ?_
            exact wpq_sub _ (by kernel_rfl) hk3
          · have q77p := of_decide_eq_false q77
            refine xB 4 [] [(2, vp b1 0), (6, vp b8 0), (7, vi y9), (8, vp b73 0), (9, vi y74), (44, vb false), (48, vb (y9 == y74))] ?_
            refine wpr_grp 14 [(2, vp b1 0), (6, vp b8 0), (7, vi y9), (8, vp b73 0), (9, vi y74), (44, vb false), (54, vb ((y9 == y74) && (strLt (List.getD p.parts (i).toNat default).name (List.getD p.parts ((i - 1)).toNat default).name)))] (fun hk7 => ?_) ?_
            · refine wpq_split 48 (b := (y9 == y74)) (by kernel_rfl) (fun q78 => ?_) (fun q78 => ?_)
              · have q78p : y9 = y74 := eq_of_beq q78
                refine xB 6 [(9, 1), (11, 0)] [(2, vp b1 0), (6, vp b8 0), (7, vi y9), (8, vp b73 0), (9, vi y74), (44, vb false), (54, vb (strLt (List.getD p.parts (i).toNat default).name (List.getD p.parts ((i - 1)).toNat default).name))] ?_
                refine wpq_re 54 (v := vb (strLt (List.getD p.parts (i).toNat default).name (List.getD p.parts ((i - 1)).toNat default).name)) (Value.bool (((y9 == y74) && (strLt (List.getD p.parts (i).toNat default).name (List.getD p.parts ((i - 1)).toNat default).name)))) (by kernel_rfl) (re_and1 q78) ?_
                exact wpq_sub _ (by kernel_rfl) hk7
              · have q78p : ¬ (y9 = y74) := ne_of_beq_false_ q78
                refine xB 6 [] [(2, vp b1 0), (6, vp b8 0), (7, vi y9), (8, vp b73 0), (9, vi y74), (44, vb false), (54, vb false)] ?_
                refine wpq_re 54 (v := vb false) (Value.bool (((y9 == y74) && (strLt (List.getD p.parts (i).toNat default).name (List.getD p.parts ((i - 1)).toNat default).name)))) (by kernel_rfl) (re_and0 q78) ?_
                exact wpq_sub _ (by kernel_rfl) hk7
            · refine xB 1 [] [(2, vp b1 0), (6, vp b8 0), (7, vi y9), (8, vp b73 0), (9, vi y74), (55, vb ((y9 == y74) && (strLt (List.getD p.parts (i).toNat default).name (List.getD p.parts ((i - 1)).toNat default).name)))] ?_
              refine wpq_re 55 (v := vb ((y9 == y74) && (strLt (List.getD p.parts (i).toNat default).name (List.getD p.parts ((i - 1)).toNat default).name))) (Value.bool ((decide (y9 < y74) || ((y9 == y74) && (strLt (List.getD p.parts (i).toNat default).name (List.getD p.parts ((i - 1)).toNat default).name))))) (by kernel_rfl) (re_or0 q77) ?_
              exact wpq_sub _ (by kernel_rfl) hk3
        · refine xB 1 [] [(2, vp b1 0), (6, vp b8 0), (7, vi y9), (8, vp b73 0), (9, vi y74), (40, vb (decide (y9 < y74) || ((y9 == y74) && (strLt (List.getD p.parts (i).toNat default).name (List.getD p.parts ((i - 1)).toNat default).name))))] ?_
          refine xRe ?_
          refine wpq_then ?_
          refine xCd ((decide (y9 < y74) || ((y9 == y74) && (strLt (List.getD p.parts (i).toNat default).name (List.getD p.parts ((i - 1)).toNat default).name)))) (fun h79 => ?_) (fun h79 => ?_)
          · have hS := cond_T h79 hS
            refine xSq ?_
            refine xRg ?_
            refine xB 1 [] [(4, vi 9)] ?_
            refine xRe ?_
            refine wpq_then ?_
            have eS := (Option.some.inj hS).symm
            have eS := (hD13 _ eS).symm
            subst eS
            exact xRet [] [4] (e4.trans (e11.trans e76)) ⟨by kernel_rfl, by kernel_rfl⟩ (fun _ _ h => h)
          · have hS := cond_F h79 hS
            have h79l := (or_false_ h79).1
            have h79r := (or_false_ h79).2
            have h79lp := of_decide_eq_false h79l
            refine xSq ?_
            refine xRg ?_
            refine xB 4 [] [(2, vp b1 0), (6, vp b8 0), (8, vp b73 0), (60, vb (y9 == y74))] ?_
            refine wpr_grp 10 [(2, vp b1 0), (6, vp b8 0), (66, vb ((y9 == y74) && ((List.getD p.parts (i).toNat default).name == (List.getD p.parts ((i - 1)).toNat default).name)))] (fun hk3 => ?_) ?_
            · refine wpq_split 60 (b := (y9 == y74)) (by kernel_rfl) (fun q80 => ?_) (fun q80 => ?_)
              · have q80p : y9 = y74 := eq_of_beq q80
                refine xB 4 [(5, 1), (7, 0)] [(2, vp b1 0), (6, vp b8 0), (60, vb true), (62, vt ((List.getD p.parts (i).toNat default).name)), (64, vt ((List.getD p.parts ((i - 1)).toNat default).name))] ?_
                refine xV (qEqS ((List.getD p.parts (i).toNat default).name) ((List.getD p.parts ((i - 1)).toNat default).name)) ?_
                refine xB 1 [] [(2, vp b1 0), (6, vp b8 0), (66, vb ((List.getD p.parts (i).toNat default).name == (List.getD p.parts ((i - 1)).toNat default).name))] ?_
                refine wpq_re 66 (v := vb ((List.getD p.parts (i).toNat default).name == (List.getD p.parts ((i - 1)).toNat default).name)) (Value.bool (((y9 == y74) && ((List.getD p.parts (i).toNat default).name == (List.getD p.parts ((i - 1)).toNat default).name)))) (by kernel_rfl) (re_and1 q80) ?_
                exact wpq_sub _ (by kernel_rfl) hk3
              · have q80p : ¬ (y9 = y74) := ne_of_beq_false_ q80
                refine xB 6 [] [(2, vp b1 0), (6, vp b8 0), (66, vb false)] ?_
                refine wpq_re 66 (v := vb false) (Value.bool (((y9 == y74) && ((List.getD p.parts (i).toNat default).name == (List.getD p.parts ((i - 1)).toNat default).name)))) (by kernel_rfl) (re_and0 q80) ?_
                exact wpq_sub _ (by kernel_rfl) hk3
            · refine xB 1 [] [(2, vp b1 0), (6, vp b8 0), (56, vb ((y9 == y74) && ((List.getD p.parts (i).toNat default).name == (List.getD p.parts ((i - 1)).toNat default).name)))] ?_
              refine xRe ?_
              refine wpq_then ?_
              refine xCd (((y9 == y74) && ((List.getD p.parts (i).toNat default).name == (List.getD p.parts ((i - 1)).toNat default).name))) (fun h81 => ?_) (fun h81 => ?_)
              · have hS := cond_T h81 hS
                have h81l := (and_true_ h81).1
                have h81r := (and_true_ h81).2
                have h81lp : y9 = y74 := eq_of_beq h81l
                have h81rp : (List.getD p.parts (i).toNat default).name = (List.getD p.parts ((i - 1)).toNat default).name := eq_of_beq h81r
                refine xSq ?_
                refine xRg ?_
                refine xB 1 [] [(4, vi 7)] ?_
                refine xRe ?_
                refine wpq_then ?_
                have eS := (Option.some.inj hS).symm
                have eS := (hD13 _ eS).symm
                subst eS
                exact xRet [] [4] (e4.trans (e11.trans e76)) ⟨by kernel_rfl, by kernel_rfl⟩ (fun _ _ h => h)
              · have hS := cond_F h81 hS
                refine xSk ?_
                refine wpq_blockN ?_
                refine xSel [some 1, some 3] ?_
                refine xSub [(2, vp b1 0), (6, vp b8 0)] ?_
                have eS := (Option.some.inj hS).symm
                exact hN13 _ eS _ _ _ e76 ⟨by kernel_rfl, by kernel_rfl⟩
      · have hS := cond_F h68 hS
        have h68p := of_decide_eq_false h68
        refine xSk ?_
        refine xSel [some 0, some 2] ?_
        refine xSub [(2, vp b1 0), (6, vp b8 0)] ?_
        have eS := (Option.some.inj hS).symm
        exact hN13 _ eS _ _ _ (Gh.le.refl _) ⟨by kernel_rfl, by kernel_rfl⟩

def o17_L0 (p : Proc) (k : Int) (name : List UInt8) (s8 : Nat) : Option (Ctl (Nat) (Ctl (Unit) (Part × Bool))) :=
  (cond (decide (((s8 : Nat) : Int) < (((p.parts).length : Nat) : Int))) (cond ((((List.getD p.parts s8 default).kind == k) && ((List.getD p.parts s8 default).name == name))) (bindO (τ := (List Leg)) (o41 ((List.getD p.parts s8 default).legs : List Leg)) fun y17 => (some (Ctl.done (Ctl.done ((({ (List.getD p.parts s8 default) with legs := y17 }), (true))))))) (grd (decide (((s8 : Nat) : Int) + 1 ≤ 9223372036854775807)) (some (Ctl.go (s8 + 1))))) (some (Ctl.done (Ctl.go ()))))
def o17 (p : Proc) (k : Int) (name : List UInt8) : Option (Part × Bool) :=
  (joinO (τ := Unit) (ρ := Part × Bool) (loopO (σ := Nat) (ρ := Ctl (Unit) (Part × Bool)) fuelN (o17_L0 p k name) (0)) fun t3 => (some (((⟨0, ([] : List UInt8), ([] : List Leg)⟩ : Part), (false)))))
set_option maxRecDepth 100000 in
theorem C17 (g : Gh) (p : Proc) (Ap_parts : Option Addr) (cp_parts : Nat) (k : Int) (name : List UInt8) (fp_parts : ArrM g.r g.b tyPart Ap_parts cp_parts p.parts) {r : Part × Bool} (hS : o17 p k name = some r) :
    Ctr Tryd.prog 17 [Value.agg #[vt p.airport, vt p.name, vy p.kind, vs Ap_parts p.parts cp_parts], vy k, vt name] g [] (fun v ψ o => ∃ (Ar_0_legs : Option Addr) (cr_0_legs : Nat), v = Value.tuple #[Value.agg #[vy r.1.kind, vt r.1.name, vs Ar_0_legs r.1.legs cr_0_legs], vb r.2] ∧ o = [] ∧ Arr ψ tyLeg Ar_0_legs cr_0_legs r.1.legs) := by
  unfold o17 at hS
  refine xFn Tryd.f17 (Tryd.f17.body.getD .skip) 34 ?_
  have nfp_parts := fp_parts.len
  refine xSq ?_
  refine xRg ?_
  refine xE eB ?_
  rintro _ _ _ - ⟨b1, rfl, rfl, rfl⟩
  refine xE eB ?_
  rintro _ _ _ - ⟨b2, rfl, rfl, rfl⟩
  refine xB 1 [] [(1, vy k), (2, vt name), (3, vp b1 0), (6, vp b2 0)] ?_
  refine xRe ?_
  refine wpq_then ?_
  refine xSq ?_
  refine xSq ?_
  refine xRg ?_
  refine xB 4 [(1, 1)] [(1, vy k), (2, vt name), (6, vp b2 0), (11, vs Ap_parts p.parts cp_parts), (12, vi (((p.parts).length : Nat) : Int)), (13, vi 0)] ?_
  refine xRe ?_
  refine wpq_then ?_
  refine xJoinO hS (fun g own sl t3 => own = [some ⟨b2, 35, [vy 0, vt ([]), Value.slice none 0 0]⟩] ∧ sl = [(6, vp b2 0)]) ?_ ?_
  · rintro g4 _ _ t3 e5 ⟨rfl, rfl⟩ hS
    refine wpq_then ?_
    refine xSq ?_
    refine xRg ?_
    refine xBo 3 [(1, 0)] [some ⟨b2, 35, [vy 0, vt ([]), Value.slice none 0 0]⟩] [(6, vp b2 0), (7, vb false)] ?_
    refine xRe ?_
    refine wpq_then ?_
    have eS := (Option.some.inj hS).symm
    subst eS
    exact xRetC [] [(6, 0)] e5 ⟨none, 0, by kernel_rfl, by kernel_rfl, Arr.nil⟩ (fun _ _ h => h)
  · intro uu3 hS hN3 hD3
    refine xBl 0 ?_
    refine xSel [some 0] ?_
    refine xSub [(1, vy k), (2, vt name), (6, vp b2 0), (11, vs Ap_parts p.parts cp_parts), (12, vi (((p.parts).length : Nat) : Int)), (13, vi 0)] ?_
    refine xLo hS (fun g own sl s8 => own = [some ⟨b2, 35, [vy 0, vt ([]), Value.slice none 0 0]⟩] ∧ sl = [(1, vy k), (2, vt name), (6, vp b2 0), (11, vs Ap_parts p.parts cp_parts), (12, vi (((p.parts).length : Nat) : Int)), (13, vi ((s8 : Nat) : Int))]) ⟨by kernel_rfl, by kernel_rfl⟩ ?_
    rintro g9 _ _ s8 uu8 e10 ⟨rfl, rfl⟩ hS Qr8 hN8 hD8
    unfold o17_L0 at hS
    refine xSq ?_
    refine xRg ?_
    refine xB 1 [] [(1, vy k), (2, vt name), (6, vp b2 0), (11, vs Ap_parts p.parts cp_parts), (12, vi (((p.parts).length : Nat) : Int)), (13, vi ((s8 : Nat) : Int)), (14, vb (decide (((s8 : Nat) : Int) < (((p.parts).length : Nat) : Int))))] ?_
    refine xRe ?_
    refine wpq_then ?_
    refine xSq ?_
    refine xCd (decide (((s8 : Nat) : Int) < (((p.parts).length : Nat) : Int))) (fun h11 => ?_) (fun h11 => ?_)
    · have hS := cond_T h11 hS
      have h11p := of_decide_eq_true h11
      refine xSk ?_
      refine wpq_then ?_
      refine xSub [(1, vy k), (2, vt name), (6, vp b2 0), (11, vs Ap_parts p.parts cp_parts), (12, vi (((p.parts).length : Nat) : Int)), (13, vi ((s8 : Nat) : Int))] ?_
      refine xSq ?_
      refine xBl 1 ?_
      refine xSq ?_
      refine xRg ?_
      have fp_parts := fp_parts.mono e10.r e10.b
      have i13 : s8 < (p.parts).length := by omega
      obtain ⟨ad12, cs12, hA12, hr12, hc12⟩ := fp_parts.at_ (get_getD (d := default) i13)
      obtain ⟨A12_legs, c12_legs, rfl, f12_legs⟩ := hr12
      have nf12_legs := f12_legs.len
      refine xV (qIx s8 3 hA12 rfl i13) ?_
      refine xV (qLdP (Addr.add ad12 (s8 * 3)) 0 hc12) ?_
      refine xE eB ?_
      rintro _ _ _ - ⟨b14, rfl, rfl, rfl⟩
      refine xBo 1 [(3, 0)] [some ⟨b14, 35, [vy ((List.getD p.parts s8 default).kind), vt ((List.getD p.parts s8 default).name), vs A12_legs ((List.getD p.parts s8 default).legs) c12_legs]⟩, some ⟨b2, 35, [vy 0, vt ([]), Value.slice none 0 0]⟩] [(1, vy k), (2, vt name), (6, vp b2 0), (9, vp b14 0), (11, vs Ap_parts p.parts cp_parts), (12, vi (((p.parts).length : Nat) : Int)), (13, vi ((s8 : Nat) : Int))] ?_
      refine xRe ?_
      refine wpq_then ?_
      refine xSq ?_
      refine xRg ?_
      refine xB 5 [(1, 0)] [(1, vy k), (2, vt name), (6, vp b2 0), (9, vp b14 0), (11, vs Ap_parts p.parts cp_parts), (12, vi (((p.parts).length : Nat) : Int)), (13, vi ((s8 : Nat) : Int)), (21, vb ((List.getD p.parts s8 default).kind == k))] ?_
      refine wpr_grp 10 [(1, vy k), (2, vt name), (6, vp b2 0), (9, vp b14 0), (11, vs Ap_parts p.parts cp_parts), (12, vi (((p.parts).length : Nat) : Int)), (13, vi ((s8 : Nat) : Int)), (26, vb (((List.getD p.parts s8 default).kind == k) && ((List.getD p.parts s8 default).name == name)))] (fun hk4 => ?_) ?_
      · refine wpq_split 21 (b := ((List.getD p.parts s8 default).kind == k)) (by kernel_rfl) (fun q15 => ?_) (fun q15 => ?_)
        · have q15p : (List.getD p.parts s8 default).kind = k := eq_of_beq q15
          refine xB 3 [(6, 0)] [(1, vy k), (2, vt name), (6, vp b2 0), (9, vp b14 0), (11, vs Ap_parts p.parts cp_parts), (12, vi (((p.parts).length : Nat) : Int)), (13, vi ((s8 : Nat) : Int)), (21, vb true), (23, vt ((List.getD p.parts s8 default).name)), (24, vt name)] ?_
          refine xV (qEqS ((List.getD p.parts s8 default).name) (name)) ?_
          refine xB 1 [] [(1, vy k), (2, vt name), (6, vp b2 0), (9, vp b14 0), (11, vs Ap_parts p.parts cp_parts), (12, vi (((p.parts).length : Nat) : Int)), (13, vi ((s8 : Nat) : Int)), (26, vb ((List.getD p.parts s8 default).name == name))] ?_
          refine wpq_re 26 (v := vb ((List.getD p.parts s8 default).name == name)) (Value.bool ((((List.getD p.parts s8 default).kind == k) && ((List.getD p.parts s8 default).name == name)))) (by kernel_rfl) (re_and1 q15) ?_
          exact wpq_sub _ (by kernel_rfl) hk4
        · have q15p : ¬ ((List.getD p.parts s8 default).kind = k) := ne_of_beq_false_ q15
          refine xB 5 [] [(1, vy k), (2, vt name), (6, vp b2 0), (9, vp b14 0), (11, vs Ap_parts p.parts cp_parts), (12, vi (((p.parts).length : Nat) : Int)), (13, vi ((s8 : Nat) : Int)), (26, vb false)] ?_
          refine wpq_re 26 (v := vb false) (Value.bool ((((List.getD p.parts s8 default).kind == k) && ((List.getD p.parts s8 default).name == name)))) (by kernel_rfl) (re_and0 q15) ?_
          exact wpq_sub _ (by kernel_rfl) hk4
      · refine xRe ?_
        refine wpq_then ?_
        refine xCd ((((List.getD p.parts s8 default).kind == k) && ((List.getD p.parts s8 default).name == name))) (fun h16 => ?_) (fun h16 => ?_)
        · have hS := cond_T h16 hS
          have h16l := (and_true_ h16).1
          have h16r := (and_true_ h16).2
          have h16lp : (List.getD p.parts s8 default).kind = k := eq_of_beq h16l
          have h16rp : (List.getD p.parts s8 default).name = name := eq_of_beq h16r
          refine xSq ?_
          refine xRg ?_
          refine xB 2 [(1, 0)] [(6, vp b2 0), (9, vp b14 0), (28, vs A12_legs ((List.getD p.parts s8 default).legs) c12_legs)] ?_
          obtain ⟨y17, hy17, hS⟩ := bindO_T hS
          refine xE (eC 0 (fun g' lr eb ln => C41 g' ((List.getD p.parts s8 default).legs : List Leg) A12_legs c12_legs (ArrM.lent (f12_legs.toM g9.br) lr eb) hy17)) ?_
          rintro _ g18 _ e19 ⟨_, rfl, A17_0, c17_0, k17_0, rfl, rfl, h17_0⟩
          have nh17_0 := h17_0.len
          refine xBo 2 [(4, 1)] [k17_0, some ⟨b14, 35, [vy ((List.getD p.parts s8 default).kind), vt ((List.getD p.parts s8 default).name), vs A17_0 y17 c17_0]⟩, some ⟨b2, 35, [vy 0, vt ([]), Value.slice none 0 0]⟩] [(6, vp b2 0), (9, vp b14 0)] ?_
          refine xRe ?_
          refine wpq_then ?_
          refine xSq ?_
          refine xRg ?_
          refine xBo 3 [(0, 1), (1, 2)] [k17_0, some ⟨b14, 35, [vy ((List.getD p.parts s8 default).kind), vt ((List.getD p.parts s8 default).name), vs A17_0 y17 c17_0]⟩, some ⟨b2, 35, [vy ((List.getD p.parts s8 default).kind), vt ((List.getD p.parts s8 default).name), vs A17_0 y17 c17_0]⟩] [(6, vp b2 0), (7, vb true)] ?_
          refine xRe ?_
          refine wpq_then ?_
          refine wpq_freeze 0 (by kernel_rfl) h17_0 (fun g20 e21 f22 => ?_)
          have eS := (Option.some.inj hS).symm
          have eS := (hD8 _ eS).symm
          have eS := (hD3 _ eS).symm
          subst eS
          exact xRetC [] [(6, 2)] (e10.trans (e19.trans e21)) ⟨A17_0, c17_0, by kernel_rfl, by kernel_rfl, f22⟩ (fun _ _ h => h)
        · have hS := cond_F h16 hS
          refine xSk ?_
          refine wpq_blockN ?_
          refine wpq_then ?_
          refine xSub [(1, vy k), (2, vt name), (6, vp b2 0), (11, vs Ap_parts p.parts cp_parts), (12, vi (((p.parts).length : Nat) : Int)), (13, vi ((s8 : Nat) : Int))] ?_
          refine xRg ?_
          obtain ⟨q23, hS⟩ := grd_T hS
          have q23p := of_decide_eq_true q23
          refine xV (qAdd .i64 (((s8 : Nat) : Int)) (1) (wr64 (by omega))) ?_
          refine xB 1 [] [(1, vy k), (2, vt name), (6, vp b2 0), (11, vs Ap_parts p.parts cp_parts), (12, vi (((p.parts).length : Nat) : Int)), (13, vi (((s8 : Nat) : Int) + 1))] ?_
          refine xRe ?_
          refine wpq_thenN ?_
          refine xSel [some 1] ?_
          refine xSub [(1, vy k), (2, vt name), (6, vp b2 0), (11, vs Ap_parts p.parts cp_parts), (12, vi (((p.parts).length : Nat) : Int)), (13, vi (((s8 : Nat) : Int) + 1))] ?_
          have eS := (Option.some.inj hS).symm
          exact hN8 _ eS _ _ _ (Gh.le.refl _) ⟨by kernel_rfl, by kernel_rfl⟩
    · have hS := cond_F h11 hS
      have h11p := of_decide_eq_false h11
      refine xEx 0 ?_
      refine wpq_thenX ?_
      refine wpq_thenX ?_
      refine wpq_blockE ?_
      refine xSub [(6, vp b2 0)] ?_
      have eS := (Option.some.inj hS).symm
      have eS := (hD8 _ eS).symm
      exact hN3 _ eS _ _ _ e10 ⟨by kernel_rfl, by kernel_rfl⟩

end Go.Proofs.YthfekfebgghjhaaDoor
