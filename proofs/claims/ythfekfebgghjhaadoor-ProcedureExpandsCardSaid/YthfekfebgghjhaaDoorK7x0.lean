/-
Walks, printed by wip/gen. Conditions: each theorem's own.
-/
import Derived.Test.YthfekfebgghjhaaDoorT2
namespace Go.Proofs.YthfekfebgghjhaaDoor
set_option linter.unusedVariables false
set_option linter.unusedSimpArgs false
open Go.RowKit
def o38_L0 (s : List UInt8) (s14 : Nat) : Option (Ctl (Nat) (Ctl (Unit) (Bool))) :=
  (cond (decide (((s14 : Nat) : Int) < (((s).length : Nat) : Int))) (cond (((decide ((((List.getD (s : List UInt8) s14 0)).toNat : Int) < 65) || decide ((((List.getD (s : List UInt8) s14 0)).toNat : Int) > 90)) && (decide ((((List.getD (s : List UInt8) s14 0)).toNat : Int) < 48) || decide ((((List.getD (s : List UInt8) s14 0)).toNat : Int) > 57)))) (some (Ctl.done (Ctl.done ((false))))) (grd (decide (((s14 : Nat) : Int) + 1 ≤ 9223372036854775807)) (some (Ctl.go (s14 + 1))))) (some (Ctl.done (Ctl.go ()))))
def o38 (s : List UInt8) (most : Int) : Option (Bool) :=
  (cond ((((decide ((((s).length : Nat) : Int) < 1) || decide ((((s).length : Nat) : Int) > most)) || decide ((((List.getD (s : List UInt8) 0 0)).toNat : Int) < 65)) || decide ((((List.getD (s : List UInt8) 0 0)).toNat : Int) > 90))) (some ((false))) (joinO (τ := Unit) (ρ := Bool) (loopO (σ := Nat) (ρ := Ctl (Unit) (Bool)) fuelN (o38_L0 s) (0)) fun t9 => (some ((true)))))
set_option maxRecDepth 100000 in
theorem C38 (g : Gh) (s : List UInt8) (most : Int) {r : Bool} (hS : o38 s most = some r) :
    Ctr Tryd.prog 38 [vt s, vi most] g [] (fun v ψ o => v = vb r ∧ o = []) := by
  unfold o38 at hS
  refine xFn Tryd.f38 (Tryd.f38.body.getD .skip) 53 ?_
  refine xSq ?_
  refine xRg ?_
  refine xB 1 [] [(0, vt s), (1, vi most)] ?_
  refine xRe ?_
  refine wpq_then ?_
  refine xSq ?_
  refine xSq ?_
  refine xRg ?_
  refine xB 4 [] [(0, vt s), (1, vi most), (9, vb (decide ((((s).length : Nat) : Int) < 1)))] ?_
  refine wpr_grp 9 [(0, vt s), (14, vb (decide ((((s).length : Nat) : Int) < 1) || decide ((((s).length : Nat) : Int) > most)))] (fun hk3 => ?_) ?_
  · refine wpq_split 9 (b := decide ((((s).length : Nat) : Int) < 1)) (by kernel_rfl) (fun q1 => ?_) (fun q1 => ?_)
    · have q1p := of_decide_eq_true q1
      refine xB 5 [] [(0, vt s), (14, vb true)] ?_
      refine wpq_re 14 (v := vb true) (Value.bool ((decide ((((s).length : Nat) : Int) < 1) || decide ((((s).length : Nat) : Int) > most)))) (by kernel_rfl) (re_or1 q1) ?_
      exact wpq_sub _ (by kernel_rfl) hk3
    · have q1p := of_decide_eq_false q1
      refine xB 5 [] [(0, vt s), (14, vb (decide ((((s).length : Nat) : Int) > most)))] ?_
      refine wpq_re 14 (v := vb (decide ((((s).length : Nat) : Int) > most))) (Value.bool ((decide ((((s).length : Nat) : Int) < 1) || decide ((((s).length : Nat) : Int) > most)))) (by kernel_rfl) (re_or0 q1) ?_
      exact wpq_sub _ (by kernel_rfl) hk3
  · refine xB 1 [] [(0, vt s), (15, vb (decide ((((s).length : Nat) : Int) < 1) || decide ((((s).length : Nat) : Int) > most)))] ?_
    refine wpr_grp 14 [(0, vt s), (19, vb ((decide ((((s).length : Nat) : Int) < 1) || decide ((((s).length : Nat) : Int) > most)) || decide ((((List.getD (s : List UInt8) 0 0)).toNat : Int) < 65)))] (fun hk9 => ?_) ?_
    · refine wpq_split 15 (b := (decide ((((s).length : Nat) : Int) < 1) || decide ((((s).length : Nat) : Int) > most))) (by kernel_rfl) (fun q2 => ?_) (fun q2 => ?_)
      · refine xB 4 [] [(0, vt s), (19, vb true)] ?_
        refine wpq_re 19 (v := vb true) (Value.bool (((decide ((((s).length : Nat) : Int) < 1) || decide ((((s).length : Nat) : Int) > most)) || decide ((((List.getD (s : List UInt8) 0 0)).toNat : Int) < 65)))) (by kernel_rfl) (re_or1 q2) ?_
        exact wpq_sub _ (by kernel_rfl) hk9
      · have q2l := (or_false_ q2).1
        have q2r := (or_false_ q2).2
        have q2lp := of_decide_eq_false q2l
        have q2rp := of_decide_eq_false q2r
        have i3 : 0 < (s).length := by omega
        have nb4 := UInt8.toNat_lt (List.getD (s : List UInt8) 0 0)
        refine xB 1 [] [(0, vt s), (15, vb false), (16, vt s)] ?_
        refine xV (qIxS 0 rfl i3) ?_
        refine xB 2 [] [(0, vt s), (19, vb (decide ((((List.getD (s : List UInt8) 0 0)).toNat : Int) < 65)))] ?_
        refine wpq_re 19 (v := vb (decide ((((List.getD (s : List UInt8) 0 0)).toNat : Int) < 65))) (Value.bool (((decide ((((s).length : Nat) : Int) < 1) || decide ((((s).length : Nat) : Int) > most)) || decide ((((List.getD (s : List UInt8) 0 0)).toNat : Int) < 65)))) (by kernel_rfl) (re_or0 q2) ?_
        exact wpq_sub _ (by kernel_rfl) hk9
    · refine xB 1 [] [(0, vt s), (20, vb ((decide ((((s).length : Nat) : Int) < 1) || decide ((((s).length : Nat) : Int) > most)) || decide ((((List.getD (s : List UInt8) 0 0)).toNat : Int) < 65)))] ?_
      refine wpr_grp 19 [(0, vt s), (24, vb (((decide ((((s).length : Nat) : Int) < 1) || decide ((((s).length : Nat) : Int) > most)) || decide ((((List.getD (s : List UInt8) 0 0)).toNat : Int) < 65)) || decide ((((List.getD (s : List UInt8) 0 0)).toNat : Int) > 90)))] (fun hk14 => ?_) ?_
      · refine wpq_split 20 (b := ((decide ((((s).length : Nat) : Int) < 1) || decide ((((s).length : Nat) : Int) > most)) || decide ((((List.getD (s : List UInt8) 0 0)).toNat : Int) < 65))) (by kernel_rfl) (fun q5 => ?_) (fun q5 => ?_)
        · refine xB 4 [] [(0, vt s), (24, vb true)] ?_
          refine wpq_re 24 (v := vb true) (Value.bool ((((decide ((((s).length : Nat) : Int) < 1) || decide ((((s).length : Nat) : Int) > most)) || decide ((((List.getD (s : List UInt8) 0 0)).toNat : Int) < 65)) || decide ((((List.getD (s : List UInt8) 0 0)).toNat : Int) > 90)))) (by kernel_rfl) (re_or1 q5) ?_
          exact wpq_sub _ (by kernel_rfl) hk14
        · have q5l := (or_false_ q5).1
          have q5r := (or_false_ q5).2
          have q5ll := (or_false_ q5l).1
          have q5lr := (or_false_ q5l).2
          have q5llp := of_decide_eq_false q5ll
          have q5lrp := of_decide_eq_false q5lr
          have q5rp := of_decide_eq_false q5r
          have i6 : 0 < (s).length := by omega
          have nb7 := UInt8.toNat_lt (List.getD (s : List UInt8) 0 0)
          refine xB 1 [] [(0, vt s), (20, vb false), (21, vt s)] ?_
          refine xV (qIxS 0 rfl i6) ?_
          refine xB 2 [] [(0, vt s), (24, vb (decide ((((List.getD (s : List UInt8) 0 0)).toNat : Int) > 90)))] ?_
          refine wpq_re 24 (v := vb (decide ((((List.getD (s : List UInt8) 0 0)).toNat : Int) > 90))) (Value.bool ((((decide ((((s).length : Nat) : Int) < 1) || decide ((((s).length : Nat) : Int) > most)) || decide ((((List.getD (s : List UInt8) 0 0)).toNat : Int) < 65)) || decide ((((List.getD (s : List UInt8) 0 0)).toNat : Int) > 90)))) (by kernel_rfl) (re_or0 q5) ?_
          exact wpq_sub _ (by kernel_rfl) hk14
      · refine xRe ?_
        refine wpq_then ?_
        refine xCd ((((decide ((((s).length : Nat) : Int) < 1) || decide ((((s).length : Nat) : Int) > most)) || decide ((((List.getD (s : List UInt8) 0 0)).toNat : Int) < 65)) || decide ((((List.getD (s : List UInt8) 0 0)).toNat : Int) > 90))) (fun h8 => ?_) (fun h8 => ?_)
        · have hS := cond_T h8 hS
          refine xSq ?_
          refine xRg ?_
          refine xB 1 [] [(4, vb false)] ?_
          refine xRe ?_
          refine wpq_then ?_
          have eS := (Option.some.inj hS).symm
          subst eS
          exact xRet [] [4] (Gh.le.refl _) ⟨by kernel_rfl, by kernel_rfl⟩ (fun _ _ h => h)
        · have hS := cond_F h8 hS
          have h8l := (or_false_ h8).1
          have h8r := (or_false_ h8).2
          have h8ll := (or_false_ h8l).1
          have h8lr := (or_false_ h8l).2
          have h8lll := (or_false_ h8ll).1
          have h8llr := (or_false_ h8ll).2
          have h8lllp := of_decide_eq_false h8lll
          have h8llrp := of_decide_eq_false h8llr
          have h8lrp := of_decide_eq_false h8lr
          have h8rp := of_decide_eq_false h8r
          refine xSk ?_
          refine wpq_then ?_
          refine xSub [(0, vt s)] ?_
          refine xSq ?_
          refine xSq ?_
          refine xRg ?_
          refine xB 1 [] [(0, vt s), (5, vi 0)] ?_
          refine xRe ?_
          refine wpq_then ?_
          refine xJoinO hS (fun g own sl t9 => own = [] ∧ sl = []) ?_ ?_
          · rintro g10 _ _ t9 e11 ⟨rfl, rfl⟩ hS
            refine wpq_then ?_
            refine xSq ?_
            refine xRg ?_
            refine xB 1 [] [(4, vb true)] ?_
            refine xRe ?_
            refine wpq_then ?_
            have eS := (Option.some.inj hS).symm
            subst eS
            exact xRet [] [4] e11 ⟨by kernel_rfl, by kernel_rfl⟩ (fun _ _ h => h)
          · intro uu9 hS hN9 hD9
            refine xBl 0 ?_
            refine xSub [(0, vt s), (5, vi 0)] ?_
            refine xLo hS (fun g own sl s14 => own = [] ∧ sl = [(0, vt s), (5, vi ((s14 : Nat) : Int))]) ⟨by kernel_rfl, by kernel_rfl⟩ ?_
            rintro g15 _ _ s14 uu14 e16 ⟨rfl, rfl⟩ hS Qr14 hN14 hD14
            unfold o38_L0 at hS
            refine xSq ?_
            refine xSq ?_
            refine xRg ?_
            refine xB 4 [] [(0, vt s), (5, vi ((s14 : Nat) : Int)), (28, vb (decide (((s14 : Nat) : Int) < (((s).length : Nat) : Int))))] ?_
            refine xRe ?_
            refine wpq_then ?_
            refine xCd (decide (((s14 : Nat) : Int) < (((s).length : Nat) : Int))) (fun h17 => ?_) (fun h17 => ?_)
            · have hS := cond_T h17 hS
              have h17p := of_decide_eq_true h17
              refine xSk ?_
              refine wpq_then ?_
              refine xSub [(0, vt s), (5, vi ((s14 : Nat) : Int))] ?_
              refine xSq ?_
              refine xBl 1 ?_
              refine xSq ?_
              refine xRg ?_
              have i18 : s14 < (s).length := by omega
              have nb19 := UInt8.toNat_lt (List.getD (s : List UInt8) s14 0)
              refine xB 2 [] [(0, vt s), (5, vi ((s14 : Nat) : Int)), (31, vt s), (32, vi ((s14 : Nat) : Int))] ?_
              refine xV (qIxS s14 rfl i18) ?_
              refine xB 2 [] [(0, vt s), (5, vi ((s14 : Nat) : Int)), (35, vb (decide ((((List.getD (s : List UInt8) s14 0)).toNat : Int) < 65)))] ?_
              refine wpr_grp 10 [(0, vt s), (5, vi ((s14 : Nat) : Int)), (40, vb (decide ((((List.getD (s : List UInt8) s14 0)).toNat : Int) < 65) || decide ((((List.getD (s : List UInt8) s14 0)).toNat : Int) > 90)))] (fun hk4 => ?_) ?_
              · refine wpq_split 35 (b := decide ((((List.getD (s : List UInt8) s14 0)).toNat : Int) < 65)) (by kernel_rfl) (fun q20 => ?_) (fun q20 => ?_)
                · have q20p := of_decide_eq_true q20
                  refine xB 5 [] [(0, vt s), (5, vi ((s14 : Nat) : Int)), (40, vb true)] ?_
                  refine wpq_re 40 (v := vb true) (Value.bool ((decide ((((List.getD (s : List UInt8) s14 0)).toNat : Int) < 65) || decide ((((List.getD (s : List UInt8) s14 0)).toNat : Int) > 90)))) (by kernel_rfl) (re_or1 q20) ?_
                  exact wpq_sub _ (by kernel_rfl) hk4
                · have q20p := of_decide_eq_false q20
                  have i21 : s14 < (s).length := by omega
                  have nb22 := UInt8.toNat_lt (List.getD (s : List UInt8) s14 0)
                  refine xB 2 [] [(0, vt s), (5, vi ((s14 : Nat) : Int)), (35, vb false), (36, vt s), (37, vi ((s14 : Nat) : Int))] ?_
                  refine xV (qIxS s14 rfl i21) ?_
                  refine xB 2 [] [(0, vt s), (5, vi ((s14 : Nat) : Int)), (40, vb (decide ((((List.getD (s : List UInt8) s14 0)).toNat : Int) > 90)))] ?_
                  refine wpq_re 40 (v := vb (decide ((((List.getD (s : List UInt8) s14 0)).toNat : Int) > 90))) (Value.bool ((decide ((((List.getD (s : List UInt8) s14 0)).toNat : Int) < 65) || decide ((((List.getD (s : List UInt8) s14 0)).toNat : Int) > 90)))) (by kernel_rfl) (re_or0 q20) ?_
                  exact wpq_sub _ (by kernel_rfl) hk4
              · refine xB 1 [] [(0, vt s), (5, vi ((s14 : Nat) : Int)), (41, vb (decide ((((List.getD (s : List UInt8) s14 0)).toNat : Int) < 65) || decide ((((List.getD (s : List UInt8) s14 0)).toNat : Int) > 90)))] ?_
                refine wpr_grp 22 [(0, vt s), (5, vi ((s14 : Nat) : Int)), (52, vb ((decide ((((List.getD (s : List UInt8) s14 0)).toNat : Int) < 65) || decide ((((List.getD (s : List UInt8) s14 0)).toNat : Int) > 90)) && (decide ((((List.getD (s : List UInt8) s14 0)).toNat : Int) < 48) || decide ((((List.getD (s : List UInt8) s14 0)).toNat : Int) > 57))))] (fun hk10 => ?_) ?_
                · refine wpq_split 41 (b := (decide ((((List.getD (s : List UInt8) s14 0)).toNat : Int) < 65) || decide ((((List.getD (s : List UInt8) s14 0)).toNat : Int) > 90))) (by kernel_rfl) (fun q23 => ?_) (fun q23 => ?_)
                  · have i24 : s14 < (s).length := by omega
                    have nb25 := UInt8.toNat_lt (List.getD (s : List UInt8) s14 0)
                    refine xB 2 [] [(0, vt s), (5, vi ((s14 : Nat) : Int)), (41, vb true), (42, vt s), (43, vi ((s14 : Nat) : Int))] ?_
                    refine xV (qIxS s14 rfl i24) ?_
                    refine xB 2 [] [(0, vt s), (5, vi ((s14 : Nat) : Int)), (41, vb true), (46, vb (decide ((((List.getD (s : List UInt8) s14 0)).toNat : Int) < 48)))] ?_
                    refine wpr_grp 21 [(0, vt s), (5, vi ((s14 : Nat) : Int)), (41, vb true), (51, vb (decide ((((List.getD (s : List UInt8) s14 0)).toNat : Int) < 48) || decide ((((List.getD (s : List UInt8) s14 0)).toNat : Int) > 57)))] (fun hk15 => ?_) ?_
                    · refine wpq_split 46 (b := decide ((((List.getD (s : List UInt8) s14 0)).toNat : Int) < 48)) (by kernel_rfl) (fun q26 => ?_) (fun q26 => ?_)
                      · have q26p := of_decide_eq_true q26
                        refine xB 5 [] [(0, vt s), (5, vi ((s14 : Nat) : Int)), (41, vb true), (51, vb true)] ?_
                        refine wpq_re 51 (v := vb true) (Value.bool ((decide ((((List.getD (s : List UInt8) s14 0)).toNat : Int) < 48) || decide ((((List.getD (s : List UInt8) s14 0)).toNat : Int) > 57)))) (by kernel_rfl) (re_or1 q26) ?_
                        exact wpq_sub _ (by kernel_rfl) hk15
                      · have q26p := of_decide_eq_false q26
                        have i27 : s14 < (s).length := by omega
                        have nb28 := UInt8.toNat_lt (List.getD (s : List UInt8) s14 0)
                        refine xB 2 [] [(0, vt s), (5, vi ((s14 : Nat) : Int)), (41, vb true), (46, vb false), (47, vt s), (48, vi ((s14 : Nat) : Int))] ?_
                        refine xV (qIxS s14 rfl i27) ?_
                        refine xB 2 [] [(0, vt s), (5, vi ((s14 : Nat) : Int)), (41, vb true), (51, vb (decide ((((List.getD (s : List UInt8) s14 0)).toNat : Int) > 57)))] ?_
                        refine wpq_re 51 (v := vb (decide ((((List.getD (s : List UInt8) s14 0)).toNat : Int) > 57))) (Value.bool ((decide ((((List.getD (s : List UInt8) s14 0)).toNat : Int) < 48) || decide ((((List.getD (s : List UInt8) s14 0)).toNat : Int) > 57)))) (by kernel_rfl) (re_or0 q26) ?_
                        exact wpq_sub _ (by kernel_rfl) hk15
                    · refine xB 1 [] [(0, vt s), (5, vi ((s14 : Nat) : Int)), (52, vb (decide ((((List.getD (s : List UInt8) s14 0)).toNat : Int) < 48) || decide ((((List.getD (s : List UInt8) s14 0)).toNat : Int) > 57)))] ?_
                      refine wpq_re 52 (v := vb (decide ((((List.getD (s : List UInt8) s14 0)).toNat : Int) < 48) || decide ((((List.getD (s : List UInt8) s14 0)).toNat : Int) > 57))) (Value.bool (((decide ((((List.getD (s : List UInt8) s14 0)).toNat : Int) < 65) || decide ((((List.getD (s : List UInt8) s14 0)).toNat : Int) > 90)) && (decide ((((List.getD (s : List UInt8) s14 0)).toNat : Int) < 48) || decide ((((List.getD (s : List UInt8) s14 0)).toNat : Int) > 57))))) (by kernel_rfl) (re_and1 q23) ?_
                      exact wpq_sub _ (by kernel_rfl) hk10
                  · have q23l := (or_false_ q23).1
                    have q23r := (or_false_ q23).2
                    have q23lp := of_decide_eq_false q23l
                    have q23rp := of_decide_eq_false q23r
                    refine xB 11 [] [(0, vt s), (5, vi ((s14 : Nat) : Int)), (52, vb false)] ?_
                    refine wpq_re 52 (v := vb false) (Value.bool (((decide ((((List.getD (s : List UInt8) s14 0)).toNat : Int) < 65) || decide ((((List.getD (s : List UInt8) s14 0)).toNat : Int) > 90)) && (decide ((((List.getD (s : List UInt8) s14 0)).toNat : Int) < 48) || decide ((((List.getD (s : List UInt8) s14 0)).toNat : Int) > 57))))) (by kernel_rfl) (re_and0 q23) ?_
                    exact wpq_sub _ (by kernel_rfl) hk10
                · refine xRe ?_
                  refine wpq_then ?_
                  refine xCd (((decide ((((List.getD (s : List UInt8) s14 0)).toNat : Int) < 65) || decide ((((List.getD (s : List UInt8) s14 0)).toNat : Int) > 90)) && (decide ((((List.getD (s : List UInt8) s14 0)).toNat : Int) < 48) || decide ((((List.getD (s : List UInt8) s14 0)).toNat : Int) > 57)))) (fun h29 => ?_) (fun h29 => ?_)
                  · have hS := cond_T h29 hS
                    have h29l := (and_true_ h29).1
                    have h29r := (and_true_ h29).2
                    refine xSq ?_
                    refine xRg ?_
                    refine xB 1 [] [(4, vb false)] ?_
                    refine xRe ?_
                    refine wpq_then ?_
                    have eS := (Option.some.inj hS).symm
                    have eS := (hD14 _ eS).symm
                    have eS := (hD9 _ eS).symm
                    subst eS
                    exact xRet [] [4] e16 ⟨by kernel_rfl, by kernel_rfl⟩ (fun _ _ h => h)
                  · have hS := cond_F h29 hS
                    refine xSk ?_
                    refine wpq_blockN ?_
                    refine wpq_then ?_
                    refine xSub [(0, vt s), (5, vi ((s14 : Nat) : Int))] ?_
                    refine xRg ?_
                    obtain ⟨q30, hS⟩ := grd_T hS
                    have q30p := of_decide_eq_true q30
                    refine xB 1 [] [(0, vt s), (5, vi ((s14 : Nat) : Int)), (29, vi ((s14 : Nat) : Int))] ?_
                    refine xV (qAdd .i64 (((s14 : Nat) : Int)) (1) (wr64 (by omega))) ?_
                    refine xB 1 [] [(0, vt s), (5, vi (((s14 : Nat) : Int) + 1))] ?_
                    refine xRe ?_
                    refine wpq_thenN ?_
                    refine xSub [(0, vt s), (5, vi (((s14 : Nat) : Int) + 1))] ?_
                    have eS := (Option.some.inj hS).symm
                    exact hN14 _ eS _ _ _ (Gh.le.refl _) ⟨by kernel_rfl, by kernel_rfl⟩
            · have hS := cond_F h17 hS
              have h17p := of_decide_eq_false h17
              refine xEx 0 ?_
              refine wpq_thenX ?_
              refine wpq_thenX ?_
              refine wpq_blockE ?_
              refine xSub [] ?_
              have eS := (Option.some.inj hS).symm
              have eS := (hD14 _ eS).symm
              exact hN9 _ eS _ _ _ e16 ⟨by kernel_rfl, by kernel_rfl⟩

def o39 (k : Int) (part : Int) : Int :=
  (letJ (τ := Nat × Nat) (cond ((k == 2)) ((3, 1)) ((1, 3))) fun t2 => (letJ (τ := Nat × Nat) (cond ((k == 3)) ((3, 4)) ((t2.1, t2.2))) fun t5 => (joinI (τ := Unit) (ρ := Int) (cond ((((t5.1 : Nat) : Int) == part)) (Ctl.done ((1 : Int))) (cond ((2 == part)) (Ctl.done ((2 : Int))) (cond ((((t5.2 : Nat) : Int) == part)) (Ctl.done ((3 : Int))) (Ctl.go ())))) fun t8 => ((0 : Int)))))
set_option maxRecDepth 100000 in
theorem C39 (g : Gh) (k : Int) (part : Int) {r : Int} (hS : o39 k part = r) :
    Ctr Tryd.prog 39 [vy k, vy part] g [] (fun v ψ o => v = vi r ∧ o = []) := by
  unfold o39 at hS
  refine xFn Tryd.f39 (Tryd.f39.body.getD .skip) 26 ?_
  refine xSq ?_
  refine xRg ?_
  refine xB 1 [] [(0, vy k), (1, vy part)] ?_
  refine xRe ?_
  refine wpq_then ?_
  refine xSq ?_
  refine xRg ?_
  refine xB 1 [] [(0, vy k), (1, vy part), (8, Value.agg #[vy 1, vy 2, vy 3])] ?_
  refine xE eB ?_
  rintro _ _ _ - ⟨b1, rfl, rfl, rfl⟩
  refine xBo 1 [(2, 0)] [some ⟨b1, 83, [vy 1, vy 2, vy 3]⟩] [(0, vy k), (1, vy part), (5, vp b1 0)] ?_
  refine xRe ?_
  refine wpq_then ?_
  refine xSq ?_
  refine xSq ?_
  refine xRg ?_
  refine xB 2 [] [(0, vy k), (1, vy part), (5, vp b1 0), (10, vb (k == 2))] ?_
  refine xRe ?_
  refine wpq_then ?_
  refine xLetJ hS (fun g own sl t2 => own = [some ⟨b1, 83, [vy ((t2.1 : Nat) : Int), vy 2, vy ((t2.2 : Nat) : Int)]⟩] ∧ sl = [(0, vy k), (1, vy part), (5, vp b1 0)] ∧ (1 ≤ t2.1 ∧ t2.1 ≤ 3) ∧ (1 ≤ t2.2 ∧ t2.2 ≤ 3)) ?_ ?_
  · rintro g3 _ _ t2 e4 ⟨rfl, rfl, ⟨r2_0l, r2_0r⟩, ⟨r2_1l, r2_1r⟩⟩ hS
    refine wpq_then ?_
    refine xSq ?_
    refine xSq ?_
    refine xRg ?_
    refine xB 2 [] [(1, vy part), (5, vp b1 0), (13, vb (k == 3))] ?_
    refine xRe ?_
    refine wpq_then ?_
    refine xLetJ hS (fun g own sl t5 => own = [some ⟨b1, 83, [vy ((t5.1 : Nat) : Int), vy 2, vy ((t5.2 : Nat) : Int)]⟩] ∧ sl = [(1, vy part), (5, vp b1 0)] ∧ (1 ≤ t5.1 ∧ t5.1 ≤ 3) ∧ (1 ≤ t5.2 ∧ t5.2 ≤ 4)) ?_ ?_
    · rintro g6 _ _ t5 e7 ⟨rfl, rfl, ⟨r5_0l, r5_0r⟩, ⟨r5_1l, r5_1r⟩⟩ hS
      refine wpq_then ?_
      refine xSq ?_
      refine xSq ?_
      refine xRg ?_
      refine xB 2 [(0, 0)] [(1, vy part), (15, Value.agg #[vy ((t5.1 : Nat) : Int), vy 2, vy ((t5.2 : Nat) : Int)]), (16, vi 0)] ?_
      refine xRe ?_
      refine wpq_then ?_
      refine xJoinI hS (fun g own sl t8 => own = [] ∧ sl = []) ?_ ?_
      · rintro g9 _ _ t8 e10 ⟨rfl, rfl⟩ hS
        refine wpq_then ?_
        refine xSq ?_
        refine xRg ?_
        refine xB 1 [] [(4, vi 0)] ?_
        refine xRe ?_
        refine wpq_then ?_
        have eS := hS.symm
        subst eS
        exact xRet [] [4] (e4.trans (e7.trans e10)) ⟨by kernel_rfl, by kernel_rfl⟩ (fun _ _ h => h)
      · intro uu8 hS hN8 hD8
        refine xBl 0 ?_
        refine xSub [(1, vy part), (15, Value.agg #[vy ((t5.1 : Nat) : Int), vy 2, vy ((t5.2 : Nat) : Int)]), (16, vi 0)] ?_
        refine xUn 4 ?_
        refine xRd ?_
        refine xSq ?_
        refine xRg ?_
        refine xB 1 [] [(1, vy part), (15, Value.agg #[vy ((t5.1 : Nat) : Int), vy 2, vy ((t5.2 : Nat) : Int)]), (16, vi 0), (17, vb true)] ?_
        refine xRe ?_
        refine wpq_then ?_
        refine xSq ?_
        refine xCt ?_
        refine xSk ?_
        refine wpq_then ?_
        refine xSub [(1, vy part), (15, Value.agg #[vy ((t5.1 : Nat) : Int), vy 2, vy ((t5.2 : Nat) : Int)]), (16, vi 0)] ?_
        refine xSq ?_
        refine xBl 1 ?_
        refine xSq ?_
        refine xRg ?_
        refine xB 4 [] [(1, vy part), (6, vi 0), (7, vy ((t5.1 : Nat) : Int)), (15, Value.agg #[vy ((t5.1 : Nat) : Int), vy 2, vy ((t5.2 : Nat) : Int)]), (16, vi 0)] ?_
        refine xRe ?_
        refine wpq_then ?_
        refine xSq ?_
        refine xRg ?_
        refine xB 3 [] [(1, vy part), (6, vi 0), (15, Value.agg #[vy ((t5.1 : Nat) : Int), vy 2, vy ((t5.2 : Nat) : Int)]), (16, vi 0), (22, vb (((t5.1 : Nat) : Int) == part))] ?_
        refine xRe ?_
        refine wpq_then ?_
        refine xCd ((((t5.1 : Nat) : Int) == part)) (fun h11 => ?_) (fun h11 => ?_)
        · have hS := cond_T h11 hS
          have h11p : ((t5.1 : Nat) : Int) = part := eq_of_beq h11
          refine xSq ?_
          refine xRg ?_
          refine xB 3 [] [(4, vi 1)] ?_
          refine xRe ?_
          refine wpq_then ?_
          have eS := hS.symm
          have eS := (hD8 _ eS).symm
          subst eS
          exact xRet [] [4] (e4.trans e7) ⟨by kernel_rfl, by kernel_rfl⟩ (fun _ _ h => h)
        · have hS := cond_F h11 hS
          have h11p : ¬ (((t5.1 : Nat) : Int) = part) := ne_of_beq_false_ h11
          refine xSk ?_
          refine wpq_blockN ?_
          refine wpq_then ?_
          refine xSub [(1, vy part), (15, Value.agg #[vy ((t5.1 : Nat) : Int), vy 2, vy ((t5.2 : Nat) : Int)]), (16, vi 0)] ?_
          refine xRg ?_
          refine xB 2 [] [(1, vy part), (15, Value.agg #[vy ((t5.1 : Nat) : Int), vy 2, vy ((t5.2 : Nat) : Int)]), (16, vi 1)] ?_
          refine xRe ?_
          refine wpq_thenN ?_
          refine xSub [(1, vy part), (15, Value.agg #[vy ((t5.1 : Nat) : Int), vy 2, vy ((t5.2 : Nat) : Int)]), (16, vi 1)] ?_
          refine xRd ?_
          refine xSq ?_
          refine xRg ?_
          refine xB 1 [] [(1, vy part), (15, Value.agg #[vy ((t5.1 : Nat) : Int), vy 2, vy ((t5.2 : Nat) : Int)]), (16, vi 1), (17, vb true)] ?_
          refine xRe ?_
          refine wpq_then ?_
          refine xSq ?_
          refine xCt ?_
          refine xSk ?_
          refine wpq_then ?_
          refine xSub [(1, vy part), (15, Value.agg #[vy ((t5.1 : Nat) : Int), vy 2, vy ((t5.2 : Nat) : Int)]), (16, vi 1)] ?_
          refine xSq ?_
          refine xBl 1 ?_
          refine xSq ?_
          refine xRg ?_
          refine xB 4 [] [(1, vy part), (6, vi 1), (7, vy 2), (15, Value.agg #[vy ((t5.1 : Nat) : Int), vy 2, vy ((t5.2 : Nat) : Int)]), (16, vi 1)] ?_
          refine xRe ?_
          refine wpq_then ?_
          refine xSq ?_
          refine xRg ?_
          refine xB 3 [] [(1, vy part), (6, vi 1), (15, Value.agg #[vy ((t5.1 : Nat) : Int), vy 2, vy ((t5.2 : Nat) : Int)]), (16, vi 1), (22, vb (2 == part))] ?_
          refine xRe ?_
          refine wpq_then ?_
          refine xCd ((2 == part)) (fun h12 => ?_) (fun h12 => ?_)
          · have hS := cond_T h12 hS
            have h12p : 2 = part := eq_of_beq h12
            refine xSq ?_
            refine xRg ?_
            refine xB 3 [] [(4, vi 2)] ?_
            refine xRe ?_
            refine wpq_then ?_
            have eS := hS.symm
            have eS := (hD8 _ eS).symm
            subst eS
            exact xRet [] [4] (e4.trans e7) ⟨by kernel_rfl, by kernel_rfl⟩ (fun _ _ h => h)
          · have hS := cond_F h12 hS
            have h12p : ¬ (2 = part) := ne_of_beq_false_ h12
            refine xSk ?_
            refine wpq_blockN ?_
            refine wpq_then ?_
            refine xSub [(1, vy part), (15, Value.agg #[vy ((t5.1 : Nat) : Int), vy 2, vy ((t5.2 : Nat) : Int)]), (16, vi 1)] ?_
            refine xRg ?_
            refine xB 2 [] [(1, vy part), (15, Value.agg #[vy ((t5.1 : Nat) : Int), vy 2, vy ((t5.2 : Nat) : Int)]), (16, vi 2)] ?_
            refine xRe ?_
            refine wpq_thenN ?_
            refine xSub [(1, vy part), (15, Value.agg #[vy ((t5.1 : Nat) : Int), vy 2, vy ((t5.2 : Nat) : Int)]), (16, vi 2)] ?_
            refine xRd ?_
            refine xSq ?_
            refine xRg ?_
            refine xB 1 [] [(1, vy part), (15, Value.agg #[vy ((t5.1 : Nat) : Int), vy 2, vy ((t5.2 : Nat) : Int)]), (16, vi 2), (17, vb true)] ?_
            refine xRe ?_
            refine wpq_then ?_
            refine xSq ?_
            refine xCt ?_
            refine xSk ?_
            refine wpq_then ?_
            refine xSub [(1, vy part), (15, Value.agg #[vy ((t5.1 : Nat) : Int), vy 2, vy ((t5.2 : Nat) : Int)]), (16, vi 2)] ?_
            refine xSq ?_
            refine xBl 1 ?_
            refine xSq ?_
            refine xRg ?_
            refine xB 4 [] [(1, vy part), (6, vi 2), (7, vy ((t5.2 : Nat) : Int)), (15, Value.agg #[vy ((t5.1 : Nat) : Int), vy 2, vy ((t5.2 : Nat) : Int)]), (16, vi 2)] ?_
            refine xRe ?_
            refine wpq_then ?_
            refine xSq ?_
            refine xRg ?_
            refine xB 3 [] [(1, vy part), (6, vi 2), (15, Value.agg #[vy ((t5.1 : Nat) : Int), vy 2, vy ((t5.2 : Nat) : Int)]), (16, vi 2), (22, vb (((t5.2 : Nat) : Int) == part))] ?_
            refine xRe ?_
            refine wpq_then ?_
            refine xCd ((((t5.2 : Nat) : Int) == part)) (fun h13 => ?_) (fun h13 => ?_)
            · have hS := cond_T h13 hS
              have h13p : ((t5.2 : Nat) : Int) = part := eq_of_beq h13
              refine xSq ?_
              refine xRg ?_
              refine xB 3 [] [(4, vi 3)] ?_
              refine xRe ?_
              refine wpq_then ?_
              have eS := hS.symm
              have eS := (hD8 _ eS).symm
              subst eS
              exact xRet [] [4] (e4.trans e7) ⟨by kernel_rfl, by kernel_rfl⟩ (fun _ _ h => h)
            · have hS := cond_F h13 hS
              have h13p : ¬ (((t5.2 : Nat) : Int) = part) := ne_of_beq_false_ h13
              refine xSk ?_
              refine wpq_blockN ?_
              refine wpq_then ?_
              refine xSub [(1, vy part), (15, Value.agg #[vy ((t5.1 : Nat) : Int), vy 2, vy ((t5.2 : Nat) : Int)]), (16, vi 2)] ?_
              refine xRg ?_
              refine xB 2 [] [(1, vy part), (15, Value.agg #[vy ((t5.1 : Nat) : Int), vy 2, vy ((t5.2 : Nat) : Int)]), (16, vi 3)] ?_
              refine xRe ?_
              refine wpq_thenN ?_
              refine xSub [(1, vy part), (15, Value.agg #[vy ((t5.1 : Nat) : Int), vy 2, vy ((t5.2 : Nat) : Int)]), (16, vi 3)] ?_
              refine xRd ?_
              refine xSq ?_
              refine xRg ?_
              refine xB 1 [] [(1, vy part), (15, Value.agg #[vy ((t5.1 : Nat) : Int), vy 2, vy ((t5.2 : Nat) : Int)]), (16, vi 3), (17, vb false)] ?_
              refine xRe ?_
              refine wpq_then ?_
              refine xSq ?_
              refine xCf ?_
              refine xEx 0 ?_
              refine wpq_thenX ?_
              refine wpq_thenX ?_
              refine wpq_blockE ?_
              refine xSel [] ?_
              refine xSub [] ?_
              have eS := hS.symm
              exact hN8 _ eS _ _ _ (Gh.le.refl _) ⟨by kernel_rfl, by kernel_rfl⟩
    · intro uu5 hS hN5
      refine xCd ((k == 3)) (fun h14 => ?_) (fun h14 => ?_)
      · have hS := cond_T h14 hS
        have h14p : k = 3 := eq_of_beq h14
        refine xRg ?_
        refine xBo 2 [(1, 0)] [some ⟨b1, 83, [vy 3, vy 2, vy 4]⟩] [(1, vy part), (5, vp b1 0)] ?_
        refine xRe ?_
        refine xSub [(1, vy part), (5, vp b1 0)] ?_
        have eS := hS.symm
        exact hN5 _ eS _ _ _ (Gh.le.refl _) ⟨by kernel_rfl, by kernel_rfl, okI, okI⟩
      · have hS := cond_F h14 hS
        have h14p : ¬ (k = 3) := ne_of_beq_false_ h14
        refine xSk ?_
        refine xSub [(1, vy part), (5, vp b1 0)] ?_
        have eS := hS.symm
        exact hN5 _ eS _ _ _ (Gh.le.refl _) ⟨by kernel_rfl, by kernel_rfl, okI, okI⟩
  · intro uu2 hS hN2
    refine xCd ((k == 2)) (fun h15 => ?_) (fun h15 => ?_)
    · have hS := cond_T h15 hS
      have h15p : k = 2 := eq_of_beq h15
      refine xRg ?_
      refine xBo 2 [(1, 0)] [some ⟨b1, 83, [vy 3, vy 2, vy 1]⟩] [(0, vy k), (1, vy part), (5, vp b1 0)] ?_
      refine xRe ?_
      refine xSub [(0, vy k), (1, vy part), (5, vp b1 0)] ?_
      have eS := hS.symm
      exact hN2 _ eS _ _ _ (Gh.le.refl _) ⟨by kernel_rfl, by kernel_rfl, okI, okI⟩
    · have hS := cond_F h15 hS
      have h15p : ¬ (k = 2) := ne_of_beq_false_ h15
      refine xSk ?_
      refine xSub [(0, vy k), (1, vy part), (5, vp b1 0)] ?_
      have eS := hS.symm
      exact hN2 _ eS _ _ _ (Gh.le.refl _) ⟨by kernel_rfl, by kernel_rfl, okI, okI⟩

def o66 (t : Int) : (List UInt8) :=
  (cond ((t == 1)) ([70]) (letJ (τ := Bool) (cond ((t == 2)) ((t == 2)) ((t == 4))) fun t2 => (cond (t2) ([70, 111]) (cond ((t == 3)) ([70, 111, 75]) (letJ (τ := Bool) (cond ((t == 5)) ((t == 5)) ((t == 6))) fun t7 => (cond (t7) ([70, 67, 84, 82]) (cond ((t == 7)) ([75, 97]) (cond ((t == 8)) ([67, 75, 68]) (cond ((t == 9)) ([75]) (cond ((t == 10)) ([67, 75, 72]) (cond ((t == 11)) ([70, 75, 97]) (cond ((t == 12)) ([70, 75, 68]) (cond ((t == 13)) ([70, 75]) (cond ((t == 14)) ([70, 84, 75, 68, 97]) (letJ (τ := Bool) (cond ((t == 15)) ((t == 15)) (letJ (τ := Bool) (cond ((t == 16)) ((t == 16)) ((t == 17))) fun t24 => (t24))) fun t19 => (cond (t19) ([70, 84, 75, 68]) ([])))))))))))))))))
set_option maxRecDepth 100000 in
theorem C66 (g : Gh) (t : Int) {r : (List UInt8)} (hS : o66 t = r) :
    Ctr Tryd.prog 66 [vy t] g [] (fun v ψ o => v = vt r ∧ o = []) := by
  unfold o66 at hS
  refine xFn Tryd.f66 (Tryd.f66.body.getD .skip) 34 ?_
  refine xSq ?_
  refine xRg ?_
  refine xB 1 [] [(0, vy t)] ?_
  refine xRe ?_
  refine wpq_then ?_
  refine xSq ?_
  refine xSq ?_
  refine xRg ?_
  refine xB 1 [] [(3, vy t)] ?_
  refine xRe ?_
  refine wpq_then ?_
  refine xBl 0 ?_
  refine xSq ?_
  refine xRg ?_
  refine xB 2 [] [(3, vy t), (4, vb (t == 1))] ?_
  refine xRe ?_
  refine wpq_then ?_
  refine xCd ((t == 1)) (fun h1 => ?_) (fun h1 => ?_)
  · have hS := cond_T h1 hS
    have h1p : t = 1 := eq_of_beq h1
    refine xSq ?_
    refine xRg ?_
    refine xB 1 [] [(2, vt ([70]))] ?_
    refine xRe ?_
    refine wpq_then ?_
    have eS := hS.symm
    subst eS
    exact xRet [] [2] (Gh.le.refl _) ⟨by kernel_rfl, by kernel_rfl⟩ (fun _ _ h => h)
  · have hS := cond_F h1 hS
    have h1p : ¬ (t = 1) := ne_of_beq_false_ h1
    refine xSq ?_
    refine xSq ?_
    refine xRg ?_
    refine xB 2 [] [(3, vy t), (6, vb (t == 2))] ?_
    refine xRe ?_
    refine wpq_then ?_
    refine xLetJ hS (fun g own sl t2 => own = [] ∧ sl = [(3, vy t), (6, vb t2)]) ?_ ?_
    · rintro g3 _ _ t2 e4 ⟨rfl, rfl⟩ hS
      refine wpq_then ?_
      refine xCd (t2) (fun h5 => ?_) (fun h5 => ?_)
      · have hS := cond_T h5 hS
        refine xSq ?_
        refine xRg ?_
        refine xB 1 [] [(2, vt ([70, 111]))] ?_
        refine xRe ?_
        refine wpq_then ?_
        have eS := hS.symm
        subst eS
        exact xRet [] [2] e4 ⟨by kernel_rfl, by kernel_rfl⟩ (fun _ _ h => h)
      · have hS := cond_F h5 hS
        refine xSq ?_
        refine xRg ?_
        refine xB 2 [] [(3, vy t), (9, vb (t == 3))] ?_
        refine xRe ?_
        refine wpq_then ?_
        refine xCd ((t == 3)) (fun h6 => ?_) (fun h6 => ?_)
        · have hS := cond_T h6 hS
          have h6p : t = 3 := eq_of_beq h6
          refine xSq ?_
          refine xRg ?_
          refine xB 1 [] [(2, vt ([70, 111, 75]))] ?_
          refine xRe ?_
          refine wpq_then ?_
          have eS := hS.symm
          subst eS
          exact xRet [] [2] e4 ⟨by kernel_rfl, by kernel_rfl⟩ (fun _ _ h => h)
        · have hS := cond_F h6 hS
          have h6p : ¬ (t = 3) := ne_of_beq_false_ h6
          refine xSq ?_
          refine xSq ?_
          refine xRg ?_
          refine xB 2 [] [(3, vy t), (11, vb (t == 5))] ?_
          refine xRe ?_
          refine wpq_then ?_
          refine xLetJ hS (fun g own sl t7 => own = [] ∧ sl = [(3, vy t), (11, vb t7)]) ?_ ?_
          · rintro g8 _ _ t7 e9 ⟨rfl, rfl⟩ hS
            refine wpq_then ?_
            refine xCd (t7) (fun h10 => ?_) (fun h10 => ?_)
            · have hS := cond_T h10 hS
              refine xSq ?_
              refine xRg ?_
              refine xB 1 [] [(2, vt ([70, 67, 84, 82]))] ?_
              refine xRe ?_
              refine wpq_then ?_
              have eS := hS.symm
              subst eS
              exact xRet [] [2] (e4.trans e9) ⟨by kernel_rfl, by kernel_rfl⟩ (fun _ _ h => h)
            · have hS := cond_F h10 hS
              refine xSq ?_
              refine xRg ?_
              refine xB 2 [] [(3, vy t), (14, vb (t == 7))] ?_
              refine xRe ?_
              refine wpq_then ?_
              refine xCd ((t == 7)) (fun h11 => ?_) (fun h11 => ?_)
              · have hS := cond_T h11 hS
                have h11p : t = 7 := eq_of_beq h11
                refine xSq ?_
                refine xRg ?_
                refine xB 1 [] [(2, vt ([75, 97]))] ?_
                refine xRe ?_
                refine wpq_then ?_
                have eS := hS.symm
                subst eS
                exact xRet [] [2] (e4.trans e9) ⟨by kernel_rfl, by kernel_rfl⟩ (fun _ _ h => h)
              · have hS := cond_F h11 hS
                have h11p : ¬ (t = 7) := ne_of_beq_false_ h11
                refine xSq ?_
                refine xRg ?_
                refine xB 2 [] [(3, vy t), (16, vb (t == 8))] ?_
                refine xRe ?_
                refine wpq_then ?_
                refine xCd ((t == 8)) (fun h12 => ?_) (fun h12 => ?_)
                · have hS := cond_T h12 hS
                  have h12p : t = 8 := eq_of_beq h12
                  refine xSq ?_
                  refine xRg ?_
                  refine xB 1 [] [(2, vt ([67, 75, 68]))] ?_
                  refine xRe ?_
                  refine wpq_then ?_
                  have eS := hS.symm
                  subst eS
                  exact xRet [] [2] (e4.trans e9) ⟨by kernel_rfl, by kernel_rfl⟩ (fun _ _ h => h)
                · have hS := cond_F h12 hS
                  have h12p : ¬ (t = 8) := ne_of_beq_false_ h12
                  refine xSq ?_
                  refine xRg ?_
                  refine xB 2 [] [(3, vy t), (18, vb (t == 9))] ?_
                  refine xRe ?_
                  refine wpq_then ?_
                  refine xCd ((t == 9)) (fun h13 => ?_) (fun h13 => ?_)
                  · have hS := cond_T h13 hS
                    have h13p : t = 9 := eq_of_beq h13
                    refine xSq ?_
                    refine xRg ?_
                    refine xB 1 [] [(2, vt ([75]))] ?_
                    refine xRe ?_
                    refine wpq_then ?_
                    have eS := hS.symm
                    subst eS
                    exact xRet [] [2] (e4.trans e9) ⟨by kernel_rfl, by kernel_rfl⟩ (fun _ _ h => h)
                  · have hS := cond_F h13 hS
                    have h13p : ¬ (t = 9) := ne_of_beq_false_ h13
                    refine xSq ?_
                    refine xRg ?_
                    refine xB 2 [] [(3, vy t), (20, vb (t == 10))] ?_
                    refine xRe ?_
                    refine wpq_then ?_
                    refine xCd ((t == 10)) (fun h14 => ?_) (fun h14 => ?_)
                    · have hS := cond_T h14 hS
                      have h14p : t = 10 := eq_of_beq h14
                      refine xSq ?_
                      refine xRg ?_
                      refine xB 1 [] [(2, vt ([67, 75, 72]))] ?_
                      refine xRe ?_
                      refine wpq_then ?_
                      have eS := hS.symm
                      subst eS
                      exact xRet [] [2] (e4.trans e9) ⟨by kernel_rfl, by kernel_rfl⟩ (fun _ _ h => h)
                    · have hS := cond_F h14 hS
                      have h14p : ¬ (t = 10) := ne_of_beq_false_ h14
                      refine xSq ?_
                      refine xRg ?_
                      refine xB 2 [] [(3, vy t), (22, vb (t == 11))] ?_
                      refine xRe ?_
                      refine wpq_then ?_
                      refine xCd ((t == 11)) (fun h15 => ?_) (fun h15 => ?_)
                      · have hS := cond_T h15 hS
                        have h15p : t = 11 := eq_of_beq h15
                        refine xSq ?_
                        refine xRg ?_
                        refine xB 1 [] [(2, vt ([70, 75, 97]))] ?_
                        refine xRe ?_
                        refine wpq_then ?_
                        have eS := hS.symm
                        subst eS
                        exact xRet [] [2] (e4.trans e9) ⟨by kernel_rfl, by kernel_rfl⟩ (fun _ _ h => h)
                      · have hS := cond_F h15 hS
                        have h15p : ¬ (t = 11) := ne_of_beq_false_ h15
                        refine xSq ?_
                        refine xRg ?_
                        refine xB 2 [] [(3, vy t), (24, vb (t == 12))] ?_
                        refine xRe ?_
                        refine wpq_then ?_
                        refine xCd ((t == 12)) (fun h16 => ?_) (fun h16 => ?_)
                        · have hS := cond_T h16 hS
                          have h16p : t = 12 := eq_of_beq h16
                          refine xSq ?_
                          refine xRg ?_
                          refine xB 1 [] [(2, vt ([70, 75, 68]))] ?_
                          refine xRe ?_
                          refine wpq_then ?_
                          have eS := hS.symm
                          subst eS
                          exact xRet [] [2] (e4.trans e9) ⟨by kernel_rfl, by kernel_rfl⟩ (fun _ _ h => h)
                        · have hS := cond_F h16 hS
                          have h16p : ¬ (t = 12) := ne_of_beq_false_ h16
                          refine xSq ?_
                          refine xRg ?_
                          refine xB 2 [] [(3, vy t), (26, vb (t == 13))] ?_
                          refine xRe ?_
                          refine wpq_then ?_
                          refine xCd ((t == 13)) (fun h17 => ?_) (fun h17 => ?_)
                          · have hS := cond_T h17 hS
                            have h17p : t = 13 := eq_of_beq h17
                            refine xSq ?_
                            refine xRg ?_
                            refine xB 1 [] [(2, vt ([70, 75]))] ?_
                            refine xRe ?_
                            refine wpq_then ?_
                            have eS := hS.symm
                            subst eS
                            exact xRet [] [2] (e4.trans e9) ⟨by kernel_rfl, by kernel_rfl⟩ (fun _ _ h => h)
                          · have hS := cond_F h17 hS
                            have h17p : ¬ (t = 13) := ne_of_beq_false_ h17
                            refine xSq ?_
                            refine xRg ?_
                            refine xB 2 [] [(3, vy t), (28, vb (t == 14))] ?_
                            refine xRe ?_
                            refine wpq_then ?_
                            refine xCd ((t == 14)) (fun h18 => ?_) (fun h18 => ?_)
                            · have hS := cond_T h18 hS
                              have h18p : t = 14 := eq_of_beq h18
                              refine xSq ?_
                              refine xRg ?_
                              refine xB 1 [] [(2, vt ([70, 84, 75, 68, 97]))] ?_
                              refine xRe ?_
                              refine wpq_then ?_
                              have eS := hS.symm
                              subst eS
                              exact xRet [] [2] (e4.trans e9) ⟨by kernel_rfl, by kernel_rfl⟩ (fun _ _ h => h)
                            · have hS := cond_F h18 hS
                              have h18p : ¬ (t = 14) := ne_of_beq_false_ h18
                              refine xSq ?_
                              refine xSq ?_
                              refine xRg ?_
                              refine xB 2 [] [(3, vy t), (30, vb (t == 15))] ?_
                              refine xRe ?_
                              refine wpq_then ?_
                              refine xLetJ hS (fun g own sl t19 => own = [] ∧ sl = [(30, vb t19)]) ?_ ?_
                              · rintro g20 _ _ t19 e21 ⟨rfl, rfl⟩ hS
                                refine wpq_then ?_
                                refine xCd (t19) (fun h22 => ?_) (fun h22 => ?_)
                                · have hS := cond_T h22 hS
                                  refine xSq ?_
                                  refine xRg ?_
                                  refine xB 1 [] [(2, vt ([70, 84, 75, 68]))] ?_
                                  refine xRe ?_
                                  refine wpq_then ?_
                                  have eS := hS.symm
                                  subst eS
                                  exact xRet [] [2] (e4.trans (e9.trans e21)) ⟨by kernel_rfl, by kernel_rfl⟩ (fun _ _ h => h)
                                · have hS := cond_F h22 hS
                                  refine xSk ?_
                                  refine wpq_blockN ?_
                                  refine wpq_then ?_
                                  refine xSub [] ?_
                                  refine xSq ?_
                                  refine xRg ?_
                                  refine xB 1 [] [(2, vt ([]))] ?_
                                  refine xRe ?_
                                  refine wpq_then ?_
                                  have eS := hS.symm
                                  subst eS
                                  exact xRet [] [2] (e4.trans (e9.trans e21)) ⟨by kernel_rfl, by kernel_rfl⟩ (fun _ _ h => h)
                              · intro uu19 hS hN19
                                refine xCd ((t == 15)) (fun h23 => ?_) (fun h23 => ?_)
                                · have hS := cond_T h23 hS
                                  have h23p : t = 15 := eq_of_beq h23
                                  refine xSk ?_
                                  refine xSub [(30, vb (t == 15))] ?_
                                  have eS := hS.symm
                                  exact hN19 _ eS _ _ _ (Gh.le.refl _) ⟨by kernel_rfl, by kernel_rfl⟩
                                · have hS := cond_F h23 hS
                                  have h23p : ¬ (t = 15) := ne_of_beq_false_ h23
                                  refine xSq ?_
                                  refine xRg ?_
                                  refine xB 2 [] [(3, vy t), (30, vb (t == 16))] ?_
                                  refine xRe ?_
                                  refine wpq_then ?_
                                  refine xLetJ hS (fun g own sl t24 => own = [] ∧ sl = [(30, vb t24)]) ?_ ?_
                                  · rintro g25 _ _ t24 e26 ⟨rfl, rfl⟩ hS
                                    refine xSub [(30, vb t24)] ?_
                                    have eS := hS.symm
                                    exact hN19 _ eS _ _ _ e26 ⟨by kernel_rfl, by kernel_rfl⟩
                                  · intro uu24 hS hN24
                                    refine xCd ((t == 16)) (fun h27 => ?_) (fun h27 => ?_)
                                    · have hS := cond_T h27 hS
                                      have h27p : t = 16 := eq_of_beq h27
                                      refine xSk ?_
                                      refine xSub [(30, vb (t == 16))] ?_
                                      have eS := hS.symm
                                      exact hN24 _ eS _ _ _ (Gh.le.refl _) ⟨by kernel_rfl, by kernel_rfl⟩
                                    · have hS := cond_F h27 hS
                                      have h27p : ¬ (t = 16) := ne_of_beq_false_ h27
                                      refine xRg ?_
                                      refine xB 2 [] [(30, vb (t == 17))] ?_
                                      refine xRe ?_
                                      refine xSub [(30, vb (t == 17))] ?_
                                      have eS := hS.symm
                                      exact hN24 _ eS _ _ _ (Gh.le.refl _) ⟨by kernel_rfl, by kernel_rfl⟩
          · intro uu7 hS hN7
            refine xCd ((t == 5)) (fun h28 => ?_) (fun h28 => ?_)
            · have hS := cond_T h28 hS
              have h28p : t = 5 := eq_of_beq h28
              refine xSk ?_
              refine xSub [(3, vy t), (11, vb (t == 5))] ?_
              have eS := hS.symm
              exact hN7 _ eS _ _ _ (Gh.le.refl _) ⟨by kernel_rfl, by kernel_rfl⟩
            · have hS := cond_F h28 hS
              have h28p : ¬ (t = 5) := ne_of_beq_false_ h28
              refine xRg ?_
              refine xB 2 [] [(3, vy t), (11, vb (t == 6))] ?_
              refine xRe ?_
              refine xSub [(3, vy t), (11, vb (t == 6))] ?_
              have eS := hS.symm
              exact hN7 _ eS _ _ _ (Gh.le.refl _) ⟨by kernel_rfl, by kernel_rfl⟩
    · intro uu2 hS hN2
      refine xCd ((t == 2)) (fun h29 => ?_) (fun h29 => ?_)
      · have hS := cond_T h29 hS
        have h29p : t = 2 := eq_of_beq h29
        refine xSk ?_
        refine xSub [(3, vy t), (6, vb (t == 2))] ?_
        have eS := hS.symm
        exact hN2 _ eS _ _ _ (Gh.le.refl _) ⟨by kernel_rfl, by kernel_rfl⟩
      · have hS := cond_F h29 hS
        have h29p : ¬ (t = 2) := ne_of_beq_false_ h29
        refine xRg ?_
        refine xB 2 [] [(3, vy t), (6, vb (t == 4))] ?_
        refine xRe ?_
        refine xSub [(3, vy t), (6, vb (t == 4))] ?_
        have eS := hS.symm
        exact hN2 _ eS _ _ _ (Gh.le.refl _) ⟨by kernel_rfl, by kernel_rfl⟩

def o68_L0 (s : List UInt8) (c : Int) (s6 : Nat) : Option (Ctl (Nat) (Ctl (Unit) (Bool))) :=
  (cond (decide (((s6 : Nat) : Int) < (((s).length : Nat) : Int))) (cond (((((List.getD (s : List UInt8) s6 0)).toNat : Int) == c)) (some (Ctl.done (Ctl.done ((true))))) (grd (decide (((s6 : Nat) : Int) + 1 ≤ 9223372036854775807)) (some (Ctl.go (s6 + 1))))) (some (Ctl.done (Ctl.go ()))))
def o68 (s : List UInt8) (c : Int) : Option (Bool) :=
  (joinO (τ := Unit) (ρ := Bool) (loopO (σ := Nat) (ρ := Ctl (Unit) (Bool)) fuelN (o68_L0 s c) (0)) fun t1 => (some ((false))))
set_option maxRecDepth 100000 in
theorem C68 (g : Gh) (s : List UInt8) (c : Int) {r : Bool} (hS : o68 s c = some r) :
    Ctr Tryd.prog 68 [vt s, vy c] g [] (fun v ψ o => v = vb r ∧ o = []) := by
  unfold o68 at hS
  refine xFn Tryd.f68 (Tryd.f68.body.getD .skip) 17 ?_
  refine xSq ?_
  refine xRg ?_
  refine xB 1 [] [(0, vt s), (1, vy c)] ?_
  refine xRe ?_
  refine wpq_then ?_
  refine xSq ?_
  refine xSq ?_
  refine xRg ?_
  refine xB 1 [] [(0, vt s), (1, vy c), (5, vi 0)] ?_
  refine xRe ?_
  refine wpq_then ?_
  refine xJoinO hS (fun g own sl t1 => own = [] ∧ sl = []) ?_ ?_
  · rintro g2 _ _ t1 e3 ⟨rfl, rfl⟩ hS
    refine wpq_then ?_
    refine xSq ?_
    refine xRg ?_
    refine xB 1 [] [(4, vb false)] ?_
    refine xRe ?_
    refine wpq_then ?_
    have eS := (Option.some.inj hS).symm
    subst eS
    exact xRet [] [4] e3 ⟨by kernel_rfl, by kernel_rfl⟩ (fun _ _ h => h)
  · intro uu1 hS hN1 hD1
    refine xBl 0 ?_
    refine xSub [(0, vt s), (1, vy c), (5, vi 0)] ?_
    refine xLo hS (fun g own sl s6 => own = [] ∧ sl = [(0, vt s), (1, vy c), (5, vi ((s6 : Nat) : Int))]) ⟨by kernel_rfl, by kernel_rfl⟩ ?_
    rintro g7 _ _ s6 uu6 e8 ⟨rfl, rfl⟩ hS Qr6 hN6 hD6
    unfold o68_L0 at hS
    refine xSq ?_
    refine xSq ?_
    refine xRg ?_
    refine xB 4 [] [(0, vt s), (1, vy c), (5, vi ((s6 : Nat) : Int)), (9, vb (decide (((s6 : Nat) : Int) < (((s).length : Nat) : Int))))] ?_
    refine xRe ?_
    refine wpq_then ?_
    refine xCd (decide (((s6 : Nat) : Int) < (((s).length : Nat) : Int))) (fun h9 => ?_) (fun h9 => ?_)
    · have hS := cond_T h9 hS
      have h9p := of_decide_eq_true h9
      refine xSk ?_
      refine wpq_then ?_
      refine xSub [(0, vt s), (1, vy c), (5, vi ((s6 : Nat) : Int))] ?_
      refine xSq ?_
      refine xBl 1 ?_
      refine xSq ?_
      refine xRg ?_
      have i10 : s6 < (s).length := by omega
      have nb11 := UInt8.toNat_lt (List.getD (s : List UInt8) s6 0)
      refine xB 2 [] [(0, vt s), (1, vy c), (5, vi ((s6 : Nat) : Int)), (12, vt s), (13, vi ((s6 : Nat) : Int))] ?_
      refine xV (qIxS s6 rfl i10) ?_
      refine xB 2 [] [(0, vt s), (1, vy c), (5, vi ((s6 : Nat) : Int)), (16, vb ((((List.getD (s : List UInt8) s6 0)).toNat : Int) == c))] ?_
      refine xRe ?_
      refine wpq_then ?_
      refine xCd (((((List.getD (s : List UInt8) s6 0)).toNat : Int) == c)) (fun h12 => ?_) (fun h12 => ?_)
      · have hS := cond_T h12 hS
        have h12p : (((List.getD (s : List UInt8) s6 0)).toNat : Int) = c := eq_of_beq h12
        refine xSq ?_
        refine xRg ?_
        refine xB 1 [] [(4, vb true)] ?_
        refine xRe ?_
        refine wpq_then ?_
        have eS := (Option.some.inj hS).symm
        have eS := (hD6 _ eS).symm
        have eS := (hD1 _ eS).symm
        subst eS
        exact xRet [] [4] e8 ⟨by kernel_rfl, by kernel_rfl⟩ (fun _ _ h => h)
      · have hS := cond_F h12 hS
        have h12p : ¬ ((((List.getD (s : List UInt8) s6 0)).toNat : Int) = c) := ne_of_beq_false_ h12
        refine xSk ?_
        refine wpq_blockN ?_
        refine wpq_then ?_
        refine xSub [(0, vt s), (1, vy c), (5, vi ((s6 : Nat) : Int))] ?_
        refine xRg ?_
        obtain ⟨q13, hS⟩ := grd_T hS
        have q13p := of_decide_eq_true q13
        refine xB 1 [] [(0, vt s), (1, vy c), (5, vi ((s6 : Nat) : Int)), (10, vi ((s6 : Nat) : Int))] ?_
        refine xV (qAdd .i64 (((s6 : Nat) : Int)) (1) (wr64 (by omega))) ?_
        refine xB 1 [] [(0, vt s), (1, vy c), (5, vi (((s6 : Nat) : Int) + 1))] ?_
        refine xRe ?_
        refine wpq_thenN ?_
        refine xSub [(0, vt s), (1, vy c), (5, vi (((s6 : Nat) : Int) + 1))] ?_
        have eS := (Option.some.inj hS).symm
        exact hN6 _ eS _ _ _ (Gh.le.refl _) ⟨by kernel_rfl, by kernel_rfl⟩
    · have hS := cond_F h9 hS
      have h9p := of_decide_eq_false h9
      refine xEx 0 ?_
      refine wpq_thenX ?_
      refine wpq_thenX ?_
      refine wpq_blockE ?_
      refine xSub [] ?_
      have eS := (Option.some.inj hS).symm
      have eS := (hD6 _ eS).symm
      exact hN1 _ eS _ _ _ e8 ⟨by kernel_rfl, by kernel_rfl⟩

def o75_L0 (s : List UInt8) (s7 : Nat) : Option (Ctl (Nat) (Ctl (Unit) (Bool))) :=
  (cond (decide (((s7 : Nat) : Int) < 2)) (cond (((decide ((((List.getD (s : List UInt8) s7 0)).toNat : Int) < 65) || decide ((((List.getD (s : List UInt8) s7 0)).toNat : Int) > 90)) && (decide ((((List.getD (s : List UInt8) s7 0)).toNat : Int) < 48) || decide ((((List.getD (s : List UInt8) s7 0)).toNat : Int) > 57)))) (some (Ctl.done (Ctl.done ((false))))) (grd (decide (((s7 : Nat) : Int) + 1 ≤ 9223372036854775807)) (some (Ctl.go (s7 + 1))))) (some (Ctl.done (Ctl.go ()))))
def o75 (s : List UInt8) : Option (Bool) :=
  (cond (((((s).length : Nat) : Int) != 2)) (some ((false))) (joinO (τ := Unit) (ρ := Bool) (loopO (σ := Nat) (ρ := Ctl (Unit) (Bool)) fuelN (o75_L0 s) (0)) fun t2 => (some ((true)))))
set_option maxRecDepth 100000 in
theorem C75 (g : Gh) (s : List UInt8) {r : Bool} (hS : o75 s = some r) :
    Ctr Tryd.prog 75 [vt s] g [] (fun v ψ o => v = vb r ∧ o = []) := by
  unfold o75 at hS
  refine xFn Tryd.f75 (Tryd.f75.body.getD .skip) 33 ?_
  refine xSq ?_
  refine xRg ?_
  refine xB 1 [] [(0, vt s)] ?_
  refine xRe ?_
  refine wpq_then ?_
  refine xSq ?_
  refine xSq ?_
  refine xRg ?_
  refine xB 3 [] [(0, vt s), (6, vb ((((s).length : Nat) : Int) != 2))] ?_
  refine xRe ?_
  refine wpq_then ?_
  refine xCd (((((s).length : Nat) : Int) != 2)) (fun h1 => ?_) (fun h1 => ?_)
  · have hS := cond_T h1 hS
    have h1p : ¬ ((((s).length : Nat) : Int) = 2) := ne_of_bne_ h1
    refine xSq ?_
    refine xRg ?_
    refine xB 1 [] [(2, vb false)] ?_
    refine xRe ?_
    refine wpq_then ?_
    have eS := (Option.some.inj hS).symm
    subst eS
    exact xRet [] [2] (Gh.le.refl _) ⟨by kernel_rfl, by kernel_rfl⟩ (fun _ _ h => h)
  · have hS := cond_F h1 hS
    have h1p : (((s).length : Nat) : Int) = 2 := eq_of_bne_false_ h1
    refine xSk ?_
    refine wpq_then ?_
    refine xSub [(0, vt s)] ?_
    refine xSq ?_
    refine xSq ?_
    refine xRg ?_
    refine xB 1 [] [(0, vt s), (3, vi 0)] ?_
    refine xRe ?_
    refine wpq_then ?_
    refine xJoinO hS (fun g own sl t2 => own = [] ∧ sl = []) ?_ ?_
    · rintro g3 _ _ t2 e4 ⟨rfl, rfl⟩ hS
      refine wpq_then ?_
      refine xSq ?_
      refine xRg ?_
      refine xB 1 [] [(2, vb true)] ?_
      refine xRe ?_
      refine wpq_then ?_
      have eS := (Option.some.inj hS).symm
      subst eS
      exact xRet [] [2] e4 ⟨by kernel_rfl, by kernel_rfl⟩ (fun _ _ h => h)
    · intro uu2 hS hN2 hD2
      refine xBl 0 ?_
      refine xSub [(0, vt s), (3, vi 0)] ?_
      refine xLo hS (fun g own sl s7 => own = [] ∧ sl = [(0, vt s), (3, vi ((s7 : Nat) : Int))]) ⟨by kernel_rfl, by kernel_rfl⟩ ?_
      rintro g8 _ _ s7 uu7 e9 ⟨rfl, rfl⟩ hS Qr7 hN7 hD7
      unfold o75_L0 at hS
      refine xSq ?_
      refine xSq ?_
      refine xRg ?_
      refine xB 2 [] [(0, vt s), (3, vi ((s7 : Nat) : Int)), (8, vb (decide (((s7 : Nat) : Int) < 2)))] ?_
      refine xRe ?_
      refine wpq_then ?_
      refine xCd (decide (((s7 : Nat) : Int) < 2)) (fun h10 => ?_) (fun h10 => ?_)
      · have hS := cond_T h10 hS
        have h10p := of_decide_eq_true h10
        refine xSk ?_
        refine wpq_then ?_
        refine xSub [(0, vt s), (3, vi ((s7 : Nat) : Int))] ?_
        refine xSq ?_
        refine xBl 1 ?_
        refine xSq ?_
        refine xRg ?_
        have i11 : s7 < (s).length := by omega
        have nb12 := UInt8.toNat_lt (List.getD (s : List UInt8) s7 0)
        refine xB 2 [] [(0, vt s), (3, vi ((s7 : Nat) : Int)), (11, vt s), (12, vi ((s7 : Nat) : Int))] ?_
        refine xV (qIxS s7 rfl i11) ?_
        refine xB 2 [] [(0, vt s), (3, vi ((s7 : Nat) : Int)), (15, vb (decide ((((List.getD (s : List UInt8) s7 0)).toNat : Int) < 65)))] ?_
        refine wpr_grp 10 [(0, vt s), (3, vi ((s7 : Nat) : Int)), (20, vb (decide ((((List.getD (s : List UInt8) s7 0)).toNat : Int) < 65) || decide ((((List.getD (s : List UInt8) s7 0)).toNat : Int) > 90)))] (fun hk4 => ?_) ?_
        · refine wpq_split 15 (b := decide ((((List.getD (s : List UInt8) s7 0)).toNat : Int) < 65)) (by kernel_rfl) (fun q13 => ?_) (fun q13 => ?_)
          · have q13p := of_decide_eq_true q13
            refine xB 5 [] [(0, vt s), (3, vi ((s7 : Nat) : Int)), (20, vb true)] ?_
            refine wpq_re 20 (v := vb true) (Value.bool ((decide ((((List.getD (s : List UInt8) s7 0)).toNat : Int) < 65) || decide ((((List.getD (s : List UInt8) s7 0)).toNat : Int) > 90)))) (by kernel_rfl) (re_or1 q13) ?_
            exact wpq_sub _ (by kernel_rfl) hk4
          · have q13p := of_decide_eq_false q13
            have i14 : s7 < (s).length := by omega
            have nb15 := UInt8.toNat_lt (List.getD (s : List UInt8) s7 0)
            refine xB 2 [] [(0, vt s), (3, vi ((s7 : Nat) : Int)), (15, vb false), (16, vt s), (17, vi ((s7 : Nat) : Int))] ?_
            refine xV (qIxS s7 rfl i14) ?_
            refine xB 2 [] [(0, vt s), (3, vi ((s7 : Nat) : Int)), (20, vb (decide ((((List.getD (s : List UInt8) s7 0)).toNat : Int) > 90)))] ?_
            refine wpq_re 20 (v := vb (decide ((((List.getD (s : List UInt8) s7 0)).toNat : Int) > 90))) (Value.bool ((decide ((((List.getD (s : List UInt8) s7 0)).toNat : Int) < 65) || decide ((((List.getD (s : List UInt8) s7 0)).toNat : Int) > 90)))) (by kernel_rfl) (re_or0 q13) ?_
            exact wpq_sub _ (by kernel_rfl) hk4
        · refine xB 1 [] [(0, vt s), (3, vi ((s7 : Nat) : Int)), (21, vb (decide ((((List.getD (s : List UInt8) s7 0)).toNat : Int) < 65) || decide ((((List.getD (s : List UInt8) s7 0)).toNat : Int) > 90)))] ?_
          refine wpr_grp 22 [(0, vt s), (3, vi ((s7 : Nat) : Int)), (32, vb ((decide ((((List.getD (s : List UInt8) s7 0)).toNat : Int) < 65) || decide ((((List.getD (s : List UInt8) s7 0)).toNat : Int) > 90)) && (decide ((((List.getD (s : List UInt8) s7 0)).toNat : Int) < 48) || decide ((((List.getD (s : List UInt8) s7 0)).toNat : Int) > 57))))] (fun hk10 => ?_) ?_
          · refine wpq_split 21 (b := (decide ((((List.getD (s : List UInt8) s7 0)).toNat : Int) < 65) || decide ((((List.getD (s : List UInt8) s7 0)).toNat : Int) > 90))) (by kernel_rfl) (fun q16 => ?_) (fun q16 => ?_)
            · have i17 : s7 < (s).length := by omega
              have nb18 := UInt8.toNat_lt (List.getD (s : List UInt8) s7 0)
              refine xB 2 [] [(0, vt s), (3, vi ((s7 : Nat) : Int)), (21, vb true), (22, vt s), (23, vi ((s7 : Nat) : Int))] ?_
              refine xV (qIxS s7 rfl i17) ?_
              refine xB 2 [] [(0, vt s), (3, vi ((s7 : Nat) : Int)), (21, vb true), (26, vb (decide ((((List.getD (s : List UInt8) s7 0)).toNat : Int) < 48)))] ?_
              refine wpr_grp 21 [(0, vt s), (3, vi ((s7 : Nat) : Int)), (21, vb true), (31, vb (decide ((((List.getD (s : List UInt8) s7 0)).toNat : Int) < 48) || decide ((((List.getD (s : List UInt8) s7 0)).toNat : Int) > 57)))] (fun hk15 => ?_) ?_
              · refine wpq_split 26 (b := decide ((((List.getD (s : List UInt8) s7 0)).toNat : Int) < 48)) (by kernel_rfl) (fun q19 => ?_) (fun q19 => ?_)
                · have q19p := of_decide_eq_true q19
                  refine xB 5 [] [(0, vt s), (3, vi ((s7 : Nat) : Int)), (21, vb true), (31, vb true)] ?_
                  refine wpq_re 31 (v := vb true) (Value.bool ((decide ((((List.getD (s : List UInt8) s7 0)).toNat : Int) < 48) || decide ((((List.getD (s : List UInt8) s7 0)).toNat : Int) > 57)))) (by kernel_rfl) (re_or1 q19) ?_
                  exact wpq_sub _ (by kernel_rfl) hk15
                · have q19p := of_decide_eq_false q19
                  have i20 : s7 < (s).length := by omega
                  have nb21 := UInt8.toNat_lt (List.getD (s : List UInt8) s7 0)
                  refine xB 2 [] [(0, vt s), (3, vi ((s7 : Nat) : Int)), (21, vb true), (26, vb false), (27, vt s), (28, vi ((s7 : Nat) : Int))] ?_
                  refine xV (qIxS s7 rfl i20) ?_
                  refine xB 2 [] [(0, vt s), (3, vi ((s7 : Nat) : Int)), (21, vb true), (31, vb (decide ((((List.getD (s : List UInt8) s7 0)).toNat : Int) > 57)))] ?_
                  refine wpq_re 31 (v := vb (decide ((((List.getD (s : List UInt8) s7 0)).toNat : Int) > 57))) (Value.bool ((decide ((((List.getD (s : List UInt8) s7 0)).toNat : Int) < 48) || decide ((((List.getD (s : List UInt8) s7 0)).toNat : Int) > 57)))) (by kernel_rfl) (re_or0 q19) ?_
                  exact wpq_sub _ (by kernel_rfl) hk15
              · refine xB 1 [] [(0, vt s), (3, vi ((s7 : Nat) : Int)), (32, vb (decide ((((List.getD (s : List UInt8) s7 0)).toNat : Int) < 48) || decide ((((List.getD (s : List UInt8) s7 0)).toNat : Int) > 57)))] ?_
                refine wpq_re 32 (v := vb (decide ((((List.getD (s : List UInt8) s7 0)).toNat : Int) < 48) || decide ((((List.getD (s : List UInt8) s7 0)).toNat : Int) > 57))) (Value.bool (((decide ((((List.getD (s : List UInt8) s7 0)).toNat : Int) < 65) || decide ((((List.getD (s : List UInt8) s7 0)).toNat : Int) > 90)) && (decide ((((List.getD (s : List UInt8) s7 0)).toNat : Int) < 48) || decide ((((List.getD (s : List UInt8) s7 0)).toNat : Int) > 57))))) (by kernel_rfl) (re_and1 q16) ?_
                exact wpq_sub _ (by kernel_rfl) hk10
            · have q16l := (or_false_ q16).1
              have q16r := (or_false_ q16).2
              have q16lp := of_decide_eq_false q16l
              have q16rp := of_decide_eq_false q16r
              refine xB 11 [] [(0, vt s), (3, vi ((s7 : Nat) : Int)), (32, vb false)] ?_
              refine wpq_re 32 (v := vb false) (Value.bool (((decide ((((List.getD (s : List UInt8) s7 0)).toNat : Int) < 65) || decide ((((List.getD (s : List UInt8) s7 0)).toNat : Int) > 90)) && (decide ((((List.getD (s : List UInt8) s7 0)).toNat : Int) < 48) || decide ((((List.getD (s : List UInt8) s7 0)).toNat : Int) > 57))))) (by kernel_rfl) (re_and0 q16) ?_
              exact wpq_sub _ (by kernel_rfl) hk10
          · refine xRe ?_
            refine wpq_then ?_
            refine xCd (((decide ((((List.getD (s : List UInt8) s7 0)).toNat : Int) < 65) || decide ((((List.getD (s : List UInt8) s7 0)).toNat : Int) > 90)) && (decide ((((List.getD (s : List UInt8) s7 0)).toNat : Int) < 48) || decide ((((List.getD (s : List UInt8) s7 0)).toNat : Int) > 57)))) (fun h22 => ?_) (fun h22 => ?_)
            · have hS := cond_T h22 hS
              have h22l := (and_true_ h22).1
              have h22r := (and_true_ h22).2
              refine xSq ?_
              refine xRg ?_
              refine xB 1 [] [(2, vb false)] ?_
              refine xRe ?_
              refine wpq_then ?_
              have eS := (Option.some.inj hS).symm
              have eS := (hD7 _ eS).symm
              have eS := (hD2 _ eS).symm
              subst eS
              exact xRet [] [2] e9 ⟨by kernel_rfl, by kernel_rfl⟩ (fun _ _ h => h)
            · have hS := cond_F h22 hS
              refine xSk ?_
              refine wpq_blockN ?_
              refine wpq_then ?_
              refine xSub [(0, vt s), (3, vi ((s7 : Nat) : Int))] ?_
              refine xRg ?_
              obtain ⟨q23, hS⟩ := grd_T hS
              have q23p := of_decide_eq_true q23
              refine xB 1 [] [(0, vt s), (3, vi ((s7 : Nat) : Int)), (9, vi ((s7 : Nat) : Int))] ?_
              refine xV (qAdd .i64 (((s7 : Nat) : Int)) (1) (wr64 (by omega))) ?_
              refine xB 1 [] [(0, vt s), (3, vi (((s7 : Nat) : Int) + 1))] ?_
              refine xRe ?_
              refine wpq_thenN ?_
              refine xSub [(0, vt s), (3, vi (((s7 : Nat) : Int) + 1))] ?_
              have eS := (Option.some.inj hS).symm
              exact hN7 _ eS _ _ _ (Gh.le.refl _) ⟨by kernel_rfl, by kernel_rfl⟩
      · have hS := cond_F h10 hS
        have h10p := of_decide_eq_false h10
        refine xEx 0 ?_
        refine wpq_thenX ?_
        refine wpq_thenX ?_
        refine wpq_blockE ?_
        refine xSub [] ?_
        have eS := (Option.some.inj hS).symm
        have eS := (hD7 _ eS).symm
        exact hN2 _ eS _ _ _ e9 ⟨by kernel_rfl, by kernel_rfl⟩

def o73_L0 (ref : List UInt8) (s6 : Nat) : Option (Ctl (Nat) (Ctl (Unit) ((List UInt8) × (List UInt8) × Int))) :=
  (cond (decide (((s6 : Nat) : Int) < (((ref).length : Nat) : Int))) (cond (((((List.getD (ref : List UInt8) s6 0)).toNat : Int) == 47)) (grd (decide (((s6 : Nat) : Int) + 1 ≤ 9223372036854775807)) (grd (decide ((((s6 : Nat) : Int) + 1) ≤ (((ref).length : Nat) : Int))) (bindO (τ := Bool) (o38 (List.take s6 ref) (6 : Int)) fun y15 => (bindO (τ := Bool) (cond ((!y15)) (some (true)) (bindO (τ := Bool) (o38 (List.drop (s6 + 1) ref) (6 : Int)) fun y23 => (bindO (τ := Bool) (cond ((!y23)) (bindO (τ := Bool) (o75 (List.drop (s6 + 1) ref)) fun y30 => (some (!y30))) (some (false))) fun t26 => (some (t26))))) fun t18 => (cond (t18) (some (Ctl.done (Ctl.done (([], [], (5 : Int)))))) (some (Ctl.done (Ctl.done (((List.take s6 ref), (List.drop (s6 + 1) ref), (0 : Int))))))))))) (grd (decide (((s6 : Nat) : Int) + 1 ≤ 9223372036854775807)) (some (Ctl.go (s6 + 1))))) (some (Ctl.done (Ctl.go ()))))
def o73 (ref : List UInt8) : Option ((List UInt8) × (List UInt8) × Int) :=
  (joinO (τ := Unit) (ρ := (List UInt8) × (List UInt8) × Int) (loopO (σ := Nat) (ρ := Ctl (Unit) ((List UInt8) × (List UInt8) × Int)) fuelN (o73_L0 ref) (0)) fun t1 => (some (([], [], (4 : Int)))))
set_option maxRecDepth 100000 in
theorem C73 (g : Gh) (ref : List UInt8) {r : (List UInt8) × (List UInt8) × Int} (hS : o73 ref = some r) :
    Ctr Tryd.prog 73 [vt ref] g [] (fun v ψ o => v = Value.tuple #[vt r.1, vt r.2.1, vi r.2.2] ∧ o = []) := by
  unfold o73 at hS
  refine xFn Tryd.f73 (Tryd.f73.body.getD .skip) 40 ?_
  refine xSq ?_
  refine xRg ?_
  refine xB 3 [] [(0, vt ref)] ?_
  refine xRe ?_
  refine wpq_then ?_
  refine xSq ?_
  refine xSq ?_
  refine xRg ?_
  refine xB 1 [] [(0, vt ref), (5, vi 0)] ?_
  refine xRe ?_
  refine wpq_then ?_
  refine xJoinO hS (fun g own sl t1 => own = [] ∧ sl = []) ?_ ?_
  · rintro g2 _ _ t1 e3 ⟨rfl, rfl⟩ hS
    refine wpq_then ?_
    refine xSq ?_
    refine xRg ?_
    refine xB 3 [] [(2, vt ([])), (3, vt ([])), (4, vi 4)] ?_
    refine xRe ?_
    refine wpq_then ?_
    have eS := (Option.some.inj hS).symm
    subst eS
    exact xRet [] [2, 3, 4] e3 ⟨by kernel_rfl, by kernel_rfl⟩ (fun _ _ h => h)
  · intro uu1 hS hN1 hD1
    refine xBl 0 ?_
    refine xSub [(0, vt ref), (5, vi 0)] ?_
    refine xLo hS (fun g own sl s6 => own = [] ∧ sl = [(0, vt ref), (5, vi ((s6 : Nat) : Int))]) ⟨by kernel_rfl, by kernel_rfl⟩ ?_
    rintro g7 _ _ s6 uu6 e8 ⟨rfl, rfl⟩ hS Qr6 hN6 hD6
    unfold o73_L0 at hS
    refine xSq ?_
    refine xSq ?_
    refine xRg ?_
    refine xB 4 [] [(0, vt ref), (5, vi ((s6 : Nat) : Int)), (11, vb (decide (((s6 : Nat) : Int) < (((ref).length : Nat) : Int))))] ?_
    refine xRe ?_
    refine wpq_then ?_
    refine xCd (decide (((s6 : Nat) : Int) < (((ref).length : Nat) : Int))) (fun h9 => ?_) (fun h9 => ?_)
    · have hS := cond_T h9 hS
      have h9p := of_decide_eq_true h9
      refine xSk ?_
      refine wpq_then ?_
      refine xSub [(0, vt ref), (5, vi ((s6 : Nat) : Int))] ?_
      refine xSq ?_
      refine xBl 1 ?_
      refine xSq ?_
      refine xRg ?_
      have i10 : s6 < (ref).length := by omega
      have nb11 := UInt8.toNat_lt (List.getD (ref : List UInt8) s6 0)
      refine xB 2 [] [(0, vt ref), (5, vi ((s6 : Nat) : Int)), (14, vt ref), (15, vi ((s6 : Nat) : Int))] ?_
      refine xV (qIxS s6 rfl i10) ?_
      refine xB 1 [] [(0, vt ref), (5, vi ((s6 : Nat) : Int)), (17, vb ((((List.getD (ref : List UInt8) s6 0)).toNat : Int) == 47))] ?_
      refine xRe ?_
      refine wpq_then ?_
      refine xCd (((((List.getD (ref : List UInt8) s6 0)).toNat : Int) == 47)) (fun h12 => ?_) (fun h12 => ?_)
      · have hS := cond_T h12 hS
        have h12p : (((List.getD (ref : List UInt8) s6 0)).toNat : Int) = 47 := eq_of_beq h12
        refine xSq ?_
        refine xDr 0 [] [0, 1, 2, 3, 4, 5, 6, 7, 8] [] 9 (fun RG => ?_) (fun _ _ _ _ _ h => h)
        refine xT 7 [0, 1] [] [] [(0, vt ref), (5, vi ((s6 : Nat) : Int)), (18, vt ref), (19, vi ((s6 : Nat) : Int))] RG (Psi.le.refl _) ?_
        refine xTp 2 RG (fun _ => (qSls (xs := ref) (ys := (List.take s6 ref)) 0 s6 none (some ((s6 : Nat) : Int)) rfl rfl (by omega) (by omega) (by rw [List.drop_zero, Nat.sub_zero]))) ?_
        obtain ⟨q13, hS⟩ := grd_T hS
        have q13p := of_decide_eq_true q13
        refine xT 4 [3, 4] [] [] [(20, vt (List.take s6 ref)), (21, vt ref), (22, vi ((s6 : Nat) : Int))] RG (Psi.le.refl _) ?_
        refine xTp 5 RG (fun _ => (qAdd .i64 (((s6 : Nat) : Int)) (1) (wr64 (by omega)))) ?_
        obtain ⟨q14, hS⟩ := grd_T hS
        have q14p := of_decide_eq_true q14
        refine xTp 6 RG (fun _ => (qSls (xs := ref) (ys := (List.drop (s6 + 1) ref)) (s6 + 1) (ref).length (some (((s6 : Nat) : Int) + 1)) none (show _ = _ by omega) rfl (by omega) (by omega) (List.take_of_length_le (by rw [List.length_drop]; omega)))) ?_
        refine xT 0 [7, 8] [] [] [(6, vt (List.take s6 ref)), (7, vt (List.drop (s6 + 1) ref))] RG (Psi.le.refl _) ?_
        refine xAe (lds := []) ?_
        refine wpq_then ?_
        refine xSq ?_
        refine xSq ?_
        refine xRg ?_
        refine xB 1 [] [(6, vt (List.take s6 ref)), (7, vt (List.drop (s6 + 1) ref)), (25, vt (List.take s6 ref))] ?_
        obtain ⟨y15, hy15, hS⟩ := bindO_T hS
        refine xE (eC 0 (fun g' lr eb ln => C38 g' (List.take s6 ref) (6 : Int) hy15)) ?_
        rintro _ g16 _ e17 ⟨_, rfl, rfl, rfl⟩
        refine xB 2 [] [(6, vt (List.take s6 ref)), (7, vt (List.drop (s6 + 1) ref)), (28, vb (!y15))] ?_
        refine xGJo hS 13 (fun g own sl t18 => own = [] ∧ sl = [(6, vt (List.take s6 ref)), (7, vt (List.drop (s6 + 1) ref)), (37, vb t18)]) ?_ ?_
        · rintro g19 _ _ t18 e20 ⟨rfl, rfl⟩ hS
          refine xRe ?_
          refine wpq_then ?_
          refine xCd (t18) (fun h21 => ?_) (fun h21 => ?_)
          · have hS := cond_T h21 hS
            refine xSq ?_
            refine xRg ?_
            refine xB 3 [] [(2, vt ([])), (3, vt ([])), (4, vi 5)] ?_
            refine xRe ?_
            refine wpq_then ?_
            have eS := (Option.some.inj hS).symm
            have eS := (hD6 _ eS).symm
            have eS := (hD1 _ eS).symm
            subst eS
            exact xRet [] [2, 3, 4] (e8.trans (e17.trans e20)) ⟨by kernel_rfl, by kernel_rfl⟩ (fun _ _ h => h)
          · have hS := cond_F h21 hS
            refine xSk ?_
            refine wpq_then ?_
            refine xSub [(6, vt (List.take s6 ref)), (7, vt (List.drop (s6 + 1) ref))] ?_
            refine xSq ?_
            refine xRg ?_
            refine xB 5 [] [(2, vt (List.take s6 ref)), (3, vt (List.drop (s6 + 1) ref)), (4, vi 0)] ?_
            refine xRe ?_
            refine wpq_then ?_
            have eS := (Option.some.inj hS).symm
            have eS := (hD6 _ eS).symm
            have eS := (hD1 _ eS).symm
            subst eS
            exact xRet [] [2, 3, 4] (e8.trans (e17.trans e20)) ⟨by kernel_rfl, by kernel_rfl⟩ (fun _ _ h => h)
        · intro uu18 hS hN18
          refine wpq_split 28 (b := (!y15)) (by kernel_rfl) (fun q22 => ?_) (fun q22 => ?_)
          · have hS := cond_T q22 hS
            have q22n := not_eq_true_ q22
            refine xB 9 [] [(6, vt (List.take s6 ref)), (7, vt (List.drop (s6 + 1) ref)), (37, vb true)] ?_
            refine xSub [(6, vt (List.take s6 ref)), (7, vt (List.drop (s6 + 1) ref)), (37, vb true)] ?_
            exact hN18 _ (Option.some.inj hS).symm _ _ _ (Gh.le.refl _) ⟨by kernel_rfl, by kernel_rfl⟩
          · have hS := cond_F q22 hS
            have q22n := not_eq_false_ q22
            refine xB 1 [] [(6, vt (List.take s6 ref)), (7, vt (List.drop (s6 + 1) ref)), (28, vb false), (29, vt (List.drop (s6 + 1) ref))] ?_
            obtain ⟨y23, hy23, hS⟩ := bindO_T hS
            refine xE (eC 0 (fun g' lr eb ln => C38 g' (List.drop (s6 + 1) ref) (6 : Int) hy23)) ?_
            rintro _ g24 _ e25 ⟨_, rfl, rfl, rfl⟩
            refine xB 2 [] [(6, vt (List.take s6 ref)), (7, vt (List.drop (s6 + 1) ref)), (28, vb false), (32, vb (!y23))] ?_
            refine xGJo hS 12 (fun g own sl t26 => own = [] ∧ sl = [(6, vt (List.take s6 ref)), (7, vt (List.drop (s6 + 1) ref)), (28, vb false), (36, vb t26)]) ?_ ?_
            · rintro g27 _ _ t26 e28 ⟨rfl, rfl⟩ hS
              refine xB 1 [] [(6, vt (List.take s6 ref)), (7, vt (List.drop (s6 + 1) ref)), (37, vb t26)] ?_
              refine xSub [(6, vt (List.take s6 ref)), (7, vt (List.drop (s6 + 1) ref)), (37, vb t26)] ?_
              exact hN18 _ (Option.some.inj hS).symm _ _ _ (e25.trans e28) ⟨by kernel_rfl, by kernel_rfl⟩
            · intro uu26 hS hN26
              refine wpq_split 32 (b := (!y23)) (by kernel_rfl) (fun q29 => ?_) (fun q29 => ?_)
              · have hS := cond_T q29 hS
                have q29n := not_eq_true_ q29
                refine xB 1 [] [(6, vt (List.take s6 ref)), (7, vt (List.drop (s6 + 1) ref)), (28, vb false), (32, vb true), (33, vt (List.drop (s6 + 1) ref))] ?_
                obtain ⟨y30, hy30, hS⟩ := bindO_T hS
                refine xE (eC 0 (fun g' lr eb ln => C75 g' (List.drop (s6 + 1) ref) hy30)) ?_
                rintro _ g31 _ e32 ⟨_, rfl, rfl, rfl⟩
                refine xB 2 [] [(6, vt (List.take s6 ref)), (7, vt (List.drop (s6 + 1) ref)), (28, vb false), (36, vb (!y30))] ?_
                refine xSub [(6, vt (List.take s6 ref)), (7, vt (List.drop (s6 + 1) ref)), (28, vb false), (36, vb (!y30))] ?_
                exact hN26 _ (Option.some.inj hS).symm _ _ _ e32 ⟨by kernel_rfl, by kernel_rfl⟩
              · have hS := cond_F q29 hS
                have q29n := not_eq_false_ q29
                refine xB 4 [] [(6, vt (List.take s6 ref)), (7, vt (List.drop (s6 + 1) ref)), (28, vb false), (36, vb false)] ?_
                refine xSub [(6, vt (List.take s6 ref)), (7, vt (List.drop (s6 + 1) ref)), (28, vb false), (36, vb false)] ?_
                exact hN26 _ (Option.some.inj hS).symm _ _ _ (Gh.le.refl _) ⟨by kernel_rfl, by kernel_rfl⟩
      · have hS := cond_F h12 hS
        have h12p : ¬ ((((List.getD (ref : List UInt8) s6 0)).toNat : Int) = 47) := ne_of_beq_false_ h12
        refine xSk ?_
        refine wpq_blockN ?_
        refine wpq_then ?_
        refine xSub [(0, vt ref), (5, vi ((s6 : Nat) : Int))] ?_
        refine xRg ?_
        obtain ⟨q33, hS⟩ := grd_T hS
        have q33p := of_decide_eq_true q33
        refine xB 1 [] [(0, vt ref), (5, vi ((s6 : Nat) : Int)), (12, vi ((s6 : Nat) : Int))] ?_
        refine xV (qAdd .i64 (((s6 : Nat) : Int)) (1) (wr64 (by omega))) ?_
        refine xB 1 [] [(0, vt ref), (5, vi (((s6 : Nat) : Int) + 1))] ?_
        refine xRe ?_
        refine wpq_thenN ?_
        refine xSub [(0, vt ref), (5, vi (((s6 : Nat) : Int) + 1))] ?_
        have eS := (Option.some.inj hS).symm
        exact hN6 _ eS _ _ _ (Gh.le.refl _) ⟨by kernel_rfl, by kernel_rfl⟩
    · have hS := cond_F h9 hS
      have h9p := of_decide_eq_false h9
      refine xEx 0 ?_
      refine wpq_thenX ?_
      refine wpq_thenX ?_
      refine wpq_blockE ?_
      refine xSub [] ?_
      have eS := (Option.some.inj hS).symm
      have eS := (hD6 _ eS).symm
      exact hN1 _ eS _ _ _ e8 ⟨by kernel_rfl, by kernel_rfl⟩

def o67 (s : List UInt8) (used : Bool) : Option (Int) :=
  (cond ((!used)) (cond ((!(s == []))) (some ((1 : Int))) (some ((0 : Int)))) (bindO (τ := (List UInt8) × (List UInt8) × Int) (o73 s) fun y3 => (cond ((y3.2.2 != 0)) (some ((5 : Int))) (some ((0 : Int))))))
set_option maxRecDepth 100000 in
theorem C67 (g : Gh) (s : List UInt8) (used : Bool) {r : Int} (hS : o67 s used = some r) :
    Ctr Tryd.prog 67 [vt s, vb used] g [] (fun v ψ o => v = vi r ∧ o = []) := by
  unfold o67 at hS
  refine xFn Tryd.f67 (Tryd.f67.body.getD .skip) 20 ?_
  refine xSq ?_
  refine xRg ?_
  refine xB 1 [] [(0, vt s), (1, vb used)] ?_
  refine xRe ?_
  refine wpq_then ?_
  refine xSq ?_
  refine xSq ?_
  refine xRg ?_
  refine xB 2 [] [(0, vt s), (9, vb (!used))] ?_
  refine xRe ?_
  refine wpq_then ?_
  refine xCd ((!used)) (fun h1 => ?_) (fun h1 => ?_)
  · have hS := cond_T h1 hS
    have h1n := not_eq_true_ h1
    refine xSq ?_
    refine xSq ?_
    refine xRg ?_
    refine xB 1 [] [(10, vt s)] ?_
    refine xV (qNeS (s) ([])) ?_
    refine xRe ?_
    refine wpq_then ?_
    refine xSub [(11, vb (!(s == [])))] ?_
    refine xCd ((!(s == []))) (fun h2 => ?_) (fun h2 => ?_)
    · have hS := cond_T h2 hS
      have h2n := not_eq_true_ h2
      have h2np : ¬ (s = []) := ne_of_beq_false_ h2n
      refine xSq ?_
      refine xRg ?_
      refine xB 1 [] [(4, vi 1)] ?_
      refine xRe ?_
      refine wpq_then ?_
      have eS := (Option.some.inj hS).symm
      subst eS
      exact xRet [] [4] (Gh.le.refl _) ⟨by kernel_rfl, by kernel_rfl⟩ (fun _ _ h => h)
    · have hS := cond_F h2 hS
      have h2n := not_eq_false_ h2
      have h2np : s = [] := eq_of_beq h2n
      refine xSk ?_
      refine wpq_then ?_
      refine xSub [] ?_
      refine xSq ?_
      refine xRg ?_
      refine xB 1 [] [(4, vi 0)] ?_
      refine xRe ?_
      refine wpq_then ?_
      have eS := (Option.some.inj hS).symm
      subst eS
      exact xRet [] [4] (Gh.le.refl _) ⟨by kernel_rfl, by kernel_rfl⟩ (fun _ _ h => h)
  · have hS := cond_F h1 hS
    have h1n := not_eq_false_ h1
    refine xSk ?_
    refine wpq_then ?_
    refine xSub [(0, vt s)] ?_
    refine xSq ?_
    refine xSq ?_
    refine xRg ?_
    refine xB 1 [] [(13, vt s)] ?_
    obtain ⟨y3, hy3, hS⟩ := bindO_T hS
    refine xE (eC 0 (fun g' lr eb ln => C73 g' s hy3)) ?_
    rintro _ g4 _ e5 ⟨_, rfl, rfl, rfl⟩
    refine xB 7 [] [(7, vi y3.2.2)] ?_
    refine xRe ?_
    refine wpq_then ?_
    refine xSq ?_
    refine xRg ?_
    refine xB 2 [] [(19, vb (y3.2.2 != 0))] ?_
    refine xRe ?_
    refine wpq_then ?_
    refine xCd ((y3.2.2 != 0)) (fun h6 => ?_) (fun h6 => ?_)
    · have hS := cond_T h6 hS
      have h6p : ¬ (y3.2.2 = 0) := ne_of_bne_ h6
      refine xSq ?_
      refine xRg ?_
      refine xB 1 [] [(4, vi 5)] ?_
      refine xRe ?_
      refine wpq_then ?_
      have eS := (Option.some.inj hS).symm
      subst eS
      exact xRet [] [4] e5 ⟨by kernel_rfl, by kernel_rfl⟩ (fun _ _ h => h)
    · have hS := cond_F h6 hS
      have h6p : y3.2.2 = 0 := eq_of_bne_false_ h6
      refine xSk ?_
      refine wpq_then ?_
      refine xSub [] ?_
      refine xSq ?_
      refine xRg ?_
      refine xB 1 [] [(4, vi 0)] ?_
      refine xRe ?_
      refine wpq_then ?_
      have eS := (Option.some.inj hS).symm
      subst eS
      exact xRet [] [4] e5 ⟨by kernel_rfl, by kernel_rfl⟩ (fun _ _ h => h)

def o69 (n : Int) (lo : Int) (hi : Int) (used : Bool) : Int :=
  (cond ((!used)) (cond ((n != 0)) ((1 : Int)) ((0 : Int))) (cond ((decide (n < lo) || decide (n > hi))) ((2 : Int)) ((0 : Int))))
set_option maxRecDepth 100000 in
theorem C69 (g : Gh) (n : Int) (lo : Int) (hi : Int) (used : Bool) {r : Int} (hS : o69 n lo hi used = r) :
    Ctr Tryd.prog 69 [vi n, vi lo, vi hi, vb used] g [] (fun v ψ o => v = vi r ∧ o = []) := by
  unfold o69 at hS
  refine xFn Tryd.f69 (Tryd.f69.body.getD .skip) 21 ?_
  refine xSq ?_
  refine xRg ?_
  refine xB 1 [] [(0, vi n), (1, vi lo), (2, vi hi), (3, vb used)] ?_
  refine xRe ?_
  refine wpq_then ?_
  refine xSq ?_
  refine xSq ?_
  refine xRg ?_
  refine xB 2 [] [(0, vi n), (1, vi lo), (2, vi hi), (10, vb (!used))] ?_
  refine xRe ?_
  refine wpq_then ?_
  refine xCd ((!used)) (fun h1 => ?_) (fun h1 => ?_)
  · have hS := cond_T h1 hS
    have h1n := not_eq_true_ h1
    refine xSq ?_
    refine xSq ?_
    refine xRg ?_
    refine xB 2 [] [(12, vb (n != 0))] ?_
    refine xRe ?_
    refine wpq_then ?_
    refine xCd ((n != 0)) (fun h2 => ?_) (fun h2 => ?_)
    · have hS := cond_T h2 hS
      have h2p : ¬ (n = 0) := ne_of_bne_ h2
      refine xSq ?_
      refine xRg ?_
      refine xB 1 [] [(8, vi 1)] ?_
      refine xRe ?_
      refine wpq_then ?_
      have eS := hS.symm
      subst eS
      exact xRet [] [8] (Gh.le.refl _) ⟨by kernel_rfl, by kernel_rfl⟩ (fun _ _ h => h)
    · have hS := cond_F h2 hS
      have h2p : n = 0 := eq_of_bne_false_ h2
      refine xSk ?_
      refine wpq_then ?_
      refine xSub [] ?_
      refine xSq ?_
      refine xRg ?_
      refine xB 1 [] [(8, vi 0)] ?_
      refine xRe ?_
      refine wpq_then ?_
      have eS := hS.symm
      subst eS
      exact xRet [] [8] (Gh.le.refl _) ⟨by kernel_rfl, by kernel_rfl⟩ (fun _ _ h => h)
  · have hS := cond_F h1 hS
    have h1n := not_eq_false_ h1
    refine xSk ?_
    refine wpq_then ?_
    refine xSub [(0, vi n), (1, vi lo), (2, vi hi)] ?_
    refine xSq ?_
    refine xSq ?_
    refine xRg ?_
    refine xB 4 [] [(0, vi n), (2, vi hi), (16, vb (decide (n < lo)))] ?_
    refine wpr_grp 8 [(20, vb (decide (n < lo) || decide (n > hi)))] (fun hk3 => ?_) ?_
    · refine wpq_split 16 (b := decide (n < lo)) (by kernel_rfl) (fun q3 => ?_) (fun q3 => ?_)
      · have q3p := of_decide_eq_true q3
        refine xB 4 [] [(20, vb true)] ?_
        refine wpq_re 20 (v := vb true) (Value.bool ((decide (n < lo) || decide (n > hi)))) (by kernel_rfl) (re_or1 q3) ?_
        exact wpq_sub _ (by kernel_rfl) hk3
      · have q3p := of_decide_eq_false q3
        refine xB 4 [] [(20, vb (decide (n > hi)))] ?_
        refine wpq_re 20 (v := vb (decide (n > hi))) (Value.bool ((decide (n < lo) || decide (n > hi)))) (by kernel_rfl) (re_or0 q3) ?_
        exact wpq_sub _ (by kernel_rfl) hk3
    · refine xRe ?_
      refine wpq_then ?_
      refine xCd ((decide (n < lo) || decide (n > hi))) (fun h4 => ?_) (fun h4 => ?_)
      · have hS := cond_T h4 hS
        refine xSq ?_
        refine xRg ?_
        refine xB 1 [] [(8, vi 2)] ?_
        refine xRe ?_
        refine wpq_then ?_
        have eS := hS.symm
        subst eS
        exact xRet [] [8] (Gh.le.refl _) ⟨by kernel_rfl, by kernel_rfl⟩ (fun _ _ h => h)
      · have hS := cond_F h4 hS
        have h4l := (or_false_ h4).1
        have h4r := (or_false_ h4).2
        have h4lp := of_decide_eq_false h4l
        have h4rp := of_decide_eq_false h4r
        refine xSk ?_
        refine wpq_then ?_
        refine xSub [] ?_
        refine xSq ?_
        refine xRg ?_
        refine xB 1 [] [(8, vi 0)] ?_
        refine xRe ?_
        refine wpq_then ?_
        have eS := hS.symm
        subst eS
        exact xRet [] [8] (Gh.le.refl _) ⟨by kernel_rfl, by kernel_rfl⟩ (fun _ _ h => h)

def o59 (l : Leg) : Option (Int) :=
  (letJ (τ := (List UInt8)) (o66 (l.type_ : Int)) fun y2 => (cond ((y2 == [])) (some ((17 : Int))) (bindO (τ := Bool) (o68 y2 (70 : Int)) fun y6 => (bindO (τ := Int) (o67 l.fix (y6)) fun y9 => (cond ((y9 != 0)) (some ((y9 : Int))) (bindO (τ := Bool) (o68 y2 (67 : Int)) fun y13 => (bindO (τ := Int) (o67 l.center (y13)) fun y16 => (cond ((y16 != 0)) (some ((y16 : Int))) (bindO (τ := Bool) (o68 y2 (84 : Int)) fun y20 => (bindO (τ := Bool) (cond ((!(y20 == ((l.turn == 1) || (l.turn == 2))))) (some (true)) (bindO (τ := Bool) (o68 y2 (84 : Int)) fun y80 => (some ((!y80) && (l.turn != 0))))) fun t24 => (cond (t24) (some ((1 : Int))) (bindO (τ := Bool) (cond (l.over) (bindO (τ := Bool) (o68 y2 (111 : Int)) fun y76 => (some (!y76))) (some (false))) fun t28 => (cond (t28) (some ((1 : Int))) (bindO (τ := Bool) (o68 y2 (75 : Int)) fun y32 => (letJ (τ := Int) (o69 (l.course : Int) (0 : Int) (129599999 : Int) (y32)) fun y35 => (cond ((y35 != 0)) (some ((y35 : Int))) (bindO (τ := Bool) (o68 y2 (68 : Int)) fun y39 => (letJ (τ := Int) (o69 (l.dist : Int) (1 : Int) (2000000 : Int) (y39)) fun y42 => (cond ((y42 != 0)) (some ((y42 : Int))) (bindO (τ := Bool) (o68 y2 (82 : Int)) fun y46 => (letJ (τ := Int) (o69 (l.radius : Int) (1 : Int) (2000000 : Int) (y46)) fun y49 => (cond ((y49 != 0)) (some ((y49 : Int))) (bindO (τ := Bool) (o68 y2 (72 : Int)) fun y53 => (letJ (τ := Int) (o69 (l.theta : Int) (0 : Int) (129599999 : Int) (y53)) fun y56 => (cond ((y56 != 0)) (some ((y56 : Int))) (bindO (τ := Bool) (cond (((decide (l.alt.lo < -200000) || decide (l.alt.lo > l.alt.hi)) || decide (l.alt.hi > 6000000))) (some (true)) (bindO (τ := Bool) (o68 y2 (97 : Int)) fun y71 => (some (y71 && (l.alt.lo == -200000))))) fun t62 => (cond (t62) (some ((2 : Int))) (cond ((((decide (l.speed < 0) || decide (l.speed > 1000)) || decide (l.rnp < 0)) || decide (l.rnp > 120000))) (some ((2 : Int))) (some ((0 : Int)))))))))))))))))))))))))))))))
set_option maxRecDepth 100000 in
theorem C59 (g : Gh) (l : Leg) {r : Int} (hS : o59 l = some r) :
    Ctr Tryd.prog 59 [Value.agg #[vy l.type_, vt l.fix, vt l.center, vy l.turn, vb l.over, vi l.course, vi l.dist, vi l.radius, vi l.theta, vi l.alt.lo, vi l.alt.hi, vi l.speed, vi l.rnp]] g [] (fun v ψ o => v = vi r ∧ o = []) := by
  unfold o59 at hS
  refine xFn Tryd.f59 (Tryd.f59.body.getD .skip) 138 ?_
  refine xSq ?_
  refine xRg ?_
  refine xE eB ?_
  rintro _ _ _ - ⟨b1, rfl, rfl, rfl⟩
  refine xB 1 [] [(1, vp b1 0)] ?_
  refine xRe ?_
  refine wpq_then ?_
  refine xSq ?_
  refine xRg ?_
  refine xB 2 [(1, 0)] [(1, vp b1 0), (11, vy l.type_)] ?_
  obtain ⟨y2, hy2, hS⟩ := letJ_T hS
  refine xE (eC 0 (fun g' lr eb ln => C66 g' (l.type_ : Int) hy2)) ?_
  rintro _ g3 _ e4 ⟨_, rfl, rfl, rfl⟩
  refine xB 1 [] [(1, vp b1 0), (3, vt y2)] ?_
  refine xRe ?_
  refine wpq_then ?_
  refine xSq ?_
  refine xSq ?_
  refine xRg ?_
  refine xB 1 [] [(1, vp b1 0), (3, vt y2), (13, vt y2)] ?_
  refine xV (qEqS (y2) ([])) ?_
  refine xRe ?_
  refine wpq_then ?_
  refine xSub [(1, vp b1 0), (3, vt y2), (14, vb (y2 == []))] ?_
  refine xCd ((y2 == [])) (fun h5 => ?_) (fun h5 => ?_)
  · have hS := cond_T h5 hS
    have h5p : y2 = [] := eq_of_beq h5
    refine xSq ?_
    refine xRg ?_
    refine xB 1 [] [(2, vi 17)] ?_
    refine xRe ?_
    refine wpq_then ?_
    have eS := (Option.some.inj hS).symm
    subst eS
    exact xRet [] [2] e4 ⟨by kernel_rfl, by kernel_rfl⟩ (fun _ _ h => h)
  · have hS := cond_F h5 hS
    have h5p : ¬ (y2 = []) := ne_of_beq_false_ h5
    refine xSk ?_
    refine wpq_then ?_
    refine xSub [(1, vp b1 0), (3, vt y2)] ?_
    refine xSq ?_
    refine xSq ?_
    refine xDr 0 [1] [5] [some ⟨b1, 46, (cLeg l)⟩] 6 (fun RG => ?_) (fun _ _ _ _ _ h => h)
    refine xT 3 [0, 1, 2] [(1, 0)] [some 0] [(1, vp b1 0), (3, vt y2), (16, vt l.fix), (17, vt y2)] RG (Psi.le.refl _) ?_
    obtain ⟨y6, hy6, hS⟩ := bindO_T hS
    refine xO1 (lds := [1]) 3 ?_
    refine xIe (lds := [1]) (Psi.le.refl _) (eC 0 (fun g' lr eb ln => C68 g' y2 (70 : Int) hy6)) ?_
    rintro _ g7 _ e8 ⟨_, rfl, rfl, rfl⟩
    refine kk [some 0] ?_
    obtain ⟨y9, hy9, hS⟩ := bindO_T hS
    refine xO1 (lds := [1]) 4 ?_
    refine xIe (lds := [1]) e8.r (eC 0 (fun g' lr eb ln => C67 g' l.fix (y6) hy9)) ?_
    rintro _ g10 _ e11 ⟨_, rfl, rfl, rfl⟩
    refine kk [some 0] ?_
    refine xT 0 [5] [] [some 0] [(1, vp b1 0), (3, vt y2), (4, vi y9)] RG (e8.trans e11).r ?_
    refine xAe (lds := [1]) ?_
    refine wpq_then ?_
    refine xSq ?_
    refine xRg ?_
    refine xB 2 [] [(1, vp b1 0), (3, vt y2), (4, vi y9), (21, vb (y9 != 0))] ?_
    refine xRe ?_
    refine wpq_then ?_
    refine xCd ((y9 != 0)) (fun h12 => ?_) (fun h12 => ?_)
    · have hS := cond_T h12 hS
      have h12p : ¬ (y9 = 0) := ne_of_bne_ h12
      refine xSq ?_
      refine xRg ?_
      refine xB 2 [] [(2, vi y9)] ?_
      refine xRe ?_
      refine wpq_then ?_
      have eS := (Option.some.inj hS).symm
      subst eS
      exact xRet [] [2] (e4.trans (e8.trans e11)) ⟨by kernel_rfl, by kernel_rfl⟩ (fun _ _ h => h)
    · have hS := cond_F h12 hS
      have h12p : y9 = 0 := eq_of_bne_false_ h12
      refine xSk ?_
      refine wpq_then ?_
      refine xSub [(1, vp b1 0), (3, vt y2)] ?_
      refine xSq ?_
      refine xSq ?_
      refine xDr 0 [1] [5] [some ⟨b1, 46, (cLeg l)⟩] 6 (fun RG => ?_) (fun _ _ _ _ _ h => h)
      refine xT 3 [0, 1, 2] [(1, 0)] [some 0] [(1, vp b1 0), (3, vt y2), (24, vt l.center), (25, vt y2)] RG (Psi.le.refl _) ?_
      obtain ⟨y13, hy13, hS⟩ := bindO_T hS
      refine xO1 (lds := [1]) 3 ?_
      refine xIe (lds := [1]) (Psi.le.refl _) (eC 0 (fun g' lr eb ln => C68 g' y2 (67 : Int) hy13)) ?_
      rintro _ g14 _ e15 ⟨_, rfl, rfl, rfl⟩
      refine kk [some 0] ?_
      obtain ⟨y16, hy16, hS⟩ := bindO_T hS
      refine xO1 (lds := [1]) 4 ?_
      refine xIe (lds := [1]) e15.r (eC 0 (fun g' lr eb ln => C67 g' l.center (y13) hy16)) ?_
      rintro _ g17 _ e18 ⟨_, rfl, rfl, rfl⟩
      refine kk [some 0] ?_
      refine xT 0 [5] [] [some 0] [(1, vp b1 0), (3, vt y2), (5, vi y16)] RG (e15.trans e18).r ?_
      refine xAe (lds := [1]) ?_
      refine wpq_then ?_
      refine xSq ?_
      refine xRg ?_
      refine xB 2 [] [(1, vp b1 0), (3, vt y2), (5, vi y16), (29, vb (y16 != 0))] ?_
      refine xRe ?_
      refine wpq_then ?_
      refine xCd ((y16 != 0)) (fun h19 => ?_) (fun h19 => ?_)
      · have hS := cond_T h19 hS
        have h19p : ¬ (y16 = 0) := ne_of_bne_ h19
        refine xSq ?_
        refine xRg ?_
        refine xB 2 [] [(2, vi y16)] ?_
        refine xRe ?_
        refine wpq_then ?_
        have eS := (Option.some.inj hS).symm
        subst eS
        exact xRet [] [2] (e4.trans (e8.trans (e11.trans (e15.trans e18)))) ⟨by kernel_rfl, by kernel_rfl⟩ (fun _ _ h => h)
      · have hS := cond_F h19 hS
        have h19p : y16 = 0 := eq_of_bne_false_ h19
        refine xSk ?_
        refine wpq_then ?_
        refine xSub [(1, vp b1 0), (3, vt y2)] ?_
        refine xSq ?_
        refine xSq ?_
        refine xDr 0 [3, 7] [] [some ⟨b1, 46, (cLeg l)⟩] 21 (fun RG => ?_) (fun _ _ _ _ _ h => h)
        refine xT 17 [0, 2, 3, 4] [(3, 0)] [some 0] [(1, vp b1 0), (3, vt y2), (31, vt y2), (35, vb (l.turn == 1))] RG (Psi.le.refl _) ?_
        obtain ⟨y20, hy20, hS⟩ := bindO_T hS
        refine xO1 (lds := [3, 7]) 1 ?_
        refine xIe (lds := [3, 7]) (Psi.le.refl _) (eC 0 (fun g' lr eb ln => C68 g' y2 (84 : Int) hy20)) ?_
        rintro _ g21 _ e22 ⟨_, rfl, rfl, rfl⟩
        refine kk [some 0] ?_
        refine xT 15 [5] [] [some 0] [(1, vp b1 0), (3, vt y2), (32, vb y20), (36, vb (l.turn == 1))] RG e22.r ?_
        refine wpa_grp 11 [true, true, true, true, true, true, true, true, true, true, false, false, false, false, false, false, false, false, false, false, false] [(1, vp b1 0), (3, vt y2), (32, vb y20), (40, vb ((l.turn == 1) || (l.turn == 2)))] (fun hk5 => ?_) ?_
        · refine wpq_split 36 (b := (l.turn == 1)) (by kernel_rfl) (fun q23 => ?_) (fun q23 => ?_)
          · have q23p : l.turn = 1 := eq_of_beq q23
            refine xT 11 [6, 7, 8, 9] [] [some 0] [(1, vp b1 0), (3, vt y2), (32, vb y20), (40, vb true)] RG e22.r ?_
            refine wpq_re 40 (v := vb true) (Value.bool (((l.turn == 1) || (l.turn == 2)))) (by kernel_rfl) (re_or1 q23) ?_
            exact wpq_sub _ (by kernel_rfl) hk5
          · have q23p : ¬ (l.turn = 1) := ne_of_beq_false_ q23
            refine xT 11 [6, 7, 8, 9] [(7, 0)] [some 0] [(1, vp b1 0), (3, vt y2), (32, vb y20), (40, vb (l.turn == 2))] RG e22.r ?_
            refine wpq_re 40 (v := vb (l.turn == 2)) (Value.bool (((l.turn == 1) || (l.turn == 2)))) (by kernel_rfl) (re_or0 q23) ?_
            exact wpq_sub _ (by kernel_rfl) hk5
        · refine xT 9 [10, 11] [] [some 0] [(1, vp b1 0), (3, vt y2), (42, vb (!(y20 == ((l.turn == 1) || (l.turn == 2)))))] RG e22.r ?_
          refine xGJoA hS 0 [true, true, true, true, true, true, true, true, true, true, true, true, true, true, true, true, true, true, true, true, true] (fun g own sl t24 => own = [some ⟨b1, 46, (cLeg l)⟩] ∧ sl = [(1, vp b1 0), (3, vt y2), (51, vb t24)]) ?_ ?_
          · rintro g25 _ _ t24 e26 ⟨rfl, rfl⟩ hS
            refine xAe (lds := [3, 7]) ?_
            refine wpq_then ?_
            refine xCd (t24) (fun h27 => ?_) (fun h27 => ?_)
            · have hS := cond_T h27 hS
              refine xSq ?_
              refine xRg ?_
              refine xB 1 [] [(2, vi 1)] ?_
              refine xRe ?_
              refine wpq_then ?_
              have eS := (Option.some.inj hS).symm
              subst eS
              exact xRet [] [2] (e4.trans (e8.trans (e11.trans (e15.trans (e18.trans (e22.trans e26)))))) ⟨by kernel_rfl, by kernel_rfl⟩ (fun _ _ h => h)
            · have hS := cond_F h27 hS
              refine xSk ?_
              refine wpq_then ?_
              refine xSub [(1, vp b1 0), (3, vt y2)] ?_
              refine xSq ?_
              refine xSq ?_
              refine xRg ?_
              refine xB 3 [(1, 0)] [(1, vp b1 0), (3, vt y2), (54, vb l.over)] ?_
              refine xGJo hS 7 (fun g own sl t28 => own = [some ⟨b1, 46, (cLeg l)⟩] ∧ sl = [(1, vp b1 0), (3, vt y2), (58, vb t28)]) ?_ ?_
              · rintro g29 _ _ t28 e30 ⟨rfl, rfl⟩ hS
                refine xRe ?_
                refine wpq_then ?_
                refine xCd (t28) (fun h31 => ?_) (fun h31 => ?_)
                · have hS := cond_T h31 hS
                  refine xSq ?_
                  refine xRg ?_
                  refine xB 1 [] [(2, vi 1)] ?_
                  refine xRe ?_
                  refine wpq_then ?_
                  have eS := (Option.some.inj hS).symm
                  subst eS
                  exact xRet [] [2] (e4.trans (e8.trans (e11.trans (e15.trans (e18.trans (e22.trans (e26.trans e30))))))) ⟨by kernel_rfl, by kernel_rfl⟩ (fun _ _ h => h)
                · have hS := cond_F h31 hS
                  refine xSk ?_
                  refine wpq_then ?_
                  refine xSub [(1, vp b1 0), (3, vt y2)] ?_
                  refine xSq ?_
                  refine xSq ?_
                  refine xDr 0 [1] [5] [some ⟨b1, 46, (cLeg l)⟩] 6 (fun RG => ?_) (fun _ _ _ _ _ h => h)
                  refine xT 3 [0, 1, 2] [(1, 0)] [some 0] [(1, vp b1 0), (3, vt y2), (60, vi l.course), (61, vt y2)] RG (Psi.le.refl _) ?_
                  obtain ⟨y32, hy32, hS⟩ := bindO_T hS
                  refine xO1 (lds := [1]) 3 ?_
                  refine xIe (lds := [1]) (Psi.le.refl _) (eC 0 (fun g' lr eb ln => C68 g' y2 (75 : Int) hy32)) ?_
                  rintro _ g33 _ e34 ⟨_, rfl, rfl, rfl⟩
                  refine kk [some 0] ?_
                  obtain ⟨y35, hy35, hS⟩ := letJ_T hS
                  refine xO1 (lds := [1]) 4 ?_
                  refine xIe (lds := [1]) e34.r (eC 0 (fun g' lr eb ln => C69 g' (l.course : Int) (0 : Int) (129599999 : Int) (y32) hy35)) ?_
                  rintro _ g36 _ e37 ⟨_, rfl, rfl, rfl⟩
                  refine kk [some 0] ?_
                  refine xT 0 [5] [] [some 0] [(1, vp b1 0), (3, vt y2), (6, vi y35)] RG (e34.trans e37).r ?_
                  refine xAe (lds := [1]) ?_
                  refine wpq_then ?_
                  refine xSq ?_
                  refine xRg ?_
                  refine xB 2 [] [(1, vp b1 0), (3, vt y2), (6, vi y35), (65, vb (y35 != 0))] ?_
                  refine xRe ?_
                  refine wpq_then ?_
                  refine xCd ((y35 != 0)) (fun h38 => ?_) (fun h38 => ?_)
                  · have hS := cond_T h38 hS
                    have h38p : ¬ (y35 = 0) := ne_of_bne_ h38
                    refine xSq ?_
                    refine xRg ?_
                    refine xB 2 [] [(2, vi y35)] ?_
                    refine xRe ?_
                    refine wpq_then ?_
                    have eS := (Option.some.inj hS).symm
                    subst eS
                    exact xRet [] [2] (e4.trans (e8.trans (e11.trans (e15.trans (e18.trans (e22.trans (e26.trans (e30.trans (e34.trans e37))))))))) ⟨by kernel_rfl, by kernel_rfl⟩ (fun _ _ h => h)
                  · have hS := cond_F h38 hS
                    have h38p : y35 = 0 := eq_of_bne_false_ h38
                    refine xSk ?_
                    refine wpq_then ?_
                    refine xSub [(1, vp b1 0), (3, vt y2)] ?_
                    refine xSq ?_
                    refine xSq ?_
                    refine xDr 0 [1] [5] [some ⟨b1, 46, (cLeg l)⟩] 6 (fun RG => ?_) (fun _ _ _ _ _ h => h)
                    refine xT 3 [0, 1, 2] [(1, 0)] [some 0] [(1, vp b1 0), (3, vt y2), (68, vi l.dist), (69, vt y2)] RG (Psi.le.refl _) ?_
                    obtain ⟨y39, hy39, hS⟩ := bindO_T hS
                    refine xO1 (lds := [1]) 3 ?_
                    refine xIe (lds := [1]) (Psi.le.refl _) (eC 0 (fun g' lr eb ln => C68 g' y2 (68 : Int) hy39)) ?_
                    rintro _ g40 _ e41 ⟨_, rfl, rfl, rfl⟩
                    refine kk [some 0] ?_
                    obtain ⟨y42, hy42, hS⟩ := letJ_T hS
                    refine xO1 (lds := [1]) 4 ?_
                    refine xIe (lds := [1]) e41.r (eC 0 (fun g' lr eb ln => C69 g' (l.dist : Int) (1 : Int) (2000000 : Int) (y39) hy42)) ?_
                    rintro _ g43 _ e44 ⟨_, rfl, rfl, rfl⟩
                    refine kk [some 0] ?_
                    refine xT 0 [5] [] [some 0] [(1, vp b1 0), (3, vt y2), (7, vi y42)] RG (e41.trans e44).r ?_
                    refine xAe (lds := [1]) ?_
                    refine wpq_then ?_
                    refine xSq ?_
                    refine xRg ?_
                    refine xB 2 [] [(1, vp b1 0), (3, vt y2), (7, vi y42), (73, vb (y42 != 0))] ?_
                    refine xRe ?_
                    refine wpq_then ?_
                    refine xCd ((y42 != 0)) (fun h45 => ?_) (fun h45 => ?_)
                    · have hS := cond_T h45 hS
                      have h45p : ¬ (y42 = 0) := ne_of_bne_ h45
                      refine xSq ?_
                      refine xRg ?_
                      refine xB 2 [] [(2, vi y42)] ?_
                      refine xRe ?_
                      refine wpq_then ?_
                      have eS := (Option.some.inj hS).symm
                      subst eS
                      exact xRet [] [2] (e4.trans (e8.trans (e11.trans (e15.trans (e18.trans (e22.trans (e26.trans (e30.trans (e34.trans (e37.trans (e41.trans e44))))))))))) ⟨by kernel_rfl, by kernel_rfl⟩ (fun _ _ h => h)
                    · have hS := cond_F h45 hS
                      have h45p : y42 = 0 := eq_of_bne_false_ h45
                      refine xSk ?_
                      refine wpq_then ?_
                      refine xSub [(1, vp b1 0), (3, vt y2)] ?_
                      refine xSq ?_
                      refine xSq ?_
                      refine xDr 0 [1] [5] [some ⟨b1, 46, (cLeg l)⟩] 6 (fun RG => ?_) (fun _ _ _ _ _ h => h)
                      refine xT 3 [0, 1, 2] [(1, 0)] [some 0] [(1, vp b1 0), (3, vt y2), (76, vi l.radius), (77, vt y2)] RG (Psi.le.refl _) ?_
                      obtain ⟨y46, hy46, hS⟩ := bindO_T hS
                      refine xO1 (lds := [1]) 3 ?_
                      refine xIe (lds := [1]) (Psi.le.refl _) (eC 0 (fun g' lr eb ln => C68 g' y2 (82 : Int) hy46)) ?_
                      rintro _ g47 _ e48 ⟨_, rfl, rfl, rfl⟩
                      refine kk [some 0] ?_
                      obtain ⟨y49, hy49, hS⟩ := letJ_T hS
                      refine xO1 (lds := [1]) 4 ?_
                      refine xIe (lds := [1]) e48.r (eC 0 (fun g' lr eb ln => C69 g' (l.radius : Int) (1 : Int) (2000000 : Int) (y46) hy49)) ?_
                      rintro _ g50 _ e51 ⟨_, rfl, rfl, rfl⟩
                      refine kk [some 0] ?_
                      refine xT 0 [5] [] [some 0] [(1, vp b1 0), (3, vt y2), (8, vi y49)] RG (e48.trans e51).r ?_
                      refine xAe (lds := [1]) ?_
                      refine wpq_then ?_
                      refine xSq ?_
                      refine xRg ?_
                      refine xB 2 [] [(1, vp b1 0), (3, vt y2), (8, vi y49), (81, vb (y49 != 0))] ?_
                      refine xRe ?_
                      refine wpq_then ?_
                      refine xCd ((y49 != 0)) (fun h52 => ?_) (fun h52 => ?_)
                      · have hS := cond_T h52 hS
                        have h52p : ¬ (y49 = 0) := ne_of_bne_ h52
                        refine xSq ?_
                        refine xRg ?_
                        refine xB 2 [] [(2, vi y49)] ?_
                        refine xRe ?_
                        refine wpq_then ?_
                        have eS := (Option.some.inj hS).symm
                        subst eS
                        exact xRet [] [2] (e4.trans (e8.trans (e11.trans (e15.trans (e18.trans (e22.trans (e26.trans (e30.trans (e34.trans (e37.trans (e41.trans (e44.trans (e48.trans e51))))))))))))) ⟨by kernel_rfl, by kernel_rfl⟩ (fun _ _ h => h)
                      · have hS := cond_F h52 hS
                        have h52p : y49 = 0 := eq_of_bne_false_ h52
                        refine xSk ?_
                        refine wpq_then ?_
                        refine xSub [(1, vp b1 0), (3, vt y2)] ?_
                        refine xSq ?_
                        refine xSq ?_
                        refine xDr 0 [1] [5] [some ⟨b1, 46, (cLeg l)⟩] 6 (fun RG => ?_) (fun _ _ _ _ _ h => h)
                        refine xT 3 [0, 1, 2] [(1, 0)] [some 0] [(1, vp b1 0), (3, vt y2), (84, vi l.theta), (85, vt y2)] RG (Psi.le.refl _) ?_
                        obtain ⟨y53, hy53, hS⟩ := bindO_T hS
                        refine xO1 (lds := [1]) 3 ?_
                        refine xIe (lds := [1]) (Psi.le.refl _) (eC 0 (fun g' lr eb ln => C68 g' y2 (72 : Int) hy53)) ?_
                        rintro _ g54 _ e55 ⟨_, rfl, rfl, rfl⟩
                        refine kk [some 0] ?_
                        obtain ⟨y56, hy56, hS⟩ := letJ_T hS
                        refine xO1 (lds := [1]) 4 ?_
                        refine xIe (lds := [1]) e55.r (eC 0 (fun g' lr eb ln => C69 g' (l.theta : Int) (0 : Int) (129599999 : Int) (y53) hy56)) ?_
                        rintro _ g57 _ e58 ⟨_, rfl, rfl, rfl⟩
                        refine kk [some 0] ?_
                        refine xT 0 [5] [] [some 0] [(1, vp b1 0), (3, vt y2), (9, vi y56)] RG (e55.trans e58).r ?_
                        refine xAe (lds := [1]) ?_
                        refine wpq_then ?_
                        refine xSq ?_
                        refine xRg ?_
                        refine xB 2 [] [(1, vp b1 0), (3, vt y2), (9, vi y56), (89, vb (y56 != 0))] ?_
                        refine xRe ?_
                        refine wpq_then ?_
                        refine xCd ((y56 != 0)) (fun h59 => ?_) (fun h59 => ?_)
                        · have hS := cond_T h59 hS
                          have h59p : ¬ (y56 = 0) := ne_of_bne_ h59
                          refine xSq ?_
                          refine xRg ?_
                          refine xB 2 [] [(2, vi y56)] ?_
                          refine xRe ?_
                          refine wpq_then ?_
                          have eS := (Option.some.inj hS).symm
                          subst eS
                          exact xRet [] [2] (e4.trans (e8.trans (e11.trans (e15.trans (e18.trans (e22.trans (e26.trans (e30.trans (e34.trans (e37.trans (e41.trans (e44.trans (e48.trans (e51.trans (e55.trans e58))))))))))))))) ⟨by kernel_rfl, by kernel_rfl⟩ (fun _ _ h => h)
                        · have hS := cond_F h59 hS
                          have h59p : y56 = 0 := eq_of_bne_false_ h59
                          refine xSk ?_
                          refine wpq_then ?_
                          refine xSub [(1, vp b1 0), (3, vt y2)] ?_
                          refine xSq ?_
                          refine xSq ?_
                          refine xRg ?_
                          refine xB 5 [(2, 0)] [(1, vp b1 0), (3, vt y2), (95, vb (decide (l.alt.lo < -200000)))] ?_
                          refine wpr_grp 13 [(1, vp b1 0), (3, vt y2), (103, vb (decide (l.alt.lo < -200000) || decide (l.alt.lo > l.alt.hi)))] (fun hk4 => ?_) ?_
                          · refine wpq_split 95 (b := decide (l.alt.lo < -200000)) (by kernel_rfl) (fun q60 => ?_) (fun q60 => ?_)
                            · have q60p := of_decide_eq_true q60
                              refine xB 8 [] [(1, vp b1 0), (3, vt y2), (103, vb true)] ?_
                              refine wpq_re 103 (v := vb true) (Value.bool ((decide (l.alt.lo < -200000) || decide (l.alt.lo > l.alt.hi)))) (by kernel_rfl) (re_or1 q60) ?_
                              exact wpq_sub _ (by kernel_rfl) hk4
                            · have q60p := of_decide_eq_false q60
                              refine xB 8 [(7, 0), (10, 0)] [(1, vp b1 0), (3, vt y2), (103, vb (decide (l.alt.lo > l.alt.hi)))] ?_
                              refine wpq_re 103 (v := vb (decide (l.alt.lo > l.alt.hi))) (Value.bool ((decide (l.alt.lo < -200000) || decide (l.alt.lo > l.alt.hi)))) (by kernel_rfl) (re_or0 q60) ?_
                              exact wpq_sub _ (by kernel_rfl) hk4
                          · refine xB 1 [] [(1, vp b1 0), (3, vt y2), (104, vb (decide (l.alt.lo < -200000) || decide (l.alt.lo > l.alt.hi)))] ?_
                            refine wpr_grp 19 [(1, vp b1 0), (3, vt y2), (109, vb ((decide (l.alt.lo < -200000) || decide (l.alt.lo > l.alt.hi)) || decide (l.alt.hi > 6000000)))] (fun hk13 => ?_) ?_
                            · refine wpq_split 104 (b := (decide (l.alt.lo < -200000) || decide (l.alt.lo > l.alt.hi))) (by kernel_rfl) (fun q61 => ?_) (fun q61 => ?_)
                              · refine xB 5 [] [(1, vp b1 0), (3, vt y2), (109, vb true)] ?_
                                refine wpq_re 109 (v := vb true) (Value.bool (((decide (l.alt.lo < -200000) || decide (l.alt.lo > l.alt.hi)) || decide (l.alt.hi > 6000000)))) (by kernel_rfl) (re_or1 q61) ?_
                                exact wpq_sub _ (by kernel_rfl) hk13
                              · have q61l := (or_false_ q61).1
                                have q61r := (or_false_ q61).2
                                have q61lp := of_decide_eq_false q61l
                                have q61rp := of_decide_eq_false q61r
                                refine xB 5 [(16, 0)] [(1, vp b1 0), (3, vt y2), (109, vb (decide (l.alt.hi > 6000000)))] ?_
                                refine wpq_re 109 (v := vb (decide (l.alt.hi > 6000000))) (Value.bool (((decide (l.alt.lo < -200000) || decide (l.alt.lo > l.alt.hi)) || decide (l.alt.hi > 6000000)))) (by kernel_rfl) (re_or0 q61) ?_
                                exact wpq_sub _ (by kernel_rfl) hk13
                            · refine xB 1 [] [(1, vp b1 0), (3, vt y2), (110, vb ((decide (l.alt.lo < -200000) || decide (l.alt.lo > l.alt.hi)) || decide (l.alt.hi > 6000000)))] ?_
                              refine xGJo hS 29 (fun g own sl t62 => own = [some ⟨b1, 46, (cLeg l)⟩] ∧ sl = [(1, vp b1 0), (119, vb t62)]) ?_ ?_
                              · rintro g63 _ _ t62 e64 ⟨rfl, rfl⟩ hS
                                refine xRe ?_
                                refine wpq_then ?_
                                refine xCd (t62) (fun h65 => ?_) (fun h65 => ?_)
                                · have hS := cond_T h65 hS
                                  refine xSq ?_
                                  refine xRg ?_
                                  refine xB 1 [] [(2, vi 2)] ?_
                                  refine xRe ?_
                                  refine wpq_then ?_
                                  have eS := (Option.some.inj hS).symm
                                  subst eS
                                  exact xRet [] [2] (e4.trans (e8.trans (e11.trans (e15.trans (e18.trans (e22.trans (e26.trans (e30.trans (e34.trans (e37.trans (e41.trans (e44.trans (e48.trans (e51.trans (e55.trans (e58.trans e64)))))))))))))))) ⟨by kernel_rfl, by kernel_rfl⟩ (fun _ _ h => h)
                                · have hS := cond_F h65 hS
                                  refine xSk ?_
                                  refine wpq_then ?_
                                  refine xSub [(1, vp b1 0)] ?_
                                  refine xSq ?_
                                  refine xSq ?_
                                  refine xRg ?_
                                  refine xB 4 [(1, 0)] [(1, vp b1 0), (123, vb (decide (l.speed < 0)))] ?_
                                  refine wpr_grp 8 [(1, vp b1 0), (127, vb (decide (l.speed < 0) || decide (l.speed > 1000)))] (fun hk3 => ?_) ?_
                                  · refine wpq_split 123 (b := decide (l.speed < 0)) (by kernel_rfl) (fun q66 => ?_) (fun q66 => ?_)
                                    · have q66p := of_decide_eq_true q66
                                      refine xB 4 [] [(1, vp b1 0), (127, vb true)] ?_
                                      refine wpq_re 127 (v := vb true) (Value.bool ((decide (l.speed < 0) || decide (l.speed > 1000)))) (by kernel_rfl) (re_or1 q66) ?_
                                      exact wpq_sub _ (by kernel_rfl) hk3
                                    · have q66p := of_decide_eq_false q66
                                      refine xB 4 [(5, 0)] [(1, vp b1 0), (127, vb (decide (l.speed > 1000)))] ?_
                                      refine wpq_re 127 (v := vb (decide (l.speed > 1000))) (Value.bool ((decide (l.speed < 0) || decide (l.speed > 1000)))) (by kernel_rfl) (re_or0 q66) ?_
                                      exact wpq_sub _ (by kernel_rfl) hk3
                                  · refine xB 1 [] [(1, vp b1 0), (128, vb (decide (l.speed < 0) || decide (l.speed > 1000)))] ?_
                                    refine wpr_grp 13 [(1, vp b1 0), (132, vb ((decide (l.speed < 0) || decide (l.speed > 1000)) || decide (l.rnp < 0)))] (fun hk8 => ?_) ?_
                                    · refine wpq_split 128 (b := (decide (l.speed < 0) || decide (l.speed > 1000))) (by kernel_rfl) (fun q67 => ?_) (fun q67 => ?_)
                                      · refine xB 4 [] [(1, vp b1 0), (132, vb true)] ?_
                                        refine wpq_re 132 (v := vb true) (Value.bool (((decide (l.speed < 0) || decide (l.speed > 1000)) || decide (l.rnp < 0)))) (by kernel_rfl) (re_or1 q67) ?_
                                        exact wpq_sub _ (by kernel_rfl) hk8
                                      · have q67l := (or_false_ q67).1
                                        have q67r := (or_false_ q67).2
                                        have q67lp := of_decide_eq_false q67l
                                        have q67rp := of_decide_eq_false q67r
                                        refine xB 4 [(10, 0)] [(1, vp b1 0), (132, vb (decide (l.rnp < 0)))] ?_
                                        refine wpq_re 132 (v := vb (decide (l.rnp < 0))) (Value.bool (((decide (l.speed < 0) || decide (l.speed > 1000)) || decide (l.rnp < 0)))) (by kernel_rfl) (re_or0 q67) ?_
                                        exact wpq_sub _ (by kernel_rfl) hk8
                                    · refine xB 1 [] [(1, vp b1 0), (133, vb ((decide (l.speed < 0) || decide (l.speed > 1000)) || decide (l.rnp < 0)))] ?_
                                      refine wpr_grp 18 [(137, vb (((decide (l.speed < 0) || decide (l.speed > 1000)) || decide (l.rnp < 0)) || decide (l.rnp > 120000)))] (fun hk13 => ?_) ?_
                                      · refine wpq_split 133 (b := ((decide (l.speed < 0) || decide (l.speed > 1000)) || decide (l.rnp < 0))) (by kernel_rfl) (fun q68 => ?_) (fun q68 => ?_)
                                        · refine xB 4 [] [(137, vb true)] ?_
                                          refine wpq_re 137 (v := vb true) (Value.bool ((((decide (l.speed < 0) || decide (l.speed > 1000)) || decide (l.rnp < 0)) || decide (l.rnp > 120000)))) (by kernel_rfl) (re_or1 q68) ?_
                                          exact wpq_sub _ (by kernel_rfl) hk13
                                        · have q68l := (or_false_ q68).1
                                          have q68r := (or_false_ q68).2
                                          have q68ll := (or_false_ q68l).1
                                          have q68lr := (or_false_ q68l).2
                                          have q68llp := of_decide_eq_false q68ll
                                          have q68lrp := of_decide_eq_false q68lr
                                          have q68rp := of_decide_eq_false q68r
                                          refine xB 4 [(15, 0)] [(137, vb (decide (l.rnp > 120000)))] ?_
                                          refine wpq_re 137 (v := vb (decide (l.rnp > 120000))) (Value.bool ((((decide (l.speed < 0) || decide (l.speed > 1000)) || decide (l.rnp < 0)) || decide (l.rnp > 120000)))) (by kernel_rfl) (re_or0 q68) ?_
                                          exact wpq_sub _ (by kernel_rfl) hk13
                                      · refine xRe ?_
                                        refine wpq_then ?_
                                        refine xCd ((((decide (l.speed < 0) || decide (l.speed > 1000)) || decide (l.rnp < 0)) || decide (l.rnp > 120000))) (fun h69 => ?_) (fun h69 => ?_)
                                        · have hS := cond_T h69 hS
                                          refine xSq ?_
                                          refine xRg ?_
                                          refine xB 1 [] [(2, vi 2)] ?_
                                          refine xRe ?_
                                          refine wpq_then ?_
                                          have eS := (Option.some.inj hS).symm
                                          subst eS
                                          exact xRet [] [2] (e4.trans (e8.trans (e11.trans (e15.trans (e18.trans (e22.trans (e26.trans (e30.trans (e34.trans (e37.trans (e41.trans (e44.trans (e48.trans (e51.trans (e55.trans (e58.trans e64)))))))))))))))) ⟨by kernel_rfl, by kernel_rfl⟩ (fun _ _ h => h)
                                        · have hS := cond_F h69 hS
                                          have h69l := (or_false_ h69).1
                                          have h69r := (or_false_ h69).2
                                          have h69ll := (or_false_ h69l).1
                                          have h69lr := (or_false_ h69l).2
                                          have h69lll := (or_false_ h69ll).1
                                          have h69llr := (or_false_ h69ll).2
                                          have h69lllp := of_decide_eq_false h69lll
                                          have h69llrp := of_decide_eq_false h69llr
                                          have h69lrp := of_decide_eq_false h69lr
                                          have h69rp := of_decide_eq_false h69r
                                          refine xSk ?_
                                          refine wpq_then ?_
                                          refine xSub [] ?_
                                          refine xSq ?_
                                          refine xRg ?_
                                          refine xB 1 [] [(2, vi 0)] ?_
                                          refine xRe ?_
                                          refine wpq_then ?_
                                          have eS := (Option.some.inj hS).symm
                                          subst eS
                                          exact xRet [] [2] (e4.trans (e8.trans (e11.trans (e15.trans (e18.trans (e22.trans (e26.trans (e30.trans (e34.trans (e37.trans (e41.trans (e44.trans (e48.trans (e51.trans (e55.trans (e58.trans e64)))))))))))))))) ⟨by kernel_rfl, by kernel_rfl⟩ (fun _ _ h => h)
                              · intro uu62 hS hN62
                                refine wpq_split 110 (b := ((decide (l.alt.lo < -200000) || decide (l.alt.lo > l.alt.hi)) || decide (l.alt.hi > 6000000))) (by kernel_rfl) (fun q70 => ?_) (fun q70 => ?_)
                                · have hS := cond_T q70 hS
                                  refine xB 9 [] [(1, vp b1 0), (119, vb true)] ?_
                                  refine xSub [(1, vp b1 0), (119, vb true)] ?_
                                  exact hN62 _ (Option.some.inj hS).symm _ _ _ (Gh.le.refl _) ⟨by kernel_rfl, by kernel_rfl⟩
                                · have hS := cond_F q70 hS
                                  have q70l := (or_false_ q70).1
                                  have q70r := (or_false_ q70).2
                                  have q70ll := (or_false_ q70l).1
                                  have q70lr := (or_false_ q70l).2
                                  have q70llp := of_decide_eq_false q70ll
                                  have q70lrp := of_decide_eq_false q70lr
                                  have q70rp := of_decide_eq_false q70r
                                  refine xB 1 [] [(1, vp b1 0), (110, vb false), (111, vt y2)] ?_
                                  obtain ⟨y71, hy71, hS⟩ := bindO_T hS
                                  refine xE (eC 0 (fun g' lr eb ln => C68 g' y2 (97 : Int) hy71)) ?_
                                  rintro _ g72 _ e73 ⟨_, rfl, rfl, rfl⟩
                                  refine xB 1 [] [(1, vp b1 0), (110, vb false), (113, vb y71)] ?_
                                  refine wpr_grp 28 [(1, vp b1 0), (110, vb false), (118, vb (y71 && (l.alt.lo == -200000)))] (fun hk22 => ?_) ?_
                                  · refine wpq_split 113 (b := y71) (by kernel_rfl) (fun q74 => ?_) (fun q74 => ?_)
                                    · refine xB 5 [(25, 0)] [(1, vp b1 0), (110, vb false), (118, vb (l.alt.lo == -200000))] ?_
                                      refine wpq_re 118 (v := vb (l.alt.lo == -200000)) (Value.bool ((y71 && (l.alt.lo == -200000)))) (by kernel_rfl) (re_and1 q74) ?_
                                      exact wpq_sub _ (by kernel_rfl) hk22
                                    · refine xB 5 [] [(1, vp b1 0), (110, vb false), (118, vb false)] ?_
                                      refine wpq_re 118 (v := vb false) (Value.bool ((y71 && (l.alt.lo == -200000)))) (by kernel_rfl) (re_and0 q74) ?_
                                      exact wpq_sub _ (by kernel_rfl) hk22
                                  · refine xB 1 [] [(1, vp b1 0), (119, vb (y71 && (l.alt.lo == -200000)))] ?_
                                    refine xSub [(1, vp b1 0), (119, vb (y71 && (l.alt.lo == -200000)))] ?_
                                    exact hN62 _ (Option.some.inj hS).symm _ _ _ e73 ⟨by kernel_rfl, by kernel_rfl⟩
              · intro uu28 hS hN28
                refine wpq_split 54 (b := l.over) (by kernel_rfl) (fun q75 => ?_) (fun q75 => ?_)
                · have hS := cond_T q75 hS
                  refine xB 1 [] [(1, vp b1 0), (3, vt y2), (54, vb true), (55, vt y2)] ?_
                  obtain ⟨y76, hy76, hS⟩ := bindO_T hS
                  refine xE (eC 0 (fun g' lr eb ln => C68 g' y2 (111 : Int) hy76)) ?_
                  rintro _ g77 _ e78 ⟨_, rfl, rfl, rfl⟩
                  refine xB 2 [] [(1, vp b1 0), (3, vt y2), (58, vb (!y76))] ?_
                  refine xSub [(1, vp b1 0), (3, vt y2), (58, vb (!y76))] ?_
                  exact hN28 _ (Option.some.inj hS).symm _ _ _ e78 ⟨by kernel_rfl, by kernel_rfl⟩
                · have hS := cond_F q75 hS
                  refine xB 4 [] [(1, vp b1 0), (3, vt y2), (58, vb false)] ?_
                  refine xSub [(1, vp b1 0), (3, vt y2), (58, vb false)] ?_
                  exact hN28 _ (Option.some.inj hS).symm _ _ _ (Gh.le.refl _) ⟨by kernel_rfl, by kernel_rfl⟩
          · intro uu24 hS hN24
            refine wpq_split 42 (b := (!(y20 == ((l.turn == 1) || (l.turn == 2))))) (by kernel_rfl) (fun q79 => ?_) (fun q79 => ?_)
            · have hS := cond_T q79 hS
              have q79n := not_eq_true_ q79
              have q79np : ¬ (y20 = ((l.turn == 1) || (l.turn == 2))) := ne_of_beq_false_ q79n
              refine xT 8 [12] [] [some 0] [(1, vp b1 0), (3, vt y2), (42, vb true), (43, undef)] RG e22.r ?_
              refine xO1 (lds := [3, 7]) 13 ?_
              refine xIb (lds := [3, 7]) [] ?_
              refine xT 4 [14, 15, 16] [] [some 0] [(1, vp b1 0), (3, vt y2), (42, vb true), (46, undef), (47, undef)] RG e22.r ?_
              refine xO1 (lds := [3, 7]) 17 ?_
              refine xIb (lds := [3, 7]) [] ?_
              refine xT 0 [18, 19, 20] [] [some 0] [(1, vp b1 0), (3, vt y2), (51, vb true)] RG e22.r ?_
              refine xSub [(1, vp b1 0), (3, vt y2), (51, vb true)] ?_
              exact hN24 _ (Option.some.inj hS).symm _ _ _ (Gh.le.refl _) ⟨by kernel_rfl, by kernel_rfl⟩
            · have hS := cond_F q79 hS
              have q79n := not_eq_false_ q79
              have q79np : y20 = ((l.turn == 1) || (l.turn == 2)) := eq_of_beq q79n
              refine xT 8 [12] [] [some 0] [(1, vp b1 0), (3, vt y2), (42, vb false), (43, vt y2)] RG e22.r ?_
              obtain ⟨y80, hy80, hS⟩ := bindO_T hS
              refine xO1 (lds := [3, 7]) 13 ?_
              refine xIe (lds := [3, 7]) e22.r (eC 0 (fun g' lr eb ln => C68 g' y2 (84 : Int) hy80)) ?_
              rintro _ g81 _ e82 ⟨_, rfl, rfl, rfl⟩
              refine kk [some 0] ?_
              refine xT 5 [14, 15] [] [some 0] [(1, vp b1 0), (3, vt y2), (42, vb false), (46, vb (!y80))] RG (e22.trans e82).r ?_
              refine wpa_grp 1 [true, true, true, true, true, true, true, true, true, true, true, true, true, true, true, true, true, true, true, true, false] [(1, vp b1 0), (3, vt y2), (42, vb false), (50, vb ((!y80) && (l.turn != 0)))] (fun hk15 => ?_) ?_
              · refine wpq_split 46 (b := (!y80)) (by kernel_rfl) (fun q83 => ?_) (fun q83 => ?_)
                · have q83n := not_eq_true_ q83
                  refine xT 4 [16] [] [some 0] [(1, vp b1 0), (3, vt y2), (42, vb false), (46, vb true), (47, vp b1 3)] RG (e22.trans e82).r ?_
                  refine xO1 (lds := [3, 7]) 17 ?_
                  refine xIb (lds := [3, 7]) [(17, 0)] ?_
                  refine xT 1 [18, 19] [] [some 0] [(1, vp b1 0), (3, vt y2), (42, vb false), (50, vb (l.turn != 0))] RG (e22.trans e82).r ?_
                  refine wpq_re 50 (v := vb (l.turn != 0)) (Value.bool (((!y80) && (l.turn != 0)))) (by kernel_rfl) (re_and1 q83) ?_
                  exact wpq_sub _ (by kernel_rfl) hk15
                · have q83n := not_eq_false_ q83
                  refine xT 4 [16] [] [some 0] [(1, vp b1 0), (3, vt y2), (42, vb false), (46, vb false), (47, undef)] RG (e22.trans e82).r ?_
                  refine xO1 (lds := [3, 7]) 17 ?_
                  refine xIb (lds := [3, 7]) [] ?_
                  refine xT 1 [18, 19] [] [some 0] [(1, vp b1 0), (3, vt y2), (42, vb false), (50, vb false)] RG (e22.trans e82).r ?_
                  refine wpq_re 50 (v := vb false) (Value.bool (((!y80) && (l.turn != 0)))) (by kernel_rfl) (re_and0 q83) ?_
                  exact wpq_sub _ (by kernel_rfl) hk15
              · refine xT 0 [20] [] [some 0] [(1, vp b1 0), (3, vt y2), (51, vb ((!y80) && (l.turn != 0)))] RG (e22.trans e82).r ?_
                refine xSub [(1, vp b1 0), (3, vt y2), (51, vb ((!y80) && (l.turn != 0)))] ?_
                exact hN24 _ (Option.some.inj hS).symm _ _ _ e82 ⟨by kernel_rfl, by kernel_rfl⟩

def o60 (k : Int) (part : Int) (t : Int) : Bool :=
  (cond ((t == 1)) ((true)) (cond ((((k == 1) && (part == 1)) || (part == 4))) (((((((t == 3) || (t == 4)) || (t == 7)) || (t == 8)) || (t == 10)))) ((false))))
set_option maxRecDepth 100000 in
theorem C60 (g : Gh) (k : Int) (part : Int) (t : Int) {r : Bool} (hS : o60 k part t = r) :
    Ctr Tryd.prog 60 [vy k, vy part, vy t] g [] (fun v ψ o => v = vb r ∧ o = []) := by
  unfold o60 at hS
  refine xFn Tryd.f60 (Tryd.f60.body.getD .skip) 37 ?_
  refine xSq ?_
  refine xRg ?_
  refine xB 1 [] [(0, vy k), (1, vy part), (2, vy t)] ?_
  refine xRe ?_
  refine wpq_then ?_
  refine xSq ?_
  refine xSq ?_
  refine xRg ?_
  refine xB 2 [] [(0, vy k), (1, vy part), (2, vy t), (8, vb (t == 1))] ?_
  refine xRe ?_
  refine wpq_then ?_
  refine xCd ((t == 1)) (fun h1 => ?_) (fun h1 => ?_)
  · have hS := cond_T h1 hS
    have h1p : t = 1 := eq_of_beq h1
    refine xSq ?_
    refine xRg ?_
    refine xB 1 [] [(6, vb true)] ?_
    refine xRe ?_
    refine wpq_then ?_
    have eS := hS.symm
    subst eS
    exact xRet [] [6] (Gh.le.refl _) ⟨by kernel_rfl, by kernel_rfl⟩ (fun _ _ h => h)
  · have hS := cond_F h1 hS
    have h1p : ¬ (t = 1) := ne_of_beq_false_ h1
    refine xSk ?_
    refine wpq_then ?_
    refine xSub [(0, vy k), (1, vy part), (2, vy t)] ?_
    refine xSq ?_
    refine xSq ?_
    refine xRg ?_
    refine xB 3 [] [(1, vy part), (2, vy t), (11, vb (k == 1))] ?_
    refine wpr_grp 6 [(1, vy part), (2, vy t), (14, vb ((k == 1) && (part == 1)))] (fun hk2 => ?_) ?_
    · refine wpq_split 11 (b := (k == 1)) (by kernel_rfl) (fun q2 => ?_) (fun q2 => ?_)
      · have q2p : k = 1 := eq_of_beq q2
        refine xB 3 [] [(1, vy part), (2, vy t), (14, vb (part == 1))] ?_
        refine wpq_re 14 (v := vb (part == 1)) (Value.bool (((k == 1) && (part == 1)))) (by kernel_rfl) (re_and1 q2) ?_
        exact wpq_sub _ (by kernel_rfl) hk2
      · have q2p : ¬ (k = 1) := ne_of_beq_false_ q2
        refine xB 3 [] [(1, vy part), (2, vy t), (14, vb false)] ?_
        refine wpq_re 14 (v := vb false) (Value.bool (((k == 1) && (part == 1)))) (by kernel_rfl) (re_and0 q2) ?_
        exact wpq_sub _ (by kernel_rfl) hk2
    · refine xB 1 [] [(1, vy part), (2, vy t), (15, vb ((k == 1) && (part == 1)))] ?_
      refine wpr_grp 10 [(2, vy t), (18, vb (((k == 1) && (part == 1)) || (part == 4)))] (fun hk6 => ?_) ?_
      · refine wpq_split 15 (b := ((k == 1) && (part == 1))) (by kernel_rfl) (fun q3 => ?_) (fun q3 => ?_)
        · have q3l := (and_true_ q3).1
          have q3r := (and_true_ q3).2
          have q3lp : k = 1 := eq_of_beq q3l
          have q3rp : part = 1 := eq_of_beq q3r
          refine xB 3 [] [(2, vy t), (18, vb true)] ?_
          refine wpq_re 18 (v := vb true) (Value.bool ((((k == 1) && (part == 1)) || (part == 4)))) (by kernel_rfl) (re_or1 q3) ?_
          exact wpq_sub _ (by kernel_rfl) hk6
        · refine xB 3 [] [(2, vy t), (18, vb (part == 4))] ?_
          refine wpq_re 18 (v := vb (part == 4)) (Value.bool ((((k == 1) && (part == 1)) || (part == 4)))) (by kernel_rfl) (re_or0 q3) ?_
          exact wpq_sub _ (by kernel_rfl) hk6
      · refine xRe ?_
        refine wpq_then ?_
        refine xCd ((((k == 1) && (part == 1)) || (part == 4))) (fun h4 => ?_) (fun h4 => ?_)
        · have hS := cond_T h4 hS
          refine xSq ?_
          refine xRg ?_
          refine xB 3 [] [(2, vy t), (21, vb (t == 3))] ?_
          refine wpr_grp 6 [(2, vy t), (24, vb ((t == 3) || (t == 4)))] (fun hk2 => ?_) ?_
          · refine wpq_split 21 (b := (t == 3)) (by kernel_rfl) (fun q5 => ?_) (fun q5 => ?_)
            · have q5p : t = 3 := eq_of_beq q5
              refine xB 3 [] [(2, vy t), (24, vb true)] ?_
              refine wpq_re 24 (v := vb true) (Value.bool (((t == 3) || (t == 4)))) (by kernel_rfl) (re_or1 q5) ?_
              exact wpq_sub _ (by kernel_rfl) hk2
            · have q5p : ¬ (t = 3) := ne_of_beq_false_ q5
              refine xB 3 [] [(2, vy t), (24, vb (t == 4))] ?_
              refine wpq_re 24 (v := vb (t == 4)) (Value.bool (((t == 3) || (t == 4)))) (by kernel_rfl) (re_or0 q5) ?_
              exact wpq_sub _ (by kernel_rfl) hk2
          · refine xB 1 [] [(2, vy t), (25, vb ((t == 3) || (t == 4)))] ?_
            refine wpr_grp 10 [(2, vy t), (28, vb (((t == 3) || (t == 4)) || (t == 7)))] (fun hk6 => ?_) ?_
            · refine wpq_split 25 (b := ((t == 3) || (t == 4))) (by kernel_rfl) (fun q6 => ?_) (fun q6 => ?_)
              · refine xB 3 [] [(2, vy t), (28, vb true)] ?_
                refine wpq_re 28 (v := vb true) (Value.bool ((((t == 3) || (t == 4)) || (t == 7)))) (by kernel_rfl) (re_or1 q6) ?_
                exact wpq_sub _ (by kernel_rfl) hk6
              · have q6l := (or_false_ q6).1
                have q6r := (or_false_ q6).2
                have q6lp : ¬ (t = 3) := ne_of_beq_false_ q6l
                have q6rp : ¬ (t = 4) := ne_of_beq_false_ q6r
                refine xB 3 [] [(2, vy t), (28, vb (t == 7))] ?_
                refine wpq_re 28 (v := vb (t == 7)) (Value.bool ((((t == 3) || (t == 4)) || (t == 7)))) (by kernel_rfl) (re_or0 q6) ?_
                exact wpq_sub _ (by kernel_rfl) hk6
            · refine xB 1 [] [(2, vy t), (29, vb (((t == 3) || (t == 4)) || (t == 7)))] ?_
              refine wpr_grp 14 [(2, vy t), (32, vb ((((t == 3) || (t == 4)) || (t == 7)) || (t == 8)))] (fun hk10 => ?_) ?_
              · refine wpq_split 29 (b := (((t == 3) || (t == 4)) || (t == 7))) (by kernel_rfl) (fun q7 => ?_) (fun q7 => ?_)
                · refine xB 3 [] [(2, vy t), (32, vb true)] ?_
                  refine wpq_re 32 (v := vb true) (Value.bool (((((t == 3) || (t == 4)) || (t == 7)) || (t == 8)))) (by kernel_rfl) (re_or1 q7) ?_
                  exact wpq_sub _ (by kernel_rfl) hk10
                · have q7l := (or_false_ q7).1
                  have q7r := (or_false_ q7).2
                  have q7ll := (or_false_ q7l).1
                  have q7lr := (or_false_ q7l).2
                  have q7llp : ¬ (t = 3) := ne_of_beq_false_ q7ll
                  have q7lrp : ¬ (t = 4) := ne_of_beq_false_ q7lr
                  have q7rp : ¬ (t = 7) := ne_of_beq_false_ q7r
                  refine xB 3 [] [(2, vy t), (32, vb (t == 8))] ?_
                  refine wpq_re 32 (v := vb (t == 8)) (Value.bool (((((t == 3) || (t == 4)) || (t == 7)) || (t == 8)))) (by kernel_rfl) (re_or0 q7) ?_
                  exact wpq_sub _ (by kernel_rfl) hk10
              · refine xB 1 [] [(2, vy t), (33, vb ((((t == 3) || (t == 4)) || (t == 7)) || (t == 8)))] ?_
                refine wpr_grp 18 [(36, vb (((((t == 3) || (t == 4)) || (t == 7)) || (t == 8)) || (t == 10)))] (fun hk14 => ?_) ?_
                · refine wpq_split 33 (b := ((((t == 3) || (t == 4)) || (t == 7)) || (t == 8))) (by kernel_rfl) (fun q8 => ?_) (fun q8 => ?_)
                  · refine xB 3 [] [(36, vb true)] ?_
                    refine wpq_re 36 (v := vb true) (Value.bool ((((((t == 3) || (t == 4)) || (t == 7)) || (t == 8)) || (t == 10)))) (by kernel_rfl) (re_or1 q8) ?_
                    exact wpq_sub _ (by kernel_rfl) hk14
                  · have q8l := (or_false_ q8).1
                    have q8r := (or_false_ q8).2
                    have q8ll := (or_false_ q8l).1
                    have q8lr := (or_false_ q8l).2
                    have q8lll := (or_false_ q8ll).1
                    have q8llr := (or_false_ q8ll).2
                    have q8lllp : ¬ (t = 3) := ne_of_beq_false_ q8lll
                    have q8llrp : ¬ (t = 4) := ne_of_beq_false_ q8llr
                    have q8lrp : ¬ (t = 7) := ne_of_beq_false_ q8lr
                    have q8rp : ¬ (t = 8) := ne_of_beq_false_ q8r
                    refine xB 3 [] [(36, vb (t == 10))] ?_
                    refine wpq_re 36 (v := vb (t == 10)) (Value.bool ((((((t == 3) || (t == 4)) || (t == 7)) || (t == 8)) || (t == 10)))) (by kernel_rfl) (re_or0 q8) ?_
                    exact wpq_sub _ (by kernel_rfl) hk14
                · refine xB 1 [] [(6, vb (((((t == 3) || (t == 4)) || (t == 7)) || (t == 8)) || (t == 10)))] ?_
                  refine xRe ?_
                  refine wpq_then ?_
                  have eS := hS.symm
                  subst eS
                  exact xRet [] [6] (Gh.le.refl _) ⟨by kernel_rfl, by kernel_rfl⟩ (fun _ _ h => h)
        · have hS := cond_F h4 hS
          have h4l := (or_false_ h4).1
          have h4r := (or_false_ h4).2
          have h4rp : ¬ (part = 4) := ne_of_beq_false_ h4r
          refine xSk ?_
          refine wpq_then ?_
          refine xSub [] ?_
          refine xSq ?_
          refine xRg ?_
          refine xB 1 [] [(6, vb false)] ?_
          refine xRe ?_
          refine wpq_then ?_
          have eS := hS.symm
          subst eS
          exact xRet [] [6] (Gh.le.refl _) ⟨by kernel_rfl, by kernel_rfl⟩ (fun _ _ h => h)

def o61 (a : Int) (b : Int) : Bool :=
  (letJ (τ := (List UInt8)) (o66 (a : Int)) fun y1 => (letJ (τ := Bool) (cond ((y1 == [])) (true) (letJ (τ := (List UInt8)) (o66 (b : Int)) fun y21 => (y21 == []))) fun t4 => (cond ((t4 || (b == 1))) ((false)) (cond (decide (a ≤ 6)) ((true)) (cond ((a == 9)) (((b == 3))) (cond ((a == 13)) ((false)) (cond (decide (a ≥ 14)) ((((((b == 2) || (b == 3)) || (b == 4)) || (decide (b ≥ 7) && decide (b ≤ 13))))) (((((b == 3) || (b == 4)) || (decide (b ≥ 7) && decide (b ≤ 10))))))))))))
set_option maxRecDepth 100000 in
theorem C61 (g : Gh) (a : Int) (b : Int) {r : Bool} (hS : o61 a b = r) :
    Ctr Tryd.prog 61 [vy a, vy b] g [] (fun v ψ o => v = vb r ∧ o = []) := by
  unfold o61 at hS
  refine xFn Tryd.f61 (Tryd.f61.body.getD .skip) 63 ?_
  refine xSq ?_
  refine xRg ?_
  refine xB 1 [] [(0, vy a), (1, vy b)] ?_
  refine xRe ?_
  refine wpq_then ?_
  refine xSq ?_
  refine xSq ?_
  refine xRg ?_
  refine xB 1 [] [(0, vy a), (1, vy b), (5, vy a)] ?_
  obtain ⟨y1, hy1, hS⟩ := letJ_T hS
  refine xE (eC 0 (fun g' lr eb ln => C66 g' (a : Int) hy1)) ?_
  rintro _ g2 _ e3 ⟨_, rfl, rfl, rfl⟩
  refine xV (qEqS (y1) ([])) ?_
  refine xB 1 [] [(0, vy a), (1, vy b), (8, vb (y1 == []))] ?_
  refine xGJl hS 8 (fun g own sl t4 => own = [] ∧ sl = [(0, vy a), (1, vy b), (12, vb t4)]) ?_ ?_
  · rintro g5 _ _ t4 e6 ⟨rfl, rfl⟩ hS
    refine xB 1 [] [(0, vy a), (1, vy b), (13, vb t4)] ?_
    refine wpr_grp 12 [(0, vy a), (1, vy b), (16, vb (t4 || (b == 1)))] (fun hk8 => ?_) ?_
    · refine wpq_split 13 (b := t4) (by kernel_rfl) (fun q7 => ?_) (fun q7 => ?_)
      · refine xB 3 [] [(0, vy a), (1, vy b), (16, vb true)] ?_
        refine wpq_re 16 (v := vb true) (Value.bool ((t4 || (b == 1)))) (by kernel_rfl) (re_or1 q7) ?_
        exact wpq_sub _ (by kernel_rfl) hk8
      · refine xB 3 [] [(0, vy a), (1, vy b), (16, vb (b == 1))] ?_
        refine wpq_re 16 (v := vb (b == 1)) (Value.bool ((t4 || (b == 1)))) (by kernel_rfl) (re_or0 q7) ?_
        exact wpq_sub _ (by kernel_rfl) hk8
    · refine xRe ?_
      refine wpq_then ?_
      refine xCd ((t4 || (b == 1))) (fun h8 => ?_) (fun h8 => ?_)
      · have hS := cond_T h8 hS
        refine xSq ?_
        refine xRg ?_
        refine xB 1 [] [(4, vb false)] ?_
        refine xRe ?_
        refine wpq_then ?_
        have eS := hS.symm
        subst eS
        exact xRet [] [4] (e3.trans e6) ⟨by kernel_rfl, by kernel_rfl⟩ (fun _ _ h => h)
      · have hS := cond_F h8 hS
        have h8l := (or_false_ h8).1
        have h8r := (or_false_ h8).2
        have h8rp : ¬ (b = 1) := ne_of_beq_false_ h8r
        refine xSk ?_
        refine wpq_then ?_
        refine xSub [(0, vy a), (1, vy b)] ?_
        refine xSq ?_
        refine xBl 0 ?_
        refine xSq ?_
        refine xRg ?_
        refine xB 3 [] [(0, vy a), (1, vy b), (17, vb (decide (a ≤ 6)))] ?_
        refine xRe ?_
        refine wpq_then ?_
        refine xCd (decide (a ≤ 6)) (fun h9 => ?_) (fun h9 => ?_)
        · have hS := cond_T h9 hS
          have h9p := of_decide_eq_true h9
          refine xSq ?_
          refine xRg ?_
          refine xB 1 [] [(4, vb true)] ?_
          refine xRe ?_
          refine wpq_then ?_
          have eS := hS.symm
          subst eS
          exact xRet [] [4] (e3.trans e6) ⟨by kernel_rfl, by kernel_rfl⟩ (fun _ _ h => h)
        · have hS := cond_F h9 hS
          have h9p := of_decide_eq_false h9
          refine xSq ?_
          refine xRg ?_
          refine xB 3 [] [(0, vy a), (1, vy b), (20, vb (a == 9))] ?_
          refine xRe ?_
          refine wpq_then ?_
          refine xCd ((a == 9)) (fun h10 => ?_) (fun h10 => ?_)
          · have hS := cond_T h10 hS
            have h10p : a = 9 := eq_of_beq h10
            refine xSq ?_
            refine xRg ?_
            refine xB 3 [] [(4, vb (b == 3))] ?_
            refine xRe ?_
            refine wpq_then ?_
            have eS := hS.symm
            subst eS
            exact xRet [] [4] (e3.trans e6) ⟨by kernel_rfl, by kernel_rfl⟩ (fun _ _ h => h)
          · have hS := cond_F h10 hS
            have h10p : ¬ (a = 9) := ne_of_beq_false_ h10
            refine xSq ?_
            refine xRg ?_
            refine xB 3 [] [(0, vy a), (1, vy b), (25, vb (a == 13))] ?_
            refine xRe ?_
            refine wpq_then ?_
            refine xCd ((a == 13)) (fun h11 => ?_) (fun h11 => ?_)
            · have hS := cond_T h11 hS
              have h11p : a = 13 := eq_of_beq h11
              refine xSq ?_
              refine xRg ?_
              refine xB 1 [] [(4, vb false)] ?_
              refine xRe ?_
              refine wpq_then ?_
              have eS := hS.symm
              subst eS
              exact xRet [] [4] (e3.trans e6) ⟨by kernel_rfl, by kernel_rfl⟩ (fun _ _ h => h)
            · have hS := cond_F h11 hS
              have h11p : ¬ (a = 13) := ne_of_beq_false_ h11
              refine xSq ?_
              refine xRg ?_
              refine xB 3 [] [(1, vy b), (28, vb (decide (a ≥ 14)))] ?_
              refine xRe ?_
              refine wpq_then ?_
              refine xCd (decide (a ≥ 14)) (fun h12 => ?_) (fun h12 => ?_)
              · have hS := cond_T h12 hS
                have h12p := of_decide_eq_true h12
                refine xSq ?_
                refine xRg ?_
                refine xB 3 [] [(1, vy b), (33, vb (b == 2))] ?_
                refine wpr_grp 6 [(1, vy b), (36, vb ((b == 2) || (b == 3)))] (fun hk2 => ?_) ?_
                · refine wpq_split 33 (b := (b == 2)) (by kernel_rfl) (fun q13 => ?_) (fun q13 => ?_)
                  · have q13p : b = 2 := eq_of_beq q13
                    refine xB 3 [] [(1, vy b), (36, vb true)] ?_
                    refine wpq_re 36 (v := vb true) (Value.bool (((b == 2) || (b == 3)))) (by kernel_rfl) (re_or1 q13) ?_
                    exact wpq_sub _ (by kernel_rfl) hk2
                  · have q13p : ¬ (b = 2) := ne_of_beq_false_ q13
                    refine xB 3 [] [(1, vy b), (36, vb (b == 3))] ?_
                    refine wpq_re 36 (v := vb (b == 3)) (Value.bool (((b == 2) || (b == 3)))) (by kernel_rfl) (re_or0 q13) ?_
                    exact wpq_sub _ (by kernel_rfl) hk2
                · refine xB 1 [] [(1, vy b), (37, vb ((b == 2) || (b == 3)))] ?_
                  refine wpr_grp 10 [(1, vy b), (40, vb (((b == 2) || (b == 3)) || (b == 4)))] (fun hk6 => ?_) ?_
                  · refine wpq_split 37 (b := ((b == 2) || (b == 3))) (by kernel_rfl) (fun q14 => ?_) (fun q14 => ?_)
                    · refine xB 3 [] [(1, vy b), (40, vb true)] ?_
                      refine wpq_re 40 (v := vb true) (Value.bool ((((b == 2) || (b == 3)) || (b == 4)))) (by kernel_rfl) (re_or1 q14) ?_
                      exact wpq_sub _ (by kernel_rfl) hk6
                    · have q14l := (or_false_ q14).1
                      have q14r := (or_false_ q14).2
                      have q14lp : ¬ (b = 2) := ne_of_beq_false_ q14l
                      have q14rp : ¬ (b = 3) := ne_of_beq_false_ q14r
                      refine xB 3 [] [(1, vy b), (40, vb (b == 4))] ?_
                      refine wpq_re 40 (v := vb (b == 4)) (Value.bool ((((b == 2) || (b == 3)) || (b == 4)))) (by kernel_rfl) (re_or0 q14) ?_
                      exact wpq_sub _ (by kernel_rfl) hk6
                  · refine xB 1 [] [(1, vy b), (41, vb (((b == 2) || (b == 3)) || (b == 4)))] ?_
                    refine wpr_grp 18 [(48, vb ((((b == 2) || (b == 3)) || (b == 4)) || (decide (b ≥ 7) && decide (b ≤ 13))))] (fun hk10 => ?_) ?_
                    · refine wpq_split 41 (b := (((b == 2) || (b == 3)) || (b == 4))) (by kernel_rfl) (fun q15 => ?_) (fun q15 => ?_)
                      · refine xB 7 [] [(48, vb true)] ?_
                        refine wpq_re 48 (v := vb true) (Value.bool (((((b == 2) || (b == 3)) || (b == 4)) || (decide (b ≥ 7) && decide (b ≤ 13))))) (by kernel_rfl) (re_or1 q15) ?_
                        exact wpq_sub _ (by kernel_rfl) hk10
                      · have q15l := (or_false_ q15).1
                        have q15r := (or_false_ q15).2
                        have q15ll := (or_false_ q15l).1
                        have q15lr := (or_false_ q15l).2
                        have q15llp : ¬ (b = 2) := ne_of_beq_false_ q15ll
                        have q15lrp : ¬ (b = 3) := ne_of_beq_false_ q15lr
                        have q15rp : ¬ (b = 4) := ne_of_beq_false_ q15r
                        refine xB 3 [] [(1, vy b), (41, vb false), (44, vb (decide (b ≥ 7)))] ?_
                        refine wpr_grp 17 [(41, vb false), (47, vb (decide (b ≥ 7) && decide (b ≤ 13)))] (fun hk13 => ?_) ?_
                        · refine wpq_split 44 (b := decide (b ≥ 7)) (by kernel_rfl) (fun q16 => ?_) (fun q16 => ?_)
                          · have q16p := of_decide_eq_true q16
                            refine xB 3 [] [(41, vb false), (47, vb (decide (b ≤ 13)))] ?_
                            refine wpq_re 47 (v := vb (decide (b ≤ 13))) (Value.bool ((decide (b ≥ 7) && decide (b ≤ 13)))) (by kernel_rfl) (re_and1 q16) ?_
                            exact wpq_sub _ (by kernel_rfl) hk13
                          · have q16p := of_decide_eq_false q16
                            refine xB 3 [] [(41, vb false), (47, vb false)] ?_
                            refine wpq_re 47 (v := vb false) (Value.bool ((decide (b ≥ 7) && decide (b ≤ 13)))) (by kernel_rfl) (re_and0 q16) ?_
                            exact wpq_sub _ (by kernel_rfl) hk13
                        · refine xB 1 [] [(48, vb (decide (b ≥ 7) && decide (b ≤ 13)))] ?_
                          refine wpq_re 48 (v := vb (decide (b ≥ 7) && decide (b ≤ 13))) (Value.bool (((((b == 2) || (b == 3)) || (b == 4)) || (decide (b ≥ 7) && decide (b ≤ 13))))) (by kernel_rfl) (re_or0 q15) ?_
                          exact wpq_sub _ (by kernel_rfl) hk10
                    · refine xB 1 [] [(4, vb ((((b == 2) || (b == 3)) || (b == 4)) || (decide (b ≥ 7) && decide (b ≤ 13))))] ?_
                      refine xRe ?_
                      refine wpq_then ?_
                      have eS := hS.symm
                      subst eS
                      exact xRet [] [4] (e3.trans e6) ⟨by kernel_rfl, by kernel_rfl⟩ (fun _ _ h => h)
              · have hS := cond_F h12 hS
                have h12p := of_decide_eq_false h12
                refine xSk ?_
                refine wpq_blockN ?_
                refine wpq_then ?_
                refine xSub [(1, vy b)] ?_
                refine xSq ?_
                refine xRg ?_
                refine xB 3 [] [(1, vy b), (51, vb (b == 3))] ?_
                refine wpr_grp 6 [(1, vy b), (54, vb ((b == 3) || (b == 4)))] (fun hk2 => ?_) ?_
                · refine wpq_split 51 (b := (b == 3)) (by kernel_rfl) (fun q17 => ?_) (fun q17 => ?_)
                  · have q17p : b = 3 := eq_of_beq q17
                    refine xB 3 [] [(1, vy b), (54, vb true)] ?_
                    refine wpq_re 54 (v := vb true) (Value.bool (((b == 3) || (b == 4)))) (by kernel_rfl) (re_or1 q17) ?_
                    exact wpq_sub _ (by kernel_rfl) hk2
                  · have q17p : ¬ (b = 3) := ne_of_beq_false_ q17
                    refine xB 3 [] [(1, vy b), (54, vb (b == 4))] ?_
                    refine wpq_re 54 (v := vb (b == 4)) (Value.bool (((b == 3) || (b == 4)))) (by kernel_rfl) (re_or0 q17) ?_
                    exact wpq_sub _ (by kernel_rfl) hk2
                · refine xB 1 [] [(1, vy b), (55, vb ((b == 3) || (b == 4)))] ?_
                  refine wpr_grp 14 [(62, vb (((b == 3) || (b == 4)) || (decide (b ≥ 7) && decide (b ≤ 10))))] (fun hk6 => ?_) ?_
                  · refine wpq_split 55 (b := ((b == 3) || (b == 4))) (by kernel_rfl) (fun q18 => ?_) (fun q18 => ?_)
                    · refine xB 7 [] [(62, vb true)] ?_
                      refine wpq_re 62 (v := vb true) (Value.bool ((((b == 3) || (b == 4)) || (decide (b ≥ 7) && decide (b ≤ 10))))) (by kernel_rfl) (re_or1 q18) ?_
                      exact wpq_sub _ (by kernel_rfl) hk6
                    · have q18l := (or_false_ q18).1
                      have q18r := (or_false_ q18).2
                      have q18lp : ¬ (b = 3) := ne_of_beq_false_ q18l
                      have q18rp : ¬ (b = 4) := ne_of_beq_false_ q18r
                      refine xB 3 [] [(1, vy b), (55, vb false), (58, vb (decide (b ≥ 7)))] ?_
                      refine wpr_grp 13 [(55, vb false), (61, vb (decide (b ≥ 7) && decide (b ≤ 10)))] (fun hk9 => ?_) ?_
                      · refine wpq_split 58 (b := decide (b ≥ 7)) (by kernel_rfl) (fun q19 => ?_) (fun q19 => ?_)
                        · have q19p := of_decide_eq_true q19
                          refine xB 3 [] [(55, vb false), (61, vb (decide (b ≤ 10)))] ?_
                          refine wpq_re 61 (v := vb (decide (b ≤ 10))) (Value.bool ((decide (b ≥ 7) && decide (b ≤ 10)))) (by kernel_rfl) (re_and1 q19) ?_
                          exact wpq_sub _ (by kernel_rfl) hk9
                        · have q19p := of_decide_eq_false q19
                          refine xB 3 [] [(55, vb false), (61, vb false)] ?_
                          refine wpq_re 61 (v := vb false) (Value.bool ((decide (b ≥ 7) && decide (b ≤ 10)))) (by kernel_rfl) (re_and0 q19) ?_
                          exact wpq_sub _ (by kernel_rfl) hk9
                      · refine xB 1 [] [(62, vb (decide (b ≥ 7) && decide (b ≤ 10)))] ?_
                        refine wpq_re 62 (v := vb (decide (b ≥ 7) && decide (b ≤ 10))) (Value.bool ((((b == 3) || (b == 4)) || (decide (b ≥ 7) && decide (b ≤ 10))))) (by kernel_rfl) (re_or0 q18) ?_
                        exact wpq_sub _ (by kernel_rfl) hk6
                  · refine xB 1 [] [(4, vb (((b == 3) || (b == 4)) || (decide (b ≥ 7) && decide (b ≤ 10))))] ?_
                    refine xRe ?_
                    refine wpq_then ?_
                    have eS := hS.symm
                    subst eS
                    exact xRet [] [4] (e3.trans e6) ⟨by kernel_rfl, by kernel_rfl⟩ (fun _ _ h => h)
  · intro uu4 hS hN4
    refine wpq_split 8 (b := (y1 == [])) (by kernel_rfl) (fun q20 => ?_) (fun q20 => ?_)
    · have hS := cond_T q20 hS
      have q20p : y1 = [] := eq_of_beq q20
      refine xB 4 [] [(0, vy a), (1, vy b), (12, vb true)] ?_
      refine xSub [(0, vy a), (1, vy b), (12, vb true)] ?_
      exact hN4 _ hS.symm _ _ _ (Gh.le.refl _) ⟨by kernel_rfl, by kernel_rfl⟩
    · have hS := cond_F q20 hS
      have q20p : ¬ (y1 = []) := ne_of_beq_false_ q20
      refine xB 1 [] [(0, vy a), (1, vy b), (8, vb false), (9, vy b)] ?_
      obtain ⟨y21, hy21, hS⟩ := letJ_T hS
      refine xE (eC 0 (fun g' lr eb ln => C66 g' (b : Int) hy21)) ?_
      rintro _ g22 _ e23 ⟨_, rfl, rfl, rfl⟩
      refine xV (qEqS (y21) ([])) ?_
      refine xB 1 [] [(0, vy a), (1, vy b), (12, vb (y21 == []))] ?_
      refine xSub [(0, vy a), (1, vy b), (12, vb (y21 == []))] ?_
      exact hN4 _ hS.symm _ _ _ e23 ⟨by kernel_rfl, by kernel_rfl⟩

def o62 (t : Int) : Bool :=
  (((decide (t ≥ 11) && decide (t ≤ 17))))
set_option maxRecDepth 100000 in
theorem C62 (g : Gh) (t : Int) {r : Bool} (hS : o62 t = r) :
    Ctr Tryd.prog 62 [vy t] g [] (fun v ψ o => v = vb r ∧ o = []) := by
  unfold o62 at hS
  refine xFn Tryd.f62 (Tryd.f62.body.getD .skip) 9 ?_
  refine xSq ?_
  refine xRg ?_
  refine xB 1 [] [(0, vy t)] ?_
  refine xRe ?_
  refine wpq_then ?_
  refine xSq ?_
  refine xRg ?_
  refine xB 3 [] [(0, vy t), (5, vb (decide (t ≥ 11)))] ?_
  refine wpr_grp 6 [(8, vb (decide (t ≥ 11) && decide (t ≤ 17)))] (fun hk2 => ?_) ?_
  · refine wpq_split 5 (b := decide (t ≥ 11)) (by kernel_rfl) (fun q1 => ?_) (fun q1 => ?_)
    · have q1p := of_decide_eq_true q1
      refine xB 3 [] [(8, vb (decide (t ≤ 17)))] ?_
      refine wpq_re 8 (v := vb (decide (t ≤ 17))) (Value.bool ((decide (t ≥ 11) && decide (t ≤ 17)))) (by kernel_rfl) (re_and1 q1) ?_
      exact wpq_sub _ (by kernel_rfl) hk2
    · have q1p := of_decide_eq_false q1
      refine xB 3 [] [(8, vb false)] ?_
      refine wpq_re 8 (v := vb false) (Value.bool ((decide (t ≥ 11) && decide (t ≤ 17)))) (by kernel_rfl) (re_and0 q1) ?_
      exact wpq_sub _ (by kernel_rfl) hk2
  · refine xB 1 [] [(2, vb (decide (t ≥ 11) && decide (t ≤ 17)))] ?_
    refine xRe ?_
    refine wpq_then ?_
    have eS := hS.symm
    subst eS
    exact xRet [] [2] (Gh.le.refl _) ⟨by kernel_rfl, by kernel_rfl⟩ (fun _ _ h => h)

def o44 (a : Leg) (b : Leg) : Bool :=
  (letJ (τ := Bool) (o61 (a.type_ : Int) (b.type_ : Int)) fun y3 => (letJ (τ := Bool) (cond (y3) (letJ (τ := Bool) (o62 (b.type_ : Int)) fun y10 => ((!y10) || (a.fix == b.fix))) (false)) fun t6 => ((t6))))
set_option maxRecDepth 100000 in
theorem C44 (g : Gh) (a : Leg) (b : Leg) {r : Bool} (hS : o44 a b = r) :
    Ctr Tryd.prog 44 [Value.agg #[vy a.type_, vt a.fix, vt a.center, vy a.turn, vb a.over, vi a.course, vi a.dist, vi a.radius, vi a.theta, vi a.alt.lo, vi a.alt.hi, vi a.speed, vi a.rnp], Value.agg #[vy b.type_, vt b.fix, vt b.center, vy b.turn, vb b.over, vi b.course, vi b.dist, vi b.radius, vi b.theta, vi b.alt.lo, vi b.alt.hi, vi b.speed, vi b.rnp]] g [] (fun v ψ o => v = vb r ∧ o = []) := by
  unfold o44 at hS
  refine xFn Tryd.f44 (Tryd.f44.body.getD .skip) 23 ?_
  refine xSq ?_
  refine xRg ?_
  refine xE eB ?_
  rintro _ _ _ - ⟨b1, rfl, rfl, rfl⟩
  refine xE eB ?_
  rintro _ _ _ - ⟨b2, rfl, rfl, rfl⟩
  refine xB 1 [] [(2, vp b1 0), (3, vp b2 0)] ?_
  refine xRe ?_
  refine wpq_then ?_
  refine xSq ?_
  refine xRg ?_
  refine xB 4 [(1, 1), (3, 0)] [(2, vp b1 0), (3, vp b2 0), (6, vy a.type_), (8, vy b.type_)] ?_
  obtain ⟨y3, hy3, hS⟩ := letJ_T hS
  refine xE (eC 0 (fun g' lr eb ln => C61 g' (a.type_ : Int) (b.type_ : Int) hy3)) ?_
  rintro _ g4 _ e5 ⟨_, rfl, rfl, rfl⟩
  refine xB 1 [] [(2, vp b1 0), (3, vp b2 0), (10, vb y3)] ?_
  refine xGJl hS 18 (fun g own sl t6 => own = [] ∧ sl = [(22, vb t6)]) ?_ ?_
  · rintro g7 _ _ t6 e8 ⟨rfl, rfl⟩ hS
    refine xB 1 [] [(4, vb t6)] ?_
    refine xRe ?_
    refine wpq_then ?_
    have eS := hS.symm
    subst eS
    exact xRet [] [4] (e5.trans e8) ⟨by kernel_rfl, by kernel_rfl⟩ (fun _ _ h => h)
  · intro uu6 hS hN6
    refine wpq_split 10 (b := y3) (by kernel_rfl) (fun q9 => ?_) (fun q9 => ?_)
    · have hS := cond_T q9 hS
      refine xB 2 [(7, 0)] [(2, vp b1 0), (3, vp b2 0), (10, vb true), (12, vy b.type_)] ?_
      obtain ⟨y10, hy10, hS⟩ := letJ_T hS
      refine xE (eC 0 (fun g' lr eb ln => C62 g' (b.type_ : Int) hy10)) ?_
      rintro _ g11 _ e12 ⟨_, rfl, rfl, rfl⟩
      refine xB 2 [] [(2, vp b1 0), (3, vp b2 0), (10, vb true), (15, vb (!y10))] ?_
      refine wpr_grp 17 [(10, vb true), (21, vb ((!y10) || (a.fix == b.fix)))] (fun hk10 => ?_) ?_
      · refine wpq_split 15 (b := (!y10)) (by kernel_rfl) (fun q13 => ?_) (fun q13 => ?_)
        · have q13n := not_eq_true_ q13
          refine xB 6 [] [(10, vb true), (21, vb true)] ?_
          refine wpq_re 21 (v := vb true) (Value.bool (((!y10) || (a.fix == b.fix)))) (by kernel_rfl) (re_or1 q13) ?_
          exact wpq_sub _ (by kernel_rfl) hk10
        · have q13n := not_eq_false_ q13
          refine xB 4 [(12, 1), (14, 0)] [(10, vb true), (15, vb false), (17, vt a.fix), (19, vt b.fix)] ?_
          refine xV (qEqS (a.fix) (b.fix)) ?_
          refine xB 1 [] [(10, vb true), (21, vb (a.fix == b.fix))] ?_
          refine wpq_re 21 (v := vb (a.fix == b.fix)) (Value.bool (((!y10) || (a.fix == b.fix)))) (by kernel_rfl) (re_or0 q13) ?_
          exact wpq_sub _ (by kernel_rfl) hk10
      · refine xB 1 [] [(22, vb ((!y10) || (a.fix == b.fix)))] ?_
        refine xSel [] ?_
        refine xSub [(22, vb ((!y10) || (a.fix == b.fix)))] ?_
        exact hN6 _ hS.symm _ _ _ e12 ⟨by kernel_rfl, by kernel_rfl⟩
    · have hS := cond_F q9 hS
      refine xB 12 [] [(22, vb false)] ?_
      refine xSel [] ?_
      refine xSub [(22, vb false)] ?_
      exact hN6 _ hS.symm _ _ _ (Gh.le.refl _) ⟨by kernel_rfl, by kernel_rfl⟩

def o40_L0 (k : Int) (p : Part) (s9 : Nat) : Option (Ctl (Nat) (Ctl (Unit) (Int))) :=
  (cond (decide (((s9 : Nat) : Int) < (((p.legs).length : Nat) : Int))) (bindO (τ := Int) (o59 (List.getD p.legs s9 default)) fun y16 => (cond ((y16 != 0)) (some (Ctl.done (Ctl.done ((y16 : Int))))) (letJ (τ := Bool) (cond ((((s9 : Nat) : Int) == 0)) (letJ (τ := Bool) (o60 (k : Int) (p.kind : Int) ((List.getD p.legs s9 default).type_ : Int)) fun y37 => (!y37)) (false)) fun t20 => (cond (t20) (some (Ctl.done (Ctl.done ((9 : Int))))) (bindO (τ := Bool) (cond (decide (((s9 : Nat) : Int) > 0)) (grd (decide (0 ≤ (((s9 : Nat) : Int) - 1) ∧ (((s9 : Nat) : Int) - 1) < (((p.legs).length : Nat) : Int))) (letJ (τ := Bool) (o44 (List.getD p.legs ((((s9 : Nat) : Int) - 1)).toNat default) (List.getD p.legs s9 default)) fun y33 => (some (!y33)))) (some (false))) fun t24 => (cond (t24) (some (Ctl.done (Ctl.done ((9 : Int))))) (grd (decide (((s9 : Nat) : Int) + 1 ≤ 9223372036854775807)) (some (Ctl.go (s9 + 1)))))))))) (some (Ctl.done (Ctl.go ()))))
def o40 (k : Int) (p : Part) : Option (Int) :=
  (cond (((((p.legs).length : Nat) : Int) == 0)) (some ((1 : Int))) (cond (decide ((((p.legs).length : Nat) : Int) > 24)) (some ((3 : Int))) (joinO (τ := Unit) (ρ := Int) (loopO (σ := Nat) (ρ := Ctl (Unit) (Int)) fuelN (o40_L0 k p) (0)) fun t4 => (some ((0 : Int))))))
set_option maxRecDepth 100000 in
theorem C40 (g : Gh) (k : Int) (p : Part) (Ap_legs : Option Addr) (cp_legs : Nat) (fp_legs : Arr g.r tyLeg Ap_legs cp_legs p.legs) {r : Int} (hS : o40 k p = some r) :
    Ctr Tryd.prog 40 [vy k, Value.agg #[vy p.kind, vt p.name, vs Ap_legs p.legs cp_legs]] g [] (fun v ψ o => v = vi r ∧ o = []) := by
  unfold o40 at hS
  refine xFn Tryd.f40 (Tryd.f40.body.getD .skip) 54 ?_
  have nfp_legs := fp_legs.len
  refine xSq ?_
  refine xRg ?_
  refine xE eB ?_
  rintro _ _ _ - ⟨b1, rfl, rfl, rfl⟩
  refine xB 1 [] [(0, vy k), (3, vp b1 0)] ?_
  refine xRe ?_
  refine wpq_then ?_
  refine xSq ?_
  refine xSq ?_
  refine xRg ?_
  refine xB 4 [(1, 0)] [(0, vy k), (3, vp b1 0), (11, vb ((((p.legs).length : Nat) : Int) == 0))] ?_
  refine xRe ?_
  refine wpq_then ?_
  refine xCd (((((p.legs).length : Nat) : Int) == 0)) (fun h2 => ?_) (fun h2 => ?_)
  · have hS := cond_T h2 hS
    have h2p : (((p.legs).length : Nat) : Int) = 0 := eq_of_beq h2
    refine xSq ?_
    refine xRg ?_
    refine xB 1 [] [(4, vi 1)] ?_
    refine xRe ?_
    refine wpq_then ?_
    have eS := (Option.some.inj hS).symm
    subst eS
    exact xRet [] [4] (Gh.le.refl _) ⟨by kernel_rfl, by kernel_rfl⟩ (fun _ _ h => h)
  · have hS := cond_F h2 hS
    have h2p : ¬ ((((p.legs).length : Nat) : Int) = 0) := ne_of_beq_false_ h2
    refine xSk ?_
    refine wpq_then ?_
    refine xSub [(0, vy k), (3, vp b1 0)] ?_
    refine xSq ?_
    refine xSq ?_
    refine xRg ?_
    refine xB 4 [(1, 0)] [(0, vy k), (3, vp b1 0), (15, vb (decide ((((p.legs).length : Nat) : Int) > 24)))] ?_
    refine xRe ?_
    refine wpq_then ?_
    refine xCd (decide ((((p.legs).length : Nat) : Int) > 24)) (fun h3 => ?_) (fun h3 => ?_)
    · have hS := cond_T h3 hS
      have h3p := of_decide_eq_true h3
      refine xSq ?_
      refine xRg ?_
      refine xB 1 [] [(4, vi 3)] ?_
      refine xRe ?_
      refine wpq_then ?_
      have eS := (Option.some.inj hS).symm
      subst eS
      exact xRet [] [4] (Gh.le.refl _) ⟨by kernel_rfl, by kernel_rfl⟩ (fun _ _ h => h)
    · have hS := cond_F h3 hS
      have h3p := of_decide_eq_false h3
      refine xSk ?_
      refine wpq_then ?_
      refine xSub [(0, vy k), (3, vp b1 0)] ?_
      refine xSq ?_
      refine xSq ?_
      refine xRg ?_
      refine xB 4 [(1, 0)] [(0, vy k), (3, vp b1 0), (17, vs Ap_legs p.legs cp_legs), (18, vi (((p.legs).length : Nat) : Int)), (19, vi 0)] ?_
      refine xRe ?_
      refine wpq_then ?_
      refine xJoinO hS (fun g own sl t4 => own = [] ∧ sl = []) ?_ ?_
      · rintro g5 _ _ t4 e6 ⟨rfl, rfl⟩ hS
        refine wpq_then ?_
        refine xSq ?_
        refine xRg ?_
        refine xB 1 [] [(4, vi 0)] ?_
        refine xRe ?_
        refine wpq_then ?_
        have eS := (Option.some.inj hS).symm
        subst eS
        exact xRet [] [4] e6 ⟨by kernel_rfl, by kernel_rfl⟩ (fun _ _ h => h)
      · intro uu4 hS hN4 hD4
        refine xBl 0 ?_
        refine xSub [(0, vy k), (3, vp b1 0), (17, vs Ap_legs p.legs cp_legs), (18, vi (((p.legs).length : Nat) : Int)), (19, vi 0)] ?_
        refine xLo hS (fun g own sl s9 => own = [some ⟨b1, 35, [vy p.kind, vt p.name, vs Ap_legs p.legs cp_legs]⟩] ∧ sl = [(0, vy k), (3, vp b1 0), (17, vs Ap_legs p.legs cp_legs), (18, vi (((p.legs).length : Nat) : Int)), (19, vi ((s9 : Nat) : Int))]) ⟨by kernel_rfl, by kernel_rfl⟩ ?_
        rintro g10 _ _ s9 uu9 e11 ⟨rfl, rfl⟩ hS Qr9 hN9 hD9
        unfold o40_L0 at hS
        refine xSq ?_
        refine xRg ?_
        refine xB 1 [] [(0, vy k), (3, vp b1 0), (17, vs Ap_legs p.legs cp_legs), (18, vi (((p.legs).length : Nat) : Int)), (19, vi ((s9 : Nat) : Int)), (20, vb (decide (((s9 : Nat) : Int) < (((p.legs).length : Nat) : Int))))] ?_
        refine xRe ?_
        refine wpq_then ?_
        refine xSq ?_
        refine xCd (decide (((s9 : Nat) : Int) < (((p.legs).length : Nat) : Int))) (fun h12 => ?_) (fun h12 => ?_)
        · have hS := cond_T h12 hS
          have h12p := of_decide_eq_true h12
          refine xSk ?_
          refine wpq_then ?_
          refine xSub [(0, vy k), (3, vp b1 0), (17, vs Ap_legs p.legs cp_legs), (18, vi (((p.legs).length : Nat) : Int)), (19, vi ((s9 : Nat) : Int))] ?_
          refine xSq ?_
          refine xBl 1 ?_
          refine xSq ?_
          refine xRg ?_
          have fp_legs := fp_legs.mono e11.r
          have i14 : s9 < (p.legs).length := by omega
          obtain ⟨ad13, cs13, hA13, hr13, hc13⟩ := fp_legs.at_ (get_getD (d := default) i14)
          obtain ⟨rfl⟩ := hr13
          refine xB 1 [] [(0, vy k), (3, vp b1 0), (17, vs Ap_legs p.legs cp_legs), (18, vi (((p.legs).length : Nat) : Int)), (19, vi ((s9 : Nat) : Int)), (21, vi ((s9 : Nat) : Int))] ?_
          refine xV (qIx s9 13 hA13 rfl i14) ?_
          refine xV (qLdP (Addr.add ad13 (s9 * 13)) 0 hc13) ?_
          refine xE eB ?_
          rintro _ _ _ - ⟨b15, rfl, rfl, rfl⟩
          refine xBo 2 [(5, 0)] [some ⟨b15, 46, (cLeg (List.getD p.legs s9 default))⟩, some ⟨b1, 35, [vy p.kind, vt p.name, vs Ap_legs p.legs cp_legs]⟩] [(0, vy k), (3, vp b1 0), (5, vi ((s9 : Nat) : Int)), (6, vp b15 0), (17, vs Ap_legs p.legs cp_legs), (18, vi (((p.legs).length : Nat) : Int)), (19, vi ((s9 : Nat) : Int))] ?_
          refine xRe ?_
          refine wpq_then ?_
          refine xSq ?_
          refine xSq ?_
          refine xRg ?_
          refine xB 1 [(0, 0)] [(0, vy k), (3, vp b1 0), (5, vi ((s9 : Nat) : Int)), (6, vp b15 0), (17, vs Ap_legs p.legs cp_legs), (18, vi (((p.legs).length : Nat) : Int)), (19, vi ((s9 : Nat) : Int)), (24, Value.agg #[vy ((List.getD p.legs s9 default).type_), vt ((List.getD p.legs s9 default).fix), vt ((List.getD p.legs s9 default).center), vy ((List.getD p.legs s9 default).turn), vb ((List.getD p.legs s9 default).over), vi ((List.getD p.legs s9 default).course), vi ((List.getD p.legs s9 default).dist), vi ((List.getD p.legs s9 default).radius), vi ((List.getD p.legs s9 default).theta), vi ((List.getD p.legs s9 default).alt.lo), vi ((List.getD p.legs s9 default).alt.hi), vi ((List.getD p.legs s9 default).speed), vi ((List.getD p.legs s9 default).rnp)])] ?_
          obtain ⟨y16, hy16, hS⟩ := bindO_T hS
          refine xE (eC 0 (fun g' lr eb ln => C59 g' (List.getD p.legs s9 default) hy16)) ?_
          rintro _ g17 _ e18 ⟨_, rfl, rfl, rfl⟩
          refine xB 1 [] [(0, vy k), (3, vp b1 0), (5, vi ((s9 : Nat) : Int)), (6, vp b15 0), (7, vi y16), (17, vs Ap_legs p.legs cp_legs), (18, vi (((p.legs).length : Nat) : Int)), (19, vi ((s9 : Nat) : Int))] ?_
          refine xRe ?_
          refine wpq_then ?_
          refine xSq ?_
          refine xRg ?_
          refine xB 2 [] [(0, vy k), (3, vp b1 0), (5, vi ((s9 : Nat) : Int)), (6, vp b15 0), (7, vi y16), (17, vs Ap_legs p.legs cp_legs), (18, vi (((p.legs).length : Nat) : Int)), (19, vi ((s9 : Nat) : Int)), (27, vb (y16 != 0))] ?_
          refine xRe ?_
          refine wpq_then ?_
          refine xCd ((y16 != 0)) (fun h19 => ?_) (fun h19 => ?_)
          · have hS := cond_T h19 hS
            have h19p : ¬ (y16 = 0) := ne_of_bne_ h19
            refine xSq ?_
            refine xRg ?_
            refine xB 2 [] [(4, vi y16)] ?_
            refine xRe ?_
            refine wpq_then ?_
            have eS := (Option.some.inj hS).symm
            have eS := (hD9 _ eS).symm
            have eS := (hD4 _ eS).symm
            subst eS
            exact xRet [] [4] (e11.trans e18) ⟨by kernel_rfl, by kernel_rfl⟩ (fun _ _ h => h)
          · have hS := cond_F h19 hS
            have h19p : y16 = 0 := eq_of_bne_false_ h19
            refine xSk ?_
            refine wpq_then ?_
            refine xSub [(0, vy k), (3, vp b1 0), (5, vi ((s9 : Nat) : Int)), (6, vp b15 0), (17, vs Ap_legs p.legs cp_legs), (18, vi (((p.legs).length : Nat) : Int)), (19, vi ((s9 : Nat) : Int))] ?_
            refine xSq ?_
            refine xSq ?_
            refine xRg ?_
            refine xB 3 [] [(0, vy k), (3, vp b1 0), (5, vi ((s9 : Nat) : Int)), (6, vp b15 0), (17, vs Ap_legs p.legs cp_legs), (18, vi (((p.legs).length : Nat) : Int)), (19, vi ((s9 : Nat) : Int)), (31, vb (((s9 : Nat) : Int) == 0))] ?_
            refine xGJl hS 11 (fun g own sl t20 => own = [some ⟨b15, 46, (cLeg (List.getD p.legs s9 default))⟩, some ⟨b1, 35, [vy p.kind, vt p.name, vs Ap_legs p.legs cp_legs]⟩] ∧ sl = [(0, vy k), (3, vp b1 0), (5, vi ((s9 : Nat) : Int)), (6, vp b15 0), (17, vs Ap_legs p.legs cp_legs), (18, vi (((p.legs).length : Nat) : Int)), (19, vi ((s9 : Nat) : Int)), (39, vb t20)]) ?_ ?_
            · rintro g21 _ _ t20 e22 ⟨rfl, rfl⟩ hS
              refine xRe ?_
              refine wpq_then ?_
              refine xCd (t20) (fun h23 => ?_) (fun h23 => ?_)
              · have hS := cond_T h23 hS
                refine xSq ?_
                refine xRg ?_
                refine xB 1 [] [(4, vi 9)] ?_
                refine xRe ?_
                refine wpq_then ?_
                have eS := (Option.some.inj hS).symm
                have eS := (hD9 _ eS).symm
                have eS := (hD4 _ eS).symm
                subst eS
                exact xRet [] [4] (e11.trans (e18.trans e22)) ⟨by kernel_rfl, by kernel_rfl⟩ (fun _ _ h => h)
              · have hS := cond_F h23 hS
                refine xSk ?_
                refine wpq_then ?_
                refine xSub [(0, vy k), (3, vp b1 0), (5, vi ((s9 : Nat) : Int)), (6, vp b15 0), (17, vs Ap_legs p.legs cp_legs), (18, vi (((p.legs).length : Nat) : Int)), (19, vi ((s9 : Nat) : Int))] ?_
                refine xSq ?_
                refine xDr 0 [4, 8, 9] [] [some ⟨b15, 46, (cLeg (List.getD p.legs s9 default))⟩, some ⟨b1, 35, [vy p.kind, vt p.name, vs Ap_legs p.legs cp_legs]⟩] 13 (fun RG => ?_) (fun _ _ _ _ _ h => h)
                refine xT 10 [0, 1, 2] [] [some 0, some 1] [(0, vy k), (3, vp b1 0), (5, vi ((s9 : Nat) : Int)), (6, vp b15 0), (17, vs Ap_legs p.legs cp_legs), (18, vi (((p.legs).length : Nat) : Int)), (19, vi ((s9 : Nat) : Int)), (42, vb (decide (((s9 : Nat) : Int) > 0)))] RG (Psi.le.refl _) ?_
                refine xGJoA hS 0 [true, true, true, true, true, true, true, true, true, true, true, true, true] (fun g own sl t24 => own = [some ⟨b15, 46, (cLeg (List.getD p.legs s9 default))⟩, some ⟨b1, 35, [vy p.kind, vt p.name, vs Ap_legs p.legs cp_legs]⟩] ∧ sl = [(0, vy k), (3, vp b1 0), (17, vs Ap_legs p.legs cp_legs), (18, vi (((p.legs).length : Nat) : Int)), (19, vi ((s9 : Nat) : Int)), (52, vb t24)]) ?_ ?_
                · rintro g25 _ _ t24 e26 ⟨rfl, rfl⟩ hS
                  refine xAe (lds := [4, 8, 9]) ?_
                  refine wpq_then ?_
                  refine xCd (t24) (fun h27 => ?_) (fun h27 => ?_)
                  · have hS := cond_T h27 hS
                    refine xSq ?_
                    refine xRg ?_
                    refine xB 1 [] [(4, vi 9)] ?_
                    refine xRe ?_
                    refine wpq_then ?_
                    have eS := (Option.some.inj hS).symm
                    have eS := (hD9 _ eS).symm
                    have eS := (hD4 _ eS).symm
                    subst eS
                    exact xRet [] [4] (e11.trans (e18.trans (e22.trans e26))) ⟨by kernel_rfl, by kernel_rfl⟩ (fun _ _ h => h)
                  · have hS := cond_F h27 hS
                    refine xSk ?_
                    refine wpq_blockN ?_
                    refine wpq_then ?_
                    refine xSub [(0, vy k), (3, vp b1 0), (17, vs Ap_legs p.legs cp_legs), (18, vi (((p.legs).length : Nat) : Int)), (19, vi ((s9 : Nat) : Int))] ?_
                    refine xRg ?_
                    obtain ⟨q28, hS⟩ := grd_T hS
                    have q28p := of_decide_eq_true q28
                    refine xV (qAdd .i64 (((s9 : Nat) : Int)) (1) (wr64 (by omega))) ?_
                    refine xB 1 [] [(0, vy k), (3, vp b1 0), (17, vs Ap_legs p.legs cp_legs), (18, vi (((p.legs).length : Nat) : Int)), (19, vi (((s9 : Nat) : Int) + 1))] ?_
                    refine xRe ?_
                    refine wpq_thenN ?_
                    refine xSel [some 1] ?_
                    refine xSub [(0, vy k), (3, vp b1 0), (17, vs Ap_legs p.legs cp_legs), (18, vi (((p.legs).length : Nat) : Int)), (19, vi (((s9 : Nat) : Int) + 1))] ?_
                    have eS := (Option.some.inj hS).symm
                    exact hN9 _ eS _ _ _ (e18.trans (e22.trans e26)) ⟨by kernel_rfl, by kernel_rfl⟩
                · intro uu24 hS hN24
                  refine wpq_split 42 (b := decide (((s9 : Nat) : Int) > 0)) (by kernel_rfl) (fun q29 => ?_) (fun q29 => ?_)
                  · have hS := cond_T q29 hS
                    have q29p := of_decide_eq_true q29
                    refine xT 7 [3, 4, 5] [(4, 1)] [some 0, some 1] [(0, vy k), (3, vp b1 0), (6, vp b15 0), (17, vs Ap_legs p.legs cp_legs), (18, vi (((p.legs).length : Nat) : Int)), (19, vi ((s9 : Nat) : Int)), (42, vb true), (44, vs Ap_legs p.legs cp_legs), (45, vi ((s9 : Nat) : Int))] RG (Psi.le.refl _) ?_
                    refine xTp 6 RG (fun _ => (qSub .i64 (((s9 : Nat) : Int)) (1) (wr64 (by omega)))) ?_
                    have fp_legs := fp_legs.mono (e18.trans e22).r
                    obtain ⟨q31, hS⟩ := grd_T hS
                    have q31p := of_decide_eq_true q31
                    have i32 : ((((s9 : Nat) : Int) - 1)).toNat < (p.legs).length := by omega
                    obtain ⟨ad30, cs30, hA30, hr30, hc30⟩ := fp_legs.at_ (get_getD (d := default) i32)
                    obtain ⟨rfl⟩ := hr30
                    refine xTp 7 RG (fun _ => (qIx ((((s9 : Nat) : Int) - 1)).toNat 13 hA30 (show ((((s9 : Nat) : Int) - 1) : Int) = _ from by omega) i32)) ?_
                    refine xTv 8 [some 0, some 1] RG (Psi.le.refl _) (qLdP (Addr.add ad30 (((((s9 : Nat) : Int) - 1)).toNat * 13)) 0 hc30) ?_
                    refine xT 3 [9] [(9, 0)] [some 0, some 1] [(0, vy k), (3, vp b1 0), (17, vs Ap_legs p.legs cp_legs), (18, vi (((p.legs).length : Nat) : Int)), (19, vi ((s9 : Nat) : Int)), (42, vb true), (48, Value.agg #[vy ((List.getD p.legs ((((s9 : Nat) : Int) - 1)).toNat default).type_), vt ((List.getD p.legs ((((s9 : Nat) : Int) - 1)).toNat default).fix), vt ((List.getD p.legs ((((s9 : Nat) : Int) - 1)).toNat default).center), vy ((List.getD p.legs ((((s9 : Nat) : Int) - 1)).toNat default).turn), vb ((List.getD p.legs ((((s9 : Nat) : Int) - 1)).toNat default).over), vi ((List.getD p.legs ((((s9 : Nat) : Int) - 1)).toNat default).course), vi ((List.getD p.legs ((((s9 : Nat) : Int) - 1)).toNat default).dist), vi ((List.getD p.legs ((((s9 : Nat) : Int) - 1)).toNat default).radius), vi ((List.getD p.legs ((((s9 : Nat) : Int) - 1)).toNat default).theta), vi ((List.getD p.legs ((((s9 : Nat) : Int) - 1)).toNat default).alt.lo), vi ((List.getD p.legs ((((s9 : Nat) : Int) - 1)).toNat default).alt.hi), vi ((List.getD p.legs ((((s9 : Nat) : Int) - 1)).toNat default).speed), vi ((List.getD p.legs ((((s9 : Nat) : Int) - 1)).toNat default).rnp)]), (49, Value.agg #[vy ((List.getD p.legs s9 default).type_), vt ((List.getD p.legs s9 default).fix), vt ((List.getD p.legs s9 default).center), vy ((List.getD p.legs s9 default).turn), vb ((List.getD p.legs s9 default).over), vi ((List.getD p.legs s9 default).course), vi ((List.getD p.legs s9 default).dist), vi ((List.getD p.legs s9 default).radius), vi ((List.getD p.legs s9 default).theta), vi ((List.getD p.legs s9 default).alt.lo), vi ((List.getD p.legs s9 default).alt.hi), vi ((List.getD p.legs s9 default).speed), vi ((List.getD p.legs s9 default).rnp)])] RG (Psi.le.refl _) ?_
                    obtain ⟨y33, hy33, hS⟩ := letJ_T hS
                    refine xO1 (lds := [4, 8, 9]) 10 ?_
                    refine xIe (lds := [4, 8, 9]) (Psi.le.refl _) (eC 0 (fun g' lr eb ln => C44 g' (List.getD p.legs ((((s9 : Nat) : Int) - 1)).toNat default) (List.getD p.legs s9 default) hy33)) ?_
                    rintro _ g34 _ e35 ⟨_, rfl, rfl, rfl⟩
                    refine kk [some 0, some 1] ?_
                    refine xT 0 [11, 12] [] [some 0, some 1] [(0, vy k), (3, vp b1 0), (17, vs Ap_legs p.legs cp_legs), (18, vi (((p.legs).length : Nat) : Int)), (19, vi ((s9 : Nat) : Int)), (52, vb (!y33))] RG e35.r ?_
                    refine xSub [(0, vy k), (3, vp b1 0), (17, vs Ap_legs p.legs cp_legs), (18, vi (((p.legs).length : Nat) : Int)), (19, vi ((s9 : Nat) : Int)), (52, vb (!y33))] ?_
                    exact hN24 _ (Option.some.inj hS).symm _ _ _ e35 ⟨by kernel_rfl, by kernel_rfl⟩
                  · have hS := cond_F q29 hS
                    have q29p := of_decide_eq_false q29
                    refine xT 3 [3, 4, 5, 6, 7, 8, 9] [] [some 0, some 1] [(0, vy k), (3, vp b1 0), (17, vs Ap_legs p.legs cp_legs), (18, vi (((p.legs).length : Nat) : Int)), (19, vi ((s9 : Nat) : Int)), (42, vb false), (48, undef), (49, undef)] RG (Psi.le.refl _) ?_
                    refine xO1 (lds := [4, 8, 9]) 10 ?_
                    refine xIb (lds := [4, 8, 9]) [] ?_
                    refine xT 0 [11, 12] [] [some 0, some 1] [(0, vy k), (3, vp b1 0), (17, vs Ap_legs p.legs cp_legs), (18, vi (((p.legs).length : Nat) : Int)), (19, vi ((s9 : Nat) : Int)), (52, vb false)] RG (Psi.le.refl _) ?_
                    refine xSub [(0, vy k), (3, vp b1 0), (17, vs Ap_legs p.legs cp_legs), (18, vi (((p.legs).length : Nat) : Int)), (19, vi ((s9 : Nat) : Int)), (52, vb false)] ?_
                    exact hN24 _ (Option.some.inj hS).symm _ _ _ (Gh.le.refl _) ⟨by kernel_rfl, by kernel_rfl⟩
            · intro uu20 hS hN20
              refine wpq_split 31 (b := (((s9 : Nat) : Int) == 0)) (by kernel_rfl) (fun q36 => ?_) (fun q36 => ?_)
              · have hS := cond_T q36 hS
                have q36p : ((s9 : Nat) : Int) = 0 := eq_of_beq q36
                refine xB 5 [(5, 1), (7, 0)] [(0, vy k), (3, vp b1 0), (5, vi ((s9 : Nat) : Int)), (6, vp b15 0), (17, vs Ap_legs p.legs cp_legs), (18, vi (((p.legs).length : Nat) : Int)), (19, vi ((s9 : Nat) : Int)), (31, vb true), (32, vy k), (34, vy p.kind), (36, vy ((List.getD p.legs s9 default).type_))] ?_
                obtain ⟨y37, hy37, hS⟩ := letJ_T hS
                refine xE (eC 0 (fun g' lr eb ln => C60 g' (k : Int) (p.kind : Int) ((List.getD p.legs s9 default).type_ : Int) hy37)) ?_
                rintro _ g38 _ e39 ⟨_, rfl, rfl, rfl⟩
                refine xB 2 [] [(0, vy k), (3, vp b1 0), (5, vi ((s9 : Nat) : Int)), (6, vp b15 0), (17, vs Ap_legs p.legs cp_legs), (18, vi (((p.legs).length : Nat) : Int)), (19, vi ((s9 : Nat) : Int)), (39, vb (!y37))] ?_
                refine xSub [(0, vy k), (3, vp b1 0), (5, vi ((s9 : Nat) : Int)), (6, vp b15 0), (17, vs Ap_legs p.legs cp_legs), (18, vi (((p.legs).length : Nat) : Int)), (19, vi ((s9 : Nat) : Int)), (39, vb (!y37))] ?_
                exact hN20 _ hS.symm _ _ _ e39 ⟨by kernel_rfl, by kernel_rfl⟩
              · have hS := cond_F q36 hS
                have q36p : ¬ (((s9 : Nat) : Int) = 0) := ne_of_beq_false_ q36
                refine xB 8 [] [(0, vy k), (3, vp b1 0), (5, vi ((s9 : Nat) : Int)), (6, vp b15 0), (17, vs Ap_legs p.legs cp_legs), (18, vi (((p.legs).length : Nat) : Int)), (19, vi ((s9 : Nat) : Int)), (39, vb false)] ?_
                refine xSub [(0, vy k), (3, vp b1 0), (5, vi ((s9 : Nat) : Int)), (6, vp b15 0), (17, vs Ap_legs p.legs cp_legs), (18, vi (((p.legs).length : Nat) : Int)), (19, vi ((s9 : Nat) : Int)), (39, vb false)] ?_
                exact hN20 _ hS.symm _ _ _ (Gh.le.refl _) ⟨by kernel_rfl, by kernel_rfl⟩
        · have hS := cond_F h12 hS
          have h12p := of_decide_eq_false h12
          refine xEx 0 ?_
          refine wpq_thenX ?_
          refine wpq_thenX ?_
          refine wpq_blockE ?_
          refine xSel [] ?_
          refine xSub [] ?_
          have eS := (Option.some.inj hS).symm
          have eS := (hD9 _ eS).symm
          exact hN4 _ eS _ _ _ e11 ⟨by kernel_rfl, by kernel_rfl⟩

end Go.Proofs.YthfekfebgghjhaaDoor
