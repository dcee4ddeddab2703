/-
Walks, printed by wip/gen. Conditions: each theorem's own.
-/
import Derived.Test.YthfekfebgghjhaaDoorT2
namespace Go.Proofs.YthfekfebgghjhaaDoor
set_option linter.unusedVariables false
set_option linter.unusedSimpArgs false
open Go.RowKit
def o43 (t : Int) : Bool :=
  ((((decide (t ≥ 1) && decide (t ≤ 6)) || (decide (t ≥ 14) && decide (t ≤ 17)))))
set_option maxRecDepth 100000 in
theorem C43 (g : Gh) (t : Int) {r : Bool} (hS : o43 t = r) :
    Ctr Tryd.prog 43 [vy t] g [] (fun v ψ o => v = vb r ∧ o = []) := by
  unfold o43 at hS
  refine xFn Tryd.f43 (Tryd.f43.body.getD .skip) 17 ?_
  refine xSq ?_
  refine xRg ?_
  refine xB 1 [] [(0, vy t)] ?_
  refine xRe ?_
  refine wpq_then ?_
  refine xSq ?_
  refine xRg ?_
  refine xB 3 [] [(0, vy t), (5, vb (decide (t ≥ 1)))] ?_
  refine wpr_grp 6 [(0, vy t), (8, vb (decide (t ≥ 1) && decide (t ≤ 6)))] (fun hk2 => ?_) ?_
  · refine wpq_split 5 (b := decide (t ≥ 1)) (by kernel_rfl) (fun q1 => ?_) (fun q1 => ?_)
    · have q1p := of_decide_eq_true q1
      refine xB 3 [] [(0, vy t), (8, vb (decide (t ≤ 6)))] ?_
      refine wpq_re 8 (v := vb (decide (t ≤ 6))) (Value.bool ((decide (t ≥ 1) && decide (t ≤ 6)))) (by kernel_rfl) (re_and1 q1) ?_
      exact wpq_sub _ (by kernel_rfl) hk2
    · have q1p := of_decide_eq_false q1
      refine xB 3 [] [(0, vy t), (8, vb false)] ?_
      refine wpq_re 8 (v := vb false) (Value.bool ((decide (t ≥ 1) && decide (t ≤ 6)))) (by kernel_rfl) (re_and0 q1) ?_
      exact wpq_sub _ (by kernel_rfl) hk2
  · refine xB 1 [] [(0, vy t), (9, vb (decide (t ≥ 1) && decide (t ≤ 6)))] ?_
    refine wpr_grp 14 [(16, vb ((decide (t ≥ 1) && decide (t ≤ 6)) || (decide (t ≥ 14) && decide (t ≤ 17))))] (fun hk6 => ?_) ?_
    · refine wpq_split 9 (b := (decide (t ≥ 1) && decide (t ≤ 6))) (by kernel_rfl) (fun q2 => ?_) (fun q2 => ?_)
      · have q2l := (and_true_ q2).1
        have q2r := (and_true_ q2).2
        have q2lp := of_decide_eq_true q2l
        have q2rp := of_decide_eq_true q2r
        refine xB 7 [] [(16, vb true)] ?_
        refine wpq_re 16 (v := vb true) (Value.bool (((decide (t ≥ 1) && decide (t ≤ 6)) || (decide (t ≥ 14) && decide (t ≤ 17))))) (by kernel_rfl) (re_or1 q2) ?_
        exact wpq_sub _ (by kernel_rfl) hk6
      · refine xB 3 [] [(0, vy t), (9, vb false), (12, vb (decide (t ≥ 14)))] ?_
        refine wpr_grp 13 [(9, vb false), (15, vb (decide (t ≥ 14) && decide (t ≤ 17)))] (fun hk9 => ?_) ?_
        · refine wpq_split 12 (b := decide (t ≥ 14)) (by kernel_rfl) (fun q3 => ?_) (fun q3 => ?_)
          · have q3p := of_decide_eq_true q3
            refine xB 3 [] [(9, vb false), (15, vb (decide (t ≤ 17)))] ?_
            refine wpq_re 15 (v := vb (decide (t ≤ 17))) (Value.bool ((decide (t ≥ 14) && decide (t ≤ 17)))) (by kernel_rfl) (re_and1 q3) ?_
            exact wpq_sub _ (by kernel_rfl) hk9
          · have q3p := of_decide_eq_false q3
            refine xB 3 [] [(9, vb false), (15, vb false)] ?_
            refine wpq_re 15 (v := vb false) (Value.bool ((decide (t ≥ 14) && decide (t ≤ 17)))) (by kernel_rfl) (re_and0 q3) ?_
            exact wpq_sub _ (by kernel_rfl) hk9
        · refine xB 1 [] [(16, vb (decide (t ≥ 14) && decide (t ≤ 17)))] ?_
          refine wpq_re 16 (v := vb (decide (t ≥ 14) && decide (t ≤ 17))) (Value.bool (((decide (t ≥ 1) && decide (t ≤ 6)) || (decide (t ≥ 14) && decide (t ≤ 17))))) (by kernel_rfl) (re_or0 q2) ?_
          exact wpq_sub _ (by kernel_rfl) hk6
    · refine xB 1 [] [(2, vb ((decide (t ≥ 1) && decide (t ≤ 6)) || (decide (t ≥ 14) && decide (t ≤ 17))))] ?_
      refine xRe ?_
      refine wpq_then ?_
      have eS := hS.symm
      subst eS
      exact xRet [] [2] (Gh.le.refl _) ⟨by kernel_rfl, by kernel_rfl⟩ (fun _ _ h => h)

def o66 (t : Int) : (List UInt8) :=
  (cond ((t == 1)) ([70]) (letJ (τ := Bool) (cond ((t == 2)) ((t == 2)) ((t == 4))) fun t2 => (cond (t2) ([70, 111]) (cond ((t == 3)) ([70, 111, 75]) (letJ (τ := Bool) (cond ((t == 5)) ((t == 5)) ((t == 6))) fun t7 => (cond (t7) ([70, 67, 84, 82]) (cond ((t == 7)) ([75, 97]) (cond ((t == 8)) ([67, 75, 68]) (cond ((t == 9)) ([75]) (cond ((t == 10)) ([67, 75, 72]) (cond ((t == 11)) ([70, 75, 97]) (cond ((t == 12)) ([70, 75, 68]) (cond ((t == 13)) ([70, 75]) (cond ((t == 14)) ([70, 84, 75, 68, 97]) (letJ (τ := Bool) (cond ((t == 15)) ((t == 15)) (letJ (τ := Bool) (cond ((t == 16)) ((t == 16)) ((t == 17))) fun t24 => (t24))) fun t19 => (cond (t19) ([70, 84, 75, 68]) ([])))))))))))))))))
set_option maxRecDepth 100000 in
theorem C66 (g : Gh) (t : Int) {r : (List UInt8)} (hS : o66 t = r) :
    Ctr Tryd.prog 66 [vy t] g [] (fun v ψ o => v = vt r ∧ o = []) := by
  unfold o66 at hS
  refine xFn Tryd.f66 (Tryd.f66.body.getD .skip) 34 ?_
  refine xSq ?_
  refine xRg ?_
  refine xB 1 [] [(0, vy t)] ?_
  refine xRe ?_
  refine wpq_then ?_
  refine xSq ?_
  refine xSq ?_
  refine xRg ?_
  refine xB 1 [] [(3, vy t)] ?_
  refine xRe ?_
  refine wpq_then ?_
  refine xBl 0 ?_
  refine xSq ?_
  refine xRg ?_
  refine xB 2 [] [(3, vy t), (4, vb (t == 1))] ?_
  refine xRe ?_
  refine wpq_then ?_
  refine xCd ((t == 1)) (fun h1 => ?_) (fun h1 => ?_)
  · have hS := cond_T h1 hS
    have h1p : t = 1 := eq_of_beq h1
    refine xSq ?_
    refine xRg ?_
    refine xB 1 [] [(2, vt ([70]))] ?_
    refine xRe ?_
    refine wpq_then ?_
    have eS := hS.symm
    subst eS
    exact xRet [] [2] (Gh.le.refl _) ⟨by kernel_rfl, by kernel_rfl⟩ (fun _ _ h => h)
  · have hS := cond_F h1 hS
    have h1p : ¬ (t = 1) := ne_of_beq_false_ h1
    refine xSq ?_
    refine xSq ?_
    refine xRg ?_
    refine xB 2 [] [(3, vy t), (6, vb (t == 2))] ?_
    refine xRe ?_
    refine wpq_then ?_
    refine xLetJ hS (fun g own sl t2 => own = [] ∧ sl = [(3, vy t), (6, vb t2)]) ?_ ?_
    · rintro g3 _ _ t2 e4 ⟨rfl, rfl⟩ hS
      refine wpq_then ?_
      refine xCd (t2) (fun h5 => ?_) (fun h5 => ?_)
      · have hS := cond_T h5 hS
        refine xSq ?_
        refine xRg ?_
        refine xB 1 [] [(2, vt ([70, 111]))] ?_
        refine xRe ?_
        refine wpq_then ?_
        have eS := hS.symm
        subst eS
        exact xRet [] [2] e4 ⟨by kernel_rfl, by kernel_rfl⟩ (fun _ _ h => h)
      · have hS := cond_F h5 hS
        refine xSq ?_
        refine xRg ?_
        refine xB 2 [] [(3, vy t), (9, vb (t == 3))] ?_
        refine xRe ?_
        refine wpq_then ?_
        refine xCd ((t == 3)) (fun h6 => ?_) (fun h6 => ?_)
        · have hS := cond_T h6 hS
          have h6p : t = 3 := eq_of_beq h6
          refine xSq ?_
          refine xRg ?_
          refine xB 1 [] [(2, vt ([70, 111, 75]))] ?_
          refine xRe ?_
          refine wpq_then ?_
          have eS := hS.symm
          subst eS
          exact xRet [] [2] e4 ⟨by kernel_rfl, by kernel_rfl⟩ (fun _ _ h => h)
        · have hS := cond_F h6 hS
          have h6p : ¬ (t = 3) := ne_of_beq_false_ h6
          refine xSq ?_
          refine xSq ?_
          refine xRg ?_
          refine xB 2 [] [(3, vy t), (11, vb (t == 5))] ?_
          refine xRe ?_
          refine wpq_then ?_
          refine xLetJ hS (fun g own sl t7 => own = [] ∧ sl = [(3, vy t), (11, vb t7)]) ?_ ?_
          · rintro g8 _ _ t7 e9 ⟨rfl, rfl⟩ hS
            refine wpq_then ?_
            refine xCd (t7) (fun h10 => ?_) (fun h10 => ?_)
            · have hS := cond_T h10 hS
              refine xSq ?_
              refine xRg ?_
              refine xB 1 [] [(2, vt ([70, 67, 84, 82]))] ?_
              refine xRe ?_
              refine wpq_then ?_
              have eS := hS.symm
              subst eS
              exact xRet [] [2] (e4.trans e9) ⟨by kernel_rfl, by kernel_rfl⟩ (fun _ _ h => h)
            · have hS := cond_F h10 hS
              refine xSq ?_
              refine xRg ?_
              refine xB 2 [] [(3, vy t), (14, vb (t == 7))] ?_
              refine xRe ?_
              refine wpq_then ?_
              refine xCd ((t == 7)) (fun h11 => ?_) (fun h11 => ?_)
              · have hS := cond_T h11 hS
                have h11p : t = 7 := eq_of_beq h11
                refine xSq ?_
                refine xRg ?_
                refine xB 1 [] [(2, vt ([75, 97]))] ?_
                refine xRe ?_
                refine wpq_then ?_
                have eS := hS.symm
                subst eS
                exact xRet [] [2] (e4.trans e9) ⟨by kernel_rfl, by kernel_rfl⟩ (fun _ _ h => h)
              · have hS := cond_F h11 hS
                have h11p : ¬ (t = 7) := ne_of_beq_false_ h11
                refine xSq ?_
                refine xRg ?_
                refine xB 2 [] [(3, vy t), (16, vb (t == 8))] ?_
                refine xRe ?_
                refine wpq_then ?_
                refine xCd ((t == 8)) (fun h12 => ?_) (fun h12 => ?_)
                · have hS := cond_T h12 hS
                  have h12p : t = 8 := eq_of_beq h12
                  refine xSq ?_
                  refine xRg ?_
                  refine xB 1 [] [(2, vt ([67, 75, 68]))] ?_
                  refine xRe ?_
                  refine wpq_then ?_
                  have eS := hS.symm
                  subst eS
                  exact xRet [] [2] (e4.trans e9) ⟨by kernel_rfl, by kernel_rfl⟩ (fun _ _ h => h)
                · have hS := cond_F h12 hS
                  have h12p : ¬ (t = 8) := ne_of_beq_false_ h12
                  refine xSq ?_
                  refine xRg ?_
                  refine xB 2 [] [(3, vy t), (18, vb (t == 9))] ?_
                  refine xRe ?_
                  refine wpq_then ?_
                  refine xCd ((t == 9)) (fun h13 => ?_) (fun h13 => ?_)
                  · have hS := cond_T h13 hS
                    have h13p : t = 9 := eq_of_beq h13
                    refine xSq ?_
                    refine xRg ?_
                    refine xB 1 [] [(2, vt ([75]))] ?_
                    refine xRe ?_
                    refine wpq_then ?_
                    have eS := hS.symm
                    subst eS
                    exact xRet [] [2] (e4.trans e9) ⟨by kernel_rfl, by kernel_rfl⟩ (fun _ _ h => h)
                  · have hS := cond_F h13 hS
                    have h13p : ¬ (t = 9) := ne_of_beq_false_ h13
                    refine xSq ?_
                    refine xRg ?_
                    refine xB 2 [] [(3, vy t), (20, vb (t == 10))] ?_
                    refine xRe ?_
                    refine wpq_then ?_
                    refine xCd ((t == 10)) (fun h14 => ?_) (fun h14 => ?_)
                    · have hS := cond_T h14 hS
                      have h14p : t = 10 := eq_of_beq h14
                      refine xSq ?_
                      refine xRg ?_
                      refine xB 1 [] [(2, vt ([67, 75, 72]))] ?_
                      refine xRe ?_
                      refine wpq_then ?_
                      have eS := hS.symm
                      subst eS
                      exact xRet [] [2] (e4.trans e9) ⟨by kernel_rfl, by kernel_rfl⟩ (fun _ _ h => h)
                    · have hS := cond_F h14 hS
                      have h14p : ¬ (t = 10) := ne_of_beq_false_ h14
                      refine xSq ?_
                      refine xRg ?_
                      refine xB 2 [] [(3, vy t), (22, vb (t == 11))] ?_
                      refine xRe ?_
                      refine wpq_then ?_
                      refine xCd ((t == 11)) (fun h15 => ?_) (fun h15 => ?_)
                      · have hS := cond_T h15 hS
                        have h15p : t = 11 := eq_of_beq h15
                        refine xSq ?_
                        refine xRg ?_
                        refine xB 1 [] [(2, vt ([70, 75, 97]))] ?_
                        refine xRe ?_
                        refine wpq_then ?_
                        have eS := hS.symm
                        subst eS
                        exact xRet [] [2] (e4.trans e9) ⟨by kernel_rfl, by kernel_rfl⟩ (fun _ _ h => h)
                      · have hS := cond_F h15 hS
                        have h15p : ¬ (t = 11) := ne_of_beq_false_ h15
                        refine xSq ?_
                        refine xRg ?_
                        refine xB 2 [] [(3, vy t), (24, vb (t == 12))] ?_
                        refine xRe ?_
                        refine wpq_then ?_
                        refine xCd ((t == 12)) (fun h16 => ?_) (fun h16 => ?_)
                        · have hS := cond_T h16 hS
                          have h16p : t = 12 := eq_of_beq h16
                          refine xSq ?_
                          refine xRg ?_
                          refine xB 1 [] [(2, vt ([70, 75, 68]))] ?_
                          refine xRe ?_
                          refine wpq_then ?_
                          have eS := hS.symm
                          subst eS
                          exact xRet [] [2] (e4.trans e9) ⟨by kernel_rfl, by kernel_rfl⟩ (fun _ _ h => h)
                        · have hS := cond_F h16 hS
                          have h16p : ¬ (t = 12) := ne_of_beq_false_ h16
                          refine xSq ?_
                          refine xRg ?_
                          refine xB 2 [] [(3, vy t), (26, vb (t == 13))] ?_
                          refine xRe ?_
                          refine wpq_then ?_
                          refine xCd ((t == 13)) (fun h17 => ?_) (fun h17 => ?_)
                          · have hS := cond_T h17 hS
                            have h17p : t = 13 := eq_of_beq h17
                            refine xSq ?_
                            refine xRg ?_
                            refine xB 1 [] [(2, vt ([70, 75]))] ?_
                            refine xRe ?_
                            refine wpq_then ?_
                            have eS := hS.symm
                            subst eS
                            exact xRet [] [2] (e4.trans e9) ⟨by kernel_rfl, by kernel_rfl⟩ (fun _ _ h => h)
                          · have hS := cond_F h17 hS
                            have h17p : ¬ (t = 13) := ne_of_beq_false_ h17
                            refine xSq ?_
                            refine xRg ?_
                            refine xB 2 [] [(3, vy t), (28, vb (t == 14))] ?_
                            refine xRe ?_
                            refine wpq_then ?_
                            refine xCd ((t == 14)) (fun h18 => ?_) (fun h18 => ?_)
                            · have hS := cond_T h18 hS
                              have h18p : t = 14 := eq_of_beq h18
                              refine xSq ?_
                              refine xRg ?_
                              refine xB 1 [] [(2, vt ([70, 84, 75, 68, 97]))] ?_
                              refine xRe ?_
                              refine wpq_then ?_
                              have eS := hS.symm
                              subst eS
                              exact xRet [] [2] (e4.trans e9) ⟨by kernel_rfl, by kernel_rfl⟩ (fun _ _ h => h)
                            · have hS := cond_F h18 hS
                              have h18p : ¬ (t = 14) := ne_of_beq_false_ h18
                              refine xSq ?_
                              refine xSq ?_
                              refine xRg ?_
                              refine xB 2 [] [(3, vy t), (30, vb (t == 15))] ?_
                              refine xRe ?_
                              refine wpq_then ?_
                              refine xLetJ hS (fun g own sl t19 => own = [] ∧ sl = [(30, vb t19)]) ?_ ?_
                              · rintro g20 _ _ t19 e21 ⟨rfl, rfl⟩ hS
                                refine wpq_then ?_
                                refine xCd (t19) (fun h22 => ?_) (fun h22 => ?_)
                                · have hS := cond_T h22 hS
                                  refine xSq ?_
                                  refine xRg ?_
                                  refine xB 1 [] [(2, vt ([70, 84, 75, 68]))] ?_
                                  refine xRe ?_
                                  refine wpq_then ?_
                                  have eS := hS.symm
                                  subst eS
                                  exact xRet [] [2] (e4.trans (e9.trans e21)) ⟨by kernel_rfl, by kernel_rfl⟩ (fun _ _ h => h)
                                · have hS := cond_F h22 hS
                                  refine xSk ?_
                                  refine wpq_blockN ?_
                                  refine wpq_then ?_
                                  refine xSub [] ?_
                                  refine xSq ?_
                                  refine xRg ?_
                                  refine xB 1 [] [(2, vt ([]))] ?_
                                  refine xRe ?_
                                  refine wpq_then ?_
                                  have eS := hS.symm
                                  subst eS
                                  exact xRet [] [2] (e4.trans (e9.trans e21)) ⟨by kernel_rfl, by kernel_rfl⟩ (fun _ _ h => h)
                              · intro uu19 hS hN19
                                refine xCd ((t == 15)) (fun h23 => ?_) (fun h23 => ?_)
                                · have hS := cond_T h23 hS
                                  have h23p : t = 15 := eq_of_beq h23
                                  refine xSk ?_
                                  refine xSub [(30, vb (t == 15))] ?_
                                  have eS := hS.symm
                                  exact hN19 _ eS _ _ _ (Gh.le.refl _) ⟨by kernel_rfl, by kernel_rfl⟩
                                · have hS := cond_F h23 hS
                                  have h23p : ¬ (t = 15) := ne_of_beq_false_ h23
                                  refine xSq ?_
                                  refine xRg ?_
                                  refine xB 2 [] [(3, vy t), (30, vb (t == 16))] ?_
                                  refine xRe ?_
                                  refine wpq_then ?_
                                  refine xLetJ hS (fun g own sl t24 => own = [] ∧ sl = [(30, vb t24)]) ?_ ?_
                                  · rintro g25 _ _ t24 e26 ⟨rfl, rfl⟩ hS
                                    refine xSub [(30, vb t24)] ?_
                                    have eS := hS.symm
                                    exact hN19 _ eS _ _ _ e26 ⟨by kernel_rfl, by kernel_rfl⟩
                                  · intro uu24 hS hN24
                                    refine xCd ((t == 16)) (fun h27 => ?_) (fun h27 => ?_)
                                    · have hS := cond_T h27 hS
                                      have h27p : t = 16 := eq_of_beq h27
                                      refine xSk ?_
                                      refine xSub [(30, vb (t == 16))] ?_
                                      have eS := hS.symm
                                      exact hN24 _ eS _ _ _ (Gh.le.refl _) ⟨by kernel_rfl, by kernel_rfl⟩
                                    · have hS := cond_F h27 hS
                                      have h27p : ¬ (t = 16) := ne_of_beq_false_ h27
                                      refine xRg ?_
                                      refine xB 2 [] [(30, vb (t == 17))] ?_
                                      refine xRe ?_
                                      refine xSub [(30, vb (t == 17))] ?_
                                      have eS := hS.symm
                                      exact hN24 _ eS _ _ _ (Gh.le.refl _) ⟨by kernel_rfl, by kernel_rfl⟩
          · intro uu7 hS hN7
            refine xCd ((t == 5)) (fun h28 => ?_) (fun h28 => ?_)
            · have hS := cond_T h28 hS
              have h28p : t = 5 := eq_of_beq h28
              refine xSk ?_
              refine xSub [(3, vy t), (11, vb (t == 5))] ?_
              have eS := hS.symm
              exact hN7 _ eS _ _ _ (Gh.le.refl _) ⟨by kernel_rfl, by kernel_rfl⟩
            · have hS := cond_F h28 hS
              have h28p : ¬ (t = 5) := ne_of_beq_false_ h28
              refine xRg ?_
              refine xB 2 [] [(3, vy t), (11, vb (t == 6))] ?_
              refine xRe ?_
              refine xSub [(3, vy t), (11, vb (t == 6))] ?_
              have eS := hS.symm
              exact hN7 _ eS _ _ _ (Gh.le.refl _) ⟨by kernel_rfl, by kernel_rfl⟩
    · intro uu2 hS hN2
      refine xCd ((t == 2)) (fun h29 => ?_) (fun h29 => ?_)
      · have hS := cond_T h29 hS
        have h29p : t = 2 := eq_of_beq h29
        refine xSk ?_
        refine xSub [(3, vy t), (6, vb (t == 2))] ?_
        have eS := hS.symm
        exact hN2 _ eS _ _ _ (Gh.le.refl _) ⟨by kernel_rfl, by kernel_rfl⟩
      · have hS := cond_F h29 hS
        have h29p : ¬ (t = 2) := ne_of_beq_false_ h29
        refine xRg ?_
        refine xB 2 [] [(3, vy t), (6, vb (t == 4))] ?_
        refine xRe ?_
        refine xSub [(3, vy t), (6, vb (t == 4))] ?_
        have eS := hS.symm
        exact hN2 _ eS _ _ _ (Gh.le.refl _) ⟨by kernel_rfl, by kernel_rfl⟩

def o61 (a : Int) (b : Int) : Bool :=
  (letJ (τ := (List UInt8)) (o66 (a : Int)) fun y1 => (letJ (τ := Bool) (cond ((y1 == [])) (true) (letJ (τ := (List UInt8)) (o66 (b : Int)) fun y21 => (y21 == []))) fun t4 => (cond ((t4 || (b == 1))) ((false)) (cond (decide (a ≤ 6)) ((true)) (cond ((a == 9)) (((b == 3))) (cond ((a == 13)) ((false)) (cond (decide (a ≥ 14)) ((((((b == 2) || (b == 3)) || (b == 4)) || (decide (b ≥ 7) && decide (b ≤ 13))))) (((((b == 3) || (b == 4)) || (decide (b ≥ 7) && decide (b ≤ 10))))))))))))
set_option maxRecDepth 100000 in
theorem C61 (g : Gh) (a : Int) (b : Int) {r : Bool} (hS : o61 a b = r) :
    Ctr Tryd.prog 61 [vy a, vy b] g [] (fun v ψ o => v = vb r ∧ o = []) := by
  unfold o61 at hS
  refine xFn Tryd.f61 (Tryd.f61.body.getD .skip) 63 ?_
  refine xSq ?_
  refine xRg ?_
  refine xB 1 [] [(0, vy a), (1, vy b)] ?_
  refine xRe ?_
  refine wpq_then ?_
  refine xSq ?_
  refine xSq ?_
  refine xRg ?_
  refine xB 1 [] [(0, vy a), (1, vy b), (5, vy a)] ?_
  obtain ⟨y1, hy1, hS⟩ := letJ_T hS
  refine xE (eC 0 (fun g' lr eb ln => C66 g' (a : Int) hy1)) ?_
  rintro _ g2 _ e3 ⟨_, rfl, rfl, rfl⟩
  refine xV (qEqS (y1) ([])) ?_
  refine xB 1 [] [(0, vy a), (1, vy b), (8, vb (y1 == []))] ?_
  refine xGJl hS 8 (fun g own sl t4 => own = [] ∧ sl = [(0, vy a), (1, vy b), (12, vb t4)]) ?_ ?_
  · rintro g5 _ _ t4 e6 ⟨rfl, rfl⟩ hS
    refine xB 1 [] [(0, vy a), (1, vy b), (13, vb t4)] ?_
    refine wpr_grp 12 [(0, vy a), (1, vy b), (16, vb (t4 || (b == 1)))] (fun hk8 => ?_) ?_
    · refine wpq_split 13 (b := t4) (by kernel_rfl) (fun q7 => ?_) (fun q7 => ?_)
      · refine xB 3 [] [(0, vy a), (1, vy b), (16, vb true)] ?_
        refine wpq_re 16 (v := vb true) (Value.bool ((t4 || (b == 1)))) (by kernel_rfl) (re_or1 q7) ?_
        exact wpq_sub _ (by kernel_rfl) hk8
      · refine xB 3 [] [(0, vy a), (1, vy b), (16, vb (b == 1))] ?_
        refine wpq_re 16 (v := vb (b == 1)) (Value.bool ((t4 || (b == 1)))) (by kernel_rfl) (re_or0 q7) ?_
        exact wpq_sub _ (by kernel_rfl) hk8
    · refine xRe ?_
      refine wpq_then ?_
      refine xCd ((t4 || (b == 1))) (fun h8 => ?_) (fun h8 => ?_)
      · have hS := cond_T h8 hS
        refine xSq ?_
        refine xRg ?_
        refine xB 1 [] [(4, vb false)] ?_
        refine xRe ?_
        refine wpq_then ?_
        have eS := hS.symm
        subst eS
        exact xRet [] [4] (e3.trans e6) ⟨by kernel_rfl, by kernel_rfl⟩ (fun _ _ h => h)
      · have hS := cond_F h8 hS
        have h8l := (or_false_ h8).1
        have h8r := (or_false_ h8).2
        have h8rp : ¬ (b = 1) := ne_of_beq_false_ h8r
        refine xSk ?_
        refine wpq_then ?_
        refine xSub [(0, vy a), (1, vy b)] ?_
        refine xSq ?_
        refine xBl 0 ?_
        refine xSq ?_
        refine xRg ?_
        refine xB 3 [] [(0, vy a), (1, vy b), (17, vb (decide (a ≤ 6)))] ?_
        refine xRe ?_
        refine wpq_then ?_
        refine xCd (decide (a ≤ 6)) (fun h9 => ?_) (fun h9 => ?_)
        · have hS := cond_T h9 hS
          have h9p := of_decide_eq_true h9
          refine xSq ?_
          refine xRg ?_
          refine xB 1 [] [(4, vb true)] ?_
          refine xRe ?_
          refine wpq_then ?_
          have eS := hS.symm
          subst eS
          exact xRet [] [4] (e3.trans e6) ⟨by kernel_rfl, by kernel_rfl⟩ (fun _ _ h => h)
        · have hS := cond_F h9 hS
          have h9p := of_decide_eq_false h9
          refine xSq ?_
          refine xRg ?_
          refine xB 3 [] [(0, vy a), (1, vy b), (20, vb (a == 9))] ?_
          refine xRe ?_
          refine wpq_then ?_
          refine xCd ((a == 9)) (fun h10 => ?_) (fun h10 => ?_)
          · have hS := cond_T h10 hS
            have h10p : a = 9 := eq_of_beq h10
            refine xSq ?_
            refine xRg ?_
            refine xB 3 [] [(4, vb (b == 3))] ?_
            refine xRe ?_
            refine wpq_then ?_
            have eS := hS.symm
            subst eS
            exact xRet [] [4] (e3.trans e6) ⟨by kernel_rfl, by kernel_rfl⟩ (fun _ _ h => h)
          · have hS := cond_F h10 hS
            have h10p : ¬ (a = 9) := ne_of_beq_false_ h10
            refine xSq ?_
            refine xRg ?_
            refine xB 3 [] [(0, vy a), (1, vy b), (25, vb (a == 13))] ?_
            refine xRe ?_
            refine wpq_then ?_
            refine xCd ((a == 13)) (fun h11 => ?_) (fun h11 => ?_)
            · have hS := cond_T h11 hS
              have h11p : a = 13 := eq_of_beq h11
              refine xSq ?_
              refine xRg ?_
              refine xB 1 [] [(4, vb false)] ?_
              refine xRe ?_
              refine wpq_then ?_
              have eS := hS.symm
              subst eS
              exact xRet [] [4] (e3.trans e6) ⟨by kernel_rfl, by kernel_rfl⟩ (fun _ _ h => h)
            · have hS := cond_F h11 hS
              have h11p : ¬ (a = 13) := ne_of_beq_false_ h11
              refine xSq ?_
              refine xRg ?_
              refine xB 3 [] [(1, vy b), (28, vb (decide (a ≥ 14)))] ?_
              refine xRe ?_
              refine wpq_then ?_
              refine xCd (decide (a ≥ 14)) (fun h12 => ?_) (fun h12 => ?_)
              · have hS := cond_T h12 hS
                have h12p := of_decide_eq_true h12
                refine xSq ?_
                refine xRg ?_
                refine xB 3 [] [(1, vy b), (33, vb (b == 2))] ?_
                refine wpr_grp 6 [(1, vy b), (36, vb ((b == 2) || (b == 3)))] (fun hk2 => ?_) ?_
                · refine wpq_split 33 (b := (b == 2)) (by kernel_rfl) (fun q13 => ?_) (fun q13 => ?_)
                  · have q13p : b = 2 := eq_of_beq q13
                    refine xB 3 [] [(1, vy b), (36, vb true)] ?_
                    refine wpq_re 36 (v := vb true) (Value.bool (((b == 2) || (b == 3)))) (by kernel_rfl) (re_or1 q13) ?_
                    exact wpq_sub _ (by kernel_rfl) hk2
                  · have q13p : ¬ (b = 2) := ne_of_beq_false_ q13
                    refine xB 3 [] [(1, vy b), (36, vb (b == 3))] ?_
                    refine wpq_re 36 (v := vb (b == 3)) (Value.bool (((b == 2) || (b == 3)))) (by kernel_rfl) (re_or0 q13) ?_
                    exact wpq_sub _ (by kernel_rfl) hk2
                · refine xB 1 [] [(1, vy b), (37, vb ((b == 2) || (b == 3)))] ?_
                  refine wpr_grp 10 [(1, vy b), (40, vb (((b == 2) || (b == 3)) || (b == 4)))] (fun hk6 => ?_) ?_
                  · refine wpq_split 37 (b := ((b == 2) || (b == 3))) (by kernel_rfl) (fun q14 => ?_) (fun q14 => ?_)
                    · refine xB 3 [] [(1, vy b), (40, vb true)] ?_
                      refine wpq_re 40 (v := vb true) (Value.bool ((((b == 2) || (b == 3)) || (b == 4)))) (by kernel_rfl) (re_or1 q14) ?_
                      exact wpq_sub _ (by kernel_rfl) hk6
                    · have q14l := (or_false_ q14).1
                      have q14r := (or_false_ q14).2
                      have q14lp : ¬ (b = 2) := ne_of_beq_false_ q14l
                      have q14rp : ¬ (b = 3) := ne_of_beq_false_ q14r
                      refine xB 3 [] [(1, vy b), (40, vb (b == 4))] ?_
                      refine wpq_re 40 (v := vb (b == 4)) (Value.bool ((((b == 2) || (b == 3)) || (b == 4)))) (by kernel_rfl) (re_or0 q14) ?_
                      exact wpq_sub _ (by kernel_rfl) hk6
                  · refine xB 1 [] [(1, vy b), (41, vb (((b == 2) || (b == 3)) || (b == 4)))] ?_
                    refine wpr_grp 18 [(48, vb ((((b == 2) || (b == 3)) || (b == 4)) || (decide (b ≥ 7) && decide (b ≤ 13))))] (fun hk10 => ?_) ?_
                    · refine wpq_split 41 (b := (((b == 2) || (b == 3)) || (b == 4))) (by kernel_rfl) (fun q15 => ?_) (fun q15 => ?_)
                      · refine xB 7 [] [(48, vb true)] ?_
                        refine wpq_re 48 (v := vb true) (Value.bool (((((b == 2) || (b == 3)) || (b == 4)) || (decide (b ≥ 7) && decide (b ≤ 13))))) (by kernel_rfl) (re_or1 q15) ?_
                        exact wpq_sub _ (by kernel_rfl) hk10
                      · have q15l := (or_false_ q15).1
                        have q15r := (or_false_ q15).2
                        have q15ll := (or_false_ q15l).1
                        have q15lr := (or_false_ q15l).2
                        have q15llp : ¬ (b = 2) := ne_of_beq_false_ q15ll
                        have q15lrp : ¬ (b = 3) := ne_of_beq_false_ q15lr
                        have q15rp : ¬ (b = 4) := ne_of_beq_false_ q15r
                        refine xB 3 [] [(1, vy b), (41, vb false), (44, vb (decide (b ≥ 7)))] ?_
                        refine wpr_grp 17 [(41, vb false), (47, vb (decide (b ≥ 7) && decide (b ≤ 13)))] (fun hk13 => ?_) ?_
                        · refine wpq_split 44 (b := decide (b ≥ 7)) (by kernel_rfl) (fun q16 => ?_) (fun q16 => ?_)
                          · have q16p := of_decide_eq_true q16
                            refine xB 3 [] [(41, vb false), (47, vb (decide (b ≤ 13)))] ?_
                            refine wpq_re 47 (v := vb (decide (b ≤ 13))) (Value.bool ((decide (b ≥ 7) && decide (b ≤ 13)))) (by kernel_rfl) (re_and1 q16) ?_
                            exact wpq_sub _ (by kernel_rfl) hk13
                          · have q16p := of_decide_eq_false q16
                            refine xB 3 [] [(41, vb false), (47, vb false)] ?_
                            refine wpq_re 47 (v := vb false) (Value.bool ((decide (b ≥ 7) && decide (b ≤ 13)))) (by kernel_rfl) (re_and0 q16) ?_
                            exact wpq_sub _ (by kernel_rfl) hk13
                        · refine xB 1 [] [(48, vb (decide (b ≥ 7) && decide (b ≤ 13)))] ?_
                          refine wpq_re 48 (v := vb (decide (b ≥ 7) && decide (b ≤ 13))) (Value.bool (((((b == 2) || (b == 3)) || (b == 4)) || (decide (b ≥ 7) && decide (b ≤ 13))))) (by kernel_rfl) (re_or0 q15) ?_
                          exact wpq_sub _ (by kernel_rfl) hk10
                    · refine xB 1 [] [(4, vb ((((b == 2) || (b == 3)) || (b == 4)) || (decide (b ≥ 7) && decide (b ≤ 13))))] ?_
                      refine xRe ?_
                      refine wpq_then ?_
                      have eS := hS.symm
                      subst eS
                      exact xRet [] [4] (e3.trans e6) ⟨by kernel_rfl, by kernel_rfl⟩ (fun _ _ h => h)
              · have hS := cond_F h12 hS
                have h12p := of_decide_eq_false h12
                refine xSk ?_
                refine wpq_blockN ?_
                refine wpq_then ?_
                refine xSub [(1, vy b)] ?_
                refine xSq ?_
                refine xRg ?_
                refine xB 3 [] [(1, vy b), (51, vb (b == 3))] ?_
                refine wpr_grp 6 [(1, vy b), (54, vb ((b == 3) || (b == 4)))] (fun hk2 => ?_) ?_
                · refine wpq_split 51 (b := (b == 3)) (by kernel_rfl) (fun q17 => ?_) (fun q17 => ?_)
                  · have q17p : b = 3 := eq_of_beq q17
                    refine xB 3 [] [(1, vy b), (54, vb true)] ?_
                    refine wpq_re 54 (v := vb true) (Value.bool (((b == 3) || (b == 4)))) (by kernel_rfl) (re_or1 q17) ?_
                    exact wpq_sub _ (by kernel_rfl) hk2
                  · have q17p : ¬ (b = 3) := ne_of_beq_false_ q17
                    refine xB 3 [] [(1, vy b), (54, vb (b == 4))] ?_
                    refine wpq_re 54 (v := vb (b == 4)) (Value.bool (((b == 3) || (b == 4)))) (by kernel_rfl) (re_or0 q17) ?_
                    exact wpq_sub _ (by kernel_rfl) hk2
                · refine xB 1 [] [(1, vy b), (55, vb ((b == 3) || (b == 4)))] ?_
                  refine wpr_grp 14 [(62, vb (((b == 3) || (b == 4)) || (decide (b ≥ 7) && decide (b ≤ 10))))] (fun hk6 => ?_) ?_
                  · refine wpq_split 55 (b := ((b == 3) || (b == 4))) (by kernel_rfl) (fun q18 => ?_) (fun q18 => ?_)
                    · refine xB 7 [] [(62, vb true)] ?_
                      refine wpq_re 62 (v := vb true) (Value.bool ((((b == 3) || (b == 4)) || (decide (b ≥ 7) && decide (b ≤ 10))))) (by kernel_rfl) (re_or1 q18) ?_
                      exact wpq_sub _ (by kernel_rfl) hk6
                    · have q18l := (or_false_ q18).1
                      have q18r := (or_false_ q18).2
                      have q18lp : ¬ (b = 3) := ne_of_beq_false_ q18l
                      have q18rp : ¬ (b = 4) := ne_of_beq_false_ q18r
                      refine xB 3 [] [(1, vy b), (55, vb false), (58, vb (decide (b ≥ 7)))] ?_
                      refine wpr_grp 13 [(55, vb false), (61, vb (decide (b ≥ 7) && decide (b ≤ 10)))] (fun hk9 => ?_) ?_
                      · refine wpq_split 58 (b := decide (b ≥ 7)) (by kernel_rfl) (fun q19 => ?_) (fun q19 => ?_)
                        · have q19p := of_decide_eq_true q19
                          refine xB 3 [] [(55, vb false), (61, vb (decide (b ≤ 10)))] ?_
                          refine wpq_re 61 (v := vb (decide (b ≤ 10))) (Value.bool ((decide (b ≥ 7) && decide (b ≤ 10)))) (by kernel_rfl) (re_and1 q19) ?_
                          exact wpq_sub _ (by kernel_rfl) hk9
                        · have q19p := of_decide_eq_false q19
                          refine xB 3 [] [(55, vb false), (61, vb false)] ?_
                          refine wpq_re 61 (v := vb false) (Value.bool ((decide (b ≥ 7) && decide (b ≤ 10)))) (by kernel_rfl) (re_and0 q19) ?_
                          exact wpq_sub _ (by kernel_rfl) hk9
                      · refine xB 1 [] [(62, vb (decide (b ≥ 7) && decide (b ≤ 10)))] ?_
                        refine wpq_re 62 (v := vb (decide (b ≥ 7) && decide (b ≤ 10))) (Value.bool ((((b == 3) || (b == 4)) || (decide (b ≥ 7) && decide (b ≤ 10))))) (by kernel_rfl) (re_or0 q18) ?_
                        exact wpq_sub _ (by kernel_rfl) hk6
                  · refine xB 1 [] [(4, vb (((b == 3) || (b == 4)) || (decide (b ≥ 7) && decide (b ≤ 10))))] ?_
                    refine xRe ?_
                    refine wpq_then ?_
                    have eS := hS.symm
                    subst eS
                    exact xRet [] [4] (e3.trans e6) ⟨by kernel_rfl, by kernel_rfl⟩ (fun _ _ h => h)
  · intro uu4 hS hN4
    refine wpq_split 8 (b := (y1 == [])) (by kernel_rfl) (fun q20 => ?_) (fun q20 => ?_)
    · have hS := cond_T q20 hS
      have q20p : y1 = [] := eq_of_beq q20
      refine xB 4 [] [(0, vy a), (1, vy b), (12, vb true)] ?_
      refine xSub [(0, vy a), (1, vy b), (12, vb true)] ?_
      exact hN4 _ hS.symm _ _ _ (Gh.le.refl _) ⟨by kernel_rfl, by kernel_rfl⟩
    · have hS := cond_F q20 hS
      have q20p : ¬ (y1 = []) := ne_of_beq_false_ q20
      refine xB 1 [] [(0, vy a), (1, vy b), (8, vb false), (9, vy b)] ?_
      obtain ⟨y21, hy21, hS⟩ := letJ_T hS
      refine xE (eC 0 (fun g' lr eb ln => C66 g' (b : Int) hy21)) ?_
      rintro _ g22 _ e23 ⟨_, rfl, rfl, rfl⟩
      refine xV (qEqS (y21) ([])) ?_
      refine xB 1 [] [(0, vy a), (1, vy b), (12, vb (y21 == []))] ?_
      refine xSub [(0, vy a), (1, vy b), (12, vb (y21 == []))] ?_
      exact hN4 _ hS.symm _ _ _ e23 ⟨by kernel_rfl, by kernel_rfl⟩

def o62 (t : Int) : Bool :=
  (((decide (t ≥ 11) && decide (t ≤ 17))))
set_option maxRecDepth 100000 in
theorem C62 (g : Gh) (t : Int) {r : Bool} (hS : o62 t = r) :
    Ctr Tryd.prog 62 [vy t] g [] (fun v ψ o => v = vb r ∧ o = []) := by
  unfold o62 at hS
  refine xFn Tryd.f62 (Tryd.f62.body.getD .skip) 9 ?_
  refine xSq ?_
  refine xRg ?_
  refine xB 1 [] [(0, vy t)] ?_
  refine xRe ?_
  refine wpq_then ?_
  refine xSq ?_
  refine xRg ?_
  refine xB 3 [] [(0, vy t), (5, vb (decide (t ≥ 11)))] ?_
  refine wpr_grp 6 [(8, vb (decide (t ≥ 11) && decide (t ≤ 17)))] (fun hk2 => ?_) ?_
  · refine wpq_split 5 (b := decide (t ≥ 11)) (by kernel_rfl) (fun q1 => ?_) (fun q1 => ?_)
    · have q1p := of_decide_eq_true q1
      refine xB 3 [] [(8, vb (decide (t ≤ 17)))] ?_
      refine wpq_re 8 (v := vb (decide (t ≤ 17))) (Value.bool ((decide (t ≥ 11) && decide (t ≤ 17)))) (by kernel_rfl) (re_and1 q1) ?_
      exact wpq_sub _ (by kernel_rfl) hk2
    · have q1p := of_decide_eq_false q1
      refine xB 3 [] [(8, vb false)] ?_
      refine wpq_re 8 (v := vb false) (Value.bool ((decide (t ≥ 11) && decide (t ≤ 17)))) (by kernel_rfl) (re_and0 q1) ?_
      exact wpq_sub _ (by kernel_rfl) hk2
  · refine xB 1 [] [(2, vb (decide (t ≥ 11) && decide (t ≤ 17)))] ?_
    refine xRe ?_
    refine wpq_then ?_
    have eS := hS.symm
    subst eS
    exact xRet [] [2] (Gh.le.refl _) ⟨by kernel_rfl, by kernel_rfl⟩ (fun _ _ h => h)

def o44 (a : Leg) (b : Leg) : Bool :=
  (letJ (τ := Bool) (o61 (a.type_ : Int) (b.type_ : Int)) fun y3 => (letJ (τ := Bool) (cond (y3) (letJ (τ := Bool) (o62 (b.type_ : Int)) fun y10 => ((!y10) || (a.fix == b.fix))) (false)) fun t6 => ((t6))))
set_option maxRecDepth 100000 in
theorem C44 (g : Gh) (a : Leg) (b : Leg) {r : Bool} (hS : o44 a b = r) :
    Ctr Tryd.prog 44 [Value.agg #[vy a.type_, vt a.fix, vt a.center, vy a.turn, vb a.over, vi a.course, vi a.dist, vi a.radius, vi a.theta, vi a.alt.lo, vi a.alt.hi, vi a.speed, vi a.rnp], Value.agg #[vy b.type_, vt b.fix, vt b.center, vy b.turn, vb b.over, vi b.course, vi b.dist, vi b.radius, vi b.theta, vi b.alt.lo, vi b.alt.hi, vi b.speed, vi b.rnp]] g [] (fun v ψ o => v = vb r ∧ o = []) := by
  unfold o44 at hS
  refine xFn Tryd.f44 (Tryd.f44.body.getD .skip) 23 ?_
  refine xSq ?_
  refine xRg ?_
  refine xE eB ?_
  rintro _ _ _ - ⟨b1, rfl, rfl, rfl⟩
  refine xE eB ?_
  rintro _ _ _ - ⟨b2, rfl, rfl, rfl⟩
  refine xB 1 [] [(2, vp b1 0), (3, vp b2 0)] ?_
  refine xRe ?_
  refine wpq_then ?_
  refine xSq ?_
  refine xRg ?_
  refine xB 4 [(1, 1), (3, 0)] [(2, vp b1 0), (3, vp b2 0), (6, vy a.type_), (8, vy b.type_)] ?_
  obtain ⟨y3, hy3, hS⟩ := letJ_T hS
  refine xE (eC 0 (fun g' lr eb ln => C61 g' (a.type_ : Int) (b.type_ : Int) hy3)) ?_
  rintro _ g4 _ e5 ⟨_, rfl, rfl, rfl⟩
  refine xB 1 [] [(2, vp b1 0), (3, vp b2 0), (10, vb y3)] ?_
  refine xGJl hS 18 (fun g own sl t6 => own = [] ∧ sl = [(22, vb t6)]) ?_ ?_
  · rintro g7 _ _ t6 e8 ⟨rfl, rfl⟩ hS
    refine xB 1 [] [(4, vb t6)] ?_
    refine xRe ?_
    refine wpq_then ?_
    have eS := hS.symm
    subst eS
    exact xRet [] [4] (e5.trans e8) ⟨by kernel_rfl, by kernel_rfl⟩ (fun _ _ h => h)
  · intro uu6 hS hN6
    refine wpq_split 10 (b := y3) (by kernel_rfl) (fun q9 => ?_) (fun q9 => ?_)
    · have hS := cond_T q9 hS
      refine xB 2 [(7, 0)] [(2, vp b1 0), (3, vp b2 0), (10, vb true), (12, vy b.type_)] ?_
      obtain ⟨y10, hy10, hS⟩ := letJ_T hS
      refine xE (eC 0 (fun g' lr eb ln => C62 g' (b.type_ : Int) hy10)) ?_
      rintro _ g11 _ e12 ⟨_, rfl, rfl, rfl⟩
      refine xB 2 [] [(2, vp b1 0), (3, vp b2 0), (10, vb true), (15, vb (!y10))] ?_
      refine wpr_grp 17 [(10, vb true), (21, vb ((!y10) || (a.fix == b.fix)))] (fun hk10 => ?_) ?_
      · refine wpq_split 15 (b := (!y10)) (by kernel_rfl) (fun q13 => ?_) (fun q13 => ?_)
        · have q13n := not_eq_true_ q13
          refine xB 6 [] [(10, vb true), (21, vb true)] ?_
          refine wpq_re 21 (v := vb true) (Value.bool (((!y10) || (a.fix == b.fix)))) (by kernel_rfl) (re_or1 q13) ?_
          exact wpq_sub _ (by kernel_rfl) hk10
        · have q13n := not_eq_false_ q13
          refine xB 4 [(12, 1), (14, 0)] [(10, vb true), (15, vb false), (17, vt a.fix), (19, vt b.fix)] ?_
          refine xV (qEqS (a.fix) (b.fix)) ?_
          refine xB 1 [] [(10, vb true), (21, vb (a.fix == b.fix))] ?_
          refine wpq_re 21 (v := vb (a.fix == b.fix)) (Value.bool (((!y10) || (a.fix == b.fix)))) (by kernel_rfl) (re_or0 q13) ?_
          exact wpq_sub _ (by kernel_rfl) hk10
      · refine xB 1 [] [(22, vb ((!y10) || (a.fix == b.fix)))] ?_
        refine xSel [] ?_
        refine xSub [(22, vb ((!y10) || (a.fix == b.fix)))] ?_
        exact hN6 _ hS.symm _ _ _ e12 ⟨by kernel_rfl, by kernel_rfl⟩
    · have hS := cond_F q9 hS
      refine xB 12 [] [(22, vb false)] ?_
      refine xSel [] ?_
      refine xSub [(22, vb false)] ?_
      exact hN6 _ hS.symm _ _ _ (Gh.le.refl _) ⟨by kernel_rfl, by kernel_rfl⟩

def o22 (a : List Leg) (b : List Leg) : Option ((List Leg)) :=
  (grd (decide ((0 + (a).length) * 112 ≤ 140737488355328)) (bindO (τ := (List Leg)) (cond (((decide ((((a).length : Nat) : Int) > 0) && decide ((((b).length : Nat) : Int) > 0)) && ((List.getD b 0 default).type_ == 1))) (grd (decide (0 ≤ ((((a).length : Nat) : Int) - 1) ∧ ((((a).length : Nat) : Int) - 1) < (((a).length : Nat) : Int))) (letJ (τ := Bool) (o43 ((List.getD a (((((a).length : Nat) : Int) - 1)).toNat default).type_ : Int)) fun y17 => (letJ (τ := Bool) (cond ((y17 && ((List.getD a (((((a).length : Nat) : Int) - 1)).toNat default).fix == (List.getD b 0 default).fix))) (letJ (τ := Bool) (cond (((((b).length : Nat) : Int) == 1)) (true) (letJ (τ := Bool) (o44 (List.getD a (((((a).length : Nat) : Int) - 1)).toNat default) (List.getD b 1 default)) fun y38 => y38)) fun t32 => t32) (false)) fun t23 => (letJ (τ := (List Leg)) (cond (t23) (((List.drop 1 b) : List Leg)) ((b : List Leg))) fun t26 => (some ((t26 : List Leg))))))) (some ((b : List Leg)))) fun t7 => (grd (decide (((a).length + (t7).length) * 112 ≤ 140737488355328)) (some (((a ++ t7) : List Leg))))))
set_option maxRecDepth 100000 in
theorem C22 (g : Gh) (a : List Leg) (Aa : Option Addr) (ca : Nat) (b : List Leg) (Ab : Option Addr) (cb : Nat) (fa : ArrM g.r g.b tyLeg Aa ca a) (fb : Arr g.b tyLeg Ab cb b) {r : (List Leg)} (hS : o22 a b = some r) :
    Ctr Tryd.prog 22 [vs Aa a ca, vs Ab b cb] g [] (fun v ψ o => ∃ (Ar_0 : Option Addr) (cr_0 : Nat) (kr_0 : Option Bk), v = vs Ar_0 r cr_0 ∧ o = [kr_0] ∧ Buf ψ tyLeg 46 (.slice Ar_0 (r).length cr_0) kr_0 r) := by
  unfold o22 at hS
  refine xFn Tryd.f22 (Tryd.f22.body.getD .skip) 60 ?_
  have nfa := fa.len
  have nfb := fb.len
  refine xSq ?_
  refine xRg ?_
  refine xB 1 [] [(0, vs Aa a ca), (1, vs Ab b cb)] ?_
  refine xRe ?_
  refine wpq_then ?_
  refine xSq ?_
  refine xRg ?_
  refine xB 1 [] [(0, vs Aa a ca), (1, vs Ab b cb), (5, Value.slice none 0 0)] ?_
  refine xRe ?_
  refine wpq_then ?_
  refine xSq ?_
  refine xRg ?_
  refine xB 2 [] [(0, vs Aa a ca), (1, vs Ab b cb), (5, Value.slice none 0 0), (7, Value.slice none 0 0), (8, vs Aa a ca)] ?_
  refine wpq_addnone ?_
  obtain ⟨nw1, hp1, hs1⟩ := fa.srcM
  obtain ⟨q2, hS⟩ := grd_T hS
  have q2p := of_decide_eq_true q2
  refine xE (eApp (T := tyLeg) (p := g.b) (et := 46) (bytes := 112) (xs := ([] : List Leg)) (ys := (a : List Leg)) 0 Buf.nil rfl (fun w hs => hs1 w _ hs) hp1 (by first | omega | (simp only [List.length_cons, List.length_nil] at *; omega)) (by first | omega | (simp only [List.length_cons, List.length_nil] at *; omega))) ?_
  rintro _ _ _ - ⟨A1, c1, k1, rfl, rfl, rfl, h1⟩
  have h1 : Buf g.b tyLeg 46 (.slice A1 ((a : List Leg)).length c1) k1 (a : List Leg) := h1
  have nh1 := h1.len
  refine xB 1 [] [(0, vs Aa a ca), (1, vs Ab b cb), (5, vs A1 a c1)] ?_
  refine xRe ?_
  refine wpq_then ?_
  refine xSq ?_
  refine xSq ?_
  refine xRg ?_
  refine xB 4 [] [(0, vs Aa a ca), (1, vs Ab b cb), (5, vs A1 a c1), (13, vb (decide ((((a).length : Nat) : Int) > 0)))] ?_
  refine wpr_grp 8 [(0, vs Aa a ca), (1, vs Ab b cb), (5, vs A1 a c1), (17, vb (decide ((((a).length : Nat) : Int) > 0) && decide ((((b).length : Nat) : Int) > 0)))] (fun hk3 => ?_) ?_
  · refine wpq_split 13 (b := decide ((((a).length : Nat) : Int) > 0)) (by kernel_rfl) (fun q3 => ?_) (fun q3 => ?_)
    · have q3p := of_decide_eq_true q3
      refine xB 4 [] [(0, vs Aa a ca), (1, vs Ab b cb), (5, vs A1 a c1), (17, vb (decide ((((b).length : Nat) : Int) > 0)))] ?_
      refine wpq_re 17 (v := vb (decide ((((b).length : Nat) : Int) > 0))) (Value.bool ((decide ((((a).length : Nat) : Int) > 0) && decide ((((b).length : Nat) : Int) > 0)))) (by kernel_rfl) (re_and1 q3) ?_
      exact wpq_sub _ (by kernel_rfl) hk3
    · have q3p := of_decide_eq_false q3
      refine xB 4 [] [(0, vs Aa a ca), (1, vs Ab b cb), (5, vs A1 a c1), (17, vb false)] ?_
      refine wpq_re 17 (v := vb false) (Value.bool ((decide ((((a).length : Nat) : Int) > 0) && decide ((((b).length : Nat) : Int) > 0)))) (by kernel_rfl) (re_and0 q3) ?_
      exact wpq_sub _ (by kernel_rfl) hk3
  · refine xB 1 [] [(0, vs Aa a ca), (1, vs Ab b cb), (5, vs A1 a c1), (18, vb (decide ((((a).length : Nat) : Int) > 0) && decide ((((b).length : Nat) : Int) > 0)))] ?_
    refine wpr_grp 15 [(0, vs Aa a ca), (1, vs Ab b cb), (5, vs A1 a c1), (24, vb ((decide ((((a).length : Nat) : Int) > 0) && decide ((((b).length : Nat) : Int) > 0)) && ((List.getD b 0 default).type_ == 1)))] (fun hk8 => ?_) ?_
    · refine wpq_split 18 (b := (decide ((((a).length : Nat) : Int) > 0) && decide ((((b).length : Nat) : Int) > 0))) (by kernel_rfl) (fun q4 => ?_) (fun q4 => ?_)
      · have q4l := (and_true_ q4).1
        have q4r := (and_true_ q4).2
        have q4lp := of_decide_eq_true q4l
        have q4rp := of_decide_eq_true q4r
        have i6 : 0 < (b).length := by omega
        obtain ⟨ad5, cs5, hA5, hr5, hc5⟩ := fb.at_ (get_getD (d := default) i6)
        obtain ⟨rfl⟩ := hr5
        refine xB 1 [] [(0, vs Aa a ca), (1, vs Ab b cb), (5, vs A1 a c1), (18, vb true), (19, vs Ab b cb)] ?_
        refine xV (qIx 0 13 hA5 rfl i6) ?_
        refine xB 1 [] [(0, vs Aa a ca), (1, vs Ab b cb), (5, vs A1 a c1), (18, vb true), (21, Value.pointer (some (Addr.add ad5 (0 * 13))))] ?_
        refine xV (qLdP (Addr.add ad5 (0 * 13)) 0 (hc5.mono g.br)) ?_
        refine xB 2 [] [(0, vs Aa a ca), (1, vs Ab b cb), (5, vs A1 a c1), (24, vb ((List.getD b 0 default).type_ == 1))] ?_
        refine wpq_re 24 (v := vb ((List.getD b 0 default).type_ == 1)) (Value.bool (((decide ((((a).length : Nat) : Int) > 0) && decide ((((b).length : Nat) : Int) > 0)) && ((List.getD b 0 default).type_ == 1)))) (by kernel_rfl) (re_and1 q4) ?_
        exact wpq_sub _ (by kernel_rfl) hk8
      · refine xB 6 [] [(0, vs Aa a ca), (1, vs Ab b cb), (5, vs A1 a c1), (24, vb false)] ?_
        refine wpq_re 24 (v := vb false) (Value.bool (((decide ((((a).length : Nat) : Int) > 0) && decide ((((b).length : Nat) : Int) > 0)) && ((List.getD b 0 default).type_ == 1)))) (by kernel_rfl) (re_and0 q4) ?_
        exact wpq_sub _ (by kernel_rfl) hk8
    · refine xRe ?_
      refine wpq_then ?_
      refine xBindO hS (fun g own sl t7 => ∃ (A7_0 : Option Addr) (c7_0 : Nat), own = [k1] ∧ sl = [(1, vs A7_0 t7 c7_0), (5, vs A1 a c1)] ∧ Arr g.b tyLeg A7_0 c7_0 t7) ?_ ?_
      · rintro g8 _ _ t7 e9 ⟨A7_0, c7_0, rfl, rfl, f7_0⟩ hS
        have nf7_0 := f7_0.len
        refine wpq_then ?_
        refine xSq ?_
        refine xRg ?_
        refine xB 2 [] [(57, vs A1 a c1), (58, vs A7_0 t7 c7_0)] ?_
        have h1 := h1.mono e9.b
        obtain ⟨nw10, hp10, hs10⟩ := f7_0.srcB
        obtain ⟨q11, hS⟩ := grd_T hS
        have q11p := of_decide_eq_true q11
        refine xE (eApp (T := tyLeg) (p := g8.b) (et := 46) (bytes := 112) (xs := (a : List Leg)) (ys := (t7 : List Leg)) 0 h1 rfl (fun w hs => hs10 w _ hs) hp10 (by first | omega | (simp only [List.length_cons, List.length_nil] at *; omega)) (by first | omega | (simp only [List.length_cons, List.length_nil] at *; omega))) ?_
        rintro _ _ _ - ⟨A10, c10, k10, rfl, rfl, rfl, h10⟩
        have nh10 := h10.len
        have hz10 : ((a ++ t7) : List Leg).length = (a).length + (t7).length := List.length_append
        refine xB 1 [] [(4, vs A10 (a ++ t7) c10)] ?_
        refine xRe ?_
        refine wpq_then ?_
        have eS := (Option.some.inj hS).symm
        subst eS
        exact xRet [some 0] [4] e9 ⟨A10, c10, k10, by kernel_rfl, by kernel_rfl, h10⟩ (fun _ _ h => h)
      · intro uu7 hS hN7
        refine xCd (((decide ((((a).length : Nat) : Int) > 0) && decide ((((b).length : Nat) : Int) > 0)) && ((List.getD b 0 default).type_ == 1))) (fun h12 => ?_) (fun h12 => ?_)
        · have hS := cond_T h12 hS
          have h12l := (and_true_ h12).1
          have h12r := (and_true_ h12).2
          have h12ll := (and_true_ h12l).1
          have h12lr := (and_true_ h12l).2
          have h12llp := of_decide_eq_true h12ll
          have h12lrp := of_decide_eq_true h12lr
          have h12rp : (List.getD b 0 default).type_ = 1 := eq_of_beq h12r
          refine xSq ?_
          refine xRg ?_
          refine xB 3 [] [(1, vs Ab b cb), (5, vs A1 a c1), (25, vs Aa a ca), (27, vi (((a).length : Nat) : Int))] ?_
          refine xV (qSub .i64 ((((a).length : Nat) : Int)) (1) (wr64 (by omega))) ?_
          obtain ⟨q14, hS⟩ := grd_T hS
          have q14p := of_decide_eq_true q14
          have i15 : (((((a).length : Nat) : Int) - 1)).toNat < (a).length := by omega
          obtain ⟨ad13, cs13, hA13, hr13, hc13⟩ := fa.at_ (get_getD (d := default) i15)
          obtain ⟨rfl⟩ := hr13
          refine xV (qIx (((((a).length : Nat) : Int) - 1)).toNat 13 hA13 (show (((((a).length : Nat) : Int) - 1) : Int) = _ from by omega) i15) ?_
          refine xV (qLdP (Addr.add ad13 ((((((a).length : Nat) : Int) - 1)).toNat * 13)) 0 hc13) ?_
          refine xE eB ?_
          rintro _ _ _ - ⟨b16, rfl, rfl, rfl⟩
          refine xBo 1 [(7, 0)] [some ⟨b16, 46, (cLeg (List.getD a (((((a).length : Nat) : Int) - 1)).toNat default))⟩, k1] [(1, vs Ab b cb), (5, vs A1 a c1), (6, vp b16 0)] ?_
          refine xRe ?_
          refine wpq_then ?_
          refine xSq ?_
          refine xDr 0 [1, 5, 9, 17, 20] [] [some ⟨b16, 46, (cLeg (List.getD a (((((a).length : Nat) : Int) - 1)).toNat default))⟩] 24 (fun RG => ?_) (fun _ _ _ _ _ h => h)
          refine xT 22 [0, 1] [(1, 0)] [some 0] [(1, vs Ab b cb), (5, vs A1 a c1), (6, vp b16 0), (32, vy ((List.getD a (((((a).length : Nat) : Int) - 1)).toNat default).type_))] RG (Psi.le.refl _) ?_
          obtain ⟨y17, hy17, hS⟩ := letJ_T hS
          refine xO1 (lds := [1, 5, 9, 17, 20]) 2 ?_
          refine xIe (lds := [1, 5, 9, 17, 20]) (Psi.le.refl _) (eC 0 (fun g' lr eb ln => C43 g' ((List.getD a (((((a).length : Nat) : Int) - 1)).toNat default).type_ : Int) hy17)) ?_
          rintro _ g18 _ e19 ⟨_, rfl, rfl, rfl⟩
          refine kk [some 0] ?_
          refine xT 20 [3] [] [some 0] [(1, vs Ab b cb), (5, vs A1 a c1), (6, vp b16 0), (34, vb y17)] RG e19.r ?_
          refine wpa_grp 12 [true, true, true, true, true, true, true, true, true, true, true, true, false, false, false, false, false, false, false, false, false, false, false, false] [(1, vs Ab b cb), (5, vs A1 a c1), (6, vp b16 0), (42, vb (y17 && ((List.getD a (((((a).length : Nat) : Int) - 1)).toNat default).fix == (List.getD b 0 default).fix)))] (fun hk3 => ?_) ?_
          · refine wpq_split 34 (b := y17) (by kernel_rfl) (fun q20 => ?_) (fun q20 => ?_)
            · have i22 : 0 < (b).length := by omega
              obtain ⟨ad21, cs21, hA21, hr21, hc21⟩ := fb.at_ (get_getD (d := default) i22)
              obtain ⟨rfl⟩ := hr21
              refine xT 17 [4, 5, 6] [(5, 0)] [some 0] [(1, vs Ab b cb), (5, vs A1 a c1), (6, vp b16 0), (34, vb true), (36, vt ((List.getD a (((((a).length : Nat) : Int) - 1)).toNat default).fix)), (37, vs Ab b cb)] RG e19.r ?_
              refine xTp 7 RG (fun _ => (qIx 0 13 hA21 rfl i22)) ?_
              refine xT 15 [8] [] [some 0] [(1, vs Ab b cb), (5, vs A1 a c1), (6, vp b16 0), (34, vb true), (36, vt ((List.getD a (((((a).length : Nat) : Int) - 1)).toNat default).fix)), (39, Value.pointer (some (Addr.add (Addr.add ad21 (0 * 13)) 1)))] RG e19.r ?_
              refine xTv 9 [some 0] RG e19.r (qLdP (Addr.add ad21 (0 * 13)) 1 (hc21.mono g.br)) ?_
              refine xTp 10 RG (fun _ => (qEqS ((List.getD a (((((a).length : Nat) : Int) - 1)).toNat default).fix) ((List.getD b 0 default).fix))) ?_
              refine xT 12 [11] [] [some 0] [(1, vs Ab b cb), (5, vs A1 a c1), (6, vp b16 0), (42, vb ((List.getD a (((((a).length : Nat) : Int) - 1)).toNat default).fix == (List.getD b 0 default).fix))] RG e19.r ?_
              refine wpq_re 42 (v := vb ((List.getD a (((((a).length : Nat) : Int) - 1)).toNat default).fix == (List.getD b 0 default).fix)) (Value.bool ((y17 && ((List.getD a (((((a).length : Nat) : Int) - 1)).toNat default).fix == (List.getD b 0 default).fix)))) (by kernel_rfl) (re_and1 q20) ?_
              exact wpq_sub _ (by kernel_rfl) hk3
            · refine xT 12 [4, 5, 6, 7, 8, 9, 10, 11] [] [some 0] [(1, vs Ab b cb), (5, vs A1 a c1), (6, vp b16 0), (42, vb false)] RG e19.r ?_
              refine wpq_re 42 (v := vb false) (Value.bool ((y17 && ((List.getD a (((((a).length : Nat) : Int) - 1)).toNat default).fix == (List.getD b 0 default).fix)))) (by kernel_rfl) (re_and0 q20) ?_
              exact wpq_sub _ (by kernel_rfl) hk3
          · refine xT 11 [12] [] [some 0] [(1, vs Ab b cb), (5, vs A1 a c1), (6, vp b16 0), (43, vb (y17 && ((List.getD a (((((a).length : Nat) : Int) - 1)).toNat default).fix == (List.getD b 0 default).fix)))] RG e19.r ?_
            refine xGJlA hS 0 [true, true, true, true, true, true, true, true, true, true, true, true, true, true, true, true, true, true, true, true, true, true, true, true] (fun g own sl t23 => own = [some ⟨b16, 46, (cLeg (List.getD a (((((a).length : Nat) : Int) - 1)).toNat default))⟩, k1] ∧ sl = [(1, vs Ab b cb), (5, vs A1 a c1), (54, vb t23)]) ?_ ?_
            · rintro g24 _ _ t23 e25 ⟨rfl, rfl⟩ hS
              refine xAe (lds := [1, 5, 9, 17, 20]) ?_
              refine wpq_then ?_
              refine xLetJ hS (fun g own sl t26 => ∃ (A26_0 : Option Addr) (c26_0 : Nat), own = [k1] ∧ sl = [(1, vs A26_0 t26 c26_0), (5, vs A1 a c1)] ∧ Arr g.b tyLeg A26_0 c26_0 t26) ?_ ?_
              · rintro g27 _ _ t26 e28 ⟨A26_0, c26_0, rfl, rfl, f26_0⟩ hS
                have nf26_0 := f26_0.len
                refine xSub [(1, vs A26_0 t26 c26_0), (5, vs A1 a c1)] ?_
                have eS := (Option.some.inj hS).symm
                exact hN7 _ eS _ _ _ (e19.trans (e25.trans e28)) ⟨A26_0, c26_0, by kernel_rfl, by kernel_rfl, f26_0⟩
              · intro uu26 hS hN26
                refine xCd (t23) (fun h29 => ?_) (fun h29 => ?_)
                · have hS := cond_T h29 hS
                  refine xRg ?_
                  have fb := fb.mono (e19.trans e25).b
                  have ncapf30 := fb.cap
                  have f30 : Arr g24.b tyLeg (offA Ab cb 1 13) (cb - 1) (List.drop 1 b) := fb.cut_from 1 (by omega)
                  have nf30 := f30.len
                  have hlf30 : (b).length - 1 = ((List.drop 1 b)).length := by simp only [List.length_take, List.length_drop] <;> omega
                  have hvf30 : ((((List.drop 1 b)).length : Nat) : Int) = (((b).length : Nat) : Int) - 1 := by omega
                  refine xB 1 [] [(1, vs Ab b cb), (5, vs A1 a c1), (55, vs Ab b cb)] ?_
                  refine xV (qSl (m := 13) (A := Ab) (len := (b).length) (c := cb) 1 (b).length (some 1) none ((List.drop 1 b)).length rfl rfl (by omega) (by omega) hlf30) ?_
                  refine xB 1 [] [(1, vs (offA Ab cb 1 13) (List.drop 1 b) (cb - 1)), (5, vs A1 a c1)] ?_
                  refine xRe ?_
                  refine xSel [some 1] ?_
                  refine xSub [(1, vs (offA Ab cb 1 13) (List.drop 1 b) (cb - 1)), (5, vs A1 a c1)] ?_
                  have eS := hS.symm
                  exact hN26 _ eS _ _ _ (Gh.le.refl _) ⟨(offA Ab cb 1 13), (cb - 1), by kernel_rfl, by kernel_rfl, f30⟩
                · have hS := cond_F h29 hS
                  refine xSk ?_
                  have fb := fb.mono (e19.trans e25).b
                  refine xSel [some 1] ?_
                  refine xSub [(1, vs Ab b cb), (5, vs A1 a c1)] ?_
                  have eS := hS.symm
                  exact hN26 _ eS _ _ _ (Gh.le.refl _) ⟨Ab, cb, by kernel_rfl, by kernel_rfl, fb⟩
            · intro uu23 hS hN23
              refine wpq_split 43 (b := (y17 && ((List.getD a (((((a).length : Nat) : Int) - 1)).toNat default).fix == (List.getD b 0 default).fix))) (by kernel_rfl) (fun q31 => ?_) (fun q31 => ?_)
              · have hS := cond_T q31 hS
                have q31l := (and_true_ q31).1
                have q31r := (and_true_ q31).2
                have q31rp : (List.getD a (((((a).length : Nat) : Int) - 1)).toNat default).fix = (List.getD b 0 default).fix := eq_of_beq q31r
                refine xT 7 [13, 14, 15, 16] [] [some 0] [(1, vs Ab b cb), (5, vs A1 a c1), (6, vp b16 0), (43, vb true), (47, vb ((((b).length : Nat) : Int) == 1))] RG e19.r ?_
                refine xGJlA hS 1 [true, true, true, true, true, true, true, true, true, true, true, true, true, true, true, true, true, true, true, true, true, true, true, false] (fun g own sl t32 => own = [some ⟨b16, 46, (cLeg (List.getD a (((((a).length : Nat) : Int) - 1)).toNat default))⟩, k1] ∧ sl = [(1, vs Ab b cb), (5, vs A1 a c1), (43, vb true), (53, vb t32)]) ?_ ?_
                · rintro g33 _ _ t32 e34 ⟨rfl, rfl⟩ hS
                  refine xT 0 [23] [] [some 0] [(1, vs Ab b cb), (5, vs A1 a c1), (54, vb t32)] RG (e19.trans e34).r ?_
                  refine xSub [(1, vs Ab b cb), (5, vs A1 a c1), (54, vb t32)] ?_
                  exact hN23 _ hS.symm _ _ _ e34 ⟨by kernel_rfl, by kernel_rfl⟩
                · intro uu32 hS hN32
                  refine wpq_split 47 (b := ((((b).length : Nat) : Int) == 1)) (by kernel_rfl) (fun q35 => ?_) (fun q35 => ?_)
                  · have hS := cond_T q35 hS
                    have q35p : (((b).length : Nat) : Int) = 1 := eq_of_beq q35
                    refine xT 3 [17, 18, 19, 20] [] [some 0] [(1, vs Ab b cb), (5, vs A1 a c1), (43, vb true), (47, vb true), (48, undef), (51, undef)] RG e19.r ?_
                    refine xO1 (lds := [1, 5, 9, 17, 20]) 21 ?_
                    refine xIb (lds := [1, 5, 9, 17, 20]) [] ?_
                    refine xT 1 [22] [] [some 0] [(1, vs Ab b cb), (5, vs A1 a c1), (43, vb true), (53, vb true)] RG e19.r ?_
                    refine xSub [(1, vs Ab b cb), (5, vs A1 a c1), (43, vb true), (53, vb true)] ?_
                    exact hN32 _ hS.symm _ _ _ (Gh.le.refl _) ⟨by kernel_rfl, by kernel_rfl⟩
                  · have hS := cond_F q35 hS
                    have q35p : ¬ ((((b).length : Nat) : Int) = 1) := ne_of_beq_false_ q35
                    have i37 : 1 < (b).length := by omega
                    obtain ⟨ad36, cs36, hA36, hr36, hc36⟩ := fb.at_ (get_getD (d := default) i37)
                    obtain ⟨rfl⟩ := hr36
                    refine xT 5 [17, 18] [(17, 0)] [some 0] [(1, vs Ab b cb), (5, vs A1 a c1), (43, vb true), (47, vb false), (48, Value.agg #[vy ((List.getD a (((((a).length : Nat) : Int) - 1)).toNat default).type_), vt ((List.getD a (((((a).length : Nat) : Int) - 1)).toNat default).fix), vt ((List.getD a (((((a).length : Nat) : Int) - 1)).toNat default).center), vy ((List.getD a (((((a).length : Nat) : Int) - 1)).toNat default).turn), vb ((List.getD a (((((a).length : Nat) : Int) - 1)).toNat default).over), vi ((List.getD a (((((a).length : Nat) : Int) - 1)).toNat default).course), vi ((List.getD a (((((a).length : Nat) : Int) - 1)).toNat default).dist), vi ((List.getD a (((((a).length : Nat) : Int) - 1)).toNat default).radius), vi ((List.getD a (((((a).length : Nat) : Int) - 1)).toNat default).theta), vi ((List.getD a (((((a).length : Nat) : Int) - 1)).toNat default).alt.lo), vi ((List.getD a (((((a).length : Nat) : Int) - 1)).toNat default).alt.hi), vi ((List.getD a (((((a).length : Nat) : Int) - 1)).toNat default).speed), vi ((List.getD a (((((a).length : Nat) : Int) - 1)).toNat default).rnp)]), (49, vs Ab b cb)] RG e19.r ?_
                    refine xTp 19 RG (fun _ => (qIx 1 13 hA36 rfl i37)) ?_
                    refine xTv 20 [some 0] RG e19.r (qLdP (Addr.add ad36 (1 * 13)) 0 (hc36.mono g.br)) ?_
                    obtain ⟨y38, hy38, hS⟩ := letJ_T hS
                    refine xO1 (lds := [1, 5, 9, 17, 20]) 21 ?_
                    refine xIe (lds := [1, 5, 9, 17, 20]) e19.r (eC 0 (fun g' lr eb ln => C44 g' (List.getD a (((((a).length : Nat) : Int) - 1)).toNat default) (List.getD b 1 default) hy38)) ?_
                    rintro _ g39 _ e40 ⟨_, rfl, rfl, rfl⟩
                    refine kk [some 0] ?_
                    refine xT 1 [22] [] [some 0] [(1, vs Ab b cb), (5, vs A1 a c1), (43, vb true), (53, vb y38)] RG (e19.trans e40).r ?_
                    refine xSub [(1, vs Ab b cb), (5, vs A1 a c1), (43, vb true), (53, vb y38)] ?_
                    exact hN32 _ hS.symm _ _ _ e40 ⟨by kernel_rfl, by kernel_rfl⟩
              · have hS := cond_F q31 hS
                refine xT 3 [13, 14, 15, 16, 17, 18, 19, 20] [] [some 0] [(1, vs Ab b cb), (5, vs A1 a c1), (43, vb false), (47, undef), (48, undef), (51, undef)] RG e19.r ?_
                refine xO1 (lds := [1, 5, 9, 17, 20]) 21 ?_
                refine xIb (lds := [1, 5, 9, 17, 20]) [] ?_
                refine xT 0 [22, 23] [] [some 0] [(1, vs Ab b cb), (5, vs A1 a c1), (54, vb false)] RG e19.r ?_
                refine xSub [(1, vs Ab b cb), (5, vs A1 a c1), (54, vb false)] ?_
                exact hN23 _ hS.symm _ _ _ (Gh.le.refl _) ⟨by kernel_rfl, by kernel_rfl⟩
        · have hS := cond_F h12 hS
          refine xSk ?_
          refine xSub [(1, vs Ab b cb), (5, vs A1 a c1)] ?_
          have eS := (Option.some.inj hS).symm
          exact hN7 _ eS _ _ _ (Gh.le.refl _) ⟨Ab, cb, by kernel_rfl, by kernel_rfl, fb⟩

def o5 (a : List Leg) (b : List Leg) : Option (Bool) :=
  (bindO (τ := Bool) (o12) fun y1 => (bindO (τ := Bool) (cond (y1) (bindO (τ := (List Leg)) (o21 (a : List Leg) (b : List Leg)) fun y8 => (bindO (τ := (List Leg)) (o22 (a : List Leg) (b : List Leg)) fun y11 => (bindO (τ := Bool) (o20 (y8 : List Leg) (y11 : List Leg)) fun y14 => (some (y14))))) (some (false))) fun t4 => (some ((t4)))))
set_option maxRecDepth 100000 in
theorem C5 (g : Gh) (a : List Leg) (Aa : Option Addr) (ca : Nat) (b : List Leg) (Ab : Option Addr) (cb : Nat) (fa : ArrM g.r g.b tyLeg Aa ca a) (fb : Arr g.b tyLeg Ab cb b) (fG0 : Arr g.r (tyI .u16) (some ⟨0, 0, none⟩) 18 usesL) {r : Bool} (hS : o5 a b = some r) :
    Ctr Tryd.prog 5 [vs Aa a ca, vs Ab b cb] g [] (fun v ψ o => v = vb r ∧ o = []) := by
  unfold o5 at hS
  refine xFn Tryd.f5 (Tryd.f5.body.getD .skip) 15 ?_
  have hlG0 := hlUses
  have nfa := fa.len
  have nfb := fb.len
  have nfG0 := fG0.len
  refine xSq ?_
  refine xRg ?_
  refine xB 1 [] [(0, vs Aa a ca), (1, vs Ab b cb)] ?_
  refine xRe ?_
  refine wpq_then ?_
  refine xSq ?_
  refine xRg ?_
  obtain ⟨y1, hy1, hS⟩ := bindO_T hS
  refine xE (eC 0 (fun g' lr eb ln => C12 g' (fG0.mono lr) hy1)) ?_
  rintro _ g2 _ e3 ⟨_, rfl, rfl, rfl⟩
  refine xB 1 [] [(0, vs Aa a ca), (1, vs Ab b cb), (6, vb y1)] ?_
  refine xGJo hS 10 (fun g own sl t4 => own = [] ∧ sl = [(14, vb t4)]) ?_ ?_
  · rintro g5 _ _ t4 e6 ⟨rfl, rfl⟩ hS
    refine xB 1 [] [(4, vb t4)] ?_
    refine xRe ?_
    refine wpq_then ?_
    have eS := (Option.some.inj hS).symm
    subst eS
    exact xRet [] [4] (e3.trans e6) ⟨by kernel_rfl, by kernel_rfl⟩ (fun _ _ h => h)
  · intro uu4 hS hN4
    refine wpq_split 6 (b := y1) (by kernel_rfl) (fun q7 => ?_) (fun q7 => ?_)
    · have hS := cond_T q7 hS
      refine xB 2 [] [(0, vs Aa a ca), (1, vs Ab b cb), (6, vb true), (7, vs Aa a ca), (8, vs Ab b cb)] ?_
      have fa := fa.mono e3.r e3.b
      have fb := fb.mono e3.b
      obtain ⟨y8, hy8, hS⟩ := bindO_T hS
      refine xE (eC 0 (fun g' lr eb ln => C21 g' (a : List Leg) Aa ca (b : List Leg) Ab cb (ArrM.lent fa lr eb) (by rw [eb]; exact fb) hy8)) ?_
      rintro _ g9 _ e10 ⟨_, rfl, A8_0, c8_0, k8_0, rfl, rfl, h8_0⟩
      have nh8_0 := h8_0.len
      refine xB 2 [] [(6, vb true), (9, vs A8_0 y8 c8_0), (10, vs Aa a ca), (11, vs Ab b cb)] ?_
      have fa := fa.mono e10.r e10.b
      have fb := fb.mono e10.b
      obtain ⟨y11, hy11, hS⟩ := bindO_T hS
      refine xE (eC 0 (fun g' lr eb ln => C22 g' (a : List Leg) Aa ca (b : List Leg) Ab cb (ArrM.lent fa lr eb) (by rw [eb]; exact fb) hy11)) ?_
      rintro _ g12 _ e13 ⟨_, rfl, A11_0, c11_0, k11_0, rfl, rfl, h11_0⟩
      have nh11_0 := h11_0.len
      have h8_0 := h8_0.mono e13.b
      obtain ⟨y14, hy14, hS⟩ := bindO_T hS
      refine xE (eC 0 (fun g' lr eb ln => C20 g' (y8 : List Leg) A8_0 c8_0 (y11 : List Leg) A11_0 c11_0 (arr_of_buf h8_0 (Psi.le_b eb) (lentk 1 (by kernel_rfl) ln)) (arr_of_buf h11_0 (Psi.le_b eb) (lentk 0 (by kernel_rfl) ln)) hy14)) ?_
      rintro _ g15 _ e16 ⟨_, rfl, rfl, rfl⟩
      refine xB 1 [] [(14, vb y14)] ?_
      refine xSel [] ?_
      refine xSub [(14, vb y14)] ?_
      exact hN4 _ (Option.some.inj hS).symm _ _ _ (e10.trans (e13.trans e16)) ⟨by kernel_rfl, by kernel_rfl⟩
    · have hS := cond_F q7 hS
      refine xB 8 [] [(14, vb false)] ?_
      refine xSub [(14, vb false)] ?_
      exact hN4 _ (Option.some.inj hS).symm _ _ _ (Gh.le.refl _) ⟨by kernel_rfl, by kernel_rfl⟩

end Go.Proofs.YthfekfebgghjhaaDoor
