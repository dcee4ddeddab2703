/-
Walks, printed by wip/gen. Conditions: each theorem's own.
-/
import Derived.Test.YthfekfebgghjhaaDoorG10
import Derived.Test.YthfekfebgghjhaaDoorED
namespace Go.Proofs.YthfekfebgghjhaaDoor
set_option linter.unusedVariables false
set_option linter.unusedSimpArgs false
open Go.RowKit
def o34 (t : Int) (fix : List UInt8) : Leg :=
  ((⟨t, fix, ([] : List UInt8), 0, false, 0, 0, 0, 0, (⟨-200000, 6000000⟩ : Win), 0, 0⟩ : Leg))
set_option maxRecDepth 100000 in
theorem C34 (g : Gh) (t : Int) (fix : List UInt8) {r : Leg} (hS : o34 t fix = r) :
    Ctr Tryd.prog 34 [vy t, vt fix] g [] (fun v ψ o => v = Value.agg #[vy r.type_, vt r.fix, vt r.center, vy r.turn, vb r.over, vi r.course, vi r.dist, vi r.radius, vi r.theta, vi r.alt.lo, vi r.alt.hi, vi r.speed, vi r.rnp] ∧ o = []) := by
  unfold o34 at hS
  refine xFn Tryd.f34 (Tryd.f34.body.getD .skip) 9 ?_
  refine xSq ?_
  refine xRg ?_
  refine xE eB ?_
  rintro _ _ _ - ⟨b1, rfl, rfl, rfl⟩
  refine xRe ?_
  refine wpq_then ?_
  refine xSq ?_
  refine xRg ?_
  refine xBo 5 [(4, 0)] [some ⟨b1, 46, (cLeg (⟨t, fix, ([] : List UInt8), 0, false, 0, 0, 0, 0, (⟨-200000, 6000000⟩ : Win), 0, 0⟩ : Leg))⟩] [(4, vp b1 0)] ?_
  refine xRe ?_
  refine wpq_then ?_
  have eS := hS.symm
  subst eS
  exact xRetC [] [(4, 0)] (Gh.le.refl _) ⟨by kernel_rfl, by kernel_rfl⟩ (fun _ _ h => h)

def o41 (s : List Leg) : Option ((List Leg)) :=
  (grd (decide ((0 + (s).length) * 112 ≤ 140737488355328)) (some ((s : List Leg))))
set_option maxRecDepth 100000 in
theorem C41 (g : Gh) (s : List Leg) (As : Option Addr) (cs : Nat) (fs : ArrM g.r g.b tyLeg As cs s) {r : (List Leg)} (hS : o41 s = some r) :
    Ctr Tryd.prog 41 [vs As s cs] g [] (fun v ψ o => ∃ (Ar_0 : Option Addr) (cr_0 : Nat) (kr_0 : Option Bk), v = vs Ar_0 r cr_0 ∧ o = [kr_0] ∧ Buf ψ tyLeg 46 (.slice Ar_0 (r).length cr_0) kr_0 r) := by
  unfold o41 at hS
  refine xFn Tryd.f41 (Tryd.f41.body.getD .skip) 8 ?_
  have nfs := fs.len
  refine xSq ?_
  refine xRg ?_
  refine xB 1 [] [(0, vs As s cs)] ?_
  refine xRe ?_
  refine wpq_then ?_
  refine xSq ?_
  refine xSq ?_
  refine xRg ?_
  refine xB 1 [] [(0, vs As s cs), (3, vs As s cs)] ?_
  refine xV (qNil As) ?_
  refine xRe ?_
  refine wpq_then ?_
  refine xSub [(0, vs As s cs), (4, vb (Option.isNone As))] ?_
  refine xCd ((Option.isNone As)) (fun h1 => ?_) (fun h1 => ?_)
  · have hsh1 := fs.nil_of h1
    subst hsh1
    refine xSq ?_
    refine xRg ?_
    refine xB 1 [] [(2, Value.slice none 0 0)] ?_
    refine xRe ?_
    refine wpq_then ?_
    have eS : r = ([] : List Leg) := by first | exact hS.symm | exact hS | (simp [grd] at hS; first | exact hS.symm | exact hS)
    subst eS
    exact xRet [none] [2] (Gh.le.refl _) ⟨none, 0, none, by kernel_rfl, by kernel_rfl, Buf.nil⟩ (fun _ _ h => h)
  · refine xSk ?_
    refine wpq_then ?_
    refine xSub [(0, vs As s cs)] ?_
    refine xSq ?_
    refine xRg ?_
    refine xE (eBs (T := tyLeg) (p := g.b) (et := 46) (xs := ([] : List Leg)) reps_nil (by simp)) ?_
    rintro _ _ _ - ⟨A2, c2, k2, rfl, rfl, rfl, h2⟩
    refine xB 1 [] [(5, vs A2 ([] : List Leg) c2), (6, vs As s cs)] ?_
    obtain ⟨nw3, hp3, hs3⟩ := fs.srcM
    obtain ⟨q4, hS⟩ := grd_T hS
    have q4p := of_decide_eq_true q4
    refine xE (eApp (T := tyLeg) (p := g.b) (et := 46) (bytes := 112) (xs := ([] : List Leg)) (ys := (s : List Leg)) 0 h2 rfl (fun w hs => hs3 w _ hs) hp3 (by first | omega | (simp only [List.length_cons, List.length_nil] at *; omega)) (by first | omega | (simp only [List.length_cons, List.length_nil] at *; omega))) ?_
    rintro _ _ _ - ⟨A3, c3, k3, rfl, rfl, rfl, h3⟩
    have h3 : Buf g.b tyLeg 46 (.slice A3 ((s : List Leg)).length c3) k3 (s : List Leg) := h3
    have nh3 := h3.len
    refine xB 1 [] [(2, vs A3 s c3)] ?_
    refine xRe ?_
    refine wpq_then ?_
    have eS := (Option.some.inj hS).symm
    subst eS
    exact xRet [some 0] [2] (Gh.le.refl _) ⟨A3, c3, k3, by kernel_rfl, by kernel_rfl, h3⟩ (fun _ _ h => h)

def o42 (t : Int) : Bool :=
  (letJ (τ := Bool) (cond ((t == 1)) ((t == 1)) (letJ (τ := Bool) (cond ((t == 2)) ((t == 2)) (letJ (τ := Bool) (cond ((t == 3)) ((t == 3)) (letJ (τ := Bool) (cond ((t == 4)) ((t == 4)) (letJ (τ := Bool) (cond ((t == 5)) ((t == 5)) (letJ (τ := Bool) (cond ((t == 6)) ((t == 6)) (letJ (τ := Bool) (cond ((t == 14)) ((t == 14)) (letJ (τ := Bool) (cond ((t == 15)) ((t == 15)) (letJ (τ := Bool) (cond ((t == 16)) ((t == 16)) ((t == 17))) fun t34 => (t34))) fun t30 => (t30))) fun t26 => (t26))) fun t22 => (t22))) fun t18 => (t18))) fun t14 => (t14))) fun t10 => (t10))) fun t6 => (t6))) fun t1 => (cond (t1) ((true)) ((false))))
set_option maxRecDepth 100000 in
theorem C42 (g : Gh) (t : Int) {r : Bool} (hS : o42 t = r) :
    Ctr Tryd.prog 42 [vy t] g [] (fun v ψ o => v = vb r ∧ o = []) := by
  unfold o42 at hS
  refine xFn Tryd.f42 (Tryd.f42.body.getD .skip) 15 ?_
  refine xSq ?_
  refine xRg ?_
  refine xB 1 [] [(0, vy t)] ?_
  refine xRe ?_
  refine wpq_then ?_
  refine xSq ?_
  refine xSq ?_
  refine xRg ?_
  refine xB 1 [] [(3, vy t)] ?_
  refine xRe ?_
  refine wpq_then ?_
  refine xBl 0 ?_
  refine xSq ?_
  refine xSq ?_
  refine xRg ?_
  refine xB 2 [] [(3, vy t), (4, vb (t == 1))] ?_
  refine xRe ?_
  refine wpq_then ?_
  refine xLetJ hS (fun g own sl t1 => own = [] ∧ sl = [(4, vb t1)]) ?_ ?_
  · rintro g2 _ _ t1 e3 ⟨rfl, rfl⟩ hS
    refine wpq_then ?_
    refine xCd (t1) (fun h4 => ?_) (fun h4 => ?_)
    · have hS := cond_T h4 hS
      refine xSq ?_
      refine xRg ?_
      refine xB 1 [] [(2, vb true)] ?_
      refine xRe ?_
      refine wpq_then ?_
      have eS := hS.symm
      subst eS
      exact xRet [] [2] e3 ⟨by kernel_rfl, by kernel_rfl⟩ (fun _ _ h => h)
    · have hS := cond_F h4 hS
      refine xSk ?_
      refine wpq_blockN ?_
      refine wpq_then ?_
      refine xSub [] ?_
      refine xSq ?_
      refine xRg ?_
      refine xB 1 [] [(2, vb false)] ?_
      refine xRe ?_
      refine wpq_then ?_
      have eS := hS.symm
      subst eS
      exact xRet [] [2] e3 ⟨by kernel_rfl, by kernel_rfl⟩ (fun _ _ h => h)
  · intro uu1 hS hN1
    refine xCd ((t == 1)) (fun h5 => ?_) (fun h5 => ?_)
    · have hS := cond_T h5 hS
      have h5p : t = 1 := eq_of_beq h5
      refine xSk ?_
      refine xSub [(4, vb (t == 1))] ?_
      have eS := hS.symm
      exact hN1 _ eS _ _ _ (Gh.le.refl _) ⟨by kernel_rfl, by kernel_rfl⟩
    · have hS := cond_F h5 hS
      have h5p : ¬ (t = 1) := ne_of_beq_false_ h5
      refine xSq ?_
      refine xRg ?_
      refine xB 2 [] [(3, vy t), (4, vb (t == 2))] ?_
      refine xRe ?_
      refine wpq_then ?_
      refine xLetJ hS (fun g own sl t6 => own = [] ∧ sl = [(4, vb t6)]) ?_ ?_
      · rintro g7 _ _ t6 e8 ⟨rfl, rfl⟩ hS
        refine xSub [(4, vb t6)] ?_
        have eS := hS.symm
        exact hN1 _ eS _ _ _ e8 ⟨by kernel_rfl, by kernel_rfl⟩
      · intro uu6 hS hN6
        refine xCd ((t == 2)) (fun h9 => ?_) (fun h9 => ?_)
        · have hS := cond_T h9 hS
          have h9p : t = 2 := eq_of_beq h9
          refine xSk ?_
          refine xSub [(4, vb (t == 2))] ?_
          have eS := hS.symm
          exact hN6 _ eS _ _ _ (Gh.le.refl _) ⟨by kernel_rfl, by kernel_rfl⟩
        · have hS := cond_F h9 hS
          have h9p : ¬ (t = 2) := ne_of_beq_false_ h9
          refine xSq ?_
          refine xRg ?_
          refine xB 2 [] [(3, vy t), (4, vb (t == 3))] ?_
          refine xRe ?_
          refine wpq_then ?_
          refine xLetJ hS (fun g own sl t10 => own = [] ∧ sl = [(4, vb t10)]) ?_ ?_
          · rintro g11 _ _ t10 e12 ⟨rfl, rfl⟩ hS
            refine xSub [(4, vb t10)] ?_
            have eS := hS.symm
            exact hN6 _ eS _ _ _ e12 ⟨by kernel_rfl, by kernel_rfl⟩
          · intro uu10 hS hN10
            refine xCd ((t == 3)) (fun h13 => ?_) (fun h13 => ?_)
            · have hS := cond_T h13 hS
              have h13p : t = 3 := eq_of_beq h13
              refine xSk ?_
              refine xSub [(4, vb (t == 3))] ?_
              have eS := hS.symm
              exact hN10 _ eS _ _ _ (Gh.le.refl _) ⟨by kernel_rfl, by kernel_rfl⟩
            · have hS := cond_F h13 hS
              have h13p : ¬ (t = 3) := ne_of_beq_false_ h13
              refine xSq ?_
              refine xRg ?_
              refine xB 2 [] [(3, vy t), (4, vb (t == 4))] ?_
              refine xRe ?_
              refine wpq_then ?_
              refine xLetJ hS (fun g own sl t14 => own = [] ∧ sl = [(4, vb t14)]) ?_ ?_
              · rintro g15 _ _ t14 e16 ⟨rfl, rfl⟩ hS
                refine xSub [(4, vb t14)] ?_
                have eS := hS.symm
                exact hN10 _ eS _ _ _ e16 ⟨by kernel_rfl, by kernel_rfl⟩
              · intro uu14 hS hN14
                refine xCd ((t == 4)) (fun h17 => ?_) (fun h17 => ?_)
                · have hS := cond_T h17 hS
                  have h17p : t = 4 := eq_of_beq h17
                  refine xSk ?_
                  refine xSub [(4, vb (t == 4))] ?_
                  have eS := hS.symm
                  exact hN14 _ eS _ _ _ (Gh.le.refl _) ⟨by kernel_rfl, by kernel_rfl⟩
                · have hS := cond_F h17 hS
                  have h17p : ¬ (t = 4) := ne_of_beq_false_ h17
                  refine xSq ?_
                  refine xRg ?_
                  refine xB 2 [] [(3, vy t), (4, vb (t == 5))] ?_
                  refine xRe ?_
                  refine wpq_then ?_
                  refine xLetJ hS (fun g own sl t18 => own = [] ∧ sl = [(4, vb t18)]) ?_ ?_
                  · rintro g19 _ _ t18 e20 ⟨rfl, rfl⟩ hS
                    refine xSub [(4, vb t18)] ?_
                    have eS := hS.symm
                    exact hN14 _ eS _ _ _ e20 ⟨by kernel_rfl, by kernel_rfl⟩
                  · intro uu18 hS hN18
                    refine xCd ((t == 5)) (fun h21 => ?_) (fun h21 => ?_)
                    · have hS := cond_T h21 hS
                      have h21p : t = 5 := eq_of_beq h21
                      refine xSk ?_
                      refine xSub [(4, vb (t == 5))] ?_
                      have eS := hS.symm
                      exact hN18 _ eS _ _ _ (Gh.le.refl _) ⟨by kernel_rfl, by kernel_rfl⟩
                    · have hS := cond_F h21 hS
                      have h21p : ¬ (t = 5) := ne_of_beq_false_ h21
                      refine xSq ?_
                      refine xRg ?_
                      refine xB 2 [] [(3, vy t), (4, vb (t == 6))] ?_
                      refine xRe ?_
                      refine wpq_then ?_
                      refine xLetJ hS (fun g own sl t22 => own = [] ∧ sl = [(4, vb t22)]) ?_ ?_
                      · rintro g23 _ _ t22 e24 ⟨rfl, rfl⟩ hS
                        refine xSub [(4, vb t22)] ?_
                        have eS := hS.symm
                        exact hN18 _ eS _ _ _ e24 ⟨by kernel_rfl, by kernel_rfl⟩
                      · intro uu22 hS hN22
                        refine xCd ((t == 6)) (fun h25 => ?_) (fun h25 => ?_)
                        · have hS := cond_T h25 hS
                          have h25p : t = 6 := eq_of_beq h25
                          refine xSk ?_
                          refine xSub [(4, vb (t == 6))] ?_
                          have eS := hS.symm
                          exact hN22 _ eS _ _ _ (Gh.le.refl _) ⟨by kernel_rfl, by kernel_rfl⟩
                        · have hS := cond_F h25 hS
                          have h25p : ¬ (t = 6) := ne_of_beq_false_ h25
                          refine xSq ?_
                          refine xRg ?_
                          refine xB 2 [] [(3, vy t), (4, vb (t == 14))] ?_
                          refine xRe ?_
                          refine wpq_then ?_
                          refine xLetJ hS (fun g own sl t26 => own = [] ∧ sl = [(4, vb t26)]) ?_ ?_
                          · rintro g27 _ _ t26 e28 ⟨rfl, rfl⟩ hS
                            refine xSub [(4, vb t26)] ?_
                            have eS := hS.symm
                            exact hN22 _ eS _ _ _ e28 ⟨by kernel_rfl, by kernel_rfl⟩
                          · intro uu26 hS hN26
                            refine xCd ((t == 14)) (fun h29 => ?_) (fun h29 => ?_)
                            · have hS := cond_T h29 hS
                              have h29p : t = 14 := eq_of_beq h29
                              refine xSk ?_
                              refine xSub [(4, vb (t == 14))] ?_
                              have eS := hS.symm
                              exact hN26 _ eS _ _ _ (Gh.le.refl _) ⟨by kernel_rfl, by kernel_rfl⟩
                            · have hS := cond_F h29 hS
                              have h29p : ¬ (t = 14) := ne_of_beq_false_ h29
                              refine xSq ?_
                              refine xRg ?_
                              refine xB 2 [] [(3, vy t), (4, vb (t == 15))] ?_
                              refine xRe ?_
                              refine wpq_then ?_
                              refine xLetJ hS (fun g own sl t30 => own = [] ∧ sl = [(4, vb t30)]) ?_ ?_
                              · rintro g31 _ _ t30 e32 ⟨rfl, rfl⟩ hS
                                refine xSub [(4, vb t30)] ?_
                                have eS := hS.symm
                                exact hN26 _ eS _ _ _ e32 ⟨by kernel_rfl, by kernel_rfl⟩
                              · intro uu30 hS hN30
                                refine xCd ((t == 15)) (fun h33 => ?_) (fun h33 => ?_)
                                · have hS := cond_T h33 hS
                                  have h33p : t = 15 := eq_of_beq h33
                                  refine xSk ?_
                                  refine xSub [(4, vb (t == 15))] ?_
                                  have eS := hS.symm
                                  exact hN30 _ eS _ _ _ (Gh.le.refl _) ⟨by kernel_rfl, by kernel_rfl⟩
                                · have hS := cond_F h33 hS
                                  have h33p : ¬ (t = 15) := ne_of_beq_false_ h33
                                  refine xSq ?_
                                  refine xRg ?_
                                  refine xB 2 [] [(3, vy t), (4, vb (t == 16))] ?_
                                  refine xRe ?_
                                  refine wpq_then ?_
                                  refine xLetJ hS (fun g own sl t34 => own = [] ∧ sl = [(4, vb t34)]) ?_ ?_
                                  · rintro g35 _ _ t34 e36 ⟨rfl, rfl⟩ hS
                                    refine xSub [(4, vb t34)] ?_
                                    have eS := hS.symm
                                    exact hN30 _ eS _ _ _ e36 ⟨by kernel_rfl, by kernel_rfl⟩
                                  · intro uu34 hS hN34
                                    refine xCd ((t == 16)) (fun h37 => ?_) (fun h37 => ?_)
                                    · have hS := cond_T h37 hS
                                      have h37p : t = 16 := eq_of_beq h37
                                      refine xSk ?_
                                      refine xSub [(4, vb (t == 16))] ?_
                                      have eS := hS.symm
                                      exact hN34 _ eS _ _ _ (Gh.le.refl _) ⟨by kernel_rfl, by kernel_rfl⟩
                                    · have hS := cond_F h37 hS
                                      have h37p : ¬ (t = 16) := ne_of_beq_false_ h37
                                      refine xRg ?_
                                      refine xB 2 [] [(4, vb (t == 17))] ?_
                                      refine xRe ?_
                                      refine xSub [(4, vb (t == 17))] ?_
                                      have eS := hS.symm
                                      exact hN34 _ eS _ _ _ (Gh.le.refl _) ⟨by kernel_rfl, by kernel_rfl⟩

def o45 (t : Int) : Bool :=
  (((decide (t ≥ 1) && decide (t ≤ 17))))
set_option maxRecDepth 100000 in
theorem C45 (g : Gh) (t : Int) {r : Bool} (hS : o45 t = r) :
    Ctr Tryd.prog 45 [vy t] g [] (fun v ψ o => v = vb r ∧ o = []) := by
  unfold o45 at hS
  refine xFn Tryd.f45 (Tryd.f45.body.getD .skip) 9 ?_
  refine xSq ?_
  refine xRg ?_
  refine xB 1 [] [(0, vy t)] ?_
  refine xRe ?_
  refine wpq_then ?_
  refine xSq ?_
  refine xRg ?_
  refine xB 3 [] [(0, vy t), (5, vb (decide (t ≥ 1)))] ?_
  refine wpr_grp 6 [(8, vb (decide (t ≥ 1) && decide (t ≤ 17)))] (fun hk2 => ?_) ?_
  · refine wpq_split 5 (b := decide (t ≥ 1)) (by kernel_rfl) (fun q1 => ?_) (fun q1 => ?_)
    · have q1p := of_decide_eq_true q1
      refine xB 3 [] [(8, vb (decide (t ≤ 17)))] ?_
      refine wpq_re 8 (v := vb (decide (t ≤ 17))) (Value.bool ((decide (t ≥ 1) && decide (t ≤ 17)))) (by kernel_rfl) (re_and1 q1) ?_
      exact wpq_sub _ (by kernel_rfl) hk2
    · have q1p := of_decide_eq_false q1
      refine xB 3 [] [(8, vb false)] ?_
      refine wpq_re 8 (v := vb false) (Value.bool ((decide (t ≥ 1) && decide (t ≤ 17)))) (by kernel_rfl) (re_and0 q1) ?_
      exact wpq_sub _ (by kernel_rfl) hk2
  · refine xB 1 [] [(2, vb (decide (t ≥ 1) && decide (t ≤ 17)))] ?_
    refine xRe ?_
    refine wpq_then ?_
    have eS := hS.symm
    subst eS
    exact xRet [] [2] (Gh.le.refl _) ⟨by kernel_rfl, by kernel_rfl⟩ (fun _ _ h => h)

def o48 (a : Int) (b : Int) : Bool :=
  (letJ (τ := Bool) (o45 (a : Int)) fun y1 => (letJ (τ := Bool) (cond ((!y1)) (true) (letJ (τ := Bool) (o45 (b : Int)) fun y125 => (!y125))) fun t4 => (cond (t4) ((false)) (letJ (τ := Bool) (cond ((a == 1)) ((a == 1)) (letJ (τ := Bool) (cond ((a == 2)) ((a == 2)) (letJ (τ := Bool) (cond ((a == 3)) ((a == 3)) (letJ (τ := Bool) (cond ((a == 4)) ((a == 4)) (letJ (τ := Bool) (cond ((a == 5)) ((a == 5)) ((a == 6))) fun t120 => (t120))) fun t116 => (t116))) fun t112 => (t112))) fun t108 => (t108))) fun t8 => (cond (t8) (((b != 1))) (letJ (τ := Bool) (cond ((a == 14)) ((a == 14)) (letJ (τ := Bool) (cond ((a == 15)) ((a == 15)) (letJ (τ := Bool) (cond ((a == 16)) ((a == 16)) ((a == 17))) fun t103 => (t103))) fun t99 => (t99))) fun t12 => (joinI (τ := Unit) (ρ := Bool) (cond (t12) (letJ (τ := Bool) (cond ((b == 2)) ((b == 2)) (letJ (τ := Bool) (cond ((b == 3)) ((b == 3)) (letJ (τ := Bool) (cond ((b == 4)) ((b == 4)) (letJ (τ := Bool) (cond ((b == 7)) ((b == 7)) (letJ (τ := Bool) (cond ((b == 8)) ((b == 8)) (letJ (τ := Bool) (cond ((b == 9)) ((b == 9)) (letJ (τ := Bool) (cond ((b == 10)) ((b == 10)) (letJ (τ := Bool) (cond ((b == 11)) ((b == 11)) (letJ (τ := Bool) (cond ((b == 12)) ((b == 12)) ((b == 13))) fun t52 => (t52))) fun t48 => (t48))) fun t44 => (t44))) fun t40 => (t40))) fun t36 => (t36))) fun t32 => (t32))) fun t28 => (t28))) fun t24 => (t24))) fun t19 => (cond (t19) (Ctl.done ((true))) (Ctl.go ()))) (letJ (τ := Bool) (cond ((a == 7)) ((a == 7)) (letJ (τ := Bool) (cond ((a == 8)) ((a == 8)) (letJ (τ := Bool) (cond ((a == 10)) ((a == 10)) (letJ (τ := Bool) (cond ((a == 11)) ((a == 11)) ((a == 12))) fun t94 => (t94))) fun t90 => (t90))) fun t86 => (t86))) fun t56 => (joinI (τ := Unit) (ρ := Ctl (Unit) (Bool)) (cond (t56) (letJ (τ := Bool) (cond ((b == 3)) ((b == 3)) (letJ (τ := Bool) (cond ((b == 4)) ((b == 4)) (letJ (τ := Bool) (cond ((b == 7)) ((b == 7)) (letJ (τ := Bool) (cond ((b == 8)) ((b == 8)) (letJ (τ := Bool) (cond ((b == 9)) ((b == 9)) ((b == 10))) fun t80 => (t80))) fun t76 => (t76))) fun t72 => (t72))) fun t68 => (t68))) fun t63 => (cond (t63) (Ctl.done (Ctl.done ((true)))) (Ctl.go ()))) (cond ((a == 9)) (Ctl.done (Ctl.done (((b == 3))))) (Ctl.go ()))) fun t59 => (Ctl.go ())))) fun t15 => ((false)))))))))
set_option maxRecDepth 100000 in
theorem C48 (g : Gh) (a : Int) (b : Int) {r : Bool} (hS : o48 a b = r) :
    Ctr Tryd.prog 48 [vy a, vy b] g [] (fun v ψ o => v = vb r ∧ o = []) := by
  unfold o48 at hS
  refine xFn Tryd.f48 (Tryd.f48.body.getD .skip) 58 ?_
  refine xSq ?_
  refine xRg ?_
  refine xB 1 [] [(0, vy a), (1, vy b)] ?_
  refine xRe ?_
  refine wpq_then ?_
  refine xSq ?_
  refine xSq ?_
  refine xRg ?_
  refine xB 1 [] [(0, vy a), (1, vy b), (5, vy a)] ?_
  obtain ⟨y1, hy1, hS⟩ := letJ_T hS
  refine xE (eC 0 (fun g' lr eb ln => C45 g' (a : Int) hy1)) ?_
  rintro _ g2 _ e3 ⟨_, rfl, rfl, rfl⟩
  refine xB 2 [] [(0, vy a), (1, vy b), (8, vb (!y1))] ?_
  refine xGJl hS 8 (fun g own sl t4 => own = [] ∧ sl = [(0, vy a), (1, vy b), (12, vb t4)]) ?_ ?_
  · rintro g5 _ _ t4 e6 ⟨rfl, rfl⟩ hS
    refine xRe ?_
    refine wpq_then ?_
    refine xCd (t4) (fun h7 => ?_) (fun h7 => ?_)
    · have hS := cond_T h7 hS
      refine xSq ?_
      refine xRg ?_
      refine xB 1 [] [(4, vb false)] ?_
      refine xRe ?_
      refine wpq_then ?_
      have eS := hS.symm
      subst eS
      exact xRet [] [4] (e3.trans e6) ⟨by kernel_rfl, by kernel_rfl⟩ (fun _ _ h => h)
    · have hS := cond_F h7 hS
      refine xSk ?_
      refine wpq_then ?_
      refine xSub [(0, vy a), (1, vy b)] ?_
      refine xSq ?_
      refine xSq ?_
      refine xRg ?_
      refine xB 1 [] [(1, vy b), (13, vy a)] ?_
      refine xRe ?_
      refine wpq_then ?_
      refine xBl 0 ?_
      refine xSq ?_
      refine xSq ?_
      refine xRg ?_
      refine xB 2 [] [(1, vy b), (13, vy a), (14, vb (a == 1))] ?_
      refine xRe ?_
      refine wpq_then ?_
      refine xLetJ hS (fun g own sl t8 => own = [] ∧ sl = [(1, vy b), (13, vy a), (14, vb t8)]) ?_ ?_
      · rintro g9 _ _ t8 e10 ⟨rfl, rfl⟩ hS
        refine wpq_then ?_
        refine xCd (t8) (fun h11 => ?_) (fun h11 => ?_)
        · have hS := cond_T h11 hS
          refine xSq ?_
          refine xRg ?_
          refine xB 3 [] [(4, vb (b != 1))] ?_
          refine xRe ?_
          refine wpq_then ?_
          have eS := hS.symm
          subst eS
          exact xRet [] [4] (e3.trans (e6.trans e10)) ⟨by kernel_rfl, by kernel_rfl⟩ (fun _ _ h => h)
        · have hS := cond_F h11 hS
          refine xSq ?_
          refine xSq ?_
          refine xRg ?_
          refine xB 2 [] [(1, vy b), (13, vy a), (23, vb (a == 14))] ?_
          refine xRe ?_
          refine wpq_then ?_
          refine xLetJ hS (fun g own sl t12 => own = [] ∧ sl = [(1, vy b), (13, vy a), (23, vb t12)]) ?_ ?_
          · rintro g13 _ _ t12 e14 ⟨rfl, rfl⟩ hS
            refine wpq_then ?_
            refine xJoinI hS (fun g own sl t15 => own = [] ∧ sl = []) ?_ ?_
            · rintro g16 _ _ t15 e17 ⟨rfl, rfl⟩ hS
              refine wpq_blockN ?_
              refine wpq_then ?_
              refine xSq ?_
              refine xRg ?_
              refine xB 1 [] [(4, vb false)] ?_
              refine xRe ?_
              refine wpq_then ?_
              have eS := hS.symm
              subst eS
              exact xRet [] [4] (e3.trans (e6.trans (e10.trans (e14.trans e17)))) ⟨by kernel_rfl, by kernel_rfl⟩ (fun _ _ h => h)
            · intro uu15 hS hN15 hD15
              refine xCd (t12) (fun h18 => ?_) (fun h18 => ?_)
              · have hS := cond_T h18 hS
                refine xSq ?_
                refine xRg ?_
                refine xB 1 [] [(28, vy b)] ?_
                refine xRe ?_
                refine wpq_then ?_
                refine xBl 1 ?_
                refine xSq ?_
                refine xSq ?_
                refine xRg ?_
                refine xB 2 [] [(28, vy b), (29, vb (b == 2))] ?_
                refine xRe ?_
                refine wpq_then ?_
                refine xLetJ hS (fun g own sl t19 => own = [] ∧ sl = [(29, vb t19)]) ?_ ?_
                · rintro g20 _ _ t19 e21 ⟨rfl, rfl⟩ hS
                  refine wpq_then ?_
                  refine xCd (t19) (fun h22 => ?_) (fun h22 => ?_)
                  · have hS := cond_T h22 hS
                    refine xSq ?_
                    refine xRg ?_
                    refine xB 1 [] [(4, vb true)] ?_
                    refine xRe ?_
                    refine wpq_then ?_
                    have eS := hS.symm
                    have eS := (hD15 _ eS).symm
                    subst eS
                    exact xRet [] [4] (e3.trans (e6.trans (e10.trans (e14.trans e21)))) ⟨by kernel_rfl, by kernel_rfl⟩ (fun _ _ h => h)
                  · have hS := cond_F h22 hS
                    refine xSk ?_
                    refine wpq_blockN ?_
                    refine xSub [] ?_
                    have eS := hS.symm
                    exact hN15 _ eS _ _ _ e21 ⟨by kernel_rfl, by kernel_rfl⟩
                · intro uu19 hS hN19
                  refine xCd ((b == 2)) (fun h23 => ?_) (fun h23 => ?_)
                  · have hS := cond_T h23 hS
                    have h23p : b = 2 := eq_of_beq h23
                    refine xSk ?_
                    refine xSub [(29, vb (b == 2))] ?_
                    have eS := hS.symm
                    exact hN19 _ eS _ _ _ (Gh.le.refl _) ⟨by kernel_rfl, by kernel_rfl⟩
                  · have hS := cond_F h23 hS
                    have h23p : ¬ (b = 2) := ne_of_beq_false_ h23
                    refine xSq ?_
                    refine xRg ?_
                    refine xB 2 [] [(28, vy b), (29, vb (b == 3))] ?_
                    refine xRe ?_
                    refine wpq_then ?_
                    refine xLetJ hS (fun g own sl t24 => own = [] ∧ sl = [(29, vb t24)]) ?_ ?_
                    · rintro g25 _ _ t24 e26 ⟨rfl, rfl⟩ hS
                      refine xSub [(29, vb t24)] ?_
                      have eS := hS.symm
                      exact hN19 _ eS _ _ _ e26 ⟨by kernel_rfl, by kernel_rfl⟩
                    · intro uu24 hS hN24
                      refine xCd ((b == 3)) (fun h27 => ?_) (fun h27 => ?_)
                      · have hS := cond_T h27 hS
                        have h27p : b = 3 := eq_of_beq h27
                        refine xSk ?_
                        refine xSub [(29, vb (b == 3))] ?_
                        have eS := hS.symm
                        exact hN24 _ eS _ _ _ (Gh.le.refl _) ⟨by kernel_rfl, by kernel_rfl⟩
                      · have hS := cond_F h27 hS
                        have h27p : ¬ (b = 3) := ne_of_beq_false_ h27
                        refine xSq ?_
                        refine xRg ?_
                        refine xB 2 [] [(28, vy b), (29, vb (b == 4))] ?_
                        refine xRe ?_
                        refine wpq_then ?_
                        refine xLetJ hS (fun g own sl t28 => own = [] ∧ sl = [(29, vb t28)]) ?_ ?_
                        · rintro g29 _ _ t28 e30 ⟨rfl, rfl⟩ hS
                          refine xSub [(29, vb t28)] ?_
                          have eS := hS.symm
                          exact hN24 _ eS _ _ _ e30 ⟨by kernel_rfl, by kernel_rfl⟩
                        · intro uu28 hS hN28
                          refine xCd ((b == 4)) (fun h31 => ?_) (fun h31 => ?_)
                          · have hS := cond_T h31 hS
                            have h31p : b = 4 := eq_of_beq h31
                            refine xSk ?_
                            refine xSub [(29, vb (b == 4))] ?_
                            have eS := hS.symm
                            exact hN28 _ eS _ _ _ (Gh.le.refl _) ⟨by kernel_rfl, by kernel_rfl⟩
                          · have hS := cond_F h31 hS
                            have h31p : ¬ (b = 4) := ne_of_beq_false_ h31
                            refine xSq ?_
                            refine xRg ?_
                            refine xB 2 [] [(28, vy b), (29, vb (b == 7))] ?_
                            refine xRe ?_
                            refine wpq_then ?_
                            refine xLetJ hS (fun g own sl t32 => own = [] ∧ sl = [(29, vb t32)]) ?_ ?_
                            · rintro g33 _ _ t32 e34 ⟨rfl, rfl⟩ hS
                              refine xSub [(29, vb t32)] ?_
                              have eS := hS.symm
                              exact hN28 _ eS _ _ _ e34 ⟨by kernel_rfl, by kernel_rfl⟩
                            · intro uu32 hS hN32
                              refine xCd ((b == 7)) (fun h35 => ?_) (fun h35 => ?_)
                              · have hS := cond_T h35 hS
                                have h35p : b = 7 := eq_of_beq h35
                                refine xSk ?_
                                refine xSub [(29, vb (b == 7))] ?_
                                have eS := hS.symm
                                exact hN32 _ eS _ _ _ (Gh.le.refl _) ⟨by kernel_rfl, by kernel_rfl⟩
                              · have hS := cond_F h35 hS
                                have h35p : ¬ (b = 7) := ne_of_beq_false_ h35
                                refine xSq ?_
                                refine xRg ?_
                                refine xB 2 [] [(28, vy b), (29, vb (b == 8))] ?_
                                refine xRe ?_
                                refine wpq_then ?_
                                refine xLetJ hS (fun g own sl t36 => own = [] ∧ sl = [(29, vb t36)]) ?_ ?_
                                · rintro g37 _ _ t36 e38 ⟨rfl, rfl⟩ hS
                                  refine xSub [(29, vb t36)] ?_
                                  have eS := hS.symm
                                  exact hN32 _ eS _ _ _ e38 ⟨by kernel_rfl, by kernel_rfl⟩
                                · intro uu36 hS hN36
                                  refine xCd ((b == 8)) (fun h39 => ?_) (fun h39 => ?_)
                                  · have hS := cond_T h39 hS
                                    have h39p : b = 8 := eq_of_beq h39
                                    refine xSk ?_
                                    refine xSub [(29, vb (b == 8))] ?_
                                    have eS := hS.symm
                                    exact hN36 _ eS _ _ _ (Gh.le.refl _) ⟨by kernel_rfl, by kernel_rfl⟩
                                  · have hS := cond_F h39 hS
                                    have h39p : ¬ (b = 8) := ne_of_beq_false_ h39
                                    refine xSq ?_
                                    refine xRg ?_
                                    refine xB 2 [] [(28, vy b), (29, vb (b == 9))] ?_
                                    refine xRe ?_
                                    refine wpq_then ?_
                                    refine xLetJ hS (fun g own sl t40 => own = [] ∧ sl = [(29, vb t40)]) ?_ ?_
                                    · rintro g41 _ _ t40 e42 ⟨rfl, rfl⟩ hS
                                      refine xSub [(29, vb t40)] ?_
                                      have eS := hS.symm
                                      exact hN36 _ eS _ _ _ e42 ⟨by kernel_rfl, by kernel_rfl⟩
                                    · intro uu40 hS hN40
                                      refine xCd ((b == 9)) (fun h43 => ?_) (fun h43 => ?_)
                                      · have hS := cond_T h43 hS
                                        have h43p : b = 9 := eq_of_beq h43
                                        refine xSk ?_
                                        refine xSub [(29, vb (b == 9))] ?_
                                        have eS := hS.symm
                                        exact hN40 _ eS _ _ _ (Gh.le.refl _) ⟨by kernel_rfl, by kernel_rfl⟩
                                      · have hS := cond_F h43 hS
                                        have h43p : ¬ (b = 9) := ne_of_beq_false_ h43
                                        refine xSq ?_
                                        refine xRg ?_
                                        refine xB 2 [] [(28, vy b), (29, vb (b == 10))] ?_
                                        refine xRe ?_
                                        refine wpq_then ?_
                                        refine xLetJ hS (fun g own sl t44 => own = [] ∧ sl = [(29, vb t44)]) ?_ ?_
                                        · rintro g45 _ _ t44 e46 ⟨rfl, rfl⟩ hS
                                          refine xSub [(29, vb t44)] ?_
                                          have eS := hS.symm
                                          exact hN40 _ eS _ _ _ e46 ⟨by kernel_rfl, by kernel_rfl⟩
                                        · intro uu44 hS hN44
                                          refine xCd ((b == 10)) (fun h47 => ?_) (fun h47 => ?_)
                                          · have hS := cond_T h47 hS
                                            have h47p : b = 10 := eq_of_beq h47
                                            refine xSk ?_
                                            refine xSub [(29, vb (b == 10))] ?_
                                            have eS := hS.symm
                                            exact hN44 _ eS _ _ _ (Gh.le.refl _) ⟨by kernel_rfl, by kernel_rfl⟩
                                          · have hS := cond_F h47 hS
                                            have h47p : ¬ (b = 10) := ne_of_beq_false_ h47
                                            refine xSq ?_
                                            refine xRg ?_
                                            refine xB 2 [] [(28, vy b), (29, vb (b == 11))] ?_
                                            refine xRe ?_
                                            refine wpq_then ?_
                                            refine xLetJ hS (fun g own sl t48 => own = [] ∧ sl = [(29, vb t48)]) ?_ ?_
                                            · rintro g49 _ _ t48 e50 ⟨rfl, rfl⟩ hS
                                              refine xSub [(29, vb t48)] ?_
                                              have eS := hS.symm
                                              exact hN44 _ eS _ _ _ e50 ⟨by kernel_rfl, by kernel_rfl⟩
                                            · intro uu48 hS hN48
                                              refine xCd ((b == 11)) (fun h51 => ?_) (fun h51 => ?_)
                                              · have hS := cond_T h51 hS
                                                have h51p : b = 11 := eq_of_beq h51
                                                refine xSk ?_
                                                refine xSub [(29, vb (b == 11))] ?_
                                                have eS := hS.symm
                                                exact hN48 _ eS _ _ _ (Gh.le.refl _) ⟨by kernel_rfl, by kernel_rfl⟩
                                              · have hS := cond_F h51 hS
                                                have h51p : ¬ (b = 11) := ne_of_beq_false_ h51
                                                refine xSq ?_
                                                refine xRg ?_
                                                refine xB 2 [] [(28, vy b), (29, vb (b == 12))] ?_
                                                refine xRe ?_
                                                refine wpq_then ?_
                                                refine xLetJ hS (fun g own sl t52 => own = [] ∧ sl = [(29, vb t52)]) ?_ ?_
                                                · rintro g53 _ _ t52 e54 ⟨rfl, rfl⟩ hS
                                                  refine xSub [(29, vb t52)] ?_
                                                  have eS := hS.symm
                                                  exact hN48 _ eS _ _ _ e54 ⟨by kernel_rfl, by kernel_rfl⟩
                                                · intro uu52 hS hN52
                                                  refine xCd ((b == 12)) (fun h55 => ?_) (fun h55 => ?_)
                                                  · have hS := cond_T h55 hS
                                                    have h55p : b = 12 := eq_of_beq h55
                                                    refine xSk ?_
                                                    refine xSub [(29, vb (b == 12))] ?_
                                                    have eS := hS.symm
                                                    exact hN52 _ eS _ _ _ (Gh.le.refl _) ⟨by kernel_rfl, by kernel_rfl⟩
                                                  · have hS := cond_F h55 hS
                                                    have h55p : ¬ (b = 12) := ne_of_beq_false_ h55
                                                    refine xRg ?_
                                                    refine xB 2 [] [(29, vb (b == 13))] ?_
                                                    refine xRe ?_
                                                    refine xSub [(29, vb (b == 13))] ?_
                                                    have eS := hS.symm
                                                    exact hN52 _ eS _ _ _ (Gh.le.refl _) ⟨by kernel_rfl, by kernel_rfl⟩
              · have hS := cond_F h18 hS
                refine xSq ?_
                refine xSq ?_
                refine xRg ?_
                refine xB 2 [] [(1, vy b), (13, vy a), (40, vb (a == 7))] ?_
                refine xRe ?_
                refine wpq_then ?_
                refine xLetJ hS (fun g own sl t56 => own = [] ∧ sl = [(1, vy b), (13, vy a), (40, vb t56)]) ?_ ?_
                · rintro g57 _ _ t56 e58 ⟨rfl, rfl⟩ hS
                  refine wpq_then ?_
                  refine xJoinI hS (fun g own sl t59 => own = [] ∧ sl = []) ?_ ?_
                  · rintro g60 _ _ t59 e61 ⟨rfl, rfl⟩ hS
                    refine xSub [] ?_
                    have eS := hS.symm
                    exact hN15 _ eS _ _ _ (e58.trans e61) ⟨by kernel_rfl, by kernel_rfl⟩
                  · intro uu59 hS hN59 hD59
                    refine xCd (t56) (fun h62 => ?_) (fun h62 => ?_)
                    · have hS := cond_T h62 hS
                      refine xSq ?_
                      refine xRg ?_
                      refine xB 1 [] [(46, vy b)] ?_
                      refine xRe ?_
                      refine wpq_then ?_
                      refine xBl 2 ?_
                      refine xSq ?_
                      refine xSq ?_
                      refine xRg ?_
                      refine xB 2 [] [(46, vy b), (47, vb (b == 3))] ?_
                      refine xRe ?_
                      refine wpq_then ?_
                      refine xLetJ hS (fun g own sl t63 => own = [] ∧ sl = [(47, vb t63)]) ?_ ?_
                      · rintro g64 _ _ t63 e65 ⟨rfl, rfl⟩ hS
                        refine wpq_then ?_
                        refine xCd (t63) (fun h66 => ?_) (fun h66 => ?_)
                        · have hS := cond_T h66 hS
                          refine xSq ?_
                          refine xRg ?_
                          refine xB 1 [] [(4, vb true)] ?_
                          refine xRe ?_
                          refine wpq_then ?_
                          have eS := hS.symm
                          have eS := (hD59 _ eS).symm
                          have eS := (hD15 _ eS).symm
                          subst eS
                          exact xRet [] [4] (e3.trans (e6.trans (e10.trans (e14.trans (e58.trans e65))))) ⟨by kernel_rfl, by kernel_rfl⟩ (fun _ _ h => h)
                        · have hS := cond_F h66 hS
                          refine xSk ?_
                          refine wpq_blockN ?_
                          refine xSub [] ?_
                          have eS := hS.symm
                          exact hN59 _ eS _ _ _ e65 ⟨by kernel_rfl, by kernel_rfl⟩
                      · intro uu63 hS hN63
                        refine xCd ((b == 3)) (fun h67 => ?_) (fun h67 => ?_)
                        · have hS := cond_T h67 hS
                          have h67p : b = 3 := eq_of_beq h67
                          refine xSk ?_
                          refine xSub [(47, vb (b == 3))] ?_
                          have eS := hS.symm
                          exact hN63 _ eS _ _ _ (Gh.le.refl _) ⟨by kernel_rfl, by kernel_rfl⟩
                        · have hS := cond_F h67 hS
                          have h67p : ¬ (b = 3) := ne_of_beq_false_ h67
                          refine xSq ?_
                          refine xRg ?_
                          refine xB 2 [] [(46, vy b), (47, vb (b == 4))] ?_
                          refine xRe ?_
                          refine wpq_then ?_
                          refine xLetJ hS (fun g own sl t68 => own = [] ∧ sl = [(47, vb t68)]) ?_ ?_
                          · rintro g69 _ _ t68 e70 ⟨rfl, rfl⟩ hS
                            refine xSub [(47, vb t68)] ?_
                            have eS := hS.symm
                            exact hN63 _ eS _ _ _ e70 ⟨by kernel_rfl, by kernel_rfl⟩
                          · intro uu68 hS hN68
                            refine xCd ((b == 4)) (fun h71 => ?_) (fun h71 => ?_)
                            · have hS := cond_T h71 hS
                              have h71p : b = 4 := eq_of_beq h71
                              refine xSk ?_
                              refine xSub [(47, vb (b == 4))] ?_
                              have eS := hS.symm
                              exact hN68 _ eS _ _ _ (Gh.le.refl _) ⟨by kernel_rfl, by kernel_rfl⟩
                            · have hS := cond_F h71 hS
                              have h71p : ¬ (b = 4) := ne_of_beq_false_ h71
                              refine xSq ?_
                              refine xRg ?_
                              refine xB 2 [] [(46, vy b), (47, vb (b == 7))] ?_
                              refine xRe ?_
                              refine wpq_then ?_
                              refine xLetJ hS (fun g own sl t72 => own = [] ∧ sl = [(47, vb t72)]) ?_ ?_
                              · rintro g73 _ _ t72 e74 ⟨rfl, rfl⟩ hS
                                refine xSub [(47, vb t72)] ?_
                                have eS := hS.symm
                                exact hN68 _ eS _ _ _ e74 ⟨by kernel_rfl, by kernel_rfl⟩
                              · intro uu72 hS hN72
                                refine xCd ((b == 7)) (fun h75 => ?_) (fun h75 => ?_)
                                · have hS := cond_T h75 hS
                                  have h75p : b = 7 := eq_of_beq h75
                                  refine xSk ?_
                                  refine xSub [(47, vb (b == 7))] ?_
                                  have eS := hS.symm
                                  exact hN72 _ eS _ _ _ (Gh.le.refl _) ⟨by kernel_rfl, by kernel_rfl⟩
                                · have hS := cond_F h75 hS
                                  have h75p : ¬ (b = 7) := ne_of_beq_false_ h75
                                  refine xSq ?_
                                  refine xRg ?_
                                  refine xB 2 [] [(46, vy b), (47, vb (b == 8))] ?_
                                  refine xRe ?_
                                  refine wpq_then ?_
                                  refine xLetJ hS (fun g own sl t76 => own = [] ∧ sl = [(47, vb t76)]) ?_ ?_
                                  · rintro g77 _ _ t76 e78 ⟨rfl, rfl⟩ hS
                                    refine xSub [(47, vb t76)] ?_
                                    have eS := hS.symm
                                    exact hN72 _ eS _ _ _ e78 ⟨by kernel_rfl, by kernel_rfl⟩
                                  · intro uu76 hS hN76
                                    refine xCd ((b == 8)) (fun h79 => ?_) (fun h79 => ?_)
                                    · have hS := cond_T h79 hS
                                      have h79p : b = 8 := eq_of_beq h79
                                      refine xSk ?_
                                      refine xSub [(47, vb (b == 8))] ?_
                                      have eS := hS.symm
                                      exact hN76 _ eS _ _ _ (Gh.le.refl _) ⟨by kernel_rfl, by kernel_rfl⟩
                                    · have hS := cond_F h79 hS
                                      have h79p : ¬ (b = 8) := ne_of_beq_false_ h79
                                      refine xSq ?_
                                      refine xRg ?_
                                      refine xB 2 [] [(46, vy b), (47, vb (b == 9))] ?_
                                      refine xRe ?_
                                      refine wpq_then ?_
                                      refine xLetJ hS (fun g own sl t80 => own = [] ∧ sl = [(47, vb t80)]) ?_ ?_
                                      · rintro g81 _ _ t80 e82 ⟨rfl, rfl⟩ hS
                                        refine xSub [(47, vb t80)] ?_
                                        have eS := hS.symm
                                        exact hN76 _ eS _ _ _ e82 ⟨by kernel_rfl, by kernel_rfl⟩
                                      · intro uu80 hS hN80
                                        refine xCd ((b == 9)) (fun h83 => ?_) (fun h83 => ?_)
                                        · have hS := cond_T h83 hS
                                          have h83p : b = 9 := eq_of_beq h83
                                          refine xSk ?_
                                          refine xSub [(47, vb (b == 9))] ?_
                                          have eS := hS.symm
                                          exact hN80 _ eS _ _ _ (Gh.le.refl _) ⟨by kernel_rfl, by kernel_rfl⟩
                                        · have hS := cond_F h83 hS
                                          have h83p : ¬ (b = 9) := ne_of_beq_false_ h83
                                          refine xRg ?_
                                          refine xB 2 [] [(47, vb (b == 10))] ?_
                                          refine xRe ?_
                                          refine xSub [(47, vb (b == 10))] ?_
                                          have eS := hS.symm
                                          exact hN80 _ eS _ _ _ (Gh.le.refl _) ⟨by kernel_rfl, by kernel_rfl⟩
                    · have hS := cond_F h62 hS
                      refine xSq ?_
                      refine xRg ?_
                      refine xB 2 [] [(1, vy b), (54, vb (a == 9))] ?_
                      refine xRe ?_
                      refine wpq_then ?_
                      refine xCd ((a == 9)) (fun h84 => ?_) (fun h84 => ?_)
                      · have hS := cond_T h84 hS
                        have h84p : a = 9 := eq_of_beq h84
                        refine xSq ?_
                        refine xRg ?_
                        refine xB 3 [] [(4, vb (b == 3))] ?_
                        refine xRe ?_
                        refine wpq_then ?_
                        have eS := hS.symm
                        have eS := (hD59 _ eS).symm
                        have eS := (hD15 _ eS).symm
                        subst eS
                        exact xRet [] [4] (e3.trans (e6.trans (e10.trans (e14.trans e58)))) ⟨by kernel_rfl, by kernel_rfl⟩ (fun _ _ h => h)
                      · have hS := cond_F h84 hS
                        have h84p : ¬ (a = 9) := ne_of_beq_false_ h84
                        refine xSk ?_
                        refine xSub [] ?_
                        have eS := hS.symm
                        exact hN59 _ eS _ _ _ (Gh.le.refl _) ⟨by kernel_rfl, by kernel_rfl⟩
                · intro uu56 hS hN56
                  refine xCd ((a == 7)) (fun h85 => ?_) (fun h85 => ?_)
                  · have hS := cond_T h85 hS
                    have h85p : a = 7 := eq_of_beq h85
                    refine xSk ?_
                    refine xSub [(1, vy b), (13, vy a), (40, vb (a == 7))] ?_
                    have eS := hS.symm
                    exact hN56 _ eS _ _ _ (Gh.le.refl _) ⟨by kernel_rfl, by kernel_rfl⟩
                  · have hS := cond_F h85 hS
                    have h85p : ¬ (a = 7) := ne_of_beq_false_ h85
                    refine xSq ?_
                    refine xRg ?_
                    refine xB 2 [] [(1, vy b), (13, vy a), (40, vb (a == 8))] ?_
                    refine xRe ?_
                    refine wpq_then ?_
                    refine xLetJ hS (fun g own sl t86 => own = [] ∧ sl = [(1, vy b), (13, vy a), (40, vb t86)]) ?_ ?_
                    · rintro g87 _ _ t86 e88 ⟨rfl, rfl⟩ hS
                      refine xSub [(1, vy b), (13, vy a), (40, vb t86)] ?_
                      have eS := hS.symm
                      exact hN56 _ eS _ _ _ e88 ⟨by kernel_rfl, by kernel_rfl⟩
                    · intro uu86 hS hN86
                      refine xCd ((a == 8)) (fun h89 => ?_) (fun h89 => ?_)
                      · have hS := cond_T h89 hS
                        have h89p : a = 8 := eq_of_beq h89
                        refine xSk ?_
                        refine xSub [(1, vy b), (13, vy a), (40, vb (a == 8))] ?_
                        have eS := hS.symm
                        exact hN86 _ eS _ _ _ (Gh.le.refl _) ⟨by kernel_rfl, by kernel_rfl⟩
                      · have hS := cond_F h89 hS
                        have h89p : ¬ (a = 8) := ne_of_beq_false_ h89
                        refine xSq ?_
                        refine xRg ?_
                        refine xB 2 [] [(1, vy b), (13, vy a), (40, vb (a == 10))] ?_
                        refine xRe ?_
                        refine wpq_then ?_
                        refine xLetJ hS (fun g own sl t90 => own = [] ∧ sl = [(1, vy b), (13, vy a), (40, vb t90)]) ?_ ?_
                        · rintro g91 _ _ t90 e92 ⟨rfl, rfl⟩ hS
                          refine xSub [(1, vy b), (13, vy a), (40, vb t90)] ?_
                          have eS := hS.symm
                          exact hN86 _ eS _ _ _ e92 ⟨by kernel_rfl, by kernel_rfl⟩
                        · intro uu90 hS hN90
                          refine xCd ((a == 10)) (fun h93 => ?_) (fun h93 => ?_)
                          · have hS := cond_T h93 hS
                            have h93p : a = 10 := eq_of_beq h93
                            refine xSk ?_
                            refine xSub [(1, vy b), (13, vy a), (40, vb (a == 10))] ?_
                            have eS := hS.symm
                            exact hN90 _ eS _ _ _ (Gh.le.refl _) ⟨by kernel_rfl, by kernel_rfl⟩
                          · have hS := cond_F h93 hS
                            have h93p : ¬ (a = 10) := ne_of_beq_false_ h93
                            refine xSq ?_
                            refine xRg ?_
                            refine xB 2 [] [(1, vy b), (13, vy a), (40, vb (a == 11))] ?_
                            refine xRe ?_
                            refine wpq_then ?_
                            refine xLetJ hS (fun g own sl t94 => own = [] ∧ sl = [(1, vy b), (13, vy a), (40, vb t94)]) ?_ ?_
                            · rintro g95 _ _ t94 e96 ⟨rfl, rfl⟩ hS
                              refine xSub [(1, vy b), (13, vy a), (40, vb t94)] ?_
                              have eS := hS.symm
                              exact hN90 _ eS _ _ _ e96 ⟨by kernel_rfl, by kernel_rfl⟩
                            · intro uu94 hS hN94
                              refine xCd ((a == 11)) (fun h97 => ?_) (fun h97 => ?_)
                              · have hS := cond_T h97 hS
                                have h97p : a = 11 := eq_of_beq h97
                                refine xSk ?_
                                refine xSub [(1, vy b), (13, vy a), (40, vb (a == 11))] ?_
                                have eS := hS.symm
                                exact hN94 _ eS _ _ _ (Gh.le.refl _) ⟨by kernel_rfl, by kernel_rfl⟩
                              · have hS := cond_F h97 hS
                                have h97p : ¬ (a = 11) := ne_of_beq_false_ h97
                                refine xRg ?_
                                refine xB 2 [] [(1, vy b), (13, vy a), (40, vb (a == 12))] ?_
                                refine xRe ?_
                                refine xSub [(1, vy b), (13, vy a), (40, vb (a == 12))] ?_
                                have eS := hS.symm
                                exact hN94 _ eS _ _ _ (Gh.le.refl _) ⟨by kernel_rfl, by kernel_rfl⟩
          · intro uu12 hS hN12
            refine xCd ((a == 14)) (fun h98 => ?_) (fun h98 => ?_)
            · have hS := cond_T h98 hS
              have h98p : a = 14 := eq_of_beq h98
              refine xSk ?_
              refine xSub [(1, vy b), (13, vy a), (23, vb (a == 14))] ?_
              have eS := hS.symm
              exact hN12 _ eS _ _ _ (Gh.le.refl _) ⟨by kernel_rfl, by kernel_rfl⟩
            · have hS := cond_F h98 hS
              have h98p : ¬ (a = 14) := ne_of_beq_false_ h98
              refine xSq ?_
              refine xRg ?_
              refine xB 2 [] [(1, vy b), (13, vy a), (23, vb (a == 15))] ?_
              refine xRe ?_
              refine wpq_then ?_
              refine xLetJ hS (fun g own sl t99 => own = [] ∧ sl = [(1, vy b), (13, vy a), (23, vb t99)]) ?_ ?_
              · rintro g100 _ _ t99 e101 ⟨rfl, rfl⟩ hS
                refine xSub [(1, vy b), (13, vy a), (23, vb t99)] ?_
                have eS := hS.symm
                exact hN12 _ eS _ _ _ e101 ⟨by kernel_rfl, by kernel_rfl⟩
              · intro uu99 hS hN99
                refine xCd ((a == 15)) (fun h102 => ?_) (fun h102 => ?_)
                · have hS := cond_T h102 hS
                  have h102p : a = 15 := eq_of_beq h102
                  refine xSk ?_
                  refine xSub [(1, vy b), (13, vy a), (23, vb (a == 15))] ?_
                  have eS := hS.symm
                  exact hN99 _ eS _ _ _ (Gh.le.refl _) ⟨by kernel_rfl, by kernel_rfl⟩
                · have hS := cond_F h102 hS
                  have h102p : ¬ (a = 15) := ne_of_beq_false_ h102
                  refine xSq ?_
                  refine xRg ?_
                  refine xB 2 [] [(1, vy b), (13, vy a), (23, vb (a == 16))] ?_
                  refine xRe ?_
                  refine wpq_then ?_
                  refine xLetJ hS (fun g own sl t103 => own = [] ∧ sl = [(1, vy b), (13, vy a), (23, vb t103)]) ?_ ?_
                  · rintro g104 _ _ t103 e105 ⟨rfl, rfl⟩ hS
                    refine xSub [(1, vy b), (13, vy a), (23, vb t103)] ?_
                    have eS := hS.symm
                    exact hN99 _ eS _ _ _ e105 ⟨by kernel_rfl, by kernel_rfl⟩
                  · intro uu103 hS hN103
                    refine xCd ((a == 16)) (fun h106 => ?_) (fun h106 => ?_)
                    · have hS := cond_T h106 hS
                      have h106p : a = 16 := eq_of_beq h106
                      refine xSk ?_
                      refine xSub [(1, vy b), (13, vy a), (23, vb (a == 16))] ?_
                      have eS := hS.symm
                      exact hN103 _ eS _ _ _ (Gh.le.refl _) ⟨by kernel_rfl, by kernel_rfl⟩
                    · have hS := cond_F h106 hS
                      have h106p : ¬ (a = 16) := ne_of_beq_false_ h106
                      refine xRg ?_
                      refine xB 2 [] [(1, vy b), (13, vy a), (23, vb (a == 17))] ?_
                      refine xRe ?_
                      refine xSub [(1, vy b), (13, vy a), (23, vb (a == 17))] ?_
                      have eS := hS.symm
                      exact hN103 _ eS _ _ _ (Gh.le.refl _) ⟨by kernel_rfl, by kernel_rfl⟩
      · intro uu8 hS hN8
        refine xCd ((a == 1)) (fun h107 => ?_) (fun h107 => ?_)
        · have hS := cond_T h107 hS
          have h107p : a = 1 := eq_of_beq h107
          refine xSk ?_
          refine xSub [(1, vy b), (13, vy a), (14, vb (a == 1))] ?_
          have eS := hS.symm
          exact hN8 _ eS _ _ _ (Gh.le.refl _) ⟨by kernel_rfl, by kernel_rfl⟩
        · have hS := cond_F h107 hS
          have h107p : ¬ (a = 1) := ne_of_beq_false_ h107
          refine xSq ?_
          refine xRg ?_
          refine xB 2 [] [(1, vy b), (13, vy a), (14, vb (a == 2))] ?_
          refine xRe ?_
          refine wpq_then ?_
          refine xLetJ hS (fun g own sl t108 => own = [] ∧ sl = [(1, vy b), (13, vy a), (14, vb t108)]) ?_ ?_
          · rintro g109 _ _ t108 e110 ⟨rfl, rfl⟩ hS
            refine xSub [(1, vy b), (13, vy a), (14, vb t108)] ?_
            have eS := hS.symm
            exact hN8 _ eS _ _ _ e110 ⟨by kernel_rfl, by kernel_rfl⟩
          · intro uu108 hS hN108
            refine xCd ((a == 2)) (fun h111 => ?_) (fun h111 => ?_)
            · have hS := cond_T h111 hS
              have h111p : a = 2 := eq_of_beq h111
              refine xSk ?_
              refine xSub [(1, vy b), (13, vy a), (14, vb (a == 2))] ?_
              have eS := hS.symm
              exact hN108 _ eS _ _ _ (Gh.le.refl _) ⟨by kernel_rfl, by kernel_rfl⟩
            · have hS := cond_F h111 hS
              have h111p : ¬ (a = 2) := ne_of_beq_false_ h111
              refine xSq ?_
              refine xRg ?_
              refine xB 2 [] [(1, vy b), (13, vy a), (14, vb (a == 3))] ?_
              refine xRe ?_
              refine wpq_then ?_
              refine xLetJ hS (fun g own sl t112 => own = [] ∧ sl = [(1, vy b), (13, vy a), (14, vb t112)]) ?_ ?_
              · rintro g113 _ _ t112 e114 ⟨rfl, rfl⟩ hS
                refine xSub [(1, vy b), (13, vy a), (14, vb t112)] ?_
                have eS := hS.symm
                exact hN108 _ eS _ _ _ e114 ⟨by kernel_rfl, by kernel_rfl⟩
              · intro uu112 hS hN112
                refine xCd ((a == 3)) (fun h115 => ?_) (fun h115 => ?_)
                · have hS := cond_T h115 hS
                  have h115p : a = 3 := eq_of_beq h115
                  refine xSk ?_
                  refine xSub [(1, vy b), (13, vy a), (14, vb (a == 3))] ?_
                  have eS := hS.symm
                  exact hN112 _ eS _ _ _ (Gh.le.refl _) ⟨by kernel_rfl, by kernel_rfl⟩
                · have hS := cond_F h115 hS
                  have h115p : ¬ (a = 3) := ne_of_beq_false_ h115
                  refine xSq ?_
                  refine xRg ?_
                  refine xB 2 [] [(1, vy b), (13, vy a), (14, vb (a == 4))] ?_
                  refine xRe ?_
                  refine wpq_then ?_
                  refine xLetJ hS (fun g own sl t116 => own = [] ∧ sl = [(1, vy b), (13, vy a), (14, vb t116)]) ?_ ?_
                  · rintro g117 _ _ t116 e118 ⟨rfl, rfl⟩ hS
                    refine xSub [(1, vy b), (13, vy a), (14, vb t116)] ?_
                    have eS := hS.symm
                    exact hN112 _ eS _ _ _ e118 ⟨by kernel_rfl, by kernel_rfl⟩
                  · intro uu116 hS hN116
                    refine xCd ((a == 4)) (fun h119 => ?_) (fun h119 => ?_)
                    · have hS := cond_T h119 hS
                      have h119p : a = 4 := eq_of_beq h119
                      refine xSk ?_
                      refine xSub [(1, vy b), (13, vy a), (14, vb (a == 4))] ?_
                      have eS := hS.symm
                      exact hN116 _ eS _ _ _ (Gh.le.refl _) ⟨by kernel_rfl, by kernel_rfl⟩
                    · have hS := cond_F h119 hS
                      have h119p : ¬ (a = 4) := ne_of_beq_false_ h119
                      refine xSq ?_
                      refine xRg ?_
                      refine xB 2 [] [(1, vy b), (13, vy a), (14, vb (a == 5))] ?_
                      refine xRe ?_
                      refine wpq_then ?_
                      refine xLetJ hS (fun g own sl t120 => own = [] ∧ sl = [(1, vy b), (13, vy a), (14, vb t120)]) ?_ ?_
                      · rintro g121 _ _ t120 e122 ⟨rfl, rfl⟩ hS
                        refine xSub [(1, vy b), (13, vy a), (14, vb t120)] ?_
                        have eS := hS.symm
                        exact hN116 _ eS _ _ _ e122 ⟨by kernel_rfl, by kernel_rfl⟩
                      · intro uu120 hS hN120
                        refine xCd ((a == 5)) (fun h123 => ?_) (fun h123 => ?_)
                        · have hS := cond_T h123 hS
                          have h123p : a = 5 := eq_of_beq h123
                          refine xSk ?_
                          refine xSub [(1, vy b), (13, vy a), (14, vb (a == 5))] ?_
                          have eS := hS.symm
                          exact hN120 _ eS _ _ _ (Gh.le.refl _) ⟨by kernel_rfl, by kernel_rfl⟩
                        · have hS := cond_F h123 hS
                          have h123p : ¬ (a = 5) := ne_of_beq_false_ h123
                          refine xRg ?_
                          refine xB 2 [] [(1, vy b), (13, vy a), (14, vb (a == 6))] ?_
                          refine xRe ?_
                          refine xSub [(1, vy b), (13, vy a), (14, vb (a == 6))] ?_
                          have eS := hS.symm
                          exact hN120 _ eS _ _ _ (Gh.le.refl _) ⟨by kernel_rfl, by kernel_rfl⟩
  · intro uu4 hS hN4
    refine wpq_split 8 (b := (!y1)) (by kernel_rfl) (fun q124 => ?_) (fun q124 => ?_)
    · have hS := cond_T q124 hS
      have q124n := not_eq_true_ q124
      refine xB 4 [] [(0, vy a), (1, vy b), (12, vb true)] ?_
      refine xSub [(0, vy a), (1, vy b), (12, vb true)] ?_
      exact hN4 _ hS.symm _ _ _ (Gh.le.refl _) ⟨by kernel_rfl, by kernel_rfl⟩
    · have hS := cond_F q124 hS
      have q124n := not_eq_false_ q124
      refine xB 1 [] [(0, vy a), (1, vy b), (8, vb false), (9, vy b)] ?_
      obtain ⟨y125, hy125, hS⟩ := letJ_T hS
      refine xE (eC 0 (fun g' lr eb ln => C45 g' (b : Int) hy125)) ?_
      rintro _ g126 _ e127 ⟨_, rfl, rfl, rfl⟩
      refine xB 2 [] [(0, vy a), (1, vy b), (12, vb (!y125))] ?_
      refine xSub [(0, vy a), (1, vy b), (12, vb (!y125))] ?_
      exact hN4 _ hS.symm _ _ _ e127 ⟨by kernel_rfl, by kernel_rfl⟩

def o49 (t : Int) : Bool :=
  (letJ (τ := Bool) (cond ((t == 11)) ((t == 11)) (letJ (τ := Bool) (cond ((t == 12)) ((t == 12)) (letJ (τ := Bool) (cond ((t == 13)) ((t == 13)) (letJ (τ := Bool) (cond ((t == 14)) ((t == 14)) (letJ (τ := Bool) (cond ((t == 15)) ((t == 15)) (letJ (τ := Bool) (cond ((t == 16)) ((t == 16)) ((t == 17))) fun t22 => (t22))) fun t18 => (t18))) fun t14 => (t14))) fun t10 => (t10))) fun t6 => (t6))) fun t1 => (cond (t1) ((true)) ((false))))
set_option maxRecDepth 100000 in
theorem C49 (g : Gh) (t : Int) {r : Bool} (hS : o49 t = r) :
    Ctr Tryd.prog 49 [vy t] g [] (fun v ψ o => v = vb r ∧ o = []) := by
  unfold o49 at hS
  refine xFn Tryd.f49 (Tryd.f49.body.getD .skip) 12 ?_
  refine xSq ?_
  refine xRg ?_
  refine xB 1 [] [(0, vy t)] ?_
  refine xRe ?_
  refine wpq_then ?_
  refine xSq ?_
  refine xSq ?_
  refine xRg ?_
  refine xB 1 [] [(3, vy t)] ?_
  refine xRe ?_
  refine wpq_then ?_
  refine xBl 0 ?_
  refine xSq ?_
  refine xSq ?_
  refine xRg ?_
  refine xB 2 [] [(3, vy t), (4, vb (t == 11))] ?_
  refine xRe ?_
  refine wpq_then ?_
  refine xLetJ hS (fun g own sl t1 => own = [] ∧ sl = [(4, vb t1)]) ?_ ?_
  · rintro g2 _ _ t1 e3 ⟨rfl, rfl⟩ hS
    refine wpq_then ?_
    refine xCd (t1) (fun h4 => ?_) (fun h4 => ?_)
    · have hS := cond_T h4 hS
      refine xSq ?_
      refine xRg ?_
      refine xB 1 [] [(2, vb true)] ?_
      refine xRe ?_
      refine wpq_then ?_
      have eS := hS.symm
      subst eS
      exact xRet [] [2] e3 ⟨by kernel_rfl, by kernel_rfl⟩ (fun _ _ h => h)
    · have hS := cond_F h4 hS
      refine xSk ?_
      refine wpq_blockN ?_
      refine wpq_then ?_
      refine xSub [] ?_
      refine xSq ?_
      refine xRg ?_
      refine xB 1 [] [(2, vb false)] ?_
      refine xRe ?_
      refine wpq_then ?_
      have eS := hS.symm
      subst eS
      exact xRet [] [2] e3 ⟨by kernel_rfl, by kernel_rfl⟩ (fun _ _ h => h)
  · intro uu1 hS hN1
    refine xCd ((t == 11)) (fun h5 => ?_) (fun h5 => ?_)
    · have hS := cond_T h5 hS
      have h5p : t = 11 := eq_of_beq h5
      refine xSk ?_
      refine xSub [(4, vb (t == 11))] ?_
      have eS := hS.symm
      exact hN1 _ eS _ _ _ (Gh.le.refl _) ⟨by kernel_rfl, by kernel_rfl⟩
    · have hS := cond_F h5 hS
      have h5p : ¬ (t = 11) := ne_of_beq_false_ h5
      refine xSq ?_
      refine xRg ?_
      refine xB 2 [] [(3, vy t), (4, vb (t == 12))] ?_
      refine xRe ?_
      refine wpq_then ?_
      refine xLetJ hS (fun g own sl t6 => own = [] ∧ sl = [(4, vb t6)]) ?_ ?_
      · rintro g7 _ _ t6 e8 ⟨rfl, rfl⟩ hS
        refine xSub [(4, vb t6)] ?_
        have eS := hS.symm
        exact hN1 _ eS _ _ _ e8 ⟨by kernel_rfl, by kernel_rfl⟩
      · intro uu6 hS hN6
        refine xCd ((t == 12)) (fun h9 => ?_) (fun h9 => ?_)
        · have hS := cond_T h9 hS
          have h9p : t = 12 := eq_of_beq h9
          refine xSk ?_
          refine xSub [(4, vb (t == 12))] ?_
          have eS := hS.symm
          exact hN6 _ eS _ _ _ (Gh.le.refl _) ⟨by kernel_rfl, by kernel_rfl⟩
        · have hS := cond_F h9 hS
          have h9p : ¬ (t = 12) := ne_of_beq_false_ h9
          refine xSq ?_
          refine xRg ?_
          refine xB 2 [] [(3, vy t), (4, vb (t == 13))] ?_
          refine xRe ?_
          refine wpq_then ?_
          refine xLetJ hS (fun g own sl t10 => own = [] ∧ sl = [(4, vb t10)]) ?_ ?_
          · rintro g11 _ _ t10 e12 ⟨rfl, rfl⟩ hS
            refine xSub [(4, vb t10)] ?_
            have eS := hS.symm
            exact hN6 _ eS _ _ _ e12 ⟨by kernel_rfl, by kernel_rfl⟩
          · intro uu10 hS hN10
            refine xCd ((t == 13)) (fun h13 => ?_) (fun h13 => ?_)
            · have hS := cond_T h13 hS
              have h13p : t = 13 := eq_of_beq h13
              refine xSk ?_
              refine xSub [(4, vb (t == 13))] ?_
              have eS := hS.symm
              exact hN10 _ eS _ _ _ (Gh.le.refl _) ⟨by kernel_rfl, by kernel_rfl⟩
            · have hS := cond_F h13 hS
              have h13p : ¬ (t = 13) := ne_of_beq_false_ h13
              refine xSq ?_
              refine xRg ?_
              refine xB 2 [] [(3, vy t), (4, vb (t == 14))] ?_
              refine xRe ?_
              refine wpq_then ?_
              refine xLetJ hS (fun g own sl t14 => own = [] ∧ sl = [(4, vb t14)]) ?_ ?_
              · rintro g15 _ _ t14 e16 ⟨rfl, rfl⟩ hS
                refine xSub [(4, vb t14)] ?_
                have eS := hS.symm
                exact hN10 _ eS _ _ _ e16 ⟨by kernel_rfl, by kernel_rfl⟩
              · intro uu14 hS hN14
                refine xCd ((t == 14)) (fun h17 => ?_) (fun h17 => ?_)
                · have hS := cond_T h17 hS
                  have h17p : t = 14 := eq_of_beq h17
                  refine xSk ?_
                  refine xSub [(4, vb (t == 14))] ?_
                  have eS := hS.symm
                  exact hN14 _ eS _ _ _ (Gh.le.refl _) ⟨by kernel_rfl, by kernel_rfl⟩
                · have hS := cond_F h17 hS
                  have h17p : ¬ (t = 14) := ne_of_beq_false_ h17
                  refine xSq ?_
                  refine xRg ?_
                  refine xB 2 [] [(3, vy t), (4, vb (t == 15))] ?_
                  refine xRe ?_
                  refine wpq_then ?_
                  refine xLetJ hS (fun g own sl t18 => own = [] ∧ sl = [(4, vb t18)]) ?_ ?_
                  · rintro g19 _ _ t18 e20 ⟨rfl, rfl⟩ hS
                    refine xSub [(4, vb t18)] ?_
                    have eS := hS.symm
                    exact hN14 _ eS _ _ _ e20 ⟨by kernel_rfl, by kernel_rfl⟩
                  · intro uu18 hS hN18
                    refine xCd ((t == 15)) (fun h21 => ?_) (fun h21 => ?_)
                    · have hS := cond_T h21 hS
                      have h21p : t = 15 := eq_of_beq h21
                      refine xSk ?_
                      refine xSub [(4, vb (t == 15))] ?_
                      have eS := hS.symm
                      exact hN18 _ eS _ _ _ (Gh.le.refl _) ⟨by kernel_rfl, by kernel_rfl⟩
                    · have hS := cond_F h21 hS
                      have h21p : ¬ (t = 15) := ne_of_beq_false_ h21
                      refine xSq ?_
                      refine xRg ?_
                      refine xB 2 [] [(3, vy t), (4, vb (t == 16))] ?_
                      refine xRe ?_
                      refine wpq_then ?_
                      refine xLetJ hS (fun g own sl t22 => own = [] ∧ sl = [(4, vb t22)]) ?_ ?_
                      · rintro g23 _ _ t22 e24 ⟨rfl, rfl⟩ hS
                        refine xSub [(4, vb t22)] ?_
                        have eS := hS.symm
                        exact hN18 _ eS _ _ _ e24 ⟨by kernel_rfl, by kernel_rfl⟩
                      · intro uu22 hS hN22
                        refine xCd ((t == 16)) (fun h25 => ?_) (fun h25 => ?_)
                        · have hS := cond_T h25 hS
                          have h25p : t = 16 := eq_of_beq h25
                          refine xSk ?_
                          refine xSub [(4, vb (t == 16))] ?_
                          have eS := hS.symm
                          exact hN22 _ eS _ _ _ (Gh.le.refl _) ⟨by kernel_rfl, by kernel_rfl⟩
                        · have hS := cond_F h25 hS
                          have h25p : ¬ (t = 16) := ne_of_beq_false_ h25
                          refine xRg ?_
                          refine xB 2 [] [(4, vb (t == 17))] ?_
                          refine xRe ?_
                          refine xSub [(4, vb (t == 17))] ?_
                          have eS := hS.symm
                          exact hN22 _ eS _ _ _ (Gh.le.refl _) ⟨by kernel_rfl, by kernel_rfl⟩

def o26 (a : Leg) (b : Leg) : Bool :=
  (letJ (τ := Bool) (o48 (a.type_ : Int) (b.type_ : Int)) fun y3 => (letJ (τ := Bool) (cond (y3) (letJ (τ := Bool) (o49 (b.type_ : Int)) fun y10 => ((!y10) || (a.fix == b.fix))) (false)) fun t6 => ((t6))))
set_option maxRecDepth 100000 in
theorem C26 (g : Gh) (a : Leg) (b : Leg) {r : Bool} (hS : o26 a b = r) :
    Ctr Tryd.prog 26 [Value.agg #[vy a.type_, vt a.fix, vt a.center, vy a.turn, vb a.over, vi a.course, vi a.dist, vi a.radius, vi a.theta, vi a.alt.lo, vi a.alt.hi, vi a.speed, vi a.rnp], Value.agg #[vy b.type_, vt b.fix, vt b.center, vy b.turn, vb b.over, vi b.course, vi b.dist, vi b.radius, vi b.theta, vi b.alt.lo, vi b.alt.hi, vi b.speed, vi b.rnp]] g [] (fun v ψ o => v = vb r ∧ o = []) := by
  unfold o26 at hS
  refine xFn Tryd.f26 (Tryd.f26.body.getD .skip) 23 ?_
  refine xSq ?_
  refine xRg ?_
  refine xE eB ?_
  rintro _ _ _ - ⟨b1, rfl, rfl, rfl⟩
  refine xE eB ?_
  rintro _ _ _ - ⟨b2, rfl, rfl, rfl⟩
  refine xB 1 [] [(2, vp b1 0), (3, vp b2 0)] ?_
  refine xRe ?_
  refine wpq_then ?_
  refine xSq ?_
  refine xRg ?_
  refine xB 4 [(1, 1), (3, 0)] [(2, vp b1 0), (3, vp b2 0), (6, vy a.type_), (8, vy b.type_)] ?_
  obtain ⟨y3, hy3, hS⟩ := letJ_T hS
  refine xE (eC 0 (fun g' lr eb ln => C48 g' (a.type_ : Int) (b.type_ : Int) hy3)) ?_
  rintro _ g4 _ e5 ⟨_, rfl, rfl, rfl⟩
  refine xB 1 [] [(2, vp b1 0), (3, vp b2 0), (10, vb y3)] ?_
  refine xGJl hS 18 (fun g own sl t6 => own = [] ∧ sl = [(22, vb t6)]) ?_ ?_
  · rintro g7 _ _ t6 e8 ⟨rfl, rfl⟩ hS
    refine xB 1 [] [(4, vb t6)] ?_
    refine xRe ?_
    refine wpq_then ?_
    have eS := hS.symm
    subst eS
    exact xRet [] [4] (e5.trans e8) ⟨by kernel_rfl, by kernel_rfl⟩ (fun _ _ h => h)
  · intro uu6 hS hN6
    refine wpq_split 10 (b := y3) (by kernel_rfl) (fun q9 => ?_) (fun q9 => ?_)
    · have hS := cond_T q9 hS
      refine xB 2 [(7, 0)] [(2, vp b1 0), (3, vp b2 0), (10, vb true), (12, vy b.type_)] ?_
      obtain ⟨y10, hy10, hS⟩ := letJ_T hS
      refine xE (eC 0 (fun g' lr eb ln => C49 g' (b.type_ : Int) hy10)) ?_
      rintro _ g11 _ e12 ⟨_, rfl, rfl, rfl⟩
      refine xB 2 [] [(2, vp b1 0), (3, vp b2 0), (10, vb true), (15, vb (!y10))] ?_
      refine wpr_grp 17 [(10, vb true), (21, vb ((!y10) || (a.fix == b.fix)))] (fun hk10 => ?_) ?_
      · refine wpq_split 15 (b := (!y10)) (by kernel_rfl) (fun q13 => ?_) (fun q13 => ?_)
        · have q13n := not_eq_true_ q13
          refine xB 6 [] [(10, vb true), (21, vb true)] ?_
          refine wpq_re 21 (v := vb true) (Value.bool (((!y10) || (a.fix == b.fix)))) (by kernel_rfl) (re_or1 q13) ?_
          exact wpq_sub _ (by kernel_rfl) hk10
        · have q13n := not_eq_false_ q13
          refine xB 4 [(12, 1), (14, 0)] [(10, vb true), (15, vb false), (17, vt a.fix), (19, vt b.fix)] ?_
          refine xV (qEqS (a.fix) (b.fix)) ?_
          refine xB 1 [] [(10, vb true), (21, vb (a.fix == b.fix))] ?_
          refine wpq_re 21 (v := vb (a.fix == b.fix)) (Value.bool (((!y10) || (a.fix == b.fix)))) (by kernel_rfl) (re_or0 q13) ?_
          exact wpq_sub _ (by kernel_rfl) hk10
      · refine xB 1 [] [(22, vb ((!y10) || (a.fix == b.fix)))] ?_
        refine xSel [] ?_
        refine xSub [(22, vb ((!y10) || (a.fix == b.fix)))] ?_
        exact hN6 _ hS.symm _ _ _ e12 ⟨by kernel_rfl, by kernel_rfl⟩
    · have hS := cond_F q9 hS
      refine xB 12 [] [(22, vb false)] ?_
      refine xSel [] ?_
      refine xSub [(22, vb false)] ?_
      exact hN6 _ hS.symm _ _ _ (Gh.le.refl _) ⟨by kernel_rfl, by kernel_rfl⟩

def o21 (a : List Leg) (b : List Leg) : Option ((List Leg)) :=
  (bindO (τ := (List Leg)) (o41 (a : List Leg)) fun y1 => (bindO (τ := (List Leg)) (cond ((decide ((((a).length : Nat) : Int) > 0) && decide ((((b).length : Nat) : Int) > 0))) (grd (decide (0 ≤ ((((a).length : Nat) : Int) - 1) ∧ ((((a).length : Nat) : Int) - 1) < (((a).length : Nat) : Int))) (letJ (τ := Bool) (cond (((List.getD b 0 default).type_ == 1)) (letJ (τ := Bool) (o42 ((List.getD a (((((a).length : Nat) : Int) - 1)).toNat default).type_ : Int)) fun y42 => y42) (false)) fun t17 => (letJ (τ := Bool) (cond ((t17 && ((List.getD a (((((a).length : Nat) : Int) - 1)).toNat default).fix == (List.getD b 0 default).fix))) (letJ (τ := Bool) (cond (((((b).length : Nat) : Int) == 1)) (true) (letJ (τ := Bool) (o26 (List.getD a (((((a).length : Nat) : Int) - 1)).toNat default) (List.getD b 1 default)) fun y38 => y38)) fun t32 => t32) (false)) fun t23 => (letJ (τ := (List Leg)) (cond (t23) (((List.drop 1 b) : List Leg)) ((b : List Leg))) fun t26 => (some ((t26 : List Leg))))))) (some ((b : List Leg)))) fun t5 => (grd (decide (((y1).length + (t5).length) * 112 ≤ 140737488355328)) (some (((y1 ++ t5) : List Leg))))))
set_option maxRecDepth 100000 in
theorem C21 (g : Gh) (a : List Leg) (Aa : Option Addr) (ca : Nat) (b : List Leg) (Ab : Option Addr) (cb : Nat) (fa : ArrM g.r g.b tyLeg Aa ca a) (fb : Arr g.b tyLeg Ab cb b) {r : (List Leg)} (hS : o21 a b = some r) :
    Ctr Tryd.prog 21 [vs Aa a ca, vs Ab b cb] g [] (fun v ψ o => ∃ (Ar_0 : Option Addr) (cr_0 : Nat) (kr_0 : Option Bk), v = vs Ar_0 r cr_0 ∧ o = [kr_0] ∧ Buf ψ tyLeg 46 (.slice Ar_0 (r).length cr_0) kr_0 r) := by
  unfold o21 at hS
  refine xFn Tryd.f21 (Tryd.f21.body.getD .skip) 59 ?_
  have nfa := fa.len
  have nfb := fb.len
  refine xSq ?_
  refine xRg ?_
  refine xB 1 [] [(0, vs Aa a ca), (1, vs Ab b cb)] ?_
  refine xRe ?_
  refine wpq_then ?_
  refine xSq ?_
  refine xRg ?_
  refine xB 1 [] [(0, vs Aa a ca), (1, vs Ab b cb), (7, vs Aa a ca)] ?_
  obtain ⟨y1, hy1, hS⟩ := bindO_T hS
  refine xE (eC 0 (fun g' lr eb ln => C41 g' (a : List Leg) Aa ca (ArrM.lent fa lr eb) hy1)) ?_
  rintro _ g2 _ e3 ⟨_, rfl, A1_0, c1_0, k1_0, rfl, rfl, h1_0⟩
  have nh1_0 := h1_0.len
  refine xB 1 [] [(0, vs Aa a ca), (1, vs Ab b cb), (5, vs A1_0 y1 c1_0)] ?_
  refine xRe ?_
  refine wpq_then ?_
  refine xSq ?_
  refine xSq ?_
  refine xRg ?_
  refine xB 4 [] [(0, vs Aa a ca), (1, vs Ab b cb), (5, vs A1_0 y1 c1_0), (12, vb (decide ((((a).length : Nat) : Int) > 0)))] ?_
  refine wpr_grp 8 [(0, vs Aa a ca), (1, vs Ab b cb), (5, vs A1_0 y1 c1_0), (16, vb (decide ((((a).length : Nat) : Int) > 0) && decide ((((b).length : Nat) : Int) > 0)))] (fun hk3 => ?_) ?_
  · refine wpq_split 12 (b := decide ((((a).length : Nat) : Int) > 0)) (by kernel_rfl) (fun q4 => ?_) (fun q4 => ?_)
    · have q4p := of_decide_eq_true q4
      refine xB 4 [] [(0, vs Aa a ca), (1, vs Ab b cb), (5, vs A1_0 y1 c1_0), (16, vb (decide ((((b).length : Nat) : Int) > 0)))] ?_
      refine wpq_re 16 (v := vb (decide ((((b).length : Nat) : Int) > 0))) (Value.bool ((decide ((((a).length : Nat) : Int) > 0) && decide ((((b).length : Nat) : Int) > 0)))) (by kernel_rfl) (re_and1 q4) ?_
      exact wpq_sub _ (by kernel_rfl) hk3
    · have q4p := of_decide_eq_false q4
      refine xB 4 [] [(0, vs Aa a ca), (1, vs Ab b cb), (5, vs A1_0 y1 c1_0), (16, vb false)] ?_
      refine wpq_re 16 (v := vb false) (Value.bool ((decide ((((a).length : Nat) : Int) > 0) && decide ((((b).length : Nat) : Int) > 0)))) (by kernel_rfl) (re_and0 q4) ?_
      exact wpq_sub _ (by kernel_rfl) hk3
  · refine xRe ?_
    refine wpq_then ?_
    refine xBindO hS (fun g own sl t5 => ∃ (A5_0 : Option Addr) (c5_0 : Nat), own = [k1_0] ∧ sl = [(1, vs A5_0 t5 c5_0), (5, vs A1_0 y1 c1_0)] ∧ Arr g.b tyLeg A5_0 c5_0 t5) ?_ ?_
    · rintro g6 _ _ t5 e7 ⟨A5_0, c5_0, rfl, rfl, f5_0⟩ hS
      have nf5_0 := f5_0.len
      refine wpq_then ?_
      refine xSq ?_
      refine xRg ?_
      refine xB 2 [] [(56, vs A1_0 y1 c1_0), (57, vs A5_0 t5 c5_0)] ?_
      have h1_0 := h1_0.mono e7.b
      obtain ⟨nw8, hp8, hs8⟩ := f5_0.srcB
      obtain ⟨q9, hS⟩ := grd_T hS
      have q9p := of_decide_eq_true q9
      refine xE (eApp (T := tyLeg) (p := g6.b) (et := 46) (bytes := 112) (xs := (y1 : List Leg)) (ys := (t5 : List Leg)) 0 h1_0 rfl (fun w hs => hs8 w _ hs) hp8 (by first | omega | (simp only [List.length_cons, List.length_nil] at *; omega)) (by first | omega | (simp only [List.length_cons, List.length_nil] at *; omega))) ?_
      rintro _ _ _ - ⟨A8, c8, k8, rfl, rfl, rfl, h8⟩
      have nh8 := h8.len
      have hz8 : ((y1 ++ t5) : List Leg).length = (y1).length + (t5).length := List.length_append
      refine xB 1 [] [(4, vs A8 (y1 ++ t5) c8)] ?_
      refine xRe ?_
      refine wpq_then ?_
      have eS := (Option.some.inj hS).symm
      subst eS
      exact xRet [some 0] [4] (e3.trans e7) ⟨A8, c8, k8, by kernel_rfl, by kernel_rfl, h8⟩ (fun _ _ h => h)
    · intro uu5 hS hN5
      refine xCd ((decide ((((a).length : Nat) : Int) > 0) && decide ((((b).length : Nat) : Int) > 0))) (fun h10 => ?_) (fun h10 => ?_)
      · have hS := cond_T h10 hS
        have h10l := (and_true_ h10).1
        have h10r := (and_true_ h10).2
        have h10lp := of_decide_eq_true h10l
        have h10rp := of_decide_eq_true h10r
        refine xSq ?_
        refine xRg ?_
        refine xB 3 [] [(1, vs Ab b cb), (5, vs A1_0 y1 c1_0), (17, vs Aa a ca), (19, vi (((a).length : Nat) : Int))] ?_
        refine xV (qSub .i64 ((((a).length : Nat) : Int)) (1) (wr64 (by omega))) ?_
        have fa := fa.mono e3.r e3.b
        obtain ⟨q12, hS⟩ := grd_T hS
        have q12p := of_decide_eq_true q12
        have i13 : (((((a).length : Nat) : Int) - 1)).toNat < (a).length := by omega
        obtain ⟨ad11, cs11, hA11, hr11, hc11⟩ := fa.at_ (get_getD (d := default) i13)
        obtain ⟨rfl⟩ := hr11
        refine xV (qIx (((((a).length : Nat) : Int) - 1)).toNat 13 hA11 (show (((((a).length : Nat) : Int) - 1) : Int) = _ from by omega) i13) ?_
        refine xV (qLdP (Addr.add ad11 ((((((a).length : Nat) : Int) - 1)).toNat * 13)) 0 hc11) ?_
        refine xE eB ?_
        rintro _ _ _ - ⟨b14, rfl, rfl, rfl⟩
        refine xBo 1 [(7, 0)] [some ⟨b14, 46, (cLeg (List.getD a (((((a).length : Nat) : Int) - 1)).toNat default))⟩, k1_0] [(1, vs Ab b cb), (5, vs A1_0 y1 c1_0), (6, vp b14 0)] ?_
        refine xRe ?_
        refine wpq_then ?_
        refine xSq ?_
        refine xDr 0 [3, 7, 12, 16, 24, 27] [] [some ⟨b14, 46, (cLeg (List.getD a (((((a).length : Nat) : Int) - 1)).toNat default))⟩] 31 (fun RG => ?_) (fun _ _ _ _ _ h => h)
        have fb := fb.mono e3.b
        have i16 : 0 < (b).length := by omega
        obtain ⟨ad15, cs15, hA15, hr15, hc15⟩ := fb.at_ (get_getD (d := default) i16)
        obtain ⟨rfl⟩ := hr15
        refine xT 30 [0] [] [some 0] [(1, vs Ab b cb), (5, vs A1_0 y1 c1_0), (6, vp b14 0), (23, vs Ab b cb)] RG (Psi.le.refl _) ?_
        refine xTp 1 RG (fun _ => (qIx 0 13 hA15 rfl i16)) ?_
        refine xT 28 [2] [] [some 0] [(1, vs Ab b cb), (5, vs A1_0 y1 c1_0), (6, vp b14 0), (25, Value.pointer (some (Addr.add ad15 (0 * 13))))] RG (Psi.le.refl _) ?_
        refine xTv 3 [some 0] RG (Psi.le.refl _) (qLdP (Addr.add ad15 (0 * 13)) 0 (hc15.mono g2.br)) ?_
        refine xT 25 [4, 5] [] [some 0] [(1, vs Ab b cb), (5, vs A1_0 y1 c1_0), (6, vp b14 0), (28, vb ((List.getD b 0 default).type_ == 1))] RG (Psi.le.refl _) ?_
        refine xGJlA hS 21 [true, true, true, true, true, true, true, true, true, true, false, false, false, false, false, false, false, false, false, false, false, false, false, false, false, false, false, false, false, false, false] (fun g own sl t17 => own = [some ⟨b14, 46, (cLeg (List.getD a (((((a).length : Nat) : Int) - 1)).toNat default))⟩, k1_0] ∧ sl = [(1, vs Ab b cb), (5, vs A1_0 y1 c1_0), (6, vp b14 0), (32, vb t17)]) ?_ ?_
        · rintro g18 _ _ t17 e19 ⟨rfl, rfl⟩ hS
          refine xT 20 [10] [] [some 0] [(1, vs Ab b cb), (5, vs A1_0 y1 c1_0), (6, vp b14 0), (33, vb t17)] RG e19.r ?_
          refine wpa_grp 12 [true, true, true, true, true, true, true, true, true, true, true, true, true, true, true, true, true, true, true, false, false, false, false, false, false, false, false, false, false, false, false] [(1, vs Ab b cb), (5, vs A1_0 y1 c1_0), (6, vp b14 0), (41, vb (t17 && ((List.getD a (((((a).length : Nat) : Int) - 1)).toNat default).fix == (List.getD b 0 default).fix)))] (fun hk10 => ?_) ?_
          · refine wpq_split 33 (b := t17) (by kernel_rfl) (fun q20 => ?_) (fun q20 => ?_)
            · have i22 : 0 < (b).length := by omega
              obtain ⟨ad21, cs21, hA21, hr21, hc21⟩ := fb.at_ (get_getD (d := default) i22)
              obtain ⟨rfl⟩ := hr21
              refine xT 17 [11, 12, 13] [(12, 0)] [some 0] [(1, vs Ab b cb), (5, vs A1_0 y1 c1_0), (6, vp b14 0), (33, vb true), (35, vt ((List.getD a (((((a).length : Nat) : Int) - 1)).toNat default).fix)), (36, vs Ab b cb)] RG e19.r ?_
              refine xTp 14 RG (fun _ => (qIx 0 13 hA21 rfl i22)) ?_
              refine xT 15 [15] [] [some 0] [(1, vs Ab b cb), (5, vs A1_0 y1 c1_0), (6, vp b14 0), (33, vb true), (35, vt ((List.getD a (((((a).length : Nat) : Int) - 1)).toNat default).fix)), (38, Value.pointer (some (Addr.add (Addr.add ad21 (0 * 13)) 1)))] RG e19.r ?_
              refine xTv 16 [some 0] RG e19.r (qLdP (Addr.add ad21 (0 * 13)) 1 (hc21.mono g2.br)) ?_
              refine xTp 17 RG (fun _ => (qEqS ((List.getD a (((((a).length : Nat) : Int) - 1)).toNat default).fix) ((List.getD b 0 default).fix))) ?_
              refine xT 12 [18] [] [some 0] [(1, vs Ab b cb), (5, vs A1_0 y1 c1_0), (6, vp b14 0), (41, vb ((List.getD a (((((a).length : Nat) : Int) - 1)).toNat default).fix == (List.getD b 0 default).fix))] RG e19.r ?_
              refine wpq_re 41 (v := vb ((List.getD a (((((a).length : Nat) : Int) - 1)).toNat default).fix == (List.getD b 0 default).fix)) (Value.bool ((t17 && ((List.getD a (((((a).length : Nat) : Int) - 1)).toNat default).fix == (List.getD b 0 default).fix)))) (by kernel_rfl) (re_and1 q20) ?_
              exact wpq_sub _ (by kernel_rfl) hk10
            · refine xT 12 [11, 12, 13, 14, 15, 16, 17, 18] [] [some 0] [(1, vs Ab b cb), (5, vs A1_0 y1 c1_0), (6, vp b14 0), (41, vb false)] RG e19.r ?_
              refine wpq_re 41 (v := vb false) (Value.bool ((t17 && ((List.getD a (((((a).length : Nat) : Int) - 1)).toNat default).fix == (List.getD b 0 default).fix)))) (by kernel_rfl) (re_and0 q20) ?_
              exact wpq_sub _ (by kernel_rfl) hk10
          · refine xT 11 [19] [] [some 0] [(1, vs Ab b cb), (5, vs A1_0 y1 c1_0), (6, vp b14 0), (42, vb (t17 && ((List.getD a (((((a).length : Nat) : Int) - 1)).toNat default).fix == (List.getD b 0 default).fix)))] RG e19.r ?_
            refine xGJlA hS 0 [true, true, true, true, true, true, true, true, true, true, true, true, true, true, true, true, true, true, true, true, true, true, true, true, true, true, true, true, true, true, true] (fun g own sl t23 => own = [some ⟨b14, 46, (cLeg (List.getD a (((((a).length : Nat) : Int) - 1)).toNat default))⟩, k1_0] ∧ sl = [(1, vs Ab b cb), (5, vs A1_0 y1 c1_0), (53, vb t23)]) ?_ ?_
            · rintro g24 _ _ t23 e25 ⟨rfl, rfl⟩ hS
              refine xAe (lds := [3, 7, 12, 16, 24, 27]) ?_
              refine wpq_then ?_
              refine xLetJ hS (fun g own sl t26 => ∃ (A26_0 : Option Addr) (c26_0 : Nat), own = [k1_0] ∧ sl = [(1, vs A26_0 t26 c26_0), (5, vs A1_0 y1 c1_0)] ∧ Arr g.b tyLeg A26_0 c26_0 t26) ?_ ?_
              · rintro g27 _ _ t26 e28 ⟨A26_0, c26_0, rfl, rfl, f26_0⟩ hS
                have nf26_0 := f26_0.len
                refine xSub [(1, vs A26_0 t26 c26_0), (5, vs A1_0 y1 c1_0)] ?_
                have eS := (Option.some.inj hS).symm
                exact hN5 _ eS _ _ _ (e19.trans (e25.trans e28)) ⟨A26_0, c26_0, by kernel_rfl, by kernel_rfl, f26_0⟩
              · intro uu26 hS hN26
                refine xCd (t23) (fun h29 => ?_) (fun h29 => ?_)
                · have hS := cond_T h29 hS
                  refine xRg ?_
                  have fb := fb.mono (e19.trans e25).b
                  have ncapf30 := fb.cap
                  have f30 : Arr g24.b tyLeg (offA Ab cb 1 13) (cb - 1) (List.drop 1 b) := fb.cut_from 1 (by omega)
                  have nf30 := f30.len
                  have hlf30 : (b).length - 1 = ((List.drop 1 b)).length := by simp only [List.length_take, List.length_drop] <;> omega
                  have hvf30 : ((((List.drop 1 b)).length : Nat) : Int) = (((b).length : Nat) : Int) - 1 := by omega
                  refine xB 1 [] [(1, vs Ab b cb), (5, vs A1_0 y1 c1_0), (54, vs Ab b cb)] ?_
                  refine xV (qSl (m := 13) (A := Ab) (len := (b).length) (c := cb) 1 (b).length (some 1) none ((List.drop 1 b)).length rfl rfl (by omega) (by omega) hlf30) ?_
                  refine xB 1 [] [(1, vs (offA Ab cb 1 13) (List.drop 1 b) (cb - 1)), (5, vs A1_0 y1 c1_0)] ?_
                  refine xRe ?_
                  refine xSel [some 1] ?_
                  refine xSub [(1, vs (offA Ab cb 1 13) (List.drop 1 b) (cb - 1)), (5, vs A1_0 y1 c1_0)] ?_
                  have eS := hS.symm
                  exact hN26 _ eS _ _ _ (Gh.le.refl _) ⟨(offA Ab cb 1 13), (cb - 1), by kernel_rfl, by kernel_rfl, f30⟩
                · have hS := cond_F h29 hS
                  refine xSk ?_
                  have fb := fb.mono (e19.trans e25).b
                  refine xSel [some 1] ?_
                  refine xSub [(1, vs Ab b cb), (5, vs A1_0 y1 c1_0)] ?_
                  have eS := hS.symm
                  exact hN26 _ eS _ _ _ (Gh.le.refl _) ⟨Ab, cb, by kernel_rfl, by kernel_rfl, fb⟩
            · intro uu23 hS hN23
              refine wpq_split 42 (b := (t17 && ((List.getD a (((((a).length : Nat) : Int) - 1)).toNat default).fix == (List.getD b 0 default).fix))) (by kernel_rfl) (fun q31 => ?_) (fun q31 => ?_)
              · have hS := cond_T q31 hS
                have q31l := (and_true_ q31).1
                have q31r := (and_true_ q31).2
                have q31rp : (List.getD a (((((a).length : Nat) : Int) - 1)).toNat default).fix = (List.getD b 0 default).fix := eq_of_beq q31r
                refine xT 7 [20, 21, 22, 23] [] [some 0] [(1, vs Ab b cb), (5, vs A1_0 y1 c1_0), (6, vp b14 0), (42, vb true), (46, vb ((((b).length : Nat) : Int) == 1))] RG e19.r ?_
                refine xGJlA hS 1 [true, true, true, true, true, true, true, true, true, true, true, true, true, true, true, true, true, true, true, true, true, true, true, true, true, true, true, true, true, true, false] (fun g own sl t32 => own = [some ⟨b14, 46, (cLeg (List.getD a (((((a).length : Nat) : Int) - 1)).toNat default))⟩, k1_0] ∧ sl = [(1, vs Ab b cb), (5, vs A1_0 y1 c1_0), (42, vb true), (52, vb t32)]) ?_ ?_
                · rintro g33 _ _ t32 e34 ⟨rfl, rfl⟩ hS
                  refine xT 0 [30] [] [some 0] [(1, vs Ab b cb), (5, vs A1_0 y1 c1_0), (53, vb t32)] RG (e19.trans e34).r ?_
                  refine xSub [(1, vs Ab b cb), (5, vs A1_0 y1 c1_0), (53, vb t32)] ?_
                  exact hN23 _ hS.symm _ _ _ e34 ⟨by kernel_rfl, by kernel_rfl⟩
                · intro uu32 hS hN32
                  refine wpq_split 46 (b := ((((b).length : Nat) : Int) == 1)) (by kernel_rfl) (fun q35 => ?_) (fun q35 => ?_)
                  · have hS := cond_T q35 hS
                    have q35p : (((b).length : Nat) : Int) = 1 := eq_of_beq q35
                    refine xT 3 [24, 25, 26, 27] [] [some 0] [(1, vs Ab b cb), (5, vs A1_0 y1 c1_0), (42, vb true), (46, vb true), (47, undef), (50, undef)] RG e19.r ?_
                    refine xO1 (lds := [3, 7, 12, 16, 24, 27]) 28 ?_
                    refine xIb (lds := [3, 7, 12, 16, 24, 27]) [] ?_
                    refine xT 1 [29] [] [some 0] [(1, vs Ab b cb), (5, vs A1_0 y1 c1_0), (42, vb true), (52, vb true)] RG e19.r ?_
                    refine xSub [(1, vs Ab b cb), (5, vs A1_0 y1 c1_0), (42, vb true), (52, vb true)] ?_
                    exact hN32 _ hS.symm _ _ _ (Gh.le.refl _) ⟨by kernel_rfl, by kernel_rfl⟩
                  · have hS := cond_F q35 hS
                    have q35p : ¬ ((((b).length : Nat) : Int) = 1) := ne_of_beq_false_ q35
                    have i37 : 1 < (b).length := by omega
                    obtain ⟨ad36, cs36, hA36, hr36, hc36⟩ := fb.at_ (get_getD (d := default) i37)
                    obtain ⟨rfl⟩ := hr36
                    refine xT 5 [24, 25] [(24, 0)] [some 0] [(1, vs Ab b cb), (5, vs A1_0 y1 c1_0), (42, vb true), (46, vb false), (47, Value.agg #[vy ((List.getD a (((((a).length : Nat) : Int) - 1)).toNat default).type_), vt ((List.getD a (((((a).length : Nat) : Int) - 1)).toNat default).fix), vt ((List.getD a (((((a).length : Nat) : Int) - 1)).toNat default).center), vy ((List.getD a (((((a).length : Nat) : Int) - 1)).toNat default).turn), vb ((List.getD a (((((a).length : Nat) : Int) - 1)).toNat default).over), vi ((List.getD a (((((a).length : Nat) : Int) - 1)).toNat default).course), vi ((List.getD a (((((a).length : Nat) : Int) - 1)).toNat default).dist), vi ((List.getD a (((((a).length : Nat) : Int) - 1)).toNat default).radius), vi ((List.getD a (((((a).length : Nat) : Int) - 1)).toNat default).theta), vi ((List.getD a (((((a).length : Nat) : Int) - 1)).toNat default).alt.lo), vi ((List.getD a (((((a).length : Nat) : Int) - 1)).toNat default).alt.hi), vi ((List.getD a (((((a).length : Nat) : Int) - 1)).toNat default).speed), vi ((List.getD a (((((a).length : Nat) : Int) - 1)).toNat default).rnp)]), (48, vs Ab b cb)] RG e19.r ?_
                    refine xTp 26 RG (fun _ => (qIx 1 13 hA36 rfl i37)) ?_
                    refine xTv 27 [some 0] RG e19.r (qLdP (Addr.add ad36 (1 * 13)) 0 (hc36.mono g2.br)) ?_
                    obtain ⟨y38, hy38, hS⟩ := letJ_T hS
                    refine xO1 (lds := [3, 7, 12, 16, 24, 27]) 28 ?_
                    refine xIe (lds := [3, 7, 12, 16, 24, 27]) e19.r (eC 0 (fun g' lr eb ln => C26 g' (List.getD a (((((a).length : Nat) : Int) - 1)).toNat default) (List.getD b 1 default) hy38)) ?_
                    rintro _ g39 _ e40 ⟨_, rfl, rfl, rfl⟩
                    refine kk [some 0] ?_
                    refine xT 1 [29] [] [some 0] [(1, vs Ab b cb), (5, vs A1_0 y1 c1_0), (42, vb true), (52, vb y38)] RG (e19.trans e40).r ?_
                    refine xSub [(1, vs Ab b cb), (5, vs A1_0 y1 c1_0), (42, vb true), (52, vb y38)] ?_
                    exact hN32 _ hS.symm _ _ _ e40 ⟨by kernel_rfl, by kernel_rfl⟩
              · have hS := cond_F q31 hS
                refine xT 3 [20, 21, 22, 23, 24, 25, 26, 27] [] [some 0] [(1, vs Ab b cb), (5, vs A1_0 y1 c1_0), (42, vb false), (46, undef), (47, undef), (50, undef)] RG e19.r ?_
                refine xO1 (lds := [3, 7, 12, 16, 24, 27]) 28 ?_
                refine xIb (lds := [3, 7, 12, 16, 24, 27]) [] ?_
                refine xT 0 [29, 30] [] [some 0] [(1, vs Ab b cb), (5, vs A1_0 y1 c1_0), (53, vb false)] RG e19.r ?_
                refine xSub [(1, vs Ab b cb), (5, vs A1_0 y1 c1_0), (53, vb false)] ?_
                exact hN23 _ hS.symm _ _ _ (Gh.le.refl _) ⟨by kernel_rfl, by kernel_rfl⟩
        · intro uu17 hS hN17
          refine wpq_split 28 (b := ((List.getD b 0 default).type_ == 1)) (by kernel_rfl) (fun q41 => ?_) (fun q41 => ?_)
          · have hS := cond_T q41 hS
            have q41p : (List.getD b 0 default).type_ = 1 := eq_of_beq q41
            refine xT 23 [6, 7] [(7, 0)] [some 0] [(1, vs Ab b cb), (5, vs A1_0 y1 c1_0), (6, vp b14 0), (28, vb true), (30, vy ((List.getD a (((((a).length : Nat) : Int) - 1)).toNat default).type_))] RG (Psi.le.refl _) ?_
            obtain ⟨y42, hy42, hS⟩ := letJ_T hS
            refine xO1 (lds := [3, 7, 12, 16, 24, 27]) 8 ?_
            refine xIe (lds := [3, 7, 12, 16, 24, 27]) (Psi.le.refl _) (eC 0 (fun g' lr eb ln => C42 g' ((List.getD a (((((a).length : Nat) : Int) - 1)).toNat default).type_ : Int) hy42)) ?_
            rintro _ g43 _ e44 ⟨_, rfl, rfl, rfl⟩
            refine kk [some 0] ?_
            refine xT 21 [9] [] [some 0] [(1, vs Ab b cb), (5, vs A1_0 y1 c1_0), (6, vp b14 0), (32, vb y42)] RG e44.r ?_
            refine xSub [(1, vs Ab b cb), (5, vs A1_0 y1 c1_0), (6, vp b14 0), (32, vb y42)] ?_
            exact hN17 _ hS.symm _ _ _ e44 ⟨by kernel_rfl, by kernel_rfl⟩
          · have hS := cond_F q41 hS
            have q41p : ¬ ((List.getD b 0 default).type_ = 1) := ne_of_beq_false_ q41
            refine xT 23 [6, 7] [] [some 0] [(1, vs Ab b cb), (5, vs A1_0 y1 c1_0), (6, vp b14 0), (28, vb false), (30, undef)] RG (Psi.le.refl _) ?_
            refine xO1 (lds := [3, 7, 12, 16, 24, 27]) 8 ?_
            refine xIb (lds := [3, 7, 12, 16, 24, 27]) [] ?_
            refine xT 21 [9] [] [some 0] [(1, vs Ab b cb), (5, vs A1_0 y1 c1_0), (6, vp b14 0), (32, vb false)] RG (Psi.le.refl _) ?_
            refine xSub [(1, vs Ab b cb), (5, vs A1_0 y1 c1_0), (6, vp b14 0), (32, vb false)] ?_
            exact hN17 _ hS.symm _ _ _ (Gh.le.refl _) ⟨by kernel_rfl, by kernel_rfl⟩
      · have hS := cond_F h10 hS
        refine xSk ?_
        have fb := fb.mono e3.b
        refine xSub [(1, vs Ab b cb), (5, vs A1_0 y1 c1_0)] ?_
        have eS := (Option.some.inj hS).symm
        exact hN5 _ eS _ _ _ (Gh.le.refl _) ⟨Ab, cb, by kernel_rfl, by kernel_rfl, fb⟩

def o20_L0 (a : List Leg) (b : List Leg) (s7 : Nat) : Option (Ctl (Nat) (Ctl (Unit) (Bool))) :=
  (cond (decide (((s7 : Nat) : Int) < (((a).length : Nat) : Int))) (grd (decide (s7 < (b).length)) (cond ((!(((List.getD a s7 default).type_ == (List.getD b s7 default).type_) && ((strEq (List.getD a s7 default).fix (List.getD b s7 default).fix) && ((strEq (List.getD a s7 default).center (List.getD b s7 default).center) && (((List.getD a s7 default).turn == (List.getD b s7 default).turn) && (((List.getD a s7 default).over == (List.getD b s7 default).over) && (((List.getD a s7 default).course == (List.getD b s7 default).course) && (((List.getD a s7 default).dist == (List.getD b s7 default).dist) && (((List.getD a s7 default).radius == (List.getD b s7 default).radius) && (((List.getD a s7 default).theta == (List.getD b s7 default).theta) && ((((List.getD a s7 default).alt.lo == (List.getD b s7 default).alt.lo) && ((List.getD a s7 default).alt.hi == (List.getD b s7 default).alt.hi)) && (((List.getD a s7 default).speed == (List.getD b s7 default).speed) && ((List.getD a s7 default).rnp == (List.getD b s7 default).rnp)))))))))))))) (some (Ctl.done (Ctl.done ((false))))) (grd (decide (((s7 : Nat) : Int) + 1 ≤ 9223372036854775807)) (some (Ctl.go (s7 + 1)))))) (some (Ctl.done (Ctl.go ()))))
def o20 (a : List Leg) (b : List Leg) : Option (Bool) :=
  (cond (((((a).length : Nat) : Int) != (((b).length : Nat) : Int))) (some ((false))) (joinO (τ := Unit) (ρ := Bool) (loopO (σ := Nat) (ρ := Ctl (Unit) (Bool)) fuelN (o20_L0 a b) (0)) fun t2 => (some ((true)))))
set_option maxRecDepth 100000 in
theorem C20 (g : Gh) (a : List Leg) (Aa : Option Addr) (ca : Nat) (b : List Leg) (Ab : Option Addr) (cb : Nat) (fa : Arr g.r tyLeg Aa ca a) (fb : Arr g.r tyLeg Ab cb b) {r : Bool} (hS : o20 a b = some r) :
    Ctr Tryd.prog 20 [vs Aa a ca, vs Ab b cb] g [] (fun v ψ o => v = vb r ∧ o = []) := by
  unfold o20 at hS
  refine xFn Tryd.f20 (Tryd.f20.body.getD .skip) 26 ?_
  have nfa := fa.len
  have nfb := fb.len
  refine xSq ?_
  refine xRg ?_
  refine xB 1 [] [(0, vs Aa a ca), (1, vs Ab b cb)] ?_
  refine xRe ?_
  refine wpq_then ?_
  refine xSq ?_
  refine xSq ?_
  refine xRg ?_
  refine xB 5 [] [(0, vs Aa a ca), (1, vs Ab b cb), (10, vb ((((a).length : Nat) : Int) != (((b).length : Nat) : Int)))] ?_
  refine xRe ?_
  refine wpq_then ?_
  refine xCd (((((a).length : Nat) : Int) != (((b).length : Nat) : Int))) (fun h1 => ?_) (fun h1 => ?_)
  · have hS := cond_T h1 hS
    have h1p : ¬ ((((a).length : Nat) : Int) = (((b).length : Nat) : Int)) := ne_of_bne_ h1
    refine xSq ?_
    refine xRg ?_
    refine xB 1 [] [(4, vb false)] ?_
    refine xRe ?_
    refine wpq_then ?_
    have eS := (Option.some.inj hS).symm
    subst eS
    exact xRet [] [4] (Gh.le.refl _) ⟨by kernel_rfl, by kernel_rfl⟩ (fun _ _ h => h)
  · have hS := cond_F h1 hS
    have h1p : (((a).length : Nat) : Int) = (((b).length : Nat) : Int) := eq_of_bne_false_ h1
    refine xSk ?_
    refine wpq_then ?_
    refine xSub [(0, vs Aa a ca), (1, vs Ab b cb)] ?_
    refine xSq ?_
    refine xSq ?_
    refine xRg ?_
    refine xB 3 [] [(0, vs Aa a ca), (1, vs Ab b cb), (12, vi (((a).length : Nat) : Int)), (13, vi 0)] ?_
    refine xRe ?_
    refine wpq_then ?_
    refine xJoinO hS (fun g own sl t2 => own = [] ∧ sl = []) ?_ ?_
    · rintro g3 _ _ t2 e4 ⟨rfl, rfl⟩ hS
      refine wpq_then ?_
      refine xSq ?_
      refine xRg ?_
      refine xB 1 [] [(4, vb true)] ?_
      refine xRe ?_
      refine wpq_then ?_
      have eS := (Option.some.inj hS).symm
      subst eS
      exact xRet [] [4] e4 ⟨by kernel_rfl, by kernel_rfl⟩ (fun _ _ h => h)
    · intro uu2 hS hN2 hD2
      refine xBl 0 ?_
      refine xSub [(0, vs Aa a ca), (1, vs Ab b cb), (12, vi (((a).length : Nat) : Int)), (13, vi 0)] ?_
      refine xLo hS (fun g own sl s7 => own = [] ∧ sl = [(0, vs Aa a ca), (1, vs Ab b cb), (12, vi (((a).length : Nat) : Int)), (13, vi ((s7 : Nat) : Int))]) ⟨by kernel_rfl, by kernel_rfl⟩ ?_
      rintro g8 _ _ s7 uu7 e9 ⟨rfl, rfl⟩ hS Qr7 hN7 hD7
      unfold o20_L0 at hS
      refine xSq ?_
      refine xRg ?_
      refine xB 1 [] [(0, vs Aa a ca), (1, vs Ab b cb), (12, vi (((a).length : Nat) : Int)), (13, vi ((s7 : Nat) : Int)), (14, vb (decide (((s7 : Nat) : Int) < (((a).length : Nat) : Int))))] ?_
      refine xRe ?_
      refine wpq_then ?_
      refine xSq ?_
      refine xCd (decide (((s7 : Nat) : Int) < (((a).length : Nat) : Int))) (fun h10 => ?_) (fun h10 => ?_)
      · have hS := cond_T h10 hS
        have h10p := of_decide_eq_true h10
        refine xSk ?_
        refine wpq_then ?_
        refine xSub [(0, vs Aa a ca), (1, vs Ab b cb), (12, vi (((a).length : Nat) : Int)), (13, vi ((s7 : Nat) : Int))] ?_
        refine xSq ?_
        refine xBl 1 ?_
        refine xSq ?_
        refine xRg ?_
        refine xB 2 [] [(0, vs Aa a ca), (1, vs Ab b cb), (5, vi ((s7 : Nat) : Int)), (12, vi (((a).length : Nat) : Int)), (13, vi ((s7 : Nat) : Int))] ?_
        refine xRe ?_
        refine wpq_then ?_
        refine xSq ?_
        refine xDr 0 [3, 7] [8] [] 9 (fun RG => ?_) (fun _ _ _ _ _ h => h)
        have fa := fa.mono e9.r
        have i12 : s7 < (a).length := by omega
        obtain ⟨ad11, cs11, hA11, hr11, hc11⟩ := fa.at_ (get_getD (d := default) i12)
        obtain ⟨rfl⟩ := hr11
        refine xT 7 [0, 1] [] [] [(0, vs Aa a ca), (1, vs Ab b cb), (5, vi ((s7 : Nat) : Int)), (12, vi (((a).length : Nat) : Int)), (13, vi ((s7 : Nat) : Int)), (16, vs Aa a ca), (17, vi ((s7 : Nat) : Int))] RG (Psi.le.refl _) ?_
        refine xTp 2 RG (fun _ => (qIx s7 13 hA11 rfl i12)) ?_
        refine xTv 3 [] RG (Psi.le.refl _) (qLdP (Addr.add ad11 (s7 * 13)) 0 hc11) ?_
        have fb := fb.mono e9.r
        obtain ⟨q14, hS⟩ := grd_T hS
        have q14p := of_decide_eq_true q14
        obtain ⟨ad13, cs13, hA13, hr13, hc13⟩ := fb.at_ (get_getD (d := default) q14p)
        obtain ⟨rfl⟩ := hr13
        refine xT 3 [4, 5] [] [] [(0, vs Aa a ca), (1, vs Ab b cb), (12, vi (((a).length : Nat) : Int)), (13, vi ((s7 : Nat) : Int)), (19, Value.agg #[vy ((List.getD a s7 default).type_), vt ((List.getD a s7 default).fix), vt ((List.getD a s7 default).center), vy ((List.getD a s7 default).turn), vb ((List.getD a s7 default).over), vi ((List.getD a s7 default).course), vi ((List.getD a s7 default).dist), vi ((List.getD a s7 default).radius), vi ((List.getD a s7 default).theta), vi ((List.getD a s7 default).alt.lo), vi ((List.getD a s7 default).alt.hi), vi ((List.getD a s7 default).speed), vi ((List.getD a s7 default).rnp)]), (20, vs Ab b cb), (21, vi ((s7 : Nat) : Int))] RG (Psi.le.refl _) ?_
        refine xTp 6 RG (fun _ => (qIx s7 13 hA13 rfl q14p)) ?_
        refine xTv 7 [] RG (Psi.le.refl _) (qLdP (Addr.add ad13 (s7 * 13)) 0 hc13) ?_
        refine xTp 8 RG (fun _ => (qNeA ((((List.getD a s7 default).type_ == (List.getD b s7 default).type_) && ((strEq (List.getD a s7 default).fix (List.getD b s7 default).fix) && ((strEq (List.getD a s7 default).center (List.getD b s7 default).center) && (((List.getD a s7 default).turn == (List.getD b s7 default).turn) && (((List.getD a s7 default).over == (List.getD b s7 default).over) && (((List.getD a s7 default).course == (List.getD b s7 default).course) && (((List.getD a s7 default).dist == (List.getD b s7 default).dist) && (((List.getD a s7 default).radius == (List.getD b s7 default).radius) && (((List.getD a s7 default).theta == (List.getD b s7 default).theta) && ((((List.getD a s7 default).alt.lo == (List.getD b s7 default).alt.lo) && ((List.getD a s7 default).alt.hi == (List.getD b s7 default).alt.hi)) && (((List.getD a s7 default).speed == (List.getD b s7 default).speed) && ((List.getD a s7 default).rnp == (List.getD b s7 default).rnp))))))))))))))) ?_
        refine xAe (lds := [3, 7]) ?_
        refine wpq_then ?_
        refine xSub [(0, vs Aa a ca), (1, vs Ab b cb), (12, vi (((a).length : Nat) : Int)), (13, vi ((s7 : Nat) : Int)), (24, vb (!(((List.getD a s7 default).type_ == (List.getD b s7 default).type_) && ((strEq (List.getD a s7 default).fix (List.getD b s7 default).fix) && ((strEq (List.getD a s7 default).center (List.getD b s7 default).center) && (((List.getD a s7 default).turn == (List.getD b s7 default).turn) && (((List.getD a s7 default).over == (List.getD b s7 default).over) && (((List.getD a s7 default).course == (List.getD b s7 default).course) && (((List.getD a s7 default).dist == (List.getD b s7 default).dist) && (((List.getD a s7 default).radius == (List.getD b s7 default).radius) && (((List.getD a s7 default).theta == (List.getD b s7 default).theta) && ((((List.getD a s7 default).alt.lo == (List.getD b s7 default).alt.lo) && ((List.getD a s7 default).alt.hi == (List.getD b s7 default).alt.hi)) && (((List.getD a s7 default).speed == (List.getD b s7 default).speed) && ((List.getD a s7 default).rnp == (List.getD b s7 default).rnp))))))))))))))] ?_
        refine xCd ((!(((List.getD a s7 default).type_ == (List.getD b s7 default).type_) && ((strEq (List.getD a s7 default).fix (List.getD b s7 default).fix) && ((strEq (List.getD a s7 default).center (List.getD b s7 default).center) && (((List.getD a s7 default).turn == (List.getD b s7 default).turn) && (((List.getD a s7 default).over == (List.getD b s7 default).over) && (((List.getD a s7 default).course == (List.getD b s7 default).course) && (((List.getD a s7 default).dist == (List.getD b s7 default).dist) && (((List.getD a s7 default).radius == (List.getD b s7 default).radius) && (((List.getD a s7 default).theta == (List.getD b s7 default).theta) && ((((List.getD a s7 default).alt.lo == (List.getD b s7 default).alt.lo) && ((List.getD a s7 default).alt.hi == (List.getD b s7 default).alt.hi)) && (((List.getD a s7 default).speed == (List.getD b s7 default).speed) && ((List.getD a s7 default).rnp == (List.getD b s7 default).rnp)))))))))))))) (fun h15 => ?_) (fun h15 => ?_)
        · have hS := cond_T h15 hS
          have h15n := not_eq_true_ h15
          refine xSq ?_
          refine xRg ?_
          refine xB 1 [] [(4, vb false)] ?_
          refine xRe ?_
          refine wpq_then ?_
          have eS := (Option.some.inj hS).symm
          have eS := (hD7 _ eS).symm
          have eS := (hD2 _ eS).symm
          subst eS
          exact xRet [] [4] e9 ⟨by kernel_rfl, by kernel_rfl⟩ (fun _ _ h => h)
        · have hS := cond_F h15 hS
          have h15n := not_eq_false_ h15
          have h15nl := (and_true_ h15n).1
          have h15nr := (and_true_ h15n).2
          have h15nlp : (List.getD a s7 default).type_ = (List.getD b s7 default).type_ := eq_of_beq h15nl
          have h15nrl := (and_true_ h15nr).1
          have h15nrr := (and_true_ h15nr).2
          have h15nrrl := (and_true_ h15nrr).1
          have h15nrrr := (and_true_ h15nrr).2
          have h15nrrrl := (and_true_ h15nrrr).1
          have h15nrrrr := (and_true_ h15nrrr).2
          have h15nrrrlp : (List.getD a s7 default).turn = (List.getD b s7 default).turn := eq_of_beq h15nrrrl
          have h15nrrrrl := (and_true_ h15nrrrr).1
          have h15nrrrrr := (and_true_ h15nrrrr).2
          have h15nrrrrlp : (List.getD a s7 default).over = (List.getD b s7 default).over := eq_of_beq h15nrrrrl
          have h15nrrrrrl := (and_true_ h15nrrrrr).1
          have h15nrrrrrr := (and_true_ h15nrrrrr).2
          have h15nrrrrrlp : (List.getD a s7 default).course = (List.getD b s7 default).course := eq_of_beq h15nrrrrrl
          have h15nrrrrrrl := (and_true_ h15nrrrrrr).1
          have h15nrrrrrrr := (and_true_ h15nrrrrrr).2
          have h15nrrrrrrlp : (List.getD a s7 default).dist = (List.getD b s7 default).dist := eq_of_beq h15nrrrrrrl
          have h15nrrrrrrrl := (and_true_ h15nrrrrrrr).1
          have h15nrrrrrrrr := (and_true_ h15nrrrrrrr).2
          have h15nrrrrrrrlp : (List.getD a s7 default).radius = (List.getD b s7 default).radius := eq_of_beq h15nrrrrrrrl
          have h15nrrrrrrrrl := (and_true_ h15nrrrrrrrr).1
          have h15nrrrrrrrrr := (and_true_ h15nrrrrrrrr).2
          have h15nrrrrrrrrlp : (List.getD a s7 default).theta = (List.getD b s7 default).theta := eq_of_beq h15nrrrrrrrrl
          have h15nrrrrrrrrrl := (and_true_ h15nrrrrrrrrr).1
          have h15nrrrrrrrrrr := (and_true_ h15nrrrrrrrrr).2
          have h15nrrrrrrrrrll := (and_true_ h15nrrrrrrrrrl).1
          have h15nrrrrrrrrrlr := (and_true_ h15nrrrrrrrrrl).2
          have h15nrrrrrrrrrllp : (List.getD a s7 default).alt.lo = (List.getD b s7 default).alt.lo := eq_of_beq h15nrrrrrrrrrll
          have h15nrrrrrrrrrlrp : (List.getD a s7 default).alt.hi = (List.getD b s7 default).alt.hi := eq_of_beq h15nrrrrrrrrrlr
          have h15nrrrrrrrrrrl := (and_true_ h15nrrrrrrrrrr).1
          have h15nrrrrrrrrrrr := (and_true_ h15nrrrrrrrrrr).2
          have h15nrrrrrrrrrrlp : (List.getD a s7 default).speed = (List.getD b s7 default).speed := eq_of_beq h15nrrrrrrrrrrl
          have h15nrrrrrrrrrrrp : (List.getD a s7 default).rnp = (List.getD b s7 default).rnp := eq_of_beq h15nrrrrrrrrrrr
          refine xSk ?_
          refine wpq_blockN ?_
          refine wpq_then ?_
          refine xSub [(0, vs Aa a ca), (1, vs Ab b cb), (12, vi (((a).length : Nat) : Int)), (13, vi ((s7 : Nat) : Int))] ?_
          refine xRg ?_
          obtain ⟨q16, hS⟩ := grd_T hS
          have q16p := of_decide_eq_true q16
          refine xV (qAdd .i64 (((s7 : Nat) : Int)) (1) (wr64 (by omega))) ?_
          refine xB 1 [] [(0, vs Aa a ca), (1, vs Ab b cb), (12, vi (((a).length : Nat) : Int)), (13, vi (((s7 : Nat) : Int) + 1))] ?_
          refine xRe ?_
          refine wpq_thenN ?_
          refine xSub [(0, vs Aa a ca), (1, vs Ab b cb), (12, vi (((a).length : Nat) : Int)), (13, vi (((s7 : Nat) : Int) + 1))] ?_
          have eS := (Option.some.inj hS).symm
          exact hN7 _ eS _ _ _ (Gh.le.refl _) ⟨by kernel_rfl, by kernel_rfl⟩
      · have hS := cond_F h10 hS
        have h10p := of_decide_eq_false h10
        refine xEx 0 ?_
        refine wpq_thenX ?_
        refine wpq_thenX ?_
        refine wpq_blockE ?_
        refine xSub [] ?_
        have eS := (Option.some.inj hS).symm
        have eS := (hD7 _ eS).symm
        exact hN2 _ eS _ _ _ e9 ⟨by kernel_rfl, by kernel_rfl⟩

def o35_L0 (s : List UInt8) (s14 : Nat) : Option (Ctl (Nat) (Ctl (Unit) (Bool))) :=
  (cond (decide (((s14 : Nat) : Int) < (((s).length : Nat) : Int))) (cond (((decide ((((List.getD (s : List UInt8) s14 0)).toNat : Int) < 65) || decide ((((List.getD (s : List UInt8) s14 0)).toNat : Int) > 90)) && (decide ((((List.getD (s : List UInt8) s14 0)).toNat : Int) < 48) || decide ((((List.getD (s : List UInt8) s14 0)).toNat : Int) > 57)))) (some (Ctl.done (Ctl.done ((false))))) (grd (decide (((s14 : Nat) : Int) + 1 ≤ 9223372036854775807)) (some (Ctl.go (s14 + 1))))) (some (Ctl.done (Ctl.go ()))))
def o35 (s : List UInt8) (most : Int) : Option (Bool) :=
  (cond ((((((((s).length : Nat) : Int) == 0) || decide ((((s).length : Nat) : Int) > most)) || decide ((((List.getD (s : List UInt8) 0 0)).toNat : Int) < 65)) || decide ((((List.getD (s : List UInt8) 0 0)).toNat : Int) > 90))) (some ((false))) (joinO (τ := Unit) (ρ := Bool) (loopO (σ := Nat) (ρ := Ctl (Unit) (Bool)) fuelN (o35_L0 s) (0)) fun t9 => (some ((true)))))
set_option maxRecDepth 100000 in
theorem C35 (g : Gh) (s : List UInt8) (most : Int) {r : Bool} (hS : o35 s most = some r) :
    Ctr Tryd.prog 35 [vt s, vi most] g [] (fun v ψ o => v = vb r ∧ o = []) := by
  unfold o35 at hS
  refine xFn Tryd.f35 (Tryd.f35.body.getD .skip) 53 ?_
  refine xSq ?_
  refine xRg ?_
  refine xB 1 [] [(0, vt s), (1, vi most)] ?_
  refine xRe ?_
  refine wpq_then ?_
  refine xSq ?_
  refine xSq ?_
  refine xRg ?_
  refine xB 4 [] [(0, vt s), (1, vi most), (9, vb ((((s).length : Nat) : Int) == 0))] ?_
  refine wpr_grp 9 [(0, vt s), (14, vb (((((s).length : Nat) : Int) == 0) || decide ((((s).length : Nat) : Int) > most)))] (fun hk3 => ?_) ?_
  · refine wpq_split 9 (b := ((((s).length : Nat) : Int) == 0)) (by kernel_rfl) (fun q1 => ?_) (fun q1 => ?_)
    · have q1p : (((s).length : Nat) : Int) = 0 := eq_of_beq q1
      refine xB 5 [] [(0, vt s), (14, vb true)] ?_
      refine wpq_re 14 (v := vb true) (Value.bool ((((((s).length : Nat) : Int) == 0) || decide ((((s).length : Nat) : Int) > most)))) (by kernel_rfl) (re_or1 q1) ?_
      exact wpq_sub _ (by kernel_rfl) hk3
    · have q1p : ¬ ((((s).length : Nat) : Int) = 0) := ne_of_beq_false_ q1
      refine xB 5 [] [(0, vt s), (14, vb (decide ((((s).length : Nat) : Int) > most)))] ?_
      refine wpq_re 14 (v := vb (decide ((((s).length : Nat) : Int) > most))) (Value.bool ((((((s).length : Nat) : Int) == 0) || decide ((((s).length : Nat) : Int) > most)))) (by kernel_rfl) (re_or0 q1) ?_
      exact wpq_sub _ (by kernel_rfl) hk3
  · refine xB 1 [] [(0, vt s), (15, vb (((((s).length : Nat) : Int) == 0) || decide ((((s).length : Nat) : Int) > most)))] ?_
    refine wpr_grp 14 [(0, vt s), (19, vb ((((((s).length : Nat) : Int) == 0) || decide ((((s).length : Nat) : Int) > most)) || decide ((((List.getD (s : List UInt8) 0 0)).toNat : Int) < 65)))] (fun hk9 => ?_) ?_
    · refine wpq_split 15 (b := (((((s).length : Nat) : Int) == 0) || decide ((((s).length : Nat) : Int) > most))) (by kernel_rfl) (fun q2 => ?_) (fun q2 => ?_)
      · refine xB 4 [] [(0, vt s), (19, vb true)] ?_
        refine wpq_re 19 (v := vb true) (Value.bool (((((((s).length : Nat) : Int) == 0) || decide ((((s).length : Nat) : Int) > most)) || decide ((((List.getD (s : List UInt8) 0 0)).toNat : Int) < 65)))) (by kernel_rfl) (re_or1 q2) ?_
        exact wpq_sub _ (by kernel_rfl) hk9
      · have q2l := (or_false_ q2).1
        have q2r := (or_false_ q2).2
        have q2lp : ¬ ((((s).length : Nat) : Int) = 0) := ne_of_beq_false_ q2l
        have q2rp := of_decide_eq_false q2r
        have i3 : 0 < (s).length := by omega
        have nb4 := UInt8.toNat_lt (List.getD (s : List UInt8) 0 0)
        refine xB 1 [] [(0, vt s), (15, vb false), (16, vt s)] ?_
        refine xV (qIxS 0 rfl i3) ?_
        refine xB 2 [] [(0, vt s), (19, vb (decide ((((List.getD (s : List UInt8) 0 0)).toNat : Int) < 65)))] ?_
        refine wpq_re 19 (v := vb (decide ((((List.getD (s : List UInt8) 0 0)).toNat : Int) < 65))) (Value.bool (((((((s).length : Nat) : Int) == 0) || decide ((((s).length : Nat) : Int) > most)) || decide ((((List.getD (s : List UInt8) 0 0)).toNat : Int) < 65)))) (by kernel_rfl) (re_or0 q2) ?_
        exact wpq_sub _ (by kernel_rfl) hk9
    · refine xB 1 [] [(0, vt s), (20, vb ((((((s).length : Nat) : Int) == 0) || decide ((((s).length : Nat) : Int) > most)) || decide ((((List.getD (s : List UInt8) 0 0)).toNat : Int) < 65)))] ?_
      refine wpr_grp 19 [(0, vt s), (24, vb (((((((s).length : Nat) : Int) == 0) || decide ((((s).length : Nat) : Int) > most)) || decide ((((List.getD (s : List UInt8) 0 0)).toNat : Int) < 65)) || decide ((((List.getD (s : List UInt8) 0 0)).toNat : Int) > 90)))] (fun hk14 => ?_) ?_
      · refine wpq_split 20 (b := ((((((s).length : Nat) : Int) == 0) || decide ((((s).length : Nat) : Int) > most)) || decide ((((List.getD (s : List UInt8) 0 0)).toNat : Int) < 65))) (by kernel_rfl) (fun q5 => ?_) (fun q5 => ?_)
        · refine xB 4 [] [(0, vt s), (24, vb true)] ?_
          refine wpq_re 24 (v := vb true) (Value.bool ((((((((s).length : Nat) : Int) == 0) || decide ((((s).length : Nat) : Int) > most)) || decide ((((List.getD (s : List UInt8) 0 0)).toNat : Int) < 65)) || decide ((((List.getD (s : List UInt8) 0 0)).toNat : Int) > 90)))) (by kernel_rfl) (re_or1 q5) ?_
          exact wpq_sub _ (by kernel_rfl) hk14
        · have q5l := (or_false_ q5).1
          have q5r := (or_false_ q5).2
          have q5ll := (or_false_ q5l).1
          have q5lr := (or_false_ q5l).2
          have q5llp : ¬ ((((s).length : Nat) : Int) = 0) := ne_of_beq_false_ q5ll
          have q5lrp := of_decide_eq_false q5lr
          have q5rp := of_decide_eq_false q5r
          have i6 : 0 < (s).length := by omega
          have nb7 := UInt8.toNat_lt (List.getD (s : List UInt8) 0 0)
          refine xB 1 [] [(0, vt s), (20, vb false), (21, vt s)] ?_
          refine xV (qIxS 0 rfl i6) ?_
          refine xB 2 [] [(0, vt s), (24, vb (decide ((((List.getD (s : List UInt8) 0 0)).toNat : Int) > 90)))] ?_
          refine wpq_re 24 (v := vb (decide ((((List.getD (s : List UInt8) 0 0)).toNat : Int) > 90))) (Value.bool ((((((((s).length : Nat) : Int) == 0) || decide ((((s).length : Nat) : Int) > most)) || decide ((((List.getD (s : List UInt8) 0 0)).toNat : Int) < 65)) || decide ((((List.getD (s : List UInt8) 0 0)).toNat : Int) > 90)))) (by kernel_rfl) (re_or0 q5) ?_
          exact wpq_sub _ (by kernel_rfl) hk14
      · refine xRe ?_
        refine wpq_then ?_
        refine xCd ((((((((s).length : Nat) : Int) == 0) || decide ((((s).length : Nat) : Int) > most)) || decide ((((List.getD (s : List UInt8) 0 0)).toNat : Int) < 65)) || decide ((((List.getD (s : List UInt8) 0 0)).toNat : Int) > 90))) (fun h8 => ?_) (fun h8 => ?_)
        · have hS := cond_T h8 hS
          refine xSq ?_
          refine xRg ?_
          refine xB 1 [] [(4, vb false)] ?_
          refine xRe ?_
          refine wpq_then ?_
          have eS := (Option.some.inj hS).symm
          subst eS
          exact xRet [] [4] (Gh.le.refl _) ⟨by kernel_rfl, by kernel_rfl⟩ (fun _ _ h => h)
        · have hS := cond_F h8 hS
          have h8l := (or_false_ h8).1
          have h8r := (or_false_ h8).2
          have h8ll := (or_false_ h8l).1
          have h8lr := (or_false_ h8l).2
          have h8lll := (or_false_ h8ll).1
          have h8llr := (or_false_ h8ll).2
          have h8lllp : ¬ ((((s).length : Nat) : Int) = 0) := ne_of_beq_false_ h8lll
          have h8llrp := of_decide_eq_false h8llr
          have h8lrp := of_decide_eq_false h8lr
          have h8rp := of_decide_eq_false h8r
          refine xSk ?_
          refine wpq_then ?_
          refine xSub [(0, vt s)] ?_
          refine xSq ?_
          refine xSq ?_
          refine xRg ?_
          refine xB 3 [] [(0, vt s), (26, vi (((s).length : Nat) : Int)), (27, vi 0)] ?_
          refine xRe ?_
          refine wpq_then ?_
          refine xJoinO hS (fun g own sl t9 => own = [] ∧ sl = []) ?_ ?_
          · rintro g10 _ _ t9 e11 ⟨rfl, rfl⟩ hS
            refine wpq_then ?_
            refine xSq ?_
            refine xRg ?_
            refine xB 1 [] [(4, vb true)] ?_
            refine xRe ?_
            refine wpq_then ?_
            have eS := (Option.some.inj hS).symm
            subst eS
            exact xRet [] [4] e11 ⟨by kernel_rfl, by kernel_rfl⟩ (fun _ _ h => h)
          · intro uu9 hS hN9 hD9
            refine xBl 0 ?_
            refine xSub [(0, vt s), (26, vi (((s).length : Nat) : Int)), (27, vi 0)] ?_
            refine xLo hS (fun g own sl s14 => own = [] ∧ sl = [(0, vt s), (26, vi (((s).length : Nat) : Int)), (27, vi ((s14 : Nat) : Int))]) ⟨by kernel_rfl, by kernel_rfl⟩ ?_
            rintro g15 _ _ s14 uu14 e16 ⟨rfl, rfl⟩ hS Qr14 hN14 hD14
            unfold o35_L0 at hS
            refine xSq ?_
            refine xRg ?_
            refine xB 1 [] [(0, vt s), (26, vi (((s).length : Nat) : Int)), (27, vi ((s14 : Nat) : Int)), (28, vb (decide (((s14 : Nat) : Int) < (((s).length : Nat) : Int))))] ?_
            refine xRe ?_
            refine wpq_then ?_
            refine xSq ?_
            refine xCd (decide (((s14 : Nat) : Int) < (((s).length : Nat) : Int))) (fun h17 => ?_) (fun h17 => ?_)
            · have hS := cond_T h17 hS
              have h17p := of_decide_eq_true h17
              refine xSk ?_
              refine wpq_then ?_
              refine xSub [(0, vt s), (26, vi (((s).length : Nat) : Int)), (27, vi ((s14 : Nat) : Int))] ?_
              refine xSq ?_
              refine xBl 1 ?_
              refine xSq ?_
              refine xRg ?_
              refine xB 2 [] [(0, vt s), (5, vi ((s14 : Nat) : Int)), (26, vi (((s).length : Nat) : Int)), (27, vi ((s14 : Nat) : Int))] ?_
              refine xRe ?_
              refine wpq_then ?_
              refine xSq ?_
              refine xRg ?_
              have i18 : s14 < (s).length := by omega
              have nb19 := UInt8.toNat_lt (List.getD (s : List UInt8) s14 0)
              refine xB 2 [] [(0, vt s), (5, vi ((s14 : Nat) : Int)), (26, vi (((s).length : Nat) : Int)), (27, vi ((s14 : Nat) : Int)), (30, vt s), (31, vi ((s14 : Nat) : Int))] ?_
              refine xV (qIxS s14 rfl i18) ?_
              refine xB 2 [] [(0, vt s), (5, vi ((s14 : Nat) : Int)), (26, vi (((s).length : Nat) : Int)), (27, vi ((s14 : Nat) : Int)), (34, vb (decide ((((List.getD (s : List UInt8) s14 0)).toNat : Int) < 65)))] ?_
              refine wpr_grp 10 [(0, vt s), (5, vi ((s14 : Nat) : Int)), (26, vi (((s).length : Nat) : Int)), (27, vi ((s14 : Nat) : Int)), (39, vb (decide ((((List.getD (s : List UInt8) s14 0)).toNat : Int) < 65) || decide ((((List.getD (s : List UInt8) s14 0)).toNat : Int) > 90)))] (fun hk4 => ?_) ?_
              · refine wpq_split 34 (b := decide ((((List.getD (s : List UInt8) s14 0)).toNat : Int) < 65)) (by kernel_rfl) (fun q20 => ?_) (fun q20 => ?_)
                · have q20p := of_decide_eq_true q20
                  refine xB 5 [] [(0, vt s), (5, vi ((s14 : Nat) : Int)), (26, vi (((s).length : Nat) : Int)), (27, vi ((s14 : Nat) : Int)), (39, vb true)] ?_
                  refine wpq_re 39 (v := vb true) (Value.bool ((decide ((((List.getD (s : List UInt8) s14 0)).toNat : Int) < 65) || decide ((((List.getD (s : List UInt8) s14 0)).toNat : Int) > 90)))) (by kernel_rfl) (re_or1 q20) ?_
                  exact wpq_sub _ (by kernel_rfl) hk4
                · have q20p := of_decide_eq_false q20
                  have i21 : s14 < (s).length := by omega
                  have nb22 := UInt8.toNat_lt (List.getD (s : List UInt8) s14 0)
                  refine xB 2 [] [(0, vt s), (5, vi ((s14 : Nat) : Int)), (26, vi (((s).length : Nat) : Int)), (27, vi ((s14 : Nat) : Int)), (34, vb false), (35, vt s), (36, vi ((s14 : Nat) : Int))] ?_
                  refine xV (qIxS s14 rfl i21) ?_
                  refine xB 2 [] [(0, vt s), (5, vi ((s14 : Nat) : Int)), (26, vi (((s).length : Nat) : Int)), (27, vi ((s14 : Nat) : Int)), (39, vb (decide ((((List.getD (s : List UInt8) s14 0)).toNat : Int) > 90)))] ?_
                  refine wpq_re 39 (v := vb (decide ((((List.getD (s : List UInt8) s14 0)).toNat : Int) > 90))) (Value.bool ((decide ((((List.getD (s : List UInt8) s14 0)).toNat : Int) < 65) || decide ((((List.getD (s : List UInt8) s14 0)).toNat : Int) > 90)))) (by kernel_rfl) (re_or0 q20) ?_
                  exact wpq_sub _ (by kernel_rfl) hk4
              · refine xB 1 [] [(0, vt s), (5, vi ((s14 : Nat) : Int)), (26, vi (((s).length : Nat) : Int)), (27, vi ((s14 : Nat) : Int)), (40, vb (decide ((((List.getD (s : List UInt8) s14 0)).toNat : Int) < 65) || decide ((((List.getD (s : List UInt8) s14 0)).toNat : Int) > 90)))] ?_
                refine wpr_grp 22 [(0, vt s), (26, vi (((s).length : Nat) : Int)), (27, vi ((s14 : Nat) : Int)), (51, vb ((decide ((((List.getD (s : List UInt8) s14 0)).toNat : Int) < 65) || decide ((((List.getD (s : List UInt8) s14 0)).toNat : Int) > 90)) && (decide ((((List.getD (s : List UInt8) s14 0)).toNat : Int) < 48) || decide ((((List.getD (s : List UInt8) s14 0)).toNat : Int) > 57))))] (fun hk10 => ?_) ?_
                · refine wpq_split 40 (b := (decide ((((List.getD (s : List UInt8) s14 0)).toNat : Int) < 65) || decide ((((List.getD (s : List UInt8) s14 0)).toNat : Int) > 90))) (by kernel_rfl) (fun q23 => ?_) (fun q23 => ?_)
                  · have i24 : s14 < (s).length := by omega
                    have nb25 := UInt8.toNat_lt (List.getD (s : List UInt8) s14 0)
                    refine xB 2 [] [(0, vt s), (5, vi ((s14 : Nat) : Int)), (26, vi (((s).length : Nat) : Int)), (27, vi ((s14 : Nat) : Int)), (40, vb true), (41, vt s), (42, vi ((s14 : Nat) : Int))] ?_
                    refine xV (qIxS s14 rfl i24) ?_
                    refine xB 2 [] [(0, vt s), (5, vi ((s14 : Nat) : Int)), (26, vi (((s).length : Nat) : Int)), (27, vi ((s14 : Nat) : Int)), (40, vb true), (45, vb (decide ((((List.getD (s : List UInt8) s14 0)).toNat : Int) < 48)))] ?_
                    refine wpr_grp 21 [(0, vt s), (26, vi (((s).length : Nat) : Int)), (27, vi ((s14 : Nat) : Int)), (40, vb true), (50, vb (decide ((((List.getD (s : List UInt8) s14 0)).toNat : Int) < 48) || decide ((((List.getD (s : List UInt8) s14 0)).toNat : Int) > 57)))] (fun hk15 => ?_) ?_
                    · refine wpq_split 45 (b := decide ((((List.getD (s : List UInt8) s14 0)).toNat : Int) < 48)) (by kernel_rfl) (fun q26 => ?_) (fun q26 => ?_)
                      · have q26p := of_decide_eq_true q26
                        refine xB 5 [] [(0, vt s), (26, vi (((s).length : Nat) : Int)), (27, vi ((s14 : Nat) : Int)), (40, vb true), (50, vb true)] ?_
                        refine wpq_re 50 (v := vb true) (Value.bool ((decide ((((List.getD (s : List UInt8) s14 0)).toNat : Int) < 48) || decide ((((List.getD (s : List UInt8) s14 0)).toNat : Int) > 57)))) (by kernel_rfl) (re_or1 q26) ?_
                        exact wpq_sub _ (by kernel_rfl) hk15
                      · have q26p := of_decide_eq_false q26
                        have i27 : s14 < (s).length := by omega
                        have nb28 := UInt8.toNat_lt (List.getD (s : List UInt8) s14 0)
                        refine xB 2 [] [(0, vt s), (26, vi (((s).length : Nat) : Int)), (27, vi ((s14 : Nat) : Int)), (40, vb true), (45, vb false), (46, vt s), (47, vi ((s14 : Nat) : Int))] ?_
                        refine xV (qIxS s14 rfl i27) ?_
                        refine xB 2 [] [(0, vt s), (26, vi (((s).length : Nat) : Int)), (27, vi ((s14 : Nat) : Int)), (40, vb true), (50, vb (decide ((((List.getD (s : List UInt8) s14 0)).toNat : Int) > 57)))] ?_
                        refine wpq_re 50 (v := vb (decide ((((List.getD (s : List UInt8) s14 0)).toNat : Int) > 57))) (Value.bool ((decide ((((List.getD (s : List UInt8) s14 0)).toNat : Int) < 48) || decide ((((List.getD (s : List UInt8) s14 0)).toNat : Int) > 57)))) (by kernel_rfl) (re_or0 q26) ?_
                        exact wpq_sub _ (by kernel_rfl) hk15
                    · refine xB 1 [] [(0, vt s), (26, vi (((s).length : Nat) : Int)), (27, vi ((s14 : Nat) : Int)), (51, vb (decide ((((List.getD (s : List UInt8) s14 0)).toNat : Int) < 48) || decide ((((List.getD (s : List UInt8) s14 0)).toNat : Int) > 57)))] ?_
                      refine wpq_re 51 (v := vb (decide ((((List.getD (s : List UInt8) s14 0)).toNat : Int) < 48) || decide ((((List.getD (s : List UInt8) s14 0)).toNat : Int) > 57))) (Value.bool (((decide ((((List.getD (s : List UInt8) s14 0)).toNat : Int) < 65) || decide ((((List.getD (s : List UInt8) s14 0)).toNat : Int) > 90)) && (decide ((((List.getD (s : List UInt8) s14 0)).toNat : Int) < 48) || decide ((((List.getD (s : List UInt8) s14 0)).toNat : Int) > 57))))) (by kernel_rfl) (re_and1 q23) ?_
                      exact wpq_sub _ (by kernel_rfl) hk10
                  · have q23l := (or_false_ q23).1
                    have q23r := (or_false_ q23).2
                    have q23lp := of_decide_eq_false q23l
                    have q23rp := of_decide_eq_false q23r
                    refine xB 11 [] [(0, vt s), (26, vi (((s).length : Nat) : Int)), (27, vi ((s14 : Nat) : Int)), (51, vb false)] ?_
                    refine wpq_re 51 (v := vb false) (Value.bool (((decide ((((List.getD (s : List UInt8) s14 0)).toNat : Int) < 65) || decide ((((List.getD (s : List UInt8) s14 0)).toNat : Int) > 90)) && (decide ((((List.getD (s : List UInt8) s14 0)).toNat : Int) < 48) || decide ((((List.getD (s : List UInt8) s14 0)).toNat : Int) > 57))))) (by kernel_rfl) (re_and0 q23) ?_
                    exact wpq_sub _ (by kernel_rfl) hk10
                · refine xRe ?_
                  refine wpq_then ?_
                  refine xCd (((decide ((((List.getD (s : List UInt8) s14 0)).toNat : Int) < 65) || decide ((((List.getD (s : List UInt8) s14 0)).toNat : Int) > 90)) && (decide ((((List.getD (s : List UInt8) s14 0)).toNat : Int) < 48) || decide ((((List.getD (s : List UInt8) s14 0)).toNat : Int) > 57)))) (fun h29 => ?_) (fun h29 => ?_)
                  · have hS := cond_T h29 hS
                    have h29l := (and_true_ h29).1
                    have h29r := (and_true_ h29).2
                    refine xSq ?_
                    refine xRg ?_
                    refine xB 1 [] [(4, vb false)] ?_
                    refine xRe ?_
                    refine wpq_then ?_
                    have eS := (Option.some.inj hS).symm
                    have eS := (hD14 _ eS).symm
                    have eS := (hD9 _ eS).symm
                    subst eS
                    exact xRet [] [4] e16 ⟨by kernel_rfl, by kernel_rfl⟩ (fun _ _ h => h)
                  · have hS := cond_F h29 hS
                    refine xSk ?_
                    refine wpq_blockN ?_
                    refine wpq_then ?_
                    refine xSub [(0, vt s), (26, vi (((s).length : Nat) : Int)), (27, vi ((s14 : Nat) : Int))] ?_
                    refine xRg ?_
                    obtain ⟨q30, hS⟩ := grd_T hS
                    have q30p := of_decide_eq_true q30
                    refine xV (qAdd .i64 (((s14 : Nat) : Int)) (1) (wr64 (by omega))) ?_
                    refine xB 1 [] [(0, vt s), (26, vi (((s).length : Nat) : Int)), (27, vi (((s14 : Nat) : Int) + 1))] ?_
                    refine xRe ?_
                    refine wpq_thenN ?_
                    refine xSub [(0, vt s), (26, vi (((s).length : Nat) : Int)), (27, vi (((s14 : Nat) : Int) + 1))] ?_
                    have eS := (Option.some.inj hS).symm
                    exact hN14 _ eS _ _ _ (Gh.le.refl _) ⟨by kernel_rfl, by kernel_rfl⟩
            · have hS := cond_F h17 hS
              have h17p := of_decide_eq_false h17
              refine xEx 0 ?_
              refine wpq_thenX ?_
              refine wpq_thenX ?_
              refine wpq_blockE ?_
              refine xSub [] ?_
              have eS := (Option.some.inj hS).symm
              have eS := (hD14 _ eS).symm
              exact hN9 _ eS _ _ _ e16 ⟨by kernel_rfl, by kernel_rfl⟩

def o36 (k : Int) : (List UInt8) :=
  (cond ((k == 1)) ((([(u8 1), (u8 2), (u8 3)] : List UInt8) : List UInt8)) (cond ((k == 2)) ((([(u8 3), (u8 2), (u8 1)] : List UInt8) : List UInt8)) (cond ((k == 3)) ((([(u8 3), (u8 2), (u8 4)] : List UInt8) : List UInt8)) (([] : List UInt8)))))
set_option maxRecDepth 100000 in
theorem C36 (g : Gh) (k : Int) {r : (List UInt8)} (hS : o36 k = r) :
    Ctr Tryd.prog 36 [vy k] g [] (fun v ψ o => ∃ (Ar_0 : Option Addr) (cr_0 : Nat) (kr_0 : Option Bk), v = vs Ar_0 r cr_0 ∧ o = [kr_0] ∧ Buf ψ tyU8 30 (.slice Ar_0 (r).length cr_0) kr_0 r ∧ (r = [] → Ar_0 = none)) := by
  unfold o36 at hS
  refine xFn Tryd.f36 (Tryd.f36.body.getD .skip) 13 ?_
  refine xSq ?_
  refine xRg ?_
  refine xB 1 [] [(0, vy k)] ?_
  refine xRe ?_
  refine wpq_then ?_
  refine xSq ?_
  refine xSq ?_
  refine xRg ?_
  refine xB 1 [] [(3, vy k)] ?_
  refine xRe ?_
  refine wpq_then ?_
  refine xBl 0 ?_
  refine xSq ?_
  refine xRg ?_
  refine xB 2 [] [(3, vy k), (4, vb (k == 1))] ?_
  refine xRe ?_
  refine wpq_then ?_
  refine xCd ((k == 1)) (fun h1 => ?_) (fun h1 => ?_)
  · have hS := cond_T h1 hS
    have h1p : k = 1 := eq_of_beq h1
    refine xSq ?_
    refine xRg ?_
    refine xE (eBs (T := tyU8) (p := g.b) (et := 30) (xs := ([(u8 1), (u8 2), (u8 3)] : List UInt8)) (reps_cons (c := [vy 1]) (u8_rep (by omega)) (reps_cons (c := [vy 2]) (u8_rep (by omega)) (reps_cons (c := [vy 3]) (u8_rep (by omega)) reps_nil))) (by simp)) ?_
    rintro _ _ _ - ⟨A2, c2, k2, rfl, rfl, rfl, h2⟩
    refine xB 1 [] [(2, vs A2 ([(u8 1), (u8 2), (u8 3)] : List UInt8) c2)] ?_
    refine xRe ?_
    refine wpq_then ?_
    have eS := hS.symm
    subst eS
    exact xRet [some 0] [2] (Gh.le.refl _) ⟨A2, c2, k2, by kernel_rfl, by kernel_rfl, h2, (fun h => by cases h)⟩ (fun _ _ h => h)
  · have hS := cond_F h1 hS
    have h1p : ¬ (k = 1) := ne_of_beq_false_ h1
    refine xSq ?_
    refine xRg ?_
    refine xB 2 [] [(3, vy k), (7, vb (k == 2))] ?_
    refine xRe ?_
    refine wpq_then ?_
    refine xCd ((k == 2)) (fun h3 => ?_) (fun h3 => ?_)
    · have hS := cond_T h3 hS
      have h3p : k = 2 := eq_of_beq h3
      refine xSq ?_
      refine xRg ?_
      refine xE (eBs (T := tyU8) (p := g.b) (et := 30) (xs := ([(u8 3), (u8 2), (u8 1)] : List UInt8)) (reps_cons (c := [vy 3]) (u8_rep (by omega)) (reps_cons (c := [vy 2]) (u8_rep (by omega)) (reps_cons (c := [vy 1]) (u8_rep (by omega)) reps_nil))) (by simp)) ?_
      rintro _ _ _ - ⟨A4, c4, k4, rfl, rfl, rfl, h4⟩
      refine xB 1 [] [(2, vs A4 ([(u8 3), (u8 2), (u8 1)] : List UInt8) c4)] ?_
      refine xRe ?_
      refine wpq_then ?_
      have eS := hS.symm
      subst eS
      exact xRet [some 0] [2] (Gh.le.refl _) ⟨A4, c4, k4, by kernel_rfl, by kernel_rfl, h4, (fun h => by cases h)⟩ (fun _ _ h => h)
    · have hS := cond_F h3 hS
      have h3p : ¬ (k = 2) := ne_of_beq_false_ h3
      refine xSq ?_
      refine xRg ?_
      refine xB 2 [] [(10, vb (k == 3))] ?_
      refine xRe ?_
      refine wpq_then ?_
      refine xCd ((k == 3)) (fun h5 => ?_) (fun h5 => ?_)
      · have hS := cond_T h5 hS
        have h5p : k = 3 := eq_of_beq h5
        refine xSq ?_
        refine xRg ?_
        refine xE (eBs (T := tyU8) (p := g.b) (et := 30) (xs := ([(u8 3), (u8 2), (u8 4)] : List UInt8)) (reps_cons (c := [vy 3]) (u8_rep (by omega)) (reps_cons (c := [vy 2]) (u8_rep (by omega)) (reps_cons (c := [vy 4]) (u8_rep (by omega)) reps_nil))) (by simp)) ?_
        rintro _ _ _ - ⟨A6, c6, k6, rfl, rfl, rfl, h6⟩
        refine xB 1 [] [(2, vs A6 ([(u8 3), (u8 2), (u8 4)] : List UInt8) c6)] ?_
        refine xRe ?_
        refine wpq_then ?_
        have eS := hS.symm
        subst eS
        exact xRet [some 0] [2] (Gh.le.refl _) ⟨A6, c6, k6, by kernel_rfl, by kernel_rfl, h6, (fun h => by cases h)⟩ (fun _ _ h => h)
      · have hS := cond_F h5 hS
        have h5p : ¬ (k = 3) := ne_of_beq_false_ h5
        refine xSk ?_
        refine wpq_blockN ?_
        refine wpq_then ?_
        refine xSub [] ?_
        refine xSq ?_
        refine xRg ?_
        refine xB 1 [] [(2, Value.slice none 0 0)] ?_
        refine xRe ?_
        refine wpq_then ?_
        have eS := hS.symm
        subst eS
        exact xRet [none] [2] (Gh.le.refl _) ⟨none, 0, none, by kernel_rfl, by kernel_rfl, Buf.nil, (fun _ => rfl)⟩ (fun _ _ h => h)

def o57_L0 (s : List UInt8) (v_ : Int) (s6 : Nat) : Option (Ctl (Nat) (Ctl (Unit) (Int))) :=
  (cond (decide (((s6 : Nat) : Int) < (((s).length : Nat) : Int))) (cond ((v_ == ((List.getD s s6 0).toNat : Int))) (some (Ctl.done (Ctl.done ((((s6 : Nat) : Int) : Int))))) (grd (decide (((s6 : Nat) : Int) + 1 ≤ 9223372036854775807)) (some (Ctl.go (s6 + 1))))) (some (Ctl.done (Ctl.go ()))))
def o57 (s : List UInt8) (v_ : Int) : Option (Int) :=
  (joinO (τ := Unit) (ρ := Int) (loopO (σ := Nat) (ρ := Ctl (Unit) (Int)) fuelN (o57_L0 s v_) (0)) fun t1 => (some ((-1 : Int))))
set_option maxRecDepth 100000 in
theorem C57 (g : Gh) (s : List UInt8) (As : Option Addr) (cs : Nat) (v_ : Int) (fs : Arr g.r tyU8 As cs s) {r : Int} (hS : o57 s v_ = some r) :
    Ctr Tryd.prog 57 [vs As s cs, vy v_] g [] (fun v ψ o => v = vi r ∧ o = []) := by
  unfold o57 at hS
  refine xFn Tryd.f57 (Tryd.f57.body.getD .skip) 19 ?_
  have nfs := fs.len
  refine xSq ?_
  refine xRg ?_
  refine xB 1 [] [(0, vs As s cs), (1, vy v_)] ?_
  refine xRe ?_
  refine wpq_then ?_
  refine xSq ?_
  refine xSq ?_
  refine xRg ?_
  refine xB 3 [] [(0, vs As s cs), (1, vy v_), (7, vi (((s).length : Nat) : Int)), (8, vi 0)] ?_
  refine xRe ?_
  refine wpq_then ?_
  refine xJoinO hS (fun g own sl t1 => own = [] ∧ sl = []) ?_ ?_
  · rintro g2 _ _ t1 e3 ⟨rfl, rfl⟩ hS
    refine wpq_then ?_
    refine xSq ?_
    refine xRg ?_
    refine xB 1 [] [(4, vi (-1))] ?_
    refine xRe ?_
    refine wpq_then ?_
    have eS := (Option.some.inj hS).symm
    subst eS
    exact xRet [] [4] e3 ⟨by kernel_rfl, by kernel_rfl⟩ (fun _ _ h => h)
  · intro uu1 hS hN1 hD1
    refine xBl 0 ?_
    refine xSub [(0, vs As s cs), (1, vy v_), (7, vi (((s).length : Nat) : Int)), (8, vi 0)] ?_
    refine xLo hS (fun g own sl s6 => own = [] ∧ sl = [(0, vs As s cs), (1, vy v_), (7, vi (((s).length : Nat) : Int)), (8, vi ((s6 : Nat) : Int))]) ⟨by kernel_rfl, by kernel_rfl⟩ ?_
    rintro g7 _ _ s6 uu6 e8 ⟨rfl, rfl⟩ hS Qr6 hN6 hD6
    unfold o57_L0 at hS
    refine xSq ?_
    refine xRg ?_
    refine xB 1 [] [(0, vs As s cs), (1, vy v_), (7, vi (((s).length : Nat) : Int)), (8, vi ((s6 : Nat) : Int)), (9, vb (decide (((s6 : Nat) : Int) < (((s).length : Nat) : Int))))] ?_
    refine xRe ?_
    refine wpq_then ?_
    refine xSq ?_
    refine xCd (decide (((s6 : Nat) : Int) < (((s).length : Nat) : Int))) (fun h9 => ?_) (fun h9 => ?_)
    · have hS := cond_T h9 hS
      have h9p := of_decide_eq_true h9
      refine xSk ?_
      refine wpq_then ?_
      refine xSub [(0, vs As s cs), (1, vy v_), (7, vi (((s).length : Nat) : Int)), (8, vi ((s6 : Nat) : Int))] ?_
      refine xSq ?_
      refine xBl 1 ?_
      refine xSq ?_
      refine xRg ?_
      refine xB 2 [] [(0, vs As s cs), (1, vy v_), (5, vi ((s6 : Nat) : Int)), (7, vi (((s).length : Nat) : Int)), (8, vi ((s6 : Nat) : Int))] ?_
      refine xRe ?_
      refine wpq_then ?_
      refine xSq ?_
      refine xRg ?_
      have fs := fs.mono e8.r
      have i11 : s6 < (s).length := by omega
      obtain ⟨ad10, cs10, hA10, hr10, hc10⟩ := fs.at_ (get_getD (d := 0) i11)
      have hr10 : cs10 = [vy ((List.getD s s6 0).toNat : Int)] := hr10
      subst hr10
      have nb10 := UInt8.toNat_lt (List.getD s s6 0)
      refine xB 3 [] [(0, vs As s cs), (1, vy v_), (5, vi ((s6 : Nat) : Int)), (7, vi (((s).length : Nat) : Int)), (8, vi ((s6 : Nat) : Int)), (11, vy v_), (12, vs As s cs), (13, vi ((s6 : Nat) : Int))] ?_
      refine xV (qIx s6 1 hA10 rfl i11) ?_
      refine xV (qLdP (Addr.add ad10 (s6 * 1)) 0 hc10) ?_
      refine xB 1 [] [(0, vs As s cs), (1, vy v_), (5, vi ((s6 : Nat) : Int)), (7, vi (((s).length : Nat) : Int)), (8, vi ((s6 : Nat) : Int)), (16, vb (v_ == ((List.getD s s6 0).toNat : Int)))] ?_
      refine xRe ?_
      refine wpq_then ?_
      refine xCd ((v_ == ((List.getD s s6 0).toNat : Int))) (fun h12 => ?_) (fun h12 => ?_)
      · have hS := cond_T h12 hS
        have h12p : v_ = ((List.getD s s6 0).toNat : Int) := eq_of_beq h12
        refine xSq ?_
        refine xRg ?_
        refine xB 2 [] [(4, vi ((s6 : Nat) : Int))] ?_
        refine xRe ?_
        refine wpq_then ?_
        have eS := (Option.some.inj hS).symm
        have eS := (hD6 _ eS).symm
        have eS := (hD1 _ eS).symm
        subst eS
        exact xRet [] [4] e8 ⟨by kernel_rfl, by kernel_rfl⟩ (fun _ _ h => h)
      · have hS := cond_F h12 hS
        have h12p : ¬ (v_ = ((List.getD s s6 0).toNat : Int)) := ne_of_beq_false_ h12
        refine xSk ?_
        refine wpq_blockN ?_
        refine wpq_then ?_
        refine xSub [(0, vs As s cs), (1, vy v_), (7, vi (((s).length : Nat) : Int)), (8, vi ((s6 : Nat) : Int))] ?_
        refine xRg ?_
        obtain ⟨q13, hS⟩ := grd_T hS
        have q13p := of_decide_eq_true q13
        refine xV (qAdd .i64 (((s6 : Nat) : Int)) (1) (wr64 (by omega))) ?_
        refine xB 1 [] [(0, vs As s cs), (1, vy v_), (7, vi (((s).length : Nat) : Int)), (8, vi (((s6 : Nat) : Int) + 1))] ?_
        refine xRe ?_
        refine wpq_thenN ?_
        refine xSub [(0, vs As s cs), (1, vy v_), (7, vi (((s).length : Nat) : Int)), (8, vi (((s6 : Nat) : Int) + 1))] ?_
        have eS := (Option.some.inj hS).symm
        exact hN6 _ eS _ _ _ (Gh.le.refl _) ⟨by kernel_rfl, by kernel_rfl⟩
    · have hS := cond_F h9 hS
      have h9p := of_decide_eq_false h9
      refine xEx 0 ?_
      refine wpq_thenX ?_
      refine wpq_thenX ?_
      refine wpq_blockE ?_
      refine xSub [] ?_
      have eS := (Option.some.inj hS).symm
      have eS := (hD6 _ eS).symm
      exact hN1 _ eS _ _ _ e8 ⟨by kernel_rfl, by kernel_rfl⟩

def o77 (s : List UInt8) (c : Int) : Int :=
  (((Lib.indexByte s (c).toNat.toUInt8) : Int))
set_option maxRecDepth 100000 in
theorem C77 (g : Gh) (s : List UInt8) (c : Int) {r : Int} (hS : o77 s c = r) :
    Ctr Tryd.prog 77 [vt s, vy c] g [] (fun v ψ o => v = vi r ∧ o = []) := by
  unfold o77 at hS
  refine xFn Tryd.f77 (Tryd.f77.body.getD .skip) 8 ?_
  refine xSq ?_
  refine xRg ?_
  refine xB 1 [] [(0, vt s), (1, vy c)] ?_
  refine xRe ?_
  refine wpq_then ?_
  refine xSq ?_
  refine xRg ?_
  have z1 := Lib.indexByte_ge s (c).toNat.toUInt8
  refine xB 2 [] [(5, vt s), (6, vy c)] ?_
  refine xV (qXib (xs := s) (c := c) (f := 81) (fn := Tryd.f81) Tryd.func81 rfl rfl (by kernel_rfl) (by kernel_rfl)) ?_
  refine xB 1 [] [(4, vi (Lib.indexByte s (c).toNat.toUInt8))] ?_
  refine xRe ?_
  refine wpq_then ?_
  have eS := hS.symm
  subst eS
  exact xRet [] [4] (Gh.le.refl _) ⟨by kernel_rfl, by kernel_rfl⟩ (fun _ _ h => h)

def o76k47 (s : List UInt8) : Int :=
  (cond (([47] == s)) ((0 : Int)) (letJ (τ := Int) (o77 s (47 : Int)) fun y2 => ((y2 : Int))))
set_option maxRecDepth 100000 in
theorem C76k47 (g : Gh) (s : List UInt8) {r : Int} (hS : o76k47 s = r) :
    Ctr Tryd.prog 76 [vt s, vt ([47])] g [] (fun v ψ o => v = vi r ∧ o = []) := by
  unfold o76k47 at hS
  refine xFn Tryd.f76 (Tryd.f76.body.getD .skip) 143 ?_
  refine xSq ?_
  refine xRg ?_
  refine xB 1 [] [(0, vt s), (1, vt ([47]))] ?_
  refine xRe ?_
  refine wpq_then ?_
  refine xSq ?_
  refine xRg ?_
  refine xB 3 [] [(0, vt s), (1, vt ([47])), (5, vi 1)] ?_
  refine xRe ?_
  refine wpq_then ?_
  refine xSq ?_
  refine xBl 0 ?_
  refine xSq ?_
  refine xRg ?_
  refine xB 5 [] [(0, vt s), (1, vt ([47])), (5, vi 1), (19, vb false), (20, vt ([47])), (21, vt s)] ?_
  refine xV (qEqS ([47]) (s)) ?_
  refine xB 2 [] [(0, vt s), (1, vt ([47])), (5, vi 1), (16, vb ([47] == s))] ?_
  refine xRe ?_
  refine wpq_then ?_
  refine xCd (([47] == s)) (fun h1 => ?_) (fun h1 => ?_)
  · have hS := cond_T h1 hS
    have h1p : [47] = s := eq_of_beq h1
    refine xSq ?_
    refine xRg ?_
    refine xB 1 [] [(4, vi 0)] ?_
    refine xRe ?_
    refine wpq_then ?_
    have eS := hS.symm
    subst eS
    exact xRet [] [4] (Gh.le.refl _) ⟨by kernel_rfl, by kernel_rfl⟩ (fun _ _ h => h)
  · have hS := cond_F h1 hS
    have h1p : ¬ ([47] = s) := ne_of_beq_false_ h1
    refine xSq ?_
    refine xRg ?_
    refine xB 3 [] [(0, vt s), (1, vt ([47])), (5, vi 1), (24, vb true)] ?_
    refine xRe ?_
    refine wpq_then ?_
    refine xCt ?_
    refine xSq ?_
    refine xRg ?_
    refine xB 3 [] [(27, vt s), (29, vy 47)] ?_
    obtain ⟨y2, hy2, hS⟩ := letJ_T hS
    refine xE (eC 0 (fun g' lr eb ln => C77 g' s (47 : Int) hy2)) ?_
    rintro _ g3 _ e4 ⟨_, rfl, rfl, rfl⟩
    refine xB 1 [] [(4, vi y2)] ?_
    refine xRe ?_
    refine wpq_then ?_
    have eS := hS.symm
    subst eS
    exact xRet [] [4] e4 ⟨by kernel_rfl, by kernel_rfl⟩ (fun _ _ h => h)

def o74k47 (s : List UInt8) : Option ((List UInt8) × (List UInt8) × Bool) :=
  (letJ (τ := Int) (o76k47 s) fun y1 => (cond (decide (y1 ≥ 0)) (grd (decide (y1 ≤ (((s).length : Nat) : Int))) (grd (decide (-9223372036854775808 ≤ y1 + 1 ∧ y1 + 1 ≤ 9223372036854775807)) (grd (decide ((y1 + 1) ≤ (((s).length : Nat) : Int))) (some (((List.take (y1).toNat s), (List.drop ((y1 + 1)).toNat s), (true))))))) (some ((s, [], (false))))))
set_option maxRecDepth 100000 in
theorem C74k47 (g : Gh) (s : List UInt8) {r : (List UInt8) × (List UInt8) × Bool} (hS : o74k47 s = some r) :
    Ctr Tryd.prog 74 [vt s, vt ([47])] g [] (fun v ψ o => v = Value.tuple #[vt r.1, vt r.2.1, vb r.2.2] ∧ o = []) := by
  unfold o74k47 at hS
  refine xFn Tryd.f74 (Tryd.f74.body.getD .skip) 23 ?_
  refine xSq ?_
  refine xRg ?_
  refine xB 3 [] [(0, vt s), (1, vt ([47]))] ?_
  refine xRe ?_
  refine wpq_then ?_
  refine xSq ?_
  refine xSq ?_
  refine xRg ?_
  refine xB 2 [] [(0, vt s), (1, vt ([47])), (8, vt s), (9, vt ([47]))] ?_
  obtain ⟨y1, hy1, hS⟩ := letJ_T hS
  refine xE (eC 0 (fun g' lr eb ln => C76k47 g' s hy1)) ?_
  rintro _ g2 _ e3 ⟨_, rfl, rfl, rfl⟩
  refine xB 1 [] [(0, vt s), (1, vt ([47])), (7, vi y1)] ?_
  refine xRe ?_
  refine wpq_then ?_
  refine xSq ?_
  refine xRg ?_
  refine xB 2 [] [(0, vt s), (1, vt ([47])), (7, vi y1), (12, vb (decide (y1 ≥ 0)))] ?_
  refine xRe ?_
  refine wpq_then ?_
  refine xCd (decide (y1 ≥ 0)) (fun h4 => ?_) (fun h4 => ?_)
  · have hS := cond_T h4 hS
    have h4p := of_decide_eq_true h4
    refine xSq ?_
    refine xDr 0 [] [0, 1, 2, 3, 4, 5, 6, 7, 8, 9, 10, 11] [] 12 (fun RG => ?_) (fun _ _ _ _ _ h => h)
    obtain ⟨q5, hS⟩ := grd_T hS
    have q5p := of_decide_eq_true q5
    refine xT 10 [0, 1] [] [] [(0, vt s), (1, vt ([47])), (7, vi y1), (13, vt s), (14, vi y1)] RG (Psi.le.refl _) ?_
    refine xTp 2 RG (fun _ => (qSls (xs := s) (ys := (List.take (y1).toNat s)) 0 (y1).toNat none (some y1) rfl (show _ = _ by omega) (by omega) (by omega) (by rw [List.drop_zero, Nat.sub_zero]))) ?_
    obtain ⟨q6, hS⟩ := grd_T hS
    have q6p := of_decide_eq_true q6
    refine xT 5 [3, 4, 5, 6] [] [] [(15, vt (List.take (y1).toNat s)), (16, vt s), (17, vi y1), (19, vi 1)] RG (Psi.le.refl _) ?_
    refine xTp 7 RG (fun _ => (qAdd .i64 (y1) (1) (wr64 (by omega)))) ?_
    obtain ⟨q7, hS⟩ := grd_T hS
    have q7p := of_decide_eq_true q7
    refine xTp 8 RG (fun _ => (qSls (xs := s) (ys := (List.drop ((y1 + 1)).toNat s)) ((y1 + 1)).toNat (s).length (some (y1 + 1)) none (show _ = _ by omega) rfl (by omega) (by omega) (List.take_of_length_le (by rw [List.length_drop]; omega)))) ?_
    refine xT 0 [9, 10, 11] [] [] [(4, vt (List.take (y1).toNat s)), (5, vt (List.drop ((y1 + 1)).toNat s)), (6, vb true)] RG (Psi.le.refl _) ?_
    refine xAe (lds := []) ?_
    refine wpq_then ?_
    have eS := (Option.some.inj hS).symm
    subst eS
    exact xRet [] [4, 5, 6] e3 ⟨by kernel_rfl, by kernel_rfl⟩ (fun _ _ h => h)
  · have hS := cond_F h4 hS
    have h4p := of_decide_eq_false h4
    refine xSk ?_
    refine wpq_then ?_
    refine xSub [(0, vt s)] ?_
    refine xSq ?_
    refine xRg ?_
    refine xB 4 [] [(4, vt s), (5, vt ([])), (6, vb false)] ?_
    refine xRe ?_
    refine wpq_then ?_
    have eS := (Option.some.inj hS).symm
    subst eS
    exact xRet [] [4, 5, 6] e3 ⟨by kernel_rfl, by kernel_rfl⟩ (fun _ _ h => h)

def o70k47 (s : List UInt8) : Option ((List UInt8) × (List UInt8) × Bool) :=
  (bindO (τ := (List UInt8) × (List UInt8) × Bool) (o74k47 s) fun y1 => (some ((y1.1, y1.2.1, (y1.2.2)))))
set_option maxRecDepth 100000 in
theorem C70k47 (g : Gh) (s : List UInt8) {r : (List UInt8) × (List UInt8) × Bool} (hS : o70k47 s = some r) :
    Ctr Tryd.prog 70 [vt s, vt ([47])] g [] (fun v ψ o => v = Value.tuple #[vt r.1, vt r.2.1, vb r.2.2] ∧ o = []) := by
  unfold o70k47 at hS
  refine xFn Tryd.f70 (Tryd.f70.body.getD .skip) 13 ?_
  refine xSq ?_
  refine xRg ?_
  refine xB 3 [] [(0, vt s), (1, vt ([47]))] ?_
  refine xRe ?_
  refine wpq_then ?_
  refine xSq ?_
  refine xRg ?_
  refine xB 2 [] [(7, vt s), (8, vt ([47]))] ?_
  obtain ⟨y1, hy1, hS⟩ := bindO_T hS
  refine xE (eC 0 (fun g' lr eb ln => C74k47 g' s hy1)) ?_
  rintro _ g2 _ e3 ⟨_, rfl, rfl, rfl⟩
  refine xB 6 [] [(4, vt y1.1), (5, vt y1.2.1), (6, vb y1.2.2)] ?_
  refine xRe ?_
  refine wpq_then ?_
  have eS := (Option.some.inj hS).symm
  subst eS
  exact xRet [] [4, 5, 6] e3 ⟨by kernel_rfl, by kernel_rfl⟩ (fun _ _ h => h)

end Go.Proofs.YthfekfebgghjhaaDoor
