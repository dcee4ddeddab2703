/-
Walks, printed by wip/gen. Conditions: each theorem's own.
-/
import Derived.Test.YtmcgofgpcnlljaaB3
namespace Go.Proofs.Ytmcgofgpcnlljaa
set_option linter.unusedVariables false
set_option linter.unusedSimpArgs false
open Go.RowKit
def o21_L0 (l : List Msg) (s6 : (List Msg) × Nat) : Option (Ctl ((List Msg) × Nat) ((List Msg))) :=
  (cond (decide (((s6.2 : Nat) : Int) < (((l).length : Nat) : Int))) (grd (decide (((s6.1).length + (([(List.getD l s6.2 default)] : List Msg)).length) * 24 ≤ 140737488355328)) (grd (decide (((s6.2 : Nat) : Int) + 1 ≤ 9223372036854775807)) (some (Ctl.go (((s6.1 ++ ([(List.getD l s6.2 default)] : List Msg)) : List Msg), (s6.2 + 1)))))) (some (Ctl.done ((s6.1 : List Msg)))))
def o21 (l : List Msg) : Option ((List Msg)) :=
  (bindO (τ := (List Msg)) (loopO (σ := (List Msg) × Nat) (ρ := (List Msg)) fuelN (o21_L0 l) (([] : List Msg), 0)) fun t1 => (some ((t1 : List Msg))))
set_option maxRecDepth 100000 in
theorem c21 (g : Gh) (l : List Msg) (Al : Option Addr) (cl : Nat) (fl : Arr g.r tyMsg Al cl l) {r : (List Msg)} (hS : o21 l = some r) :
    Ctr Try.prog 21 [vs Al l cl] g [] (fun v ψ o => ∃ (Ar_0 : Option Addr) (cr_0 : Nat) (kr_0 : Option Bk), v = vs Ar_0 r cr_0 ∧ o = [kr_0] ∧ Buf ψ tyMsg 87 (.slice Ar_0 (r).length cr_0) kr_0 r) := by
  unfold o21 at hS
  refine xFn Try.f21 (Try.f21.body.getD .skip) 24 ?_
  have nfl := fl.len
  refine xSq ?_
  refine xRg ?_
  refine xB 1 [] [(0, vs Al l cl)] ?_
  refine xRe ?_
  refine wpq_then ?_
  refine xSq ?_
  refine xRg ?_
  refine xB 1 [] [(0, vs Al l cl), (3, Value.slice none 0 0)] ?_
  refine xRe ?_
  refine wpq_then ?_
  refine xSq ?_
  refine xSq ?_
  refine xRg ?_
  refine xB 3 [] [(3, Value.slice none 0 0), (6, vs Al l cl), (7, vi (((l).length : Nat) : Int)), (8, vi 0)] ?_
  refine xRe ?_
  refine wpq_then ?_
  refine xBindO hS (fun g own sl t1 => ∃ (A1_0 : Option Addr) (c1_0 : Nat) (k1_0 : Option Bk), own = [k1_0] ∧ sl = [(3, vs A1_0 t1 c1_0)] ∧ Buf g.b tyMsg 87 (.slice A1_0 (t1).length c1_0) k1_0 t1) ?_ ?_
  · rintro g2 _ _ t1 e3 ⟨A1_0, c1_0, k1_0, rfl, rfl, h1_0⟩ hS
    have nh1_0 := h1_0.len
    refine wpq_then ?_
    refine xSq ?_
    refine xRg ?_
    refine xB 2 [] [(2, vs A1_0 t1 c1_0)] ?_
    refine xRe ?_
    refine wpq_then ?_
    have eS := (Option.some.inj hS).symm
    subst eS
    exact xRet [some 0] [2] e3 ⟨A1_0, c1_0, k1_0, by kernel_rfl, by kernel_rfl, h1_0⟩ (fun _ _ h => h)
  · intro uu1 hS hN1
    refine xBl 0 ?_
    refine xSel [none] ?_
    refine xSub [(3, Value.slice none 0 0), (6, vs Al l cl), (7, vi (((l).length : Nat) : Int)), (8, vi 0)] ?_
    refine xLo hS (fun g own sl s6 => ∃ (A6_0 : Option Addr) (c6_0 : Nat) (k6_0 : Option Bk), own = [k6_0] ∧ sl = [(3, vs A6_0 s6.1 c6_0), (6, vs Al l cl), (7, vi (((l).length : Nat) : Int)), (8, vi ((s6.2 : Nat) : Int))] ∧ Buf g.b tyMsg 87 (.slice A6_0 (s6.1).length c6_0) k6_0 s6.1) ⟨none, 0, none, by kernel_rfl, by kernel_rfl, Buf.nil⟩ ?_
    rintro g7 _ _ s6 uu6 e8 ⟨A6_0, c6_0, k6_0, rfl, rfl, h6_0⟩ hS Qr6 hN6 hD6
    have nh6_0 := h6_0.len
    unfold o21_L0 at hS
    refine xSq ?_
    refine xRg ?_
    refine xB 1 [] [(3, vs A6_0 s6.1 c6_0), (6, vs Al l cl), (7, vi (((l).length : Nat) : Int)), (8, vi ((s6.2 : Nat) : Int)), (9, vb (decide (((s6.2 : Nat) : Int) < (((l).length : Nat) : Int))))] ?_
    refine xRe ?_
    refine wpq_then ?_
    refine xSq ?_
    refine xCd (decide (((s6.2 : Nat) : Int) < (((l).length : Nat) : Int))) (fun h9 => ?_) (fun h9 => ?_)
    · have hS := cond_T h9 hS
      have h9p := of_decide_eq_true h9
      refine xSk ?_
      refine wpq_then ?_
      refine xSub [(3, vs A6_0 s6.1 c6_0), (6, vs Al l cl), (7, vi (((l).length : Nat) : Int)), (8, vi ((s6.2 : Nat) : Int))] ?_
      refine xSq ?_
      refine xBl 1 ?_
      refine xSq ?_
      refine xRg ?_
      have fl := fl.mono e8.r
      have i11 : s6.2 < (l).length := by omega
      obtain ⟨ad10, cs10, hA10, hr10, hc10⟩ := fl.at_ (get_getD (d := default) i11)
      obtain ⟨rfl⟩ := hr10
      refine xV (qIx s6.2 3 hA10 rfl i11) ?_
      refine xV (qLdP (Addr.add ad10 (s6.2 * 3)) 0 hc10) ?_
      refine xE eB ?_
      rintro _ _ _ - ⟨b12, rfl, rfl, rfl⟩
      refine xBo 1 [(3, 0)] [some ⟨b12, 70, [vy ((List.getD l s6.2 default).label), vi ((List.getD l s6.2 default).period), vi ((List.getD l s6.2 default).length)]⟩, k6_0] [(3, vs A6_0 s6.1 c6_0), (5, vp b12 0), (6, vs Al l cl), (7, vi (((l).length : Nat) : Int)), (8, vi ((s6.2 : Nat) : Int))] ?_
      refine xRe ?_
      refine wpq_then ?_
      refine xRg ?_
      refine xB 8 [(2, 0), (4, 0), (6, 0)] [(3, vs A6_0 s6.1 c6_0), (6, vs Al l cl), (7, vi (((l).length : Nat) : Int)), (8, vi ((s6.2 : Nat) : Int)), (12, vs A6_0 s6.1 c6_0), (19, Value.agg #[vy ((List.getD l s6.2 default).label), vi ((List.getD l s6.2 default).period), vi ((List.getD l s6.2 default).length)])] ?_
      refine xE (eBs (T := tyMsg) (p := g7.b) (et := 87) (xs := ([(List.getD l s6.2 default)] : List Msg)) (reps_cons (c := [vy ((List.getD l s6.2 default).label), vi ((List.getD l s6.2 default).period), vi ((List.getD l s6.2 default).length)]) (show tyMsg.rep _ _ (List.getD l s6.2 default) from rfl) reps_nil) (by simp)) ?_
      rintro _ _ _ - ⟨A13, c13, k13, rfl, rfl, rfl, h13⟩
      obtain ⟨nw14, hp14, hs14⟩ := h13.srcO (g := g7)
      obtain ⟨q15, hS⟩ := grd_T hS
      have q15p := of_decide_eq_true q15
      refine xE (eApp (T := tyMsg) (p := g7.b) (et := 87) (bytes := 24) (xs := (s6.1 : List Msg)) (ys := (([(List.getD l s6.2 default)] : List Msg) : List Msg)) 2 h6_0 rfl (fun w hs => hs14 0 w _ hs (by kernel_rfl)) hp14 (by first | omega | (simp only [List.length_cons, List.length_nil] at *; omega)) (by first | omega | (simp only [List.length_cons, List.length_nil] at *; omega))) ?_
      rintro _ _ _ - ⟨A14, c14, k14, rfl, rfl, rfl, h14⟩
      have nh14 := h14.len
      have hz14 : ((s6.1 ++ ([(List.getD l s6.2 default)] : List Msg)) : List Msg).length = (s6.1).length + (([(List.getD l s6.2 default)] : List Msg)).length := List.length_append
      refine xB 1 [] [(3, vs A14 (s6.1 ++ ([(List.getD l s6.2 default)] : List Msg)) c14), (6, vs Al l cl), (7, vi (((l).length : Nat) : Int)), (8, vi ((s6.2 : Nat) : Int))] ?_
      refine xRe ?_
      refine wpq_blockN ?_
      refine wpq_then ?_
      refine xRg ?_
      obtain ⟨q16, hS⟩ := grd_T hS
      have q16p := of_decide_eq_true q16
      refine xV (qAdd .i64 (((s6.2 : Nat) : Int)) (1) (wr64 (by omega))) ?_
      refine xB 1 [] [(3, vs A14 (s6.1 ++ ([(List.getD l s6.2 default)] : List Msg)) c14), (6, vs Al l cl), (7, vi (((l).length : Nat) : Int)), (8, vi (((s6.2 : Nat) : Int) + 1))] ?_
      refine xRe ?_
      refine wpq_thenN ?_
      refine xSel [some 2] ?_
      refine xSub [(3, vs A14 (s6.1 ++ ([(List.getD l s6.2 default)] : List Msg)) c14), (6, vs Al l cl), (7, vi (((l).length : Nat) : Int)), (8, vi (((s6.2 : Nat) : Int) + 1))] ?_
      have eS := (Option.some.inj hS).symm
      exact hN6 _ eS _ _ _ (Gh.le.refl _) ⟨A14, c14, k14, by kernel_rfl, by kernel_rfl, h14⟩
    · have hS := cond_F h9 hS
      have h9p := of_decide_eq_false h9
      refine xEx 0 ?_
      refine wpq_thenX ?_
      refine wpq_thenX ?_
      refine wpq_blockE ?_
      refine xSub [(3, vs A6_0 s6.1 c6_0)] ?_
      have eS := (Option.some.inj hS).symm
      have eS := (hD6 _ eS).symm
      exact hN1 _ eS _ _ _ e8 ⟨A6_0, c6_0, k6_0, by kernel_rfl, by kernel_rfl, h6_0⟩

def o44_L1 (l : List Msg) (s7 : Nat) (s32 : Nat) : Option (Ctl (Nat) (Ctl (Unit) (Ctl (Unit) (Ctl (Nat) (Ctl (Unit) (Int)))))) :=
  (cond (decide (((s32 : Nat) : Int) < ((((List.take s7 l)).length : Nat) : Int))) (cond (((List.getD (List.take s7 l) s32 default).label == (List.getD l s7 default).label)) (some (Ctl.done (Ctl.done (Ctl.done (Ctl.done (Ctl.done ((7 : Int)))))))) (grd (decide (((s32 : Nat) : Int) + 1 ≤ 9223372036854775807)) (some (Ctl.go (s32 + 1))))) (some (Ctl.done (Ctl.go ()))))
def o44_L0 (l : List Msg) (s7 : Nat) : Option (Ctl (Nat) (Ctl (Unit) (Int))) :=
  (cond (decide (((s7 : Nat) : Int) < (((l).length : Nat) : Int))) (joinO (τ := Unit) (ρ := Ctl (Nat) (Ctl (Unit) (Int))) (cond ((((((((((List.getD l s7 default).period != 1) && ((List.getD l s7 default).period != 2)) && ((List.getD l s7 default).period != 4)) && ((List.getD l s7 default).period != 8)) && ((List.getD l s7 default).period != 16)) && ((List.getD l s7 default).period != 32)) || decide ((List.getD l s7 default).length < 1)) || decide ((List.getD l s7 default).length > 1000))) (some (Ctl.done (Ctl.done (Ctl.done ((1 : Int)))))) (joinO (τ := Unit) (ρ := Ctl (Unit) (Ctl (Nat) (Ctl (Unit) (Int)))) (loopO (σ := Nat) (ρ := Ctl (Unit) (Ctl (Unit) (Ctl (Nat) (Ctl (Unit) (Int))))) fuelN (o44_L1 l s7) (0)) fun t27 => (some (Ctl.go ())))) fun t11 => (grd (decide (((s7 : Nat) : Int) + 1 ≤ 9223372036854775807)) (some (Ctl.go (s7 + 1))))) (some (Ctl.done (Ctl.go ()))))
def o44 (l : List Msg) : Option (Int) :=
  (cond (decide ((((l).length : Nat) : Int) > 32)) (some ((3 : Int))) (joinO (τ := Unit) (ρ := Int) (loopO (σ := Nat) (ρ := Ctl (Unit) (Int)) fuelN (o44_L0 l) (0)) fun t2 => (some ((0 : Int)))))
set_option maxRecDepth 100000 in
theorem c44 (g : Gh) (l : List Msg) (Al : Option Addr) (cl : Nat) (fl : Arr g.r tyMsg Al cl l) {r : Int} (hS : o44 l = some r) :
    Ctr Try.prog 44 [vs Al l cl] g [] (fun v ψ o => v = vi r ∧ o = []) := by
  unfold o44 at hS
  refine xFn Try.f44 (Try.f44.body.getD .skip) 67 ?_
  have nfl := fl.len
  refine xSq ?_
  refine xRg ?_
  refine xB 1 [] [(0, vs Al l cl)] ?_
  refine xRe ?_
  refine wpq_then ?_
  refine xSq ?_
  refine xSq ?_
  refine xRg ?_
  refine xB 3 [] [(0, vs Al l cl), (10, vb (decide ((((l).length : Nat) : Int) > 32)))] ?_
  refine xRe ?_
  refine wpq_then ?_
  refine xCd (decide ((((l).length : Nat) : Int) > 32)) (fun h1 => ?_) (fun h1 => ?_)
  · have hS := cond_T h1 hS
    have h1p := of_decide_eq_true h1
    refine xSq ?_
    refine xRg ?_
    refine xB 1 [] [(2, vi 3)] ?_
    refine xRe ?_
    refine wpq_then ?_
    have eS := (Option.some.inj hS).symm
    subst eS
    exact xRet [] [2] (Gh.le.refl _) ⟨by kernel_rfl, by kernel_rfl⟩ (fun _ _ h => h)
  · have hS := cond_F h1 hS
    have h1p := of_decide_eq_false h1
    refine xSk ?_
    refine wpq_then ?_
    refine xSub [(0, vs Al l cl)] ?_
    refine xSq ?_
    refine xSq ?_
    refine xRg ?_
    refine xB 3 [] [(0, vs Al l cl), (11, vs Al l cl), (12, vi (((l).length : Nat) : Int)), (13, vi 0)] ?_
    refine xRe ?_
    refine wpq_then ?_
    refine xJoinO hS (fun g own sl t2 => own = [] ∧ sl = []) ?_ ?_
    · rintro g3 _ _ t2 e4 ⟨rfl, rfl⟩ hS
      refine wpq_then ?_
      refine xSq ?_
      refine xRg ?_
      refine xB 1 [] [(2, vi 0)] ?_
      refine xRe ?_
      refine wpq_then ?_
      have eS := (Option.some.inj hS).symm
      subst eS
      exact xRet [] [2] e4 ⟨by kernel_rfl, by kernel_rfl⟩ (fun _ _ h => h)
    · intro uu2 hS hN2 hD2
      refine xBl 0 ?_
      refine xSub [(0, vs Al l cl), (11, vs Al l cl), (12, vi (((l).length : Nat) : Int)), (13, vi 0)] ?_
      refine xLo hS (fun g own sl s7 => own = [] ∧ sl = [(0, vs Al l cl), (11, vs Al l cl), (12, vi (((l).length : Nat) : Int)), (13, vi ((s7 : Nat) : Int))]) ⟨by kernel_rfl, by kernel_rfl⟩ ?_
      rintro g8 _ _ s7 uu7 e9 ⟨rfl, rfl⟩ hS Qr7 hN7 hD7
      unfold o44_L0 at hS
      refine xSq ?_
      refine xRg ?_
      refine xB 1 [] [(0, vs Al l cl), (11, vs Al l cl), (12, vi (((l).length : Nat) : Int)), (13, vi ((s7 : Nat) : Int)), (14, vb (decide (((s7 : Nat) : Int) < (((l).length : Nat) : Int))))] ?_
      refine xRe ?_
      refine wpq_then ?_
      refine xSq ?_
      refine xCd (decide (((s7 : Nat) : Int) < (((l).length : Nat) : Int))) (fun h10 => ?_) (fun h10 => ?_)
      · have hS := cond_T h10 hS
        have h10p := of_decide_eq_true h10
        refine xSk ?_
        refine wpq_then ?_
        refine xSub [(0, vs Al l cl), (11, vs Al l cl), (12, vi (((l).length : Nat) : Int)), (13, vi ((s7 : Nat) : Int))] ?_
        refine xSq ?_
        refine xJoinO hS (fun g own sl t11 => own = [] ∧ sl = [(0, vs Al l cl), (11, vs Al l cl), (12, vi (((l).length : Nat) : Int)), (13, vi ((s7 : Nat) : Int))]) ?_ ?_
        · rintro g12 _ _ t11 e13 ⟨rfl, rfl⟩ hS
          refine wpq_then ?_
          refine xRg ?_
          obtain ⟨q14, hS⟩ := grd_T hS
          have q14p := of_decide_eq_true q14
          refine xV (qAdd .i64 (((s7 : Nat) : Int)) (1) (wr64 (by omega))) ?_
          refine xB 1 [] [(0, vs Al l cl), (11, vs Al l cl), (12, vi (((l).length : Nat) : Int)), (13, vi (((s7 : Nat) : Int) + 1))] ?_
          refine xRe ?_
          refine wpq_thenN ?_
          refine xSub [(0, vs Al l cl), (11, vs Al l cl), (12, vi (((l).length : Nat) : Int)), (13, vi (((s7 : Nat) : Int) + 1))] ?_
          have eS := (Option.some.inj hS).symm
          exact hN7 _ eS _ _ _ e13 ⟨by kernel_rfl, by kernel_rfl⟩
        · intro uu11 hS hN11 hD11
          refine xBl 1 ?_
          refine xSq ?_
          refine xRg ?_
          have fl := fl.mono e9.r
          have i16 : s7 < (l).length := by omega
          obtain ⟨ad15, cs15, hA15, hr15, hc15⟩ := fl.at_ (get_getD (d := default) i16)
          obtain ⟨rfl⟩ := hr15
          refine xB 1 [] [(0, vs Al l cl), (11, vs Al l cl), (12, vi (((l).length : Nat) : Int)), (13, vi ((s7 : Nat) : Int)), (15, vi ((s7 : Nat) : Int))] ?_
          refine xV (qIx s7 3 hA15 rfl i16) ?_
          refine xV (qLdP (Addr.add ad15 (s7 * 3)) 0 hc15) ?_
          refine xE eB ?_
          rintro _ _ _ - ⟨b17, rfl, rfl, rfl⟩
          refine xBo 2 [(5, 0)] [some ⟨b17, 87, [vy ((List.getD l s7 default).label), vi ((List.getD l s7 default).period), vi ((List.getD l s7 default).length)]⟩] [(0, vs Al l cl), (3, vi ((s7 : Nat) : Int)), (4, vp b17 0), (11, vs Al l cl), (12, vi (((l).length : Nat) : Int)), (13, vi ((s7 : Nat) : Int))] ?_
          refine xRe ?_
          refine wpq_then ?_
          refine xSq ?_
          refine xRg ?_
          refine xB 3 [(1, 0)] [(0, vs Al l cl), (3, vi ((s7 : Nat) : Int)), (4, vp b17 0), (5, vi ((List.getD l s7 default).period)), (11, vs Al l cl), (12, vi (((l).length : Nat) : Int)), (13, vi ((s7 : Nat) : Int))] ?_
          refine xRe ?_
          refine wpq_then ?_
          refine xSq ?_
          refine xSq ?_
          refine xRg ?_
          refine xB 3 [] [(0, vs Al l cl), (3, vi ((s7 : Nat) : Int)), (4, vp b17 0), (5, vi ((List.getD l s7 default).period)), (11, vs Al l cl), (12, vi (((l).length : Nat) : Int)), (13, vi ((s7 : Nat) : Int)), (22, vb ((List.getD l s7 default).period != 1))] ?_
          refine wpr_grp 6 [(0, vs Al l cl), (3, vi ((s7 : Nat) : Int)), (4, vp b17 0), (5, vi ((List.getD l s7 default).period)), (11, vs Al l cl), (12, vi (((l).length : Nat) : Int)), (13, vi ((s7 : Nat) : Int)), (25, vb (((List.getD l s7 default).period != 1) && ((List.getD l s7 default).period != 2)))] (fun hk2 => ?_) ?_
          · refine wpq_split 22 (b := ((List.getD l s7 default).period != 1)) (by kernel_rfl) (fun q18 => ?_) (fun q18 => ?_)
            · have q18p : ¬ ((List.getD l s7 default).period = 1) := ne_of_bne_ q18
              refine xB 3 [] [(0, vs Al l cl), (3, vi ((s7 : Nat) : Int)), (4, vp b17 0), (5, vi ((List.getD l s7 default).period)), (11, vs Al l cl), (12, vi (((l).length : Nat) : Int)), (13, vi ((s7 : Nat) : Int)), (25, vb ((List.getD l s7 default).period != 2))] ?_
              refine wpq_re 25 (v := vb ((List.getD l s7 default).period != 2)) (Value.bool ((((List.getD l s7 default).period != 1) && ((List.getD l s7 default).period != 2)))) (by kernel_rfl) (re_and1 q18) ?_
              exact wpq_sub _ (by kernel_rfl) hk2
            · have q18p : (List.getD l s7 default).period = 1 := eq_of_bne_false_ q18
              refine xB 3 [] [(0, vs Al l cl), (3, vi ((s7 : Nat) : Int)), (4, vp b17 0), (5, vi ((List.getD l s7 default).period)), (11, vs Al l cl), (12, vi (((l).length : Nat) : Int)), (13, vi ((s7 : Nat) : Int)), (25, vb false)] ?_
              refine wpq_re 25 (v := vb false) (Value.bool ((((List.getD l s7 default).period != 1) && ((List.getD l s7 default).period != 2)))) (by kernel_rfl) (re_and0 q18) ?_
              exact wpq_sub _ (by kernel_rfl) hk2
          · refine xB 1 [] [(0, vs Al l cl), (3, vi ((s7 : Nat) : Int)), (4, vp b17 0), (5, vi ((List.getD l s7 default).period)), (11, vs Al l cl), (12, vi (((l).length : Nat) : Int)), (13, vi ((s7 : Nat) : Int)), (26, vb (((List.getD l s7 default).period != 1) && ((List.getD l s7 default).period != 2)))] ?_
            refine wpr_grp 10 [(0, vs Al l cl), (3, vi ((s7 : Nat) : Int)), (4, vp b17 0), (5, vi ((List.getD l s7 default).period)), (11, vs Al l cl), (12, vi (((l).length : Nat) : Int)), (13, vi ((s7 : Nat) : Int)), (29, vb ((((List.getD l s7 default).period != 1) && ((List.getD l s7 default).period != 2)) && ((List.getD l s7 default).period != 4)))] (fun hk6 => ?_) ?_
            · refine wpq_split 26 (b := (((List.getD l s7 default).period != 1) && ((List.getD l s7 default).period != 2))) (by kernel_rfl) (fun q19 => ?_) (fun q19 => ?_)
              · have q19l := (and_true_ q19).1
                have q19r := (and_true_ q19).2
                have q19lp : ¬ ((List.getD l s7 default).period = 1) := ne_of_bne_ q19l
                have q19rp : ¬ ((List.getD l s7 default).period = 2) := ne_of_bne_ q19r
                refine xB 3 [] [(0, vs Al l cl), (3, vi ((s7 : Nat) : Int)), (4, vp b17 0), (5, vi ((List.getD l s7 default).period)), (11, vs Al l cl), (12, vi (((l).length : Nat) : Int)), (13, vi ((s7 : Nat) : Int)), (29, vb ((List.getD l s7 default).period != 4))] ?_
                refine wpq_re 29 (v := vb ((List.getD l s7 default).period != 4)) (Value.bool (((((List.getD l s7 default).period != 1) && ((List.getD l s7 default).period != 2)) && ((List.getD l s7 default).period != 4)))) (by kernel_rfl) (re_and1 q19) ?_
                exact wpq_sub _ (by kernel_rfl) hk6
              · refine xB 3 [] [(0, vs Al l cl), (3, vi ((s7 : Nat) : Int)), (4, vp b17 0), (5, vi ((List.getD l s7 default).period)), (11, vs Al l cl), (12, vi (((l).length : Nat) : Int)), (13, vi ((s7 : Nat) : Int)), (29, vb false)] ?_
                refine wpq_re 29 (v := vb false) (Value.bool (((((List.getD l s7 default).period != 1) && ((List.getD l s7 default).period != 2)) && ((List.getD l s7 default).period != 4)))) (by kernel_rfl) (re_and0 q19) ?_
                exact wpq_sub _ (by kernel_rfl) hk6
            · refine xB 1 [] [(0, vs Al l cl), (3, vi ((s7 : Nat) : Int)), (4, vp b17 0), (5, vi ((List.getD l s7 default).period)), (11, vs Al l cl), (12, vi (((l).length : Nat) : Int)), (13, vi ((s7 : Nat) : Int)), (30, vb ((((List.getD l s7 default).period != 1) && ((List.getD l s7 default).period != 2)) && ((List.getD l s7 default).period != 4)))] ?_
              refine wpr_grp 14 [(0, vs Al l cl), (3, vi ((s7 : Nat) : Int)), (4, vp b17 0), (5, vi ((List.getD l s7 default).period)), (11, vs Al l cl), (12, vi (((l).length : Nat) : Int)), (13, vi ((s7 : Nat) : Int)), (33, vb (((((List.getD l s7 default).period != 1) && ((List.getD l s7 default).period != 2)) && ((List.getD l s7 default).period != 4)) && ((List.getD l s7 default).period != 8)))] (fun hk10 => ?_) ?_
              · refine wpq_split 30 (b := ((((List.getD l s7 default).period != 1) && ((List.getD l s7 default).period != 2)) && ((List.getD l s7 default).period != 4))) (by kernel_rfl) (fun q20 => ?_) (fun q20 => ?_)
                · have q20l := (and_true_ q20).1
                  have q20r := (and_true_ q20).2
                  have q20ll := (and_true_ q20l).1
                  have q20lr := (and_true_ q20l).2
                  have q20llp : ¬ ((List.getD l s7 default).period = 1) := ne_of_bne_ q20ll
                  have q20lrp : ¬ ((List.getD l s7 default).period = 2) := ne_of_bne_ q20lr
                  have q20rp : ¬ ((List.getD l s7 default).period = 4) := ne_of_bne_ q20r
                  refine xB 3 [] [(0, vs Al l cl), (3, vi ((s7 : Nat) : Int)), (4, vp b17 0), (5, vi ((List.getD l s7 default).period)), (11, vs Al l cl), (12, vi (((l).length : Nat) : Int)), (13, vi ((s7 : Nat) : Int)), (33, vb ((List.getD l s7 default).period != 8))] ?_
                  refine wpq_re 33 (v := vb ((List.getD l s7 default).period != 8)) (Value.bool ((((((List.getD l s7 default).period != 1) && ((List.getD l s7 default).period != 2)) && ((List.getD l s7 default).period != 4)) && ((List.getD l s7 default).period != 8)))) (by kernel_rfl) (re_and1 q20) ?_
                  exact wpq_sub _ (by kernel_rfl) hk10
                · refine xB 3 [] [(0, vs Al l cl), (3, vi ((s7 : Nat) : Int)), (4, vp b17 0), (5, vi ((List.getD l s7 default).period)), (11, vs Al l cl), (12, vi (((l).length : Nat) : Int)), (13, vi ((s7 : Nat) : Int)), (33, vb false)] ?_
                  refine wpq_re 33 (v := vb false) (Value.bool ((((((List.getD l s7 default).period != 1) && ((List.getD l s7 default).period != 2)) && ((List.getD l s7 default).period != 4)) && ((List.getD l s7 default).period != 8)))) (by kernel_rfl) (re_and0 q20) ?_
                  exact wpq_sub _ (by kernel_rfl) hk10
              · refine xB 1 [] [(0, vs Al l cl), (3, vi ((s7 : Nat) : Int)), (4, vp b17 0), (5, vi ((List.getD l s7 default).period)), (11, vs Al l cl), (12, vi (((l).length : Nat) : Int)), (13, vi ((s7 : Nat) : Int)), (34, vb (((((List.getD l s7 default).period != 1) && ((List.getD l s7 default).period != 2)) && ((List.getD l s7 default).period != 4)) && ((List.getD l s7 default).period != 8)))] ?_
                refine wpr_grp 18 [(0, vs Al l cl), (3, vi ((s7 : Nat) : Int)), (4, vp b17 0), (5, vi ((List.getD l s7 default).period)), (11, vs Al l cl), (12, vi (((l).length : Nat) : Int)), (13, vi ((s7 : Nat) : Int)), (37, vb ((((((List.getD l s7 default).period != 1) && ((List.getD l s7 default).period != 2)) && ((List.getD l s7 default).period != 4)) && ((List.getD l s7 default).period != 8)) && ((List.getD l s7 default).period != 16)))] (fun hk14 => ?_) ?_
                · refine wpq_split 34 (b := (((((List.getD l s7 default).period != 1) && ((List.getD l s7 default).period != 2)) && ((List.getD l s7 default).period != 4)) && ((List.getD l s7 default).period != 8))) (by kernel_rfl) (fun q21 => ?_) (fun q21 => ?_)
                  · have q21l := (and_true_ q21).1
                    have q21r := (and_true_ q21).2
                    have q21ll := (and_true_ q21l).1
                    have q21lr := (and_true_ q21l).2
                    have q21lll := (and_true_ q21ll).1
                    have q21llr := (and_true_ q21ll).2
                    have q21lllp : ¬ ((List.getD l s7 default).period = 1) := ne_of_bne_ q21lll
                    have q21llrp : ¬ ((List.getD l s7 default).period = 2) := ne_of_bne_ q21llr
                    have q21lrp : ¬ ((List.getD l s7 default).period = 4) := ne_of_bne_ q21lr
                    have q21rp : ¬ ((List.getD l s7 default).period = 8) := ne_of_bne_ q21r
                    refine xB 3 [] [(0, vs Al l cl), (3, vi ((s7 : Nat) : Int)), (4, vp b17 0), (5, vi ((List.getD l s7 default).period)), (11, vs Al l cl), (12, vi (((l).length : Nat) : Int)), (13, vi ((s7 : Nat) : Int)), (37, vb ((List.getD l s7 default).period != 16))] ?_
                    refine wpq_re 37 (v := vb ((List.getD l s7 default).period != 16)) (Value.bool (((((((List.getD l s7 default).period != 1) && ((List.getD l s7 default).period != 2)) && ((List.getD l s7 default).period != 4)) && ((List.getD l s7 default).period != 8)) && ((List.getD l s7 default).period != 16)))) (by kernel_rfl) (re_and1 q21) ?_
                    exact wpq_sub _ (by kernel_rfl) hk14
                  · refine xB 3 [] [(0, vs Al l cl), (3, vi ((s7 : Nat) : Int)), (4, vp b17 0), (5, vi ((List.getD l s7 default).period)), (11, vs Al l cl), (12, vi (((l).length : Nat) : Int)), (13, vi ((s7 : Nat) : Int)), (37, vb false)] ?_
                    refine wpq_re 37 (v := vb false) (Value.bool (((((((List.getD l s7 default).period != 1) && ((List.getD l s7 default).period != 2)) && ((List.getD l s7 default).period != 4)) && ((List.getD l s7 default).period != 8)) && ((List.getD l s7 default).period != 16)))) (by kernel_rfl) (re_and0 q21) ?_
                    exact wpq_sub _ (by kernel_rfl) hk14
                · refine xB 1 [] [(0, vs Al l cl), (3, vi ((s7 : Nat) : Int)), (4, vp b17 0), (5, vi ((List.getD l s7 default).period)), (11, vs Al l cl), (12, vi (((l).length : Nat) : Int)), (13, vi ((s7 : Nat) : Int)), (38, vb ((((((List.getD l s7 default).period != 1) && ((List.getD l s7 default).period != 2)) && ((List.getD l s7 default).period != 4)) && ((List.getD l s7 default).period != 8)) && ((List.getD l s7 default).period != 16)))] ?_
                  refine wpr_grp 22 [(0, vs Al l cl), (3, vi ((s7 : Nat) : Int)), (4, vp b17 0), (11, vs Al l cl), (12, vi (((l).length : Nat) : Int)), (13, vi ((s7 : Nat) : Int)), (41, vb (((((((List.getD l s7 default).period != 1) && ((List.getD l s7 default).period != 2)) && ((List.getD l s7 default).period != 4)) && ((List.getD l s7 default).period != 8)) && ((List.getD l s7 default).period != 16)) && ((List.getD l s7 default).period != 32)))] (fun hk18 => ?_) ?_
                  · refine wpq_split 38 (b := ((((((List.getD l s7 default).period != 1) && ((List.getD l s7 default).period != 2)) && ((List.getD l s7 default).period != 4)) && ((List.getD l s7 default).period != 8)) && ((List.getD l s7 default).period != 16))) (by kernel_rfl) (fun q22 => ?_) (fun q22 => ?_)
                    · have q22l := (and_true_ q22).1
                      have q22r := (and_true_ q22).2
                      have q22ll := (and_true_ q22l).1
                      have q22lr := (and_true_ q22l).2
                      have q22lll := (and_true_ q22ll).1
                      have q22llr := (and_true_ q22ll).2
                      have q22llll := (and_true_ q22lll).1
                      have q22lllr := (and_true_ q22lll).2
                      have q22llllp : ¬ ((List.getD l s7 default).period = 1) := ne_of_bne_ q22llll
                      have q22lllrp : ¬ ((List.getD l s7 default).period = 2) := ne_of_bne_ q22lllr
                      have q22llrp : ¬ ((List.getD l s7 default).period = 4) := ne_of_bne_ q22llr
                      have q22lrp : ¬ ((List.getD l s7 default).period = 8) := ne_of_bne_ q22lr
                      have q22rp : ¬ ((List.getD l s7 default).period = 16) := ne_of_bne_ q22r
                      refine xB 3 [] [(0, vs Al l cl), (3, vi ((s7 : Nat) : Int)), (4, vp b17 0), (11, vs Al l cl), (12, vi (((l).length : Nat) : Int)), (13, vi ((s7 : Nat) : Int)), (41, vb ((List.getD l s7 default).period != 32))] ?_
                      refine wpq_re 41 (v := vb ((List.getD l s7 default).period != 32)) (Value.bool ((((((((List.getD l s7 default).period != 1) && ((List.getD l s7 default).period != 2)) && ((List.getD l s7 default).period != 4)) && ((List.getD l s7 default).period != 8)) && ((List.getD l s7 default).period != 16)) && ((List.getD l s7 default).period != 32)))) (by kernel_rfl) (re_and1 q22) ?_
                      exact wpq_sub _ (by kernel_rfl) hk18
                    · refine xB 3 [] [(0, vs Al l cl), (3, vi ((s7 : Nat) : Int)), (4, vp b17 0), (11, vs Al l cl), (12, vi (((l).length : Nat) : Int)), (13, vi ((s7 : Nat) : Int)), (41, vb false)] ?_
                      refine wpq_re 41 (v := vb false) (Value.bool ((((((((List.getD l s7 default).period != 1) && ((List.getD l s7 default).period != 2)) && ((List.getD l s7 default).period != 4)) && ((List.getD l s7 default).period != 8)) && ((List.getD l s7 default).period != 16)) && ((List.getD l s7 default).period != 32)))) (by kernel_rfl) (re_and0 q22) ?_
                      exact wpq_sub _ (by kernel_rfl) hk18
                  · refine xB 1 [] [(0, vs Al l cl), (3, vi ((s7 : Nat) : Int)), (4, vp b17 0), (11, vs Al l cl), (12, vi (((l).length : Nat) : Int)), (13, vi ((s7 : Nat) : Int)), (42, vb (((((((List.getD l s7 default).period != 1) && ((List.getD l s7 default).period != 2)) && ((List.getD l s7 default).period != 4)) && ((List.getD l s7 default).period != 8)) && ((List.getD l s7 default).period != 16)) && ((List.getD l s7 default).period != 32)))] ?_
                    refine wpr_grp 27 [(0, vs Al l cl), (3, vi ((s7 : Nat) : Int)), (4, vp b17 0), (11, vs Al l cl), (12, vi (((l).length : Nat) : Int)), (13, vi ((s7 : Nat) : Int)), (46, vb ((((((((List.getD l s7 default).period != 1) && ((List.getD l s7 default).period != 2)) && ((List.getD l s7 default).period != 4)) && ((List.getD l s7 default).period != 8)) && ((List.getD l s7 default).period != 16)) && ((List.getD l s7 default).period != 32)) || decide ((List.getD l s7 default).length < 1)))] (fun hk22 => ?_) ?_
                    · refine wpq_split 42 (b := (((((((List.getD l s7 default).period != 1) && ((List.getD l s7 default).period != 2)) && ((List.getD l s7 default).period != 4)) && ((List.getD l s7 default).period != 8)) && ((List.getD l s7 default).period != 16)) && ((List.getD l s7 default).period != 32))) (by kernel_rfl) (fun q23 => ?_) (fun q23 => ?_)
                      · have q23l := (and_true_ q23).1
                        have q23r := (and_true_ q23).2
                        have q23ll := (and_true_ q23l).1
                        have q23lr := (and_true_ q23l).2
                        have q23lll := (and_true_ q23ll).1
                        have q23llr := (and_true_ q23ll).2
                        have q23llll := (and_true_ q23lll).1
                        have q23lllr := (and_true_ q23lll).2
                        have q23lllll := (and_true_ q23llll).1
                        have q23llllr := (and_true_ q23llll).2
                        have q23lllllp : ¬ ((List.getD l s7 default).period = 1) := ne_of_bne_ q23lllll
                        have q23llllrp : ¬ ((List.getD l s7 default).period = 2) := ne_of_bne_ q23llllr
                        have q23lllrp : ¬ ((List.getD l s7 default).period = 4) := ne_of_bne_ q23lllr
                        have q23llrp : ¬ ((List.getD l s7 default).period = 8) := ne_of_bne_ q23llr
                        have q23lrp : ¬ ((List.getD l s7 default).period = 16) := ne_of_bne_ q23lr
                        have q23rp : ¬ ((List.getD l s7 default).period = 32) := ne_of_bne_ q23r
                        refine xB 4 [] [(0, vs Al l cl), (3, vi ((s7 : Nat) : Int)), (4, vp b17 0), (11, vs Al l cl), (12, vi (((l).length : Nat) : Int)), (13, vi ((s7 : Nat) : Int)), (46, vb true)] ?_
                        refine wpq_re 46 (v := vb true) (Value.bool (((((((((List.getD l s7 default).period != 1) && ((List.getD l s7 default).period != 2)) && ((List.getD l s7 default).period != 4)) && ((List.getD l s7 default).period != 8)) && ((List.getD l s7 default).period != 16)) && ((List.getD l s7 default).period != 32)) || decide ((List.getD l s7 default).length < 1)))) (by kernel_rfl) (re_or1 q23) ?_
                        exact wpq_sub _ (by kernel_rfl) hk22
                      · refine xB 4 [(24, 0)] [(0, vs Al l cl), (3, vi ((s7 : Nat) : Int)), (4, vp b17 0), (11, vs Al l cl), (12, vi (((l).length : Nat) : Int)), (13, vi ((s7 : Nat) : Int)), (46, vb (decide ((List.getD l s7 default).length < 1)))] ?_
                        refine wpq_re 46 (v := vb (decide ((List.getD l s7 default).length < 1))) (Value.bool (((((((((List.getD l s7 default).period != 1) && ((List.getD l s7 default).period != 2)) && ((List.getD l s7 default).period != 4)) && ((List.getD l s7 default).period != 8)) && ((List.getD l s7 default).period != 16)) && ((List.getD l s7 default).period != 32)) || decide ((List.getD l s7 default).length < 1)))) (by kernel_rfl) (re_or0 q23) ?_
                        exact wpq_sub _ (by kernel_rfl) hk22
                    · refine xB 1 [] [(0, vs Al l cl), (3, vi ((s7 : Nat) : Int)), (4, vp b17 0), (11, vs Al l cl), (12, vi (((l).length : Nat) : Int)), (13, vi ((s7 : Nat) : Int)), (47, vb ((((((((List.getD l s7 default).period != 1) && ((List.getD l s7 default).period != 2)) && ((List.getD l s7 default).period != 4)) && ((List.getD l s7 default).period != 8)) && ((List.getD l s7 default).period != 16)) && ((List.getD l s7 default).period != 32)) || decide ((List.getD l s7 default).length < 1)))] ?_
                      refine wpr_grp 32 [(0, vs Al l cl), (3, vi ((s7 : Nat) : Int)), (4, vp b17 0), (11, vs Al l cl), (12, vi (((l).length : Nat) : Int)), (13, vi ((s7 : Nat) : Int)), (51, vb (((((((((List.getD l s7 default).period != 1) && ((List.getD l s7 default).period != 2)) && ((List.getD l s7 default).period != 4)) && ((List.getD l s7 default).period != 8)) && ((List.getD l s7 default).period != 16)) && ((List.getD l s7 default).period != 32)) || decide ((List.getD l s7 default).length < 1)) || decide ((List.getD l s7 default).length > 1000)))] (fun hk27 => ?_) ?_
                      · refine wpq_split 47 (b := ((((((((List.getD l s7 default).period != 1) && ((List.getD l s7 default).period != 2)) && ((List.getD l s7 default).period != 4)) && ((List.getD l s7 default).period != 8)) && ((List.getD l s7 default).period != 16)) && ((List.getD l s7 default).period != 32)) || decide ((List.getD l s7 default).length < 1))) (by kernel_rfl) (fun q24 => ?_) (fun q24 => ?_)
                        · refine xB 4 [] [(0, vs Al l cl), (3, vi ((s7 : Nat) : Int)), (4, vp b17 0), (11, vs Al l cl), (12, vi (((l).length : Nat) : Int)), (13, vi ((s7 : Nat) : Int)), (51, vb true)] ?_
                          refine wpq_re 51 (v := vb true) (Value.bool ((((((((((List.getD l s7 default).period != 1) && ((List.getD l s7 default).period != 2)) && ((List.getD l s7 default).period != 4)) && ((List.getD l s7 default).period != 8)) && ((List.getD l s7 default).period != 16)) && ((List.getD l s7 default).period != 32)) || decide ((List.getD l s7 default).length < 1)) || decide ((List.getD l s7 default).length > 1000)))) (by kernel_rfl) (re_or1 q24) ?_
                          exact wpq_sub _ (by kernel_rfl) hk27
                        · have q24l := (or_false_ q24).1
                          have q24r := (or_false_ q24).2
                          have q24rp := of_decide_eq_false q24r
                          refine xB 4 [(29, 0)] [(0, vs Al l cl), (3, vi ((s7 : Nat) : Int)), (4, vp b17 0), (11, vs Al l cl), (12, vi (((l).length : Nat) : Int)), (13, vi ((s7 : Nat) : Int)), (51, vb (decide ((List.getD l s7 default).length > 1000)))] ?_
                          refine wpq_re 51 (v := vb (decide ((List.getD l s7 default).length > 1000))) (Value.bool ((((((((((List.getD l s7 default).period != 1) && ((List.getD l s7 default).period != 2)) && ((List.getD l s7 default).period != 4)) && ((List.getD l s7 default).period != 8)) && ((List.getD l s7 default).period != 16)) && ((List.getD l s7 default).period != 32)) || decide ((List.getD l s7 default).length < 1)) || decide ((List.getD l s7 default).length > 1000)))) (by kernel_rfl) (re_or0 q24) ?_
                          exact wpq_sub _ (by kernel_rfl) hk27
                      · refine xRe ?_
                        refine wpq_then ?_
                        refine xCd ((((((((((List.getD l s7 default).period != 1) && ((List.getD l s7 default).period != 2)) && ((List.getD l s7 default).period != 4)) && ((List.getD l s7 default).period != 8)) && ((List.getD l s7 default).period != 16)) && ((List.getD l s7 default).period != 32)) || decide ((List.getD l s7 default).length < 1)) || decide ((List.getD l s7 default).length > 1000))) (fun h25 => ?_) (fun h25 => ?_)
                        · have hS := cond_T h25 hS
                          refine xSq ?_
                          refine xRg ?_
                          refine xB 1 [] [(2, vi 1)] ?_
                          refine xRe ?_
                          refine wpq_then ?_
                          have eS := (Option.some.inj hS).symm
                          have eS := (hD11 _ eS).symm
                          have eS := (hD7 _ eS).symm
                          have eS := (hD2 _ eS).symm
                          subst eS
                          exact xRet [] [2] e9 ⟨by kernel_rfl, by kernel_rfl⟩ (fun _ _ h => h)
                        · have hS := cond_F h25 hS
                          have h25l := (or_false_ h25).1
                          have h25r := (or_false_ h25).2
                          have h25ll := (or_false_ h25l).1
                          have h25lr := (or_false_ h25l).2
                          have h25lrp := of_decide_eq_false h25lr
                          have h25rp := of_decide_eq_false h25r
                          refine xSk ?_
                          refine wpq_then ?_
                          refine xSub [(0, vs Al l cl), (3, vi ((s7 : Nat) : Int)), (4, vp b17 0), (11, vs Al l cl), (12, vi (((l).length : Nat) : Int)), (13, vi ((s7 : Nat) : Int))] ?_
                          refine xSq ?_
                          refine xRg ?_
                          have ncapf26 := fl.cap
                          have f26 : Arr g8.r tyMsg (offA Al cl 0 3) (cl - 0) (List.take s7 l) := fl.cut_to s7 (by omega)
                          have nf26 := f26.len
                          have hlf26 : s7 - 0 = ((List.take s7 l)).length := by simp only [List.length_take, List.length_drop] <;> omega
                          have hvf26 : ((((List.take s7 l)).length : Nat) : Int) = ((s7 : Nat) : Int) - 0 := by omega
                          refine xB 2 [] [(0, vs Al l cl), (4, vp b17 0), (11, vs Al l cl), (12, vi (((l).length : Nat) : Int)), (13, vi ((s7 : Nat) : Int)), (52, vs Al l cl), (53, vi ((s7 : Nat) : Int))] ?_
                          refine xV (qSl (m := 3) (A := Al) (len := (l).length) (c := cl) 0 s7 none (some ((s7 : Nat) : Int)) ((List.take s7 l)).length rfl rfl (by omega) (by omega) hlf26) ?_
                          refine xB 2 [] [(0, vs Al l cl), (4, vp b17 0), (11, vs Al l cl), (12, vi (((l).length : Nat) : Int)), (13, vi ((s7 : Nat) : Int)), (54, vs (offA Al cl 0 3) (List.take s7 l) (cl - 0)), (55, vi ((((List.take s7 l)).length : Nat) : Int)), (56, vi 0)] ?_
                          refine xRe ?_
                          refine wpq_then ?_
                          refine xJoinO hS (fun g own sl t27 => own = [] ∧ sl = [(0, vs Al l cl), (11, vs Al l cl), (12, vi (((l).length : Nat) : Int)), (13, vi ((s7 : Nat) : Int))]) ?_ ?_
                          · rintro g28 _ _ t27 e29 ⟨rfl, rfl⟩ hS
                            refine wpq_blockN ?_
                            refine xSub [(0, vs Al l cl), (11, vs Al l cl), (12, vi (((l).length : Nat) : Int)), (13, vi ((s7 : Nat) : Int))] ?_
                            have eS := (Option.some.inj hS).symm
                            exact hN11 _ eS _ _ _ e29 ⟨by kernel_rfl, by kernel_rfl⟩
                          · intro uu27 hS hN27 hD27
                            refine xBl 2 ?_
                            refine xSub [(0, vs Al l cl), (4, vp b17 0), (11, vs Al l cl), (12, vi (((l).length : Nat) : Int)), (13, vi ((s7 : Nat) : Int)), (54, vs (offA Al cl 0 3) (List.take s7 l) (cl - 0)), (55, vi ((((List.take s7 l)).length : Nat) : Int)), (56, vi 0)] ?_
                            refine xLo hS (fun g own sl s32 => own = [some ⟨b17, 87, [vy ((List.getD l s7 default).label), vi ((List.getD l s7 default).period), vi ((List.getD l s7 default).length)]⟩] ∧ sl = [(0, vs Al l cl), (4, vp b17 0), (11, vs Al l cl), (12, vi (((l).length : Nat) : Int)), (13, vi ((s7 : Nat) : Int)), (54, vs (offA Al cl 0 3) (List.take s7 l) (cl - 0)), (55, vi ((((List.take s7 l)).length : Nat) : Int)), (56, vi ((s32 : Nat) : Int))]) ⟨by kernel_rfl, by kernel_rfl⟩ ?_
                            rintro g33 _ _ s32 uu32 e34 ⟨rfl, rfl⟩ hS Qr32 hN32 hD32
                            unfold o44_L1 at hS
                            refine xSq ?_
                            refine xRg ?_
                            refine xB 1 [] [(0, vs Al l cl), (4, vp b17 0), (11, vs Al l cl), (12, vi (((l).length : Nat) : Int)), (13, vi ((s7 : Nat) : Int)), (54, vs (offA Al cl 0 3) (List.take s7 l) (cl - 0)), (55, vi ((((List.take s7 l)).length : Nat) : Int)), (56, vi ((s32 : Nat) : Int)), (57, vb (decide (((s32 : Nat) : Int) < ((((List.take s7 l)).length : Nat) : Int))))] ?_
                            refine xRe ?_
                            refine wpq_then ?_
                            refine xSq ?_
                            refine xCd (decide (((s32 : Nat) : Int) < ((((List.take s7 l)).length : Nat) : Int))) (fun h35 => ?_) (fun h35 => ?_)
                            · have hS := cond_T h35 hS
                              have h35p := of_decide_eq_true h35
                              refine xSk ?_
                              refine wpq_then ?_
                              refine xSub [(0, vs Al l cl), (4, vp b17 0), (11, vs Al l cl), (12, vi (((l).length : Nat) : Int)), (13, vi ((s7 : Nat) : Int)), (54, vs (offA Al cl 0 3) (List.take s7 l) (cl - 0)), (55, vi ((((List.take s7 l)).length : Nat) : Int)), (56, vi ((s32 : Nat) : Int))] ?_
                              refine xSq ?_
                              refine xBl 3 ?_
                              refine xSq ?_
                              refine xRg ?_
                              have f26 := f26.mono e34.r
                              have i37 : s32 < ((List.take s7 l)).length := by omega
                              obtain ⟨ad36, cs36, hA36, hr36, hc36⟩ := f26.at_ (get_getD (d := default) i37)
                              obtain ⟨rfl⟩ := hr36
                              refine xV (qIx s32 3 hA36 rfl i37) ?_
                              refine xV (qLdP (Addr.add ad36 (s32 * 3)) 0 hc36) ?_
                              refine xE eB ?_
                              rintro _ _ _ - ⟨b38, rfl, rfl, rfl⟩
                              refine xBo 1 [(3, 0)] [some ⟨b38, 87, [vy ((List.getD (List.take s7 l) s32 default).label), vi ((List.getD (List.take s7 l) s32 default).period), vi ((List.getD (List.take s7 l) s32 default).length)]⟩, some ⟨b17, 87, [vy ((List.getD l s7 default).label), vi ((List.getD l s7 default).period), vi ((List.getD l s7 default).length)]⟩] [(0, vs Al l cl), (4, vp b17 0), (7, vp b38 0), (11, vs Al l cl), (12, vi (((l).length : Nat) : Int)), (13, vi ((s7 : Nat) : Int)), (54, vs (offA Al cl 0 3) (List.take s7 l) (cl - 0)), (55, vi ((((List.take s7 l)).length : Nat) : Int)), (56, vi ((s32 : Nat) : Int))] ?_
                              refine xRe ?_
                              refine wpq_then ?_
                              refine xSq ?_
                              refine xRg ?_
                              refine xB 5 [(1, 0), (3, 1)] [(0, vs Al l cl), (4, vp b17 0), (11, vs Al l cl), (12, vi (((l).length : Nat) : Int)), (13, vi ((s7 : Nat) : Int)), (54, vs (offA Al cl 0 3) (List.take s7 l) (cl - 0)), (55, vi ((((List.take s7 l)).length : Nat) : Int)), (56, vi ((s32 : Nat) : Int)), (64, vb ((List.getD (List.take s7 l) s32 default).label == (List.getD l s7 default).label))] ?_
                              refine xRe ?_
                              refine wpq_then ?_
                              refine xCd (((List.getD (List.take s7 l) s32 default).label == (List.getD l s7 default).label)) (fun h39 => ?_) (fun h39 => ?_)
                              · have hS := cond_T h39 hS
                                have h39p : (List.getD (List.take s7 l) s32 default).label = (List.getD l s7 default).label := eq_of_beq h39
                                refine xSq ?_
                                refine xRg ?_
                                refine xB 1 [] [(2, vi 7)] ?_
                                refine xRe ?_
                                refine wpq_then ?_
                                have eS := (Option.some.inj hS).symm
                                have eS := (hD32 _ eS).symm
                                have eS := (hD27 _ eS).symm
                                have eS := (hD11 _ eS).symm
                                have eS := (hD7 _ eS).symm
                                have eS := (hD2 _ eS).symm
                                subst eS
                                exact xRet [] [2] (e9.trans e34) ⟨by kernel_rfl, by kernel_rfl⟩ (fun _ _ h => h)
                              · have hS := cond_F h39 hS
                                have h39p : ¬ ((List.getD (List.take s7 l) s32 default).label = (List.getD l s7 default).label) := ne_of_beq_false_ h39
                                refine xSk ?_
                                refine wpq_blockN ?_
                                refine wpq_then ?_
                                refine xSub [(0, vs Al l cl), (4, vp b17 0), (11, vs Al l cl), (12, vi (((l).length : Nat) : Int)), (13, vi ((s7 : Nat) : Int)), (54, vs (offA Al cl 0 3) (List.take s7 l) (cl - 0)), (55, vi ((((List.take s7 l)).length : Nat) : Int)), (56, vi ((s32 : Nat) : Int))] ?_
                                refine xRg ?_
                                obtain ⟨q40, hS⟩ := grd_T hS
                                have q40p := of_decide_eq_true q40
                                refine xV (qAdd .i64 (((s32 : Nat) : Int)) (1) (wr64 (by omega))) ?_
                                refine xB 1 [] [(0, vs Al l cl), (4, vp b17 0), (11, vs Al l cl), (12, vi (((l).length : Nat) : Int)), (13, vi ((s7 : Nat) : Int)), (54, vs (offA Al cl 0 3) (List.take s7 l) (cl - 0)), (55, vi ((((List.take s7 l)).length : Nat) : Int)), (56, vi (((s32 : Nat) : Int) + 1))] ?_
                                refine xRe ?_
                                refine wpq_thenN ?_
                                refine xSel [some 1] ?_
                                refine xSub [(0, vs Al l cl), (4, vp b17 0), (11, vs Al l cl), (12, vi (((l).length : Nat) : Int)), (13, vi ((s7 : Nat) : Int)), (54, vs (offA Al cl 0 3) (List.take s7 l) (cl - 0)), (55, vi ((((List.take s7 l)).length : Nat) : Int)), (56, vi (((s32 : Nat) : Int) + 1))] ?_
                                have eS := (Option.some.inj hS).symm
                                exact hN32 _ eS _ _ _ (Gh.le.refl _) ⟨by kernel_rfl, by kernel_rfl⟩
                            · have hS := cond_F h35 hS
                              have h35p := of_decide_eq_false h35
                              refine xEx 2 ?_
                              refine wpq_thenX ?_
                              refine wpq_thenX ?_
                              refine wpq_blockE ?_
                              refine xSel [] ?_
                              refine xSub [(0, vs Al l cl), (11, vs Al l cl), (12, vi (((l).length : Nat) : Int)), (13, vi ((s7 : Nat) : Int))] ?_
                              have eS := (Option.some.inj hS).symm
                              have eS := (hD32 _ eS).symm
                              exact hN27 _ eS _ _ _ e34 ⟨by kernel_rfl, by kernel_rfl⟩
      · have hS := cond_F h10 hS
        have h10p := of_decide_eq_false h10
        refine xEx 0 ?_
        refine wpq_thenX ?_
        refine wpq_thenX ?_
        refine wpq_blockE ?_
        refine xSub [] ?_
        have eS := (Option.some.inj hS).symm
        have eS := (hD7 _ eS).symm
        exact hN2 _ eS _ _ _ e9 ⟨by kernel_rfl, by kernel_rfl⟩

def o45 (a : Msg) (b : Msg) : Bool :=
  (cond ((a.period != b.period)) ((decide (a.period < b.period))) (cond ((a.length != b.length)) ((decide (a.length > b.length))) ((decide (a.label < b.label)))))
set_option maxRecDepth 100000 in
theorem c45 (g : Gh) (a : Msg) (b : Msg) {r : Bool} (hS : o45 a b = r) :
    Ctr Try.prog 45 [Value.agg #[vy a.label, vi a.period, vi a.length], Value.agg #[vy b.label, vi b.period, vi b.length]] g [] (fun v ψ o => v = vb r ∧ o = []) := by
  unfold o45 at hS
  refine xFn Try.f45 (Try.f45.body.getD .skip) 30 ?_
  refine xSq ?_
  refine xRg ?_
  refine xE eB ?_
  rintro _ _ _ - ⟨b1, rfl, rfl, rfl⟩
  refine xE eB ?_
  rintro _ _ _ - ⟨b2, rfl, rfl, rfl⟩
  refine xB 1 [] [(2, vp b1 0), (3, vp b2 0)] ?_
  refine xRe ?_
  refine wpq_then ?_
  refine xSq ?_
  refine xSq ?_
  refine xRg ?_
  refine xB 5 [(1, 1), (3, 0)] [(2, vp b1 0), (3, vp b2 0), (9, vb (a.period != b.period))] ?_
  refine xRe ?_
  refine wpq_then ?_
  refine xCd ((a.period != b.period)) (fun h3 => ?_) (fun h3 => ?_)
  · have hS := cond_T h3 hS
    have h3p : ¬ (a.period = b.period) := ne_of_bne_ h3
    refine xSq ?_
    refine xRg ?_
    refine xB 6 [(1, 1), (3, 0)] [(4, vb (decide (a.period < b.period)))] ?_
    refine xRe ?_
    refine wpq_then ?_
    have eS := hS.symm
    subst eS
    exact xRet [] [4] (Gh.le.refl _) ⟨by kernel_rfl, by kernel_rfl⟩ (fun _ _ h => h)
  · have hS := cond_F h3 hS
    have h3p : a.period = b.period := eq_of_bne_false_ h3
    refine xSk ?_
    refine wpq_then ?_
    refine xSub [(2, vp b1 0), (3, vp b2 0)] ?_
    refine xSq ?_
    refine xSq ?_
    refine xRg ?_
    refine xB 5 [(1, 1), (3, 0)] [(2, vp b1 0), (3, vp b2 0), (19, vb (a.length != b.length))] ?_
    refine xRe ?_
    refine wpq_then ?_
    refine xCd ((a.length != b.length)) (fun h4 => ?_) (fun h4 => ?_)
    · have hS := cond_T h4 hS
      have h4p : ¬ (a.length = b.length) := ne_of_bne_ h4
      refine xSq ?_
      refine xRg ?_
      refine xB 6 [(1, 1), (3, 0)] [(4, vb (decide (a.length > b.length)))] ?_
      refine xRe ?_
      refine wpq_then ?_
      have eS := hS.symm
      subst eS
      exact xRet [] [4] (Gh.le.refl _) ⟨by kernel_rfl, by kernel_rfl⟩ (fun _ _ h => h)
    · have hS := cond_F h4 hS
      have h4p : a.length = b.length := eq_of_bne_false_ h4
      refine xSk ?_
      refine wpq_then ?_
      refine xSub [(2, vp b1 0), (3, vp b2 0)] ?_
      refine xSq ?_
      refine xRg ?_
      refine xB 6 [(1, 1), (3, 0)] [(4, vb (decide (a.label < b.label)))] ?_
      refine xRe ?_
      refine wpq_then ?_
      have eS := hS.symm
      subst eS
      exact xRet [] [4] (Gh.le.refl _) ⟨by kernel_rfl, by kernel_rfl⟩ (fun _ _ h => h)

def o46_L0 (load : List Int) (m : Msg) (capacity : Int) (s7 : Int) : Option (Ctl (Int) (Ctl (Unit) (Bool))) :=
  (cond (decide (s7 < 32)) (grd (decide (0 ≤ s7 ∧ s7 < (((load).length : Nat) : Int))) (cond (decide ((IntKind.i64.wrap ((List.getD load (s7).toNat 0) + m.length)) > capacity)) (some (Ctl.done (Ctl.done ((false))))) (grd (decide (-9223372036854775808 ≤ s7 + m.period ∧ s7 + m.period ≤ 9223372036854775807)) (some (Ctl.go (s7 + m.period)))))) (some (Ctl.done (Ctl.go ()))))
def o46 (load : List Int) (m : Msg) (offset : Int) (capacity : Int) : Option (Bool) :=
  (joinO (τ := Unit) (ρ := Bool) (loopO (σ := Int) (ρ := Ctl (Unit) (Bool)) fuelN (o46_L0 load m capacity) (offset)) fun t2 => (some ((true))))
set_option maxRecDepth 100000 in
theorem c46 (g : Gh) (load : List Int) (Aload : Option Addr) (cload : Nat) (m : Msg) (offset : Int) (capacity : Int) (fload : Arr g.r (tyI .i64) Aload cload load) {r : Bool} (hS : o46 load m offset capacity = some r) :
    Ctr Try.prog 46 [vs Aload load cload, Value.agg #[vy m.label, vi m.period, vi m.length], vi offset, vi capacity] g [] (fun v ψ o => v = vb r ∧ o = []) := by
  unfold o46 at hS
  refine xFn Try.f46 (Try.f46.body.getD .skip) 26 ?_
  have nfload := fload.len
  refine xSq ?_
  refine xRg ?_
  refine xE eB ?_
  rintro _ _ _ - ⟨b1, rfl, rfl, rfl⟩
  refine xB 1 [] [(0, vs Aload load cload), (2, vi offset), (3, vi capacity), (5, vp b1 0)] ?_
  refine xRe ?_
  refine wpq_then ?_
  refine xSq ?_
  refine xSq ?_
  refine xRg ?_
  refine xB 2 [] [(0, vs Aload load cload), (3, vi capacity), (5, vp b1 0), (9, vi offset)] ?_
  refine xRe ?_
  refine wpq_then ?_
  refine xJoinO hS (fun g own sl t2 => own = [] ∧ sl = []) ?_ ?_
  · rintro g3 _ _ t2 e4 ⟨rfl, rfl⟩ hS
    refine wpq_then ?_
    refine xSq ?_
    refine xRg ?_
    refine xB 1 [] [(8, vb true)] ?_
    refine xRe ?_
    refine wpq_then ?_
    have eS := (Option.some.inj hS).symm
    subst eS
    exact xRet [] [8] e4 ⟨by kernel_rfl, by kernel_rfl⟩ (fun _ _ h => h)
  · intro uu2 hS hN2 hD2
    refine xBl 0 ?_
    refine xSub [(0, vs Aload load cload), (3, vi capacity), (5, vp b1 0), (9, vi offset)] ?_
    refine xLo hS (fun g own sl s7 => own = [some ⟨b1, 87, [vy m.label, vi m.period, vi m.length]⟩] ∧ sl = [(0, vs Aload load cload), (3, vi capacity), (5, vp b1 0), (9, vi s7)]) ⟨by kernel_rfl, by kernel_rfl⟩ ?_
    rintro g8 _ _ s7 uu7 e9 ⟨rfl, rfl⟩ hS Qr7 hN7 hD7
    unfold o46_L0 at hS
    refine xSq ?_
    refine xSq ?_
    refine xRg ?_
    refine xB 2 [] [(0, vs Aload load cload), (3, vi capacity), (5, vp b1 0), (9, vi s7), (12, vb (decide (s7 < 32)))] ?_
    refine xRe ?_
    refine wpq_then ?_
    refine xCd (decide (s7 < 32)) (fun h10 => ?_) (fun h10 => ?_)
    · have hS := cond_T h10 hS
      have h10p := of_decide_eq_true h10
      refine xSk ?_
      refine wpq_then ?_
      refine xSub [(0, vs Aload load cload), (3, vi capacity), (5, vp b1 0), (9, vi s7)] ?_
      refine xSq ?_
      refine xBl 1 ?_
      refine xSq ?_
      refine xDr 0 [3, 5] [6] [some ⟨b1, 87, [vy m.label, vi m.period, vi m.length]⟩] 9 (fun RG => ?_) (fun _ _ _ _ _ h => h)
      have fload := fload.mono e9.r
      obtain ⟨q12, hS⟩ := grd_T hS
      have q12p := of_decide_eq_true q12
      have i13 : (s7).toNat < (load).length := by omega
      obtain ⟨ad11, cs11, hA11, hr11, hc11⟩ := fload.at_ (get_getD (d := 0) i13)
      have hr11 : cs11 = [vi (List.getD load (s7).toNat 0)] := hr11
      subst hr11
      refine xT 7 [0, 1] [] [some 0] [(0, vs Aload load cload), (3, vi capacity), (5, vp b1 0), (9, vi s7), (17, vs Aload load cload), (18, vi s7)] RG (Psi.le.refl _) ?_
      refine xTp 2 RG (fun _ => (qIx (s7).toNat 1 hA11 (show (s7 : Int) = _ from by omega) i13)) ?_
      refine xTv 3 [some 0] RG (Psi.le.refl _) (qLdP (Addr.add ad11 ((s7).toNat * 1)) 0 hc11) ?_
      have z12 := i64_in_ ((List.getD load (s7).toNat 0) + m.length)
      refine xT 0 [4, 5, 6, 7, 8] [(5, 0)] [some 0] [(0, vs Aload load cload), (3, vi capacity), (5, vp b1 0), (9, vi s7), (25, vb (decide ((IntKind.i64.wrap ((List.getD load (s7).toNat 0) + m.length)) > capacity)))] RG (Psi.le.refl _) ?_
      refine xAe (lds := [3, 5]) ?_
      refine wpq_then ?_
      refine xCd (decide ((IntKind.i64.wrap ((List.getD load (s7).toNat 0) + m.length)) > capacity)) (fun h14 => ?_) (fun h14 => ?_)
      · have hS := cond_T h14 hS
        have h14p := of_decide_eq_true h14
        refine xSq ?_
        refine xRg ?_
        refine xB 1 [] [(8, vb false)] ?_
        refine xRe ?_
        refine wpq_then ?_
        have eS := (Option.some.inj hS).symm
        have eS := (hD7 _ eS).symm
        have eS := (hD2 _ eS).symm
        subst eS
        exact xRet [] [8] e9 ⟨by kernel_rfl, by kernel_rfl⟩ (fun _ _ h => h)
      · have hS := cond_F h14 hS
        have h14p := of_decide_eq_false h14
        refine xSk ?_
        refine wpq_blockN ?_
        refine wpq_then ?_
        refine xSub [(0, vs Aload load cload), (3, vi capacity), (5, vp b1 0), (9, vi s7)] ?_
        refine xRg ?_
        obtain ⟨q15, hS⟩ := grd_T hS
        have q15p := of_decide_eq_true q15
        refine xB 3 [(2, 0)] [(0, vs Aload load cload), (3, vi capacity), (5, vp b1 0), (9, vi s7), (13, vi s7), (15, vi m.period)] ?_
        refine xV (qAdd .i64 (s7) (m.period) (wr64 (by omega))) ?_
        refine xB 1 [] [(0, vs Aload load cload), (3, vi capacity), (5, vp b1 0), (9, vi (s7 + m.period))] ?_
        refine xRe ?_
        refine wpq_thenN ?_
        refine xSub [(0, vs Aload load cload), (3, vi capacity), (5, vp b1 0), (9, vi (s7 + m.period))] ?_
        have eS := (Option.some.inj hS).symm
        exact hN7 _ eS _ _ _ (Gh.le.refl _) ⟨by kernel_rfl, by kernel_rfl⟩
    · have hS := cond_F h10 hS
      have h10p := of_decide_eq_false h10
      refine xEx 0 ?_
      refine wpq_thenX ?_
      refine wpq_thenX ?_
      refine wpq_blockE ?_
      refine xSel [] ?_
      refine xSub [] ?_
      have eS := (Option.some.inj hS).symm
      have eS := (hD7 _ eS).symm
      exact hN2 _ eS _ _ _ e9 ⟨by kernel_rfl, by kernel_rfl⟩

def o20_L1 (l : List Msg) (t23 : Int) (s47 : (List Int) × Int) : Option (Ctl ((List Int) × Int) ((List Int))) :=
  (cond (decide (s47.2 < 32)) (grd (decide (0 ≤ s47.2 ∧ s47.2 < (((s47.1).length : Nat) : Int))) (grd (decide (0 ≤ s47.2 ∧ s47.2 < (((s47.1).length : Nat) : Int))) (grd (decide (-9223372036854775808 ≤ s47.2 + (List.getD l (t23).toNat default).period ∧ s47.2 + (List.getD l (t23).toNat default).period ≤ 9223372036854775807)) (some (Ctl.go (((List.set s47.1 (s47.2).toNat ((IntKind.i64.wrap ((List.getD s47.1 (s47.2).toNat 0) + (List.getD l (t23).toNat default).length)) : Int)) : List Int), (s47.2 + (List.getD l (t23).toNat default).period))))))) (some (Ctl.done ((s47.1 : List Int)))))
def o20_L2 (l : List Msg) (capacity : Int) (s15 : (List Int) × (List Slot) × (List Bool) × Nat) (t23 : Int) (s61 : Nat) : Option (Ctl (Nat) (Nat)) :=
  (bindO (τ := Bool) (cond (decide (((s61 : Nat) : Int) < (List.getD l (t23).toNat default).period)) (bindO (τ := Bool) (o46 (s15.1 : List Int) (List.getD l (t23).toNat default) (((s61 : Nat) : Int) : Int) (capacity : Int)) fun y70 => (some (!y70))) (some (false))) fun t64 => (cond (t64) (grd (decide (((s61 : Nat) : Int) + 1 ≤ 9223372036854775807)) (some (Ctl.go (s61 + 1)))) (some (Ctl.done (s61)))))
def o20_L3 (l : List Msg) (s15 : (List Int) × (List Slot) × (List Bool) × Nat) (s75 : Int × Nat) : Option (Ctl (Int × Nat) (Int)) :=
  (cond (decide (((s75.2 : Nat) : Int) < (((l).length : Nat) : Int))) (grd (decide (s75.2 < (s15.2.2.1).length)) (bindO (τ := Bool) (cond ((!(List.getD s15.2.2.1 s75.2 false))) (bindO (τ := Bool) (cond (decide (s75.1 < 0)) (some (true)) (grd (decide (0 ≤ s75.1 ∧ s75.1 < (((l).length : Nat) : Int))) (letJ (τ := Bool) (o45 (List.getD l s75.2 default) (List.getD l (s75.1).toNat default)) fun y99 => (some (y99))))) fun t90 => (some (t90))) (some (false))) fun t81 => (letJ (τ := Int) (cond (t81) (((s75.2 : Nat) : Int)) (s75.1)) fun t84 => (grd (decide (((s75.2 : Nat) : Int) + 1 ≤ 9223372036854775807)) (some (Ctl.go (t84, (s75.2 + 1)))))))) (some (Ctl.done (s75.1))))
def o20_L0 (l : List Msg) (capacity : Int) (s15 : (List Int) × (List Slot) × (List Bool) × Nat) : Option (Ctl ((List Int) × (List Slot) × (List Bool) × Nat) (Ctl ((List Slot)) ((List Slot) × Int))) :=
  (cond (decide (((s15.2.2.2 : Nat) : Int) < (((l).length : Nat) : Int))) (joinO (τ := (List Int) × (List Slot) × (List Bool)) (ρ := Ctl ((List Int) × (List Slot) × (List Bool) × Nat) (Ctl ((List Slot)) ((List Slot) × Int))) (bindO (τ := Int) (loopO (σ := Int × Nat) (ρ := Int) fuelN (o20_L3 l s15) (-1, 0)) fun t23 => (grd (decide (0 ≤ t23 ∧ t23 < (((l).length : Nat) : Int))) (grd (decide (0 ≤ t23 ∧ t23 < (((s15.2.2.1).length : Nat) : Int))) (bindO (τ := Nat) (loopO (σ := Nat) (ρ := Nat) fuelN (o20_L2 l capacity s15 t23) (0)) fun t34 => (cond ((((t34 : Nat) : Int) == (List.getD l (t23).toNat default).period)) (some (Ctl.done (Ctl.done (Ctl.done ((([] : List Slot), (18 : Int))))))) (bindO (τ := (List Int)) (loopO (σ := (List Int) × Int) (ρ := (List Int)) fuelN (o20_L1 l t23) ((s15.1 : List Int), ((t34 : Nat) : Int))) fun t38 => (grd (decide (0 ≤ t23 ∧ t23 < (((s15.2.1).length : Nat) : Int))) (some (Ctl.go ((t38 : List Int), ((List.set s15.2.1 (t23).toNat ({ (List.getD l (t23).toNat default) with offset := ((t34 : Nat) : Int) })) : List Slot), ((List.set s15.2.2.1 (t23).toNat true) : List Bool))))))))))) fun t19 => (grd (decide (((s15.2.2.2 : Nat) : Int) + 1 ≤ 9223372036854775807)) (some (Ctl.go ((t19.1 : List Int), (t19.2.1 : List Slot), (t19.2.2 : List Bool), (s15.2.2.2 + 1)))))) (some (Ctl.done (Ctl.go (s15.2.1 : List Slot)))))
def o20 (l : List Msg) (capacity : Int) : Option ((List Slot) × Int) :=
  (bindO (τ := Int) (o44 (l : List Msg)) fun y1 => (cond ((y1 != 0)) (some ((([] : List Slot), (y1 : Int)))) (cond (decide (capacity < 1)) (some ((([] : List Slot), (1 : Int)))) (grd (decide (0 ≤ (((l).length : Nat) : Int) ∧ (((l).length : Nat) : Int) * 16 ≤ 140737488355328)) (joinO (τ := (List Slot)) (ρ := (List Slot) × Int) (loopO (σ := (List Int) × (List Slot) × (List Bool) × Nat) (ρ := Ctl ((List Slot)) ((List Slot) × Int)) fuelN (o20_L0 l capacity) (((List.replicate 32 (0 : Int)) : List Int), ((List.replicate (l).length (default : Slot)) : List Slot), ((List.replicate (l).length (false : Bool)) : List Bool), 0)) fun t10 => (some (((t10 : List Slot), (0 : Int)))))))))
set_option maxRecDepth 100000 in
theorem c20 (g : Gh) (l : List Msg) (Al : Option Addr) (cl : Nat) (capacity : Int) (fl : Arr g.r tyMsg Al cl l) {r : (List Slot) × Int} (hS : o20 l capacity = some r) :
    Ctr Try.prog 20 [vs Al l cl, vi capacity] g [] (fun v ψ o => ∃ (Ar_0 : Option Addr) (cr_0 : Nat) (kr_0 : Option Bk), v = Value.tuple #[vs Ar_0 r.1 cr_0, vi r.2] ∧ o = [kr_0] ∧ Buf ψ tySlot 47 (.slice Ar_0 (r.1).length cr_0) kr_0 r.1) := by
  unfold o20 at hS
  refine xFn Try.f20 (Try.f20.body.getD .skip) 111 ?_
  have nfl := fl.len
  refine xSq ?_
  refine xRg ?_
  refine xB 2 [] [(0, vs Al l cl), (1, vi capacity)] ?_
  refine xRe ?_
  refine wpq_then ?_
  refine xSq ?_
  refine xRg ?_
  refine xB 1 [] [(0, vs Al l cl), (1, vi capacity), (15, vs Al l cl)] ?_
  obtain ⟨y1, hy1, hS⟩ := bindO_T hS
  refine xE (eC 0 (fun g' lr eb ln => c44 g' (l : List Msg) Al cl (fl.mono lr) hy1)) ?_
  rintro _ g2 _ e3 ⟨_, rfl, rfl, rfl⟩
  refine xB 1 [] [(0, vs Al l cl), (1, vi capacity), (6, vi y1)] ?_
  refine xRe ?_
  refine wpq_then ?_
  refine xSq ?_
  refine xSq ?_
  refine xRg ?_
  refine xB 2 [] [(0, vs Al l cl), (1, vi capacity), (6, vi y1), (18, vb (y1 != 0))] ?_
  refine xRe ?_
  refine wpq_then ?_
  refine xCd ((y1 != 0)) (fun h4 => ?_) (fun h4 => ?_)
  · have hS := cond_T h4 hS
    have h4p : ¬ (y1 = 0) := ne_of_bne_ h4
    refine xSq ?_
    refine xRg ?_
    refine xB 3 [] [(4, Value.slice none 0 0), (5, vi y1)] ?_
    refine xRe ?_
    refine wpq_then ?_
    have eS := (Option.some.inj hS).symm
    subst eS
    exact xRet [none] [4, 5] e3 ⟨none, 0, none, by kernel_rfl, by kernel_rfl, Buf.nil⟩ (fun _ _ h => h)
  · have hS := cond_F h4 hS
    have h4p : y1 = 0 := eq_of_bne_false_ h4
    refine xSk ?_
    refine wpq_then ?_
    refine xSub [(0, vs Al l cl), (1, vi capacity)] ?_
    refine xSq ?_
    refine xSq ?_
    refine xRg ?_
    refine xB 2 [] [(0, vs Al l cl), (1, vi capacity), (21, vb (decide (capacity < 1)))] ?_
    refine xRe ?_
    refine wpq_then ?_
    refine xCd (decide (capacity < 1)) (fun h5 => ?_) (fun h5 => ?_)
    · have hS := cond_T h5 hS
      have h5p := of_decide_eq_true h5
      refine xSq ?_
      refine xRg ?_
      refine xB 2 [] [(4, Value.slice none 0 0), (5, vi 1)] ?_
      refine xRe ?_
      refine wpq_then ?_
      have eS := (Option.some.inj hS).symm
      subst eS
      exact xRet [none] [4, 5] e3 ⟨none, 0, none, by kernel_rfl, by kernel_rfl, Buf.nil⟩ (fun _ _ h => h)
    · have hS := cond_F h5 hS
      have h5p := of_decide_eq_false h5
      refine xSk ?_
      refine wpq_then ?_
      refine xSub [(0, vs Al l cl), (1, vi capacity)] ?_
      refine xSq ?_
      refine xRg ?_
      refine xE (eMk (T := (tyI .i64)) (p := g2.b) (et := 3) (bytes := 8) (z := (0 : Int)) 32 rfl (show (tyI .i64).rep _ _ _ from rfl) (by omega) (by omega)) ?_
      rintro _ _ _ - ⟨A6, c6, k6, rfl, rfl, rfl, h6⟩
      have nh6 := h6.len
      have hlh6 : ((List.replicate 32 (0 : Int))).length = 32 := List.length_replicate
      refine xB 1 [] [(0, vs Al l cl), (1, vi capacity), (7, vs A6 (List.replicate 32 (0 : Int)) c6)] ?_
      refine xRe ?_
      refine wpq_then ?_
      refine xSq ?_
      refine xRg ?_
      refine xB 2 [] [(0, vs Al l cl), (1, vi capacity), (7, vs A6 (List.replicate 32 (0 : Int)) c6), (24, vi (((l).length : Nat) : Int))] ?_
      obtain ⟨q7, hS⟩ := grd_T hS
      have q7p := of_decide_eq_true q7
      refine xE (eMk (T := tySlot) (p := g2.b) (et := 47) (bytes := 16) (z := (default : Slot)) (l).length rfl (show tySlot.rep _ _ _ from rfl) (by omega) (by omega)) ?_
      rintro _ _ _ - ⟨A8, c8, k8, rfl, rfl, rfl, h8⟩
      have nh8 := h8.len
      have hlh8 : ((List.replicate (l).length (default : Slot))).length = (l).length := List.length_replicate
      refine xB 1 [] [(0, vs Al l cl), (1, vi capacity), (7, vs A6 (List.replicate 32 (0 : Int)) c6), (8, vs A8 (List.replicate (l).length (default : Slot)) c8)] ?_
      refine xRe ?_
      refine wpq_then ?_
      refine xSq ?_
      refine xRg ?_
      refine xB 2 [] [(0, vs Al l cl), (1, vi capacity), (7, vs A6 (List.replicate 32 (0 : Int)) c6), (8, vs A8 (List.replicate (l).length (default : Slot)) c8), (27, vi (((l).length : Nat) : Int))] ?_
      refine xE (eMk (T := tyB) (p := g2.b) (et := 4) (bytes := 1) (z := (false : Bool)) (l).length rfl (show tyB.rep _ _ _ from rfl) (by omega) (by omega)) ?_
      rintro _ _ _ - ⟨A9, c9, k9, rfl, rfl, rfl, h9⟩
      have nh9 := h9.len
      have hlh9 : ((List.replicate (l).length (false : Bool))).length = (l).length := List.length_replicate
      refine xB 1 [] [(0, vs Al l cl), (1, vi capacity), (7, vs A6 (List.replicate 32 (0 : Int)) c6), (8, vs A8 (List.replicate (l).length (default : Slot)) c8), (9, vs A9 (List.replicate (l).length (false : Bool)) c9)] ?_
      refine xRe ?_
      refine wpq_then ?_
      refine xSq ?_
      refine xSq ?_
      refine xRg ?_
      refine xB 3 [] [(0, vs Al l cl), (1, vi capacity), (7, vs A6 (List.replicate 32 (0 : Int)) c6), (8, vs A8 (List.replicate (l).length (default : Slot)) c8), (9, vs A9 (List.replicate (l).length (false : Bool)) c9), (30, vi (((l).length : Nat) : Int)), (31, vi 0)] ?_
      refine xRe ?_
      refine wpq_then ?_
      refine xJoinO hS (fun g own sl t10 => ∃ (k10_0 : Option Bk), own = [k10_0] ∧ sl = [(8, vs A8 t10 c8)] ∧ Buf g.b tySlot 47 (.slice A8 (t10).length c8) k10_0 t10) ?_ ?_
      · rintro g11 _ _ t10 e12 ⟨k10_0, rfl, rfl, h10_0⟩ hS
        have nh10_0 := h10_0.len
        refine wpq_then ?_
        refine xSq ?_
        refine xRg ?_
        refine xB 3 [] [(4, vs A8 t10 c8), (5, vi 0)] ?_
        refine xRe ?_
        refine wpq_then ?_
        have eS := (Option.some.inj hS).symm
        subst eS
        exact xRet [some 0] [4, 5] (e3.trans e12) ⟨A8, c8, k10_0, by kernel_rfl, by kernel_rfl, h10_0⟩ (fun _ _ h => h)
      · intro uu10 hS hN10 hD10
        refine xBl 0 ?_
        refine xSel [some 2, some 1, some 0] ?_
        refine xSub [(0, vs Al l cl), (1, vi capacity), (7, vs A6 (List.replicate 32 (0 : Int)) c6), (8, vs A8 (List.replicate (l).length (default : Slot)) c8), (9, vs A9 (List.replicate (l).length (false : Bool)) c9), (30, vi (((l).length : Nat) : Int)), (31, vi 0)] ?_
        refine xLo hS (fun g own sl s15 => ∃ (k15_0 : Option Bk) (k15_1 : Option Bk) (k15_2 : Option Bk), own = [k15_0, k15_1, k15_2] ∧ sl = [(0, vs Al l cl), (1, vi capacity), (7, vs A6 s15.1 c6), (8, vs A8 s15.2.1 c8), (9, vs A9 s15.2.2.1 c9), (30, vi (((l).length : Nat) : Int)), (31, vi ((s15.2.2.2 : Nat) : Int))] ∧ Buf g.b (tyI .i64) 3 (.slice A6 (s15.1).length c6) k15_0 s15.1 ∧ Buf g.b tySlot 47 (.slice A8 (s15.2.1).length c8) k15_1 s15.2.1 ∧ Buf g.b tyB 4 (.slice A9 (s15.2.2.1).length c9) k15_2 s15.2.2.1) ⟨k6, k8, k9, by kernel_rfl, by kernel_rfl, h6, h8, h9⟩ ?_
        rintro g16 _ _ s15 uu15 e17 ⟨k15_0, k15_1, k15_2, rfl, rfl, h15_0, h15_1, h15_2⟩ hS Qr15 hN15 hD15
        have nh15_0 := h15_0.len
        have nh15_1 := h15_1.len
        have nh15_2 := h15_2.len
        unfold o20_L0 at hS
        refine xSq ?_
        refine xRg ?_
        refine xB 1 [] [(0, vs Al l cl), (1, vi capacity), (7, vs A6 s15.1 c6), (8, vs A8 s15.2.1 c8), (9, vs A9 s15.2.2.1 c9), (30, vi (((l).length : Nat) : Int)), (31, vi ((s15.2.2.2 : Nat) : Int)), (32, vb (decide (((s15.2.2.2 : Nat) : Int) < (((l).length : Nat) : Int))))] ?_
        refine xRe ?_
        refine wpq_then ?_
        refine xSq ?_
        refine xCd (decide (((s15.2.2.2 : Nat) : Int) < (((l).length : Nat) : Int))) (fun h18 => ?_) (fun h18 => ?_)
        · have hS := cond_T h18 hS
          have h18p := of_decide_eq_true h18
          refine xSk ?_
          refine wpq_then ?_
          refine xSub [(0, vs Al l cl), (1, vi capacity), (7, vs A6 s15.1 c6), (8, vs A8 s15.2.1 c8), (9, vs A9 s15.2.2.1 c9), (30, vi (((l).length : Nat) : Int)), (31, vi ((s15.2.2.2 : Nat) : Int))] ?_
          refine xSq ?_
          refine xJoinO hS (fun g own sl t19 => ∃ (k19_0 : Option Bk) (k19_1 : Option Bk) (k19_2 : Option Bk), own = [k19_0, k19_1, k19_2] ∧ sl = [(0, vs Al l cl), (1, vi capacity), (7, vs A6 t19.1 c6), (8, vs A8 t19.2.1 c8), (9, vs A9 t19.2.2 c9), (30, vi (((l).length : Nat) : Int)), (31, vi ((s15.2.2.2 : Nat) : Int))] ∧ Buf g.b (tyI .i64) 3 (.slice A6 (t19.1).length c6) k19_0 t19.1 ∧ Buf g.b tySlot 47 (.slice A8 (t19.2.1).length c8) k19_1 t19.2.1 ∧ Buf g.b tyB 4 (.slice A9 (t19.2.2).length c9) k19_2 t19.2.2) ?_ ?_
          · rintro g20 _ _ t19 e21 ⟨k19_0, k19_1, k19_2, rfl, rfl, h19_0, h19_1, h19_2⟩ hS
            have nh19_0 := h19_0.len
            have nh19_1 := h19_1.len
            have nh19_2 := h19_2.len
            refine wpq_then ?_
            refine xRg ?_
            obtain ⟨q22, hS⟩ := grd_T hS
            have q22p := of_decide_eq_true q22
            refine xV (qAdd .i64 (((s15.2.2.2 : Nat) : Int)) (1) (wr64 (by omega))) ?_
            refine xB 1 [] [(0, vs Al l cl), (1, vi capacity), (7, vs A6 t19.1 c6), (8, vs A8 t19.2.1 c8), (9, vs A9 t19.2.2 c9), (30, vi (((l).length : Nat) : Int)), (31, vi (((s15.2.2.2 : Nat) : Int) + 1))] ?_
            refine xRe ?_
            refine wpq_thenN ?_
            refine xSub [(0, vs Al l cl), (1, vi capacity), (7, vs A6 t19.1 c6), (8, vs A8 t19.2.1 c8), (9, vs A9 t19.2.2 c9), (30, vi (((l).length : Nat) : Int)), (31, vi (((s15.2.2.2 : Nat) : Int) + 1))] ?_
            have eS := (Option.some.inj hS).symm
            exact hN15 _ eS _ _ _ e21 ⟨k19_0, k19_1, k19_2, by kernel_rfl, by kernel_rfl, h19_0, h19_1, h19_2⟩
          · intro uu19 hS hN19 hD19
            refine xBl 1 ?_
            refine xSq ?_
            refine xRg ?_
            refine xB 1 [] [(0, vs Al l cl), (1, vi capacity), (7, vs A6 s15.1 c6), (8, vs A8 s15.2.1 c8), (9, vs A9 s15.2.2.1 c9), (10, vi (-1)), (30, vi (((l).length : Nat) : Int)), (31, vi ((s15.2.2.2 : Nat) : Int))] ?_
            refine xRe ?_
            refine wpq_then ?_
            refine xSq ?_
            refine xSq ?_
            refine xRg ?_
            refine xB 3 [] [(0, vs Al l cl), (1, vi capacity), (7, vs A6 s15.1 c6), (8, vs A8 s15.2.1 c8), (9, vs A9 s15.2.2.1 c9), (10, vi (-1)), (30, vi (((l).length : Nat) : Int)), (31, vi ((s15.2.2.2 : Nat) : Int)), (34, vi (((l).length : Nat) : Int)), (35, vi 0)] ?_
            refine xRe ?_
            refine wpq_then ?_
            refine xBindO hS (fun g own sl t23 => own = [k15_0, k15_1, k15_2] ∧ sl = [(0, vs Al l cl), (1, vi capacity), (7, vs A6 s15.1 c6), (8, vs A8 s15.2.1 c8), (9, vs A9 s15.2.2.1 c9), (10, vi t23), (30, vi (((l).length : Nat) : Int)), (31, vi ((s15.2.2.2 : Nat) : Int))]) ?_ ?_
            · rintro g24 _ _ t23 e25 ⟨rfl, rfl⟩ hS
              refine wpq_then ?_
              refine xSq ?_
              refine xRg ?_
              have fl := fl.mono (e3.trans (e17.trans e25)).r
              obtain ⟨q27, hS⟩ := grd_T hS
              have q27p := of_decide_eq_true q27
              have i28 : (t23).toNat < (l).length := by omega
              obtain ⟨ad26, cs26, hA26, hr26, hc26⟩ := fl.at_ (get_getD (d := default) i28)
              obtain ⟨rfl⟩ := hr26
              refine xB 2 [] [(0, vs Al l cl), (1, vi capacity), (7, vs A6 s15.1 c6), (8, vs A8 s15.2.1 c8), (9, vs A9 s15.2.2.1 c9), (10, vi t23), (30, vi (((l).length : Nat) : Int)), (31, vi ((s15.2.2.2 : Nat) : Int)), (60, vs Al l cl), (61, vi t23)] ?_
              refine xV (qIx (t23).toNat 3 hA26 (show (t23 : Int) = _ from by omega) i28) ?_
              refine xV (qLdP (Addr.add ad26 ((t23).toNat * 3)) 0 hc26) ?_
              refine xE eB ?_
              rintro _ _ _ - ⟨b29, rfl, rfl, rfl⟩
              refine xBo 1 [(5, 0)] [some ⟨b29, 87, [vy ((List.getD l (t23).toNat default).label), vi ((List.getD l (t23).toNat default).period), vi ((List.getD l (t23).toNat default).length)]⟩, k15_0, k15_1, k15_2] [(0, vs Al l cl), (1, vi capacity), (7, vs A6 s15.1 c6), (8, vs A8 s15.2.1 c8), (9, vs A9 s15.2.2.1 c9), (10, vi t23), (12, vp b29 0), (30, vi (((l).length : Nat) : Int)), (31, vi ((s15.2.2.2 : Nat) : Int))] ?_
              refine xRe ?_
              refine wpq_then ?_
              refine xSq ?_
              refine xRg ?_
              have h15_2 := h15_2.mono e25.b
              obtain ⟨q31, hS⟩ := grd_T hS
              have q31p := of_decide_eq_true q31
              have i32 : (t23).toNat < (s15.2.2.1).length := by omega
              obtain ⟨kc30, cs30, hA30, hk30, hr30, hw30⟩ := h15_2.open_ i32 false
              obtain ⟨kb30, rfl⟩ : ∃ z, z = kc30 := ⟨_, rfl⟩
              subst hk30
              have hr30 : cs30 = [vb (List.getD s15.2.2.1 (t23).toNat false)] := hr30
              subst hr30
              refine xB 2 [] [(0, vs Al l cl), (1, vi capacity), (7, vs A6 s15.1 c6), (8, vs A8 s15.2.1 c8), (9, vs A9 s15.2.2.1 c9), (10, vi t23), (12, vp b29 0), (30, vi (((l).length : Nat) : Int)), (31, vi ((s15.2.2.2 : Nat) : Int)), (64, vs A9 s15.2.2.1 c9), (65, vi t23)] ?_
              refine xV (qIxB (t23).toNat 1 kb30.g hA30 (show (t23 : Int) = _ from by omega) i32) ?_
              refine xD (eStB (t23).toNat 1 0 3 [vb true] h15_2 rfl hw30 (show tyB.rep _ _ _ from rfl) i32) ?_
              rintro _ _ _ - ⟨k33, rfl, rfl, h33⟩
              have hz33 : (s15.2.2.1).length = ((List.set s15.2.2.1 (t23).toNat true)).length := by simp
              refine xRe ?_
              refine wpq_then ?_
              refine xSub [(0, vs Al l cl), (1, vi capacity), (7, vs A6 s15.1 c6), (8, vs A8 s15.2.1 c8), (9, Value.slice A9 ((s15.2.2.1).length) c9), (10, vi t23), (12, vp b29 0), (30, vi (((l).length : Nat) : Int)), (31, vi ((s15.2.2.2 : Nat) : Int))] ?_
              refine xSq ?_
              refine xRg ?_
              refine xB 1 [] [(0, vs Al l cl), (1, vi capacity), (7, vs A6 s15.1 c6), (8, vs A8 s15.2.1 c8), (9, Value.slice A9 ((s15.2.2.1).length) c9), (10, vi t23), (12, vp b29 0), (13, vi 0), (30, vi (((l).length : Nat) : Int)), (31, vi ((s15.2.2.2 : Nat) : Int))] ?_
              refine xRe ?_
              refine wpq_then ?_
              refine xSq ?_
              refine xBindO hS (fun g own sl t34 => own = [some ⟨b29, 87, [vy ((List.getD l (t23).toNat default).label), vi ((List.getD l (t23).toNat default).period), vi ((List.getD l (t23).toNat default).length)]⟩, k15_0, k15_1, k33] ∧ sl = [(0, vs Al l cl), (1, vi capacity), (7, vs A6 s15.1 c6), (8, vs A8 s15.2.1 c8), (9, vs A9 (List.set s15.2.2.1 (t23).toNat true) c9), (10, vi t23), (12, vp b29 0), (13, vi ((t34 : Nat) : Int)), (30, vi (((l).length : Nat) : Int)), (31, vi ((s15.2.2.2 : Nat) : Int))]) ?_ ?_
              · rintro g35 _ _ t34 e36 ⟨rfl, rfl⟩ hS
                refine wpq_then ?_
                refine xSq ?_
                refine xSq ?_
                refine xRg ?_
                refine xB 4 [(2, 0)] [(0, vs Al l cl), (1, vi capacity), (7, vs A6 s15.1 c6), (8, vs A8 s15.2.1 c8), (9, vs A9 (List.set s15.2.2.1 (t23).toNat true) c9), (10, vi t23), (12, vp b29 0), (13, vi ((t34 : Nat) : Int)), (30, vi (((l).length : Nat) : Int)), (31, vi ((s15.2.2.2 : Nat) : Int)), (84, vb (((t34 : Nat) : Int) == (List.getD l (t23).toNat default).period))] ?_
                refine xRe ?_
                refine wpq_then ?_
                refine xCd ((((t34 : Nat) : Int) == (List.getD l (t23).toNat default).period)) (fun h37 => ?_) (fun h37 => ?_)
                · have hS := cond_T h37 hS
                  have h37p : ((t34 : Nat) : Int) = (List.getD l (t23).toNat default).period := eq_of_beq h37
                  refine xSq ?_
                  refine xRg ?_
                  refine xB 2 [] [(4, Value.slice none 0 0), (5, vi 18)] ?_
                  refine xRe ?_
                  refine wpq_then ?_
                  have eS := (Option.some.inj hS).symm
                  have eS := (hD19 _ eS).symm
                  have eS := (hD15 _ eS).symm
                  have eS := (hD10 _ eS).symm
                  subst eS
                  exact xRet [none] [4, 5] (e3.trans (e17.trans (e25.trans e36))) ⟨none, 0, none, by kernel_rfl, by kernel_rfl, Buf.nil⟩ (fun _ _ h => h)
                · have hS := cond_F h37 hS
                  have h37p : ¬ (((t34 : Nat) : Int) = (List.getD l (t23).toNat default).period) := ne_of_beq_false_ h37
                  refine xSk ?_
                  refine wpq_then ?_
                  refine xSub [(0, vs Al l cl), (1, vi capacity), (7, vs A6 s15.1 c6), (8, vs A8 s15.2.1 c8), (9, vs A9 (List.set s15.2.2.1 (t23).toNat true) c9), (10, vi t23), (12, vp b29 0), (13, vi ((t34 : Nat) : Int)), (30, vi (((l).length : Nat) : Int)), (31, vi ((s15.2.2.2 : Nat) : Int))] ?_
                  refine xSq ?_
                  refine xSq ?_
                  refine xRg ?_
                  refine xB 2 [] [(0, vs Al l cl), (1, vi capacity), (7, vs A6 s15.1 c6), (8, vs A8 s15.2.1 c8), (9, vs A9 (List.set s15.2.2.1 (t23).toNat true) c9), (10, vi t23), (12, vp b29 0), (13, vi ((t34 : Nat) : Int)), (14, vi ((t34 : Nat) : Int)), (30, vi (((l).length : Nat) : Int)), (31, vi ((s15.2.2.2 : Nat) : Int))] ?_
                  refine xRe ?_
                  refine wpq_then ?_
                  refine xBindO hS (fun g own sl t38 => ∃ (k38_0 : Option Bk), own = [some ⟨b29, 87, [vy ((List.getD l (t23).toNat default).label), vi ((List.getD l (t23).toNat default).period), vi ((List.getD l (t23).toNat default).length)]⟩, k38_0, k15_1, k33] ∧ sl = [(0, vs Al l cl), (1, vi capacity), (7, vs A6 t38 c6), (8, vs A8 s15.2.1 c8), (9, vs A9 (List.set s15.2.2.1 (t23).toNat true) c9), (10, vi t23), (12, vp b29 0), (13, vi ((t34 : Nat) : Int)), (30, vi (((l).length : Nat) : Int)), (31, vi ((s15.2.2.2 : Nat) : Int))] ∧ Buf g.b (tyI .i64) 3 (.slice A6 (t38).length c6) k38_0 t38) ?_ ?_
                  · rintro g39 _ _ t38 e40 ⟨k38_0, rfl, rfl, h38_0⟩ hS
                    have nh38_0 := h38_0.len
                    refine wpq_then ?_
                    refine xRg ?_
                    have h15_1 := h15_1.mono (e25.trans (e36.trans e40)).b
                    obtain ⟨q42, hS⟩ := grd_T hS
                    have q42p := of_decide_eq_true q42
                    have i43 : (t23).toNat < (s15.2.1).length := by omega
                    obtain ⟨kc41, cs41, hA41, hk41, hr41, hw41⟩ := h15_1.open_ i43 default
                    obtain ⟨kb41, rfl⟩ : ∃ z, z = kc41 := ⟨_, rfl⟩
                    subst hk41
                    obtain ⟨rfl⟩ := hr41
                    refine xB 6 [(3, 0)] [(0, vs Al l cl), (1, vi capacity), (7, vs A6 t38 c6), (8, vs A8 s15.2.1 c8), (9, vs A9 (List.set s15.2.2.1 (t23).toNat true) c9), (30, vi (((l).length : Nat) : Int)), (31, vi ((s15.2.2.2 : Nat) : Int)), (102, vs A8 s15.2.1 c8), (103, vi t23), (107, Value.agg #[vy ((List.getD l (t23).toNat default).label), vi ((t34 : Nat) : Int)])] ?_
                    refine xV (qIxB (t23).toNat 2 kb41.g hA41 (show (t23 : Int) = _ from by omega) i43) ?_
                    refine xD (eStB (t23).toNat 2 0 2 [vy ((List.getD l (t23).toNat default).label), vi ((t34 : Nat) : Int)] h15_1 rfl hw41 (show tySlot.rep _ _ ({ (List.getD l (t23).toNat default) with offset := ((t34 : Nat) : Int) }) from rfl) i43) ?_
                    rintro _ _ _ - ⟨k44, rfl, rfl, h44⟩
                    have hz44 : (s15.2.1).length = ((List.set s15.2.1 (t23).toNat ({ (List.getD l (t23).toNat default) with offset := ((t34 : Nat) : Int) }))).length := by simp
                    refine xRe ?_
                    refine wpq_blockN ?_
                    refine wpq_re 102 (v := Value.slice A8 ((s15.2.1).length) c8) (vs A8 (List.set s15.2.1 (t23).toNat ({ (List.getD l (t23).toNat default) with offset := ((t34 : Nat) : Int) })) c8) (by kernel_rfl) (congrArg (fun z => Value.slice A8 z c8) hz44) ?_
                    have h44 := Buf.re h44 hz44 (rfl : (List.set s15.2.1 (t23).toNat ({ (List.getD l (t23).toNat default) with offset := ((t34 : Nat) : Int) })) = _)
                    refine wpq_re 8 (v := Value.slice A8 ((s15.2.1).length) c8) (vs A8 (List.set s15.2.1 (t23).toNat ({ (List.getD l (t23).toNat default) with offset := ((t34 : Nat) : Int) })) c8) (by kernel_rfl) (congrArg (fun z => Value.slice A8 z c8) hz44) ?_
                    have h33 := h33.mono (e36.trans e40).b
                    refine xSel [some 1, some 2, some 3] ?_
                    refine xSub [(0, vs Al l cl), (1, vi capacity), (7, vs A6 t38 c6), (8, vs A8 (List.set s15.2.1 (t23).toNat ({ (List.getD l (t23).toNat default) with offset := ((t34 : Nat) : Int) })) c8), (9, vs A9 (List.set s15.2.2.1 (t23).toNat true) c9), (30, vi (((l).length : Nat) : Int)), (31, vi ((s15.2.2.2 : Nat) : Int))] ?_
                    have eS := (Option.some.inj hS).symm
                    exact hN19 _ eS _ _ _ (e25.trans (e36.trans e40)) ⟨k38_0, k44, k33, by kernel_rfl, by kernel_rfl, h38_0, h44, (Buf.re h33 hz33 rfl)⟩
                  · intro uu38 hS hN38
                    refine xBl 6 ?_
                    have h15_0 := h15_0.mono (e25.trans e36).b
                    refine xSub [(0, vs Al l cl), (1, vi capacity), (7, vs A6 s15.1 c6), (8, vs A8 s15.2.1 c8), (9, vs A9 (List.set s15.2.2.1 (t23).toNat true) c9), (10, vi t23), (12, vp b29 0), (13, vi ((t34 : Nat) : Int)), (14, vi ((t34 : Nat) : Int)), (30, vi (((l).length : Nat) : Int)), (31, vi ((s15.2.2.2 : Nat) : Int))] ?_
                    refine xLo hS (fun g own sl s47 => ∃ (k47_0 : Option Bk), own = [some ⟨b29, 87, [vy ((List.getD l (t23).toNat default).label), vi ((List.getD l (t23).toNat default).period), vi ((List.getD l (t23).toNat default).length)]⟩, k47_0, k15_1, k33] ∧ sl = [(0, vs Al l cl), (1, vi capacity), (7, vs A6 s47.1 c6), (8, vs A8 s15.2.1 c8), (9, vs A9 (List.set s15.2.2.1 (t23).toNat true) c9), (10, vi t23), (12, vp b29 0), (13, vi ((t34 : Nat) : Int)), (14, vi s47.2), (30, vi (((l).length : Nat) : Int)), (31, vi ((s15.2.2.2 : Nat) : Int))] ∧ Buf g.b (tyI .i64) 3 (.slice A6 (s47.1).length c6) k47_0 s47.1) ⟨k15_0, by kernel_rfl, by kernel_rfl, h15_0⟩ ?_
                    rintro g48 _ _ s47 uu47 e49 ⟨k47_0, rfl, rfl, h47_0⟩ hS Qr47 hN47 hD47
                    have nh47_0 := h47_0.len
                    unfold o20_L1 at hS
                    refine xSq ?_
                    refine xSq ?_
                    refine xRg ?_
                    refine xB 2 [] [(0, vs Al l cl), (1, vi capacity), (7, vs A6 s47.1 c6), (8, vs A8 s15.2.1 c8), (9, vs A9 (List.set s15.2.2.1 (t23).toNat true) c9), (10, vi t23), (12, vp b29 0), (13, vi ((t34 : Nat) : Int)), (14, vi s47.2), (30, vi (((l).length : Nat) : Int)), (31, vi ((s15.2.2.2 : Nat) : Int)), (87, vb (decide (s47.2 < 32)))] ?_
                    refine xRe ?_
                    refine wpq_then ?_
                    refine xCd (decide (s47.2 < 32)) (fun h50 => ?_) (fun h50 => ?_)
                    · have hS := cond_T h50 hS
                      have h50p := of_decide_eq_true h50
                      refine xSk ?_
                      refine wpq_then ?_
                      refine xSub [(0, vs Al l cl), (1, vi capacity), (7, vs A6 s47.1 c6), (8, vs A8 s15.2.1 c8), (9, vs A9 (List.set s15.2.2.1 (t23).toNat true) c9), (10, vi t23), (12, vp b29 0), (13, vi ((t34 : Nat) : Int)), (14, vi s47.2), (30, vi (((l).length : Nat) : Int)), (31, vi ((s15.2.2.2 : Nat) : Int))] ?_
                      refine xSq ?_
                      refine xBl 7 ?_
                      refine xDr 0 [5, 7] [10, 8, 9] [some ⟨b29, 87, [vy ((List.getD l (t23).toNat default).label), vi ((List.getD l (t23).toNat default).period), vi ((List.getD l (t23).toNat default).length)]⟩, k47_0] 11 (fun RG => ?_) (fun _ _ _ _ _ h => h)
                      obtain ⟨q52, hS⟩ := grd_T hS
                      have q52p := of_decide_eq_true q52
                      have i53 : (s47.2).toNat < (s47.1).length := by omega
                      obtain ⟨kc51, cs51, hA51, hk51, hr51, hw51⟩ := h47_0.open_ i53 0
                      obtain ⟨kb51, rfl⟩ : ∃ z, z = kc51 := ⟨_, rfl⟩
                      subst hk51
                      have hr51 : cs51 = [vi (List.getD s47.1 (s47.2).toNat 0)] := hr51
                      subst hr51
                      refine xT 7 [0, 1, 2, 3] [] [some 0, some 1] [(0, vs Al l cl), (1, vi capacity), (7, vs A6 s47.1 c6), (8, vs A8 s15.2.1 c8), (9, vs A9 (List.set s15.2.2.1 (t23).toNat true) c9), (10, vi t23), (12, vp b29 0), (13, vi ((t34 : Nat) : Int)), (14, vi s47.2), (30, vi (((l).length : Nat) : Int)), (31, vi ((s15.2.2.2 : Nat) : Int)), (92, vs A6 s47.1 c6), (93, vi s47.2), (94, vs A6 s47.1 c6), (95, vi s47.2)] RG (Psi.le.refl _) ?_
                      refine xTp 4 RG (fun _ => (qIxB (s47.2).toNat 1 kb51.g hA51 (show (s47.2 : Int) = _ from by omega) i53)) ?_
                      refine xTv 5 [some 0, some 1] RG (Psi.le.refl _) (qLdB (s47.2).toNat 1 0 1 hw51) ?_
                      have z144 := i64_in_ ((List.getD s47.1 (s47.2).toNat 0) + (List.getD l (t23).toNat default).length)
                      obtain ⟨q55, hS⟩ := grd_T hS
                      have q55p := of_decide_eq_true q55
                      have i56 : (s47.2).toNat < (s47.1).length := by omega
                      obtain ⟨kc54, cs54, hA54, hk54, hr54, hw54⟩ := h47_0.open_ i56 0
                      cases hk54
                      have hr54 : cs54 = [vi (List.getD s47.1 (s47.2).toNat 0)] := hr54
                      subst hr54
                      refine xT 2 [6, 7, 8] [(7, 0)] [some 0, some 1] [(0, vs Al l cl), (1, vi capacity), (7, vs A6 s47.1 c6), (8, vs A8 s15.2.1 c8), (9, vs A9 (List.set s15.2.2.1 (t23).toNat true) c9), (10, vi t23), (12, vp b29 0), (13, vi ((t34 : Nat) : Int)), (14, vi s47.2), (30, vi (((l).length : Nat) : Int)), (31, vi ((s15.2.2.2 : Nat) : Int)), (92, vs A6 s47.1 c6), (93, vi s47.2), (100, vi (IntKind.i64.wrap ((List.getD s47.1 (s47.2).toNat 0) + (List.getD l (t23).toNat default).length)))] RG (Psi.le.refl _) ?_
                      refine xTp 9 RG (fun _ => (qIxB (s47.2).toNat 1 kb51.g hA54 (show (s47.2 : Int) = _ from by omega) i56)) ?_
                      refine xO1 (lds := [5, 7]) 10 ?_
                      refine xId (lds := [5, 7]) (Psi.le.refl _) (eStB (s47.2).toNat 1 0 1 [vi (IntKind.i64.wrap ((List.getD s47.1 (s47.2).toNat 0) + (List.getD l (t23).toNat default).length))] h47_0 rfl hw54 (show (tyI .i64).rep _ _ _ from rfl) i56) ?_
                      rintro _ _ _ - ⟨k57, rfl, rfl, h57⟩
                      refine kf ?_
                      have hz57 : (s47.1).length = ((List.set s47.1 (s47.2).toNat ((IntKind.i64.wrap ((List.getD s47.1 (s47.2).toNat 0) + (List.getD l (t23).toNat default).length)) : Int))).length := by simp
                      refine xAe (lds := [5, 7]) ?_
                      refine wpq_blockN ?_
                      refine wpq_then ?_
                      refine xSub [(0, vs Al l cl), (1, vi capacity), (7, Value.slice A6 ((s47.1).length) c6), (8, vs A8 s15.2.1 c8), (9, vs A9 (List.set s15.2.2.1 (t23).toNat true) c9), (10, vi t23), (12, vp b29 0), (13, vi ((t34 : Nat) : Int)), (14, vi s47.2), (30, vi (((l).length : Nat) : Int)), (31, vi ((s15.2.2.2 : Nat) : Int))] ?_
                      refine xRg ?_
                      obtain ⟨q58, hS⟩ := grd_T hS
                      have q58p := of_decide_eq_true q58
                      refine xB 3 [(2, 0)] [(0, vs Al l cl), (1, vi capacity), (7, Value.slice A6 ((s47.1).length) c6), (8, vs A8 s15.2.1 c8), (9, vs A9 (List.set s15.2.2.1 (t23).toNat true) c9), (10, vi t23), (12, vp b29 0), (13, vi ((t34 : Nat) : Int)), (14, vi s47.2), (30, vi (((l).length : Nat) : Int)), (31, vi ((s15.2.2.2 : Nat) : Int)), (88, vi s47.2), (90, vi ((List.getD l (t23).toNat default).period))] ?_
                      refine xV (qAdd .i64 (s47.2) ((List.getD l (t23).toNat default).period) (wr64 (by omega))) ?_
                      refine xB 1 [] [(0, vs Al l cl), (1, vi capacity), (7, Value.slice A6 ((s47.1).length) c6), (8, vs A8 s15.2.1 c8), (9, vs A9 (List.set s15.2.2.1 (t23).toNat true) c9), (10, vi t23), (12, vp b29 0), (13, vi ((t34 : Nat) : Int)), (14, vi (s47.2 + (List.getD l (t23).toNat default).period)), (30, vi (((l).length : Nat) : Int)), (31, vi ((s15.2.2.2 : Nat) : Int))] ?_
                      refine xRe ?_
                      refine wpq_thenN ?_
                      refine wpq_re 7 (v := Value.slice A6 ((s47.1).length) c6) (vs A6 (List.set s47.1 (s47.2).toNat ((IntKind.i64.wrap ((List.getD s47.1 (s47.2).toNat 0) + (List.getD l (t23).toNat default).length)) : Int)) c6) (by kernel_rfl) (congrArg (fun z => Value.slice A6 z c6) hz57) ?_
                      have h57 := Buf.re h57 hz57 (rfl : (List.set s47.1 (s47.2).toNat ((IntKind.i64.wrap ((List.getD s47.1 (s47.2).toNat 0) + (List.getD l (t23).toNat default).length)) : Int)) = _)
                      refine xSub [(0, vs Al l cl), (1, vi capacity), (7, vs A6 (List.set s47.1 (s47.2).toNat ((IntKind.i64.wrap ((List.getD s47.1 (s47.2).toNat 0) + (List.getD l (t23).toNat default).length)) : Int)) c6), (8, vs A8 s15.2.1 c8), (9, vs A9 (List.set s15.2.2.1 (t23).toNat true) c9), (10, vi t23), (12, vp b29 0), (13, vi ((t34 : Nat) : Int)), (14, vi (s47.2 + (List.getD l (t23).toNat default).period)), (30, vi (((l).length : Nat) : Int)), (31, vi ((s15.2.2.2 : Nat) : Int))] ?_
                      have eS := (Option.some.inj hS).symm
                      exact hN47 _ eS _ _ _ (Gh.le.refl _) ⟨k57, by kernel_rfl, by kernel_rfl, h57⟩
                    · have hS := cond_F h50 hS
                      have h50p := of_decide_eq_false h50
                      refine xEx 6 ?_
                      refine wpq_thenX ?_
                      refine wpq_thenX ?_
                      refine wpq_blockE ?_
                      refine xSub [(0, vs Al l cl), (1, vi capacity), (7, vs A6 s47.1 c6), (8, vs A8 s15.2.1 c8), (9, vs A9 (List.set s15.2.2.1 (t23).toNat true) c9), (10, vi t23), (12, vp b29 0), (13, vi ((t34 : Nat) : Int)), (30, vi (((l).length : Nat) : Int)), (31, vi ((s15.2.2.2 : Nat) : Int))] ?_
                      have eS := (Option.some.inj hS).symm
                      have eS := (hD47 _ eS).symm
                      exact hN38 _ eS _ _ _ e49 ⟨k47_0, by kernel_rfl, by kernel_rfl, h47_0⟩
              · intro uu34 hS hN34
                refine xBl 4 ?_
                refine wpq_re 9 (v := Value.slice A9 ((s15.2.2.1).length) c9) (vs A9 (List.set s15.2.2.1 (t23).toNat true) c9) (by kernel_rfl) (congrArg (fun z => Value.slice A9 z c9) hz33) ?_
                have h33 := Buf.re h33 hz33 (rfl : (List.set s15.2.2.1 (t23).toNat true) = _)
                refine xSub [(0, vs Al l cl), (1, vi capacity), (7, vs A6 s15.1 c6), (8, vs A8 s15.2.1 c8), (9, vs A9 (List.set s15.2.2.1 (t23).toNat true) c9), (10, vi t23), (12, vp b29 0), (13, vi 0), (30, vi (((l).length : Nat) : Int)), (31, vi ((s15.2.2.2 : Nat) : Int))] ?_
                refine xLo hS (fun g own sl s61 => own = [some ⟨b29, 87, [vy ((List.getD l (t23).toNat default).label), vi ((List.getD l (t23).toNat default).period), vi ((List.getD l (t23).toNat default).length)]⟩, k15_0, k15_1, k33] ∧ sl = [(0, vs Al l cl), (1, vi capacity), (7, vs A6 s15.1 c6), (8, vs A8 s15.2.1 c8), (9, vs A9 (List.set s15.2.2.1 (t23).toNat true) c9), (10, vi t23), (12, vp b29 0), (13, vi ((s61 : Nat) : Int)), (30, vi (((l).length : Nat) : Int)), (31, vi ((s15.2.2.2 : Nat) : Int))]) ⟨by kernel_rfl, by kernel_rfl⟩ ?_
                rintro g62 _ _ s61 uu61 e63 ⟨rfl, rfl⟩ hS Qr61 hN61 hD61
                unfold o20_L2 at hS
                refine xSq ?_
                refine xSq ?_
                refine xRg ?_
                refine xB 5 [(2, 0)] [(0, vs Al l cl), (1, vi capacity), (7, vs A6 s15.1 c6), (8, vs A8 s15.2.1 c8), (9, vs A9 (List.set s15.2.2.1 (t23).toNat true) c9), (10, vi t23), (12, vp b29 0), (13, vi ((s61 : Nat) : Int)), (30, vi (((l).length : Nat) : Int)), (31, vi ((s15.2.2.2 : Nat) : Int)), (71, vb (decide (((s61 : Nat) : Int) < (List.getD l (t23).toNat default).period)))] ?_
                refine xGJo hS 12 (fun g own sl t64 => own = [some ⟨b29, 87, [vy ((List.getD l (t23).toNat default).label), vi ((List.getD l (t23).toNat default).period), vi ((List.getD l (t23).toNat default).length)]⟩, k15_0, k15_1, k33] ∧ sl = [(0, vs Al l cl), (1, vi capacity), (7, vs A6 s15.1 c6), (8, vs A8 s15.2.1 c8), (9, vs A9 (List.set s15.2.2.1 (t23).toNat true) c9), (10, vi t23), (12, vp b29 0), (13, vi ((s61 : Nat) : Int)), (30, vi (((l).length : Nat) : Int)), (31, vi ((s15.2.2.2 : Nat) : Int)), (78, vb t64)]) ?_ ?_
                · rintro g65 _ _ t64 e66 ⟨rfl, rfl⟩ hS
                  refine xRe ?_
                  refine wpq_then ?_
                  refine xCd (t64) (fun h67 => ?_) (fun h67 => ?_)
                  · have hS := cond_T h67 hS
                    refine xSk ?_
                    refine wpq_then ?_
                    refine xSub [(0, vs Al l cl), (1, vi capacity), (7, vs A6 s15.1 c6), (8, vs A8 s15.2.1 c8), (9, vs A9 (List.set s15.2.2.1 (t23).toNat true) c9), (10, vi t23), (12, vp b29 0), (13, vi ((s61 : Nat) : Int)), (30, vi (((l).length : Nat) : Int)), (31, vi ((s15.2.2.2 : Nat) : Int))] ?_
                    refine xBl 5 ?_
                    refine xRg ?_
                    obtain ⟨q68, hS⟩ := grd_T hS
                    have q68p := of_decide_eq_true q68
                    refine xB 1 [] [(0, vs Al l cl), (1, vi capacity), (7, vs A6 s15.1 c6), (8, vs A8 s15.2.1 c8), (9, vs A9 (List.set s15.2.2.1 (t23).toNat true) c9), (10, vi t23), (12, vp b29 0), (13, vi ((s61 : Nat) : Int)), (30, vi (((l).length : Nat) : Int)), (31, vi ((s15.2.2.2 : Nat) : Int)), (79, vi ((s61 : Nat) : Int))] ?_
                    refine xV (qAdd .i64 (((s61 : Nat) : Int)) (1) (wr64 (by omega))) ?_
                    refine xB 1 [] [(0, vs Al l cl), (1, vi capacity), (7, vs A6 s15.1 c6), (8, vs A8 s15.2.1 c8), (9, vs A9 (List.set s15.2.2.1 (t23).toNat true) c9), (10, vi t23), (12, vp b29 0), (13, vi (((s61 : Nat) : Int) + 1)), (30, vi (((l).length : Nat) : Int)), (31, vi ((s15.2.2.2 : Nat) : Int))] ?_
                    refine xRe ?_
                    refine wpq_blockN ?_
                    refine wpq_thenN ?_
                    refine xSub [(0, vs Al l cl), (1, vi capacity), (7, vs A6 s15.1 c6), (8, vs A8 s15.2.1 c8), (9, vs A9 (List.set s15.2.2.1 (t23).toNat true) c9), (10, vi t23), (12, vp b29 0), (13, vi (((s61 : Nat) : Int) + 1)), (30, vi (((l).length : Nat) : Int)), (31, vi ((s15.2.2.2 : Nat) : Int))] ?_
                    have eS := (Option.some.inj hS).symm
                    exact hN61 _ eS _ _ _ e66 ⟨by kernel_rfl, by kernel_rfl⟩
                  · have hS := cond_F h67 hS
                    refine xEx 4 ?_
                    refine wpq_thenX ?_
                    refine wpq_thenX ?_
                    refine wpq_blockE ?_
                    refine xSub [(0, vs Al l cl), (1, vi capacity), (7, vs A6 s15.1 c6), (8, vs A8 s15.2.1 c8), (9, vs A9 (List.set s15.2.2.1 (t23).toNat true) c9), (10, vi t23), (12, vp b29 0), (13, vi ((s61 : Nat) : Int)), (30, vi (((l).length : Nat) : Int)), (31, vi ((s15.2.2.2 : Nat) : Int))] ?_
                    have eS := (Option.some.inj hS).symm
                    have eS := (hD61 _ eS).symm
                    exact hN34 _ eS _ _ _ (e63.trans e66) ⟨by kernel_rfl, by kernel_rfl⟩
                · intro uu64 hS hN64
                  refine wpq_split 71 (b := decide (((s61 : Nat) : Int) < (List.getD l (t23).toNat default).period)) (by kernel_rfl) (fun q69 => ?_) (fun q69 => ?_)
                  · have hS := cond_T q69 hS
                    have q69p := of_decide_eq_true q69
                    refine xB 4 [(6, 0)] [(0, vs Al l cl), (1, vi capacity), (7, vs A6 s15.1 c6), (8, vs A8 s15.2.1 c8), (9, vs A9 (List.set s15.2.2.1 (t23).toNat true) c9), (10, vi t23), (12, vp b29 0), (13, vi ((s61 : Nat) : Int)), (30, vi (((l).length : Nat) : Int)), (31, vi ((s15.2.2.2 : Nat) : Int)), (71, vb true), (72, vs A6 s15.1 c6), (73, Value.agg #[vy ((List.getD l (t23).toNat default).label), vi ((List.getD l (t23).toNat default).period), vi ((List.getD l (t23).toNat default).length)]), (74, vi ((s61 : Nat) : Int)), (75, vi capacity)] ?_
                    have h15_0 := h15_0.mono (e25.trans e63).b
                    obtain ⟨y70, hy70, hS⟩ := bindO_T hS
                    refine xE (eC 0 (fun g' lr eb ln => c46 g' (s15.1 : List Int) A6 c6 (List.getD l (t23).toNat default) (((s61 : Nat) : Int) : Int) (capacity : Int) (arr_of_buf h15_0 (Psi.le_b eb) (lentk 1 (by kernel_rfl) ln)) hy70)) ?_
                    rintro _ g71 _ e72 ⟨_, rfl, rfl, rfl⟩
                    refine xB 2 [] [(0, vs Al l cl), (1, vi capacity), (7, vs A6 s15.1 c6), (8, vs A8 s15.2.1 c8), (9, vs A9 (List.set s15.2.2.1 (t23).toNat true) c9), (10, vi t23), (12, vp b29 0), (13, vi ((s61 : Nat) : Int)), (30, vi (((l).length : Nat) : Int)), (31, vi ((s15.2.2.2 : Nat) : Int)), (78, vb (!y70))] ?_
                    refine xSub [(0, vs Al l cl), (1, vi capacity), (7, vs A6 s15.1 c6), (8, vs A8 s15.2.1 c8), (9, vs A9 (List.set s15.2.2.1 (t23).toNat true) c9), (10, vi t23), (12, vp b29 0), (13, vi ((s61 : Nat) : Int)), (30, vi (((l).length : Nat) : Int)), (31, vi ((s15.2.2.2 : Nat) : Int)), (78, vb (!y70))] ?_
                    exact hN64 _ (Option.some.inj hS).symm _ _ _ e72 ⟨by kernel_rfl, by kernel_rfl⟩
                  · have hS := cond_F q69 hS
                    have q69p := of_decide_eq_false q69
                    refine xB 7 [] [(0, vs Al l cl), (1, vi capacity), (7, vs A6 s15.1 c6), (8, vs A8 s15.2.1 c8), (9, vs A9 (List.set s15.2.2.1 (t23).toNat true) c9), (10, vi t23), (12, vp b29 0), (13, vi ((s61 : Nat) : Int)), (30, vi (((l).length : Nat) : Int)), (31, vi ((s15.2.2.2 : Nat) : Int)), (78, vb false)] ?_
                    refine xSub [(0, vs Al l cl), (1, vi capacity), (7, vs A6 s15.1 c6), (8, vs A8 s15.2.1 c8), (9, vs A9 (List.set s15.2.2.1 (t23).toNat true) c9), (10, vi t23), (12, vp b29 0), (13, vi ((s61 : Nat) : Int)), (30, vi (((l).length : Nat) : Int)), (31, vi ((s15.2.2.2 : Nat) : Int)), (78, vb false)] ?_
                    exact hN64 _ (Option.some.inj hS).symm _ _ _ (Gh.le.refl _) ⟨by kernel_rfl, by kernel_rfl⟩
            · intro uu23 hS hN23
              refine xBl 2 ?_
              refine xSub [(0, vs Al l cl), (1, vi capacity), (7, vs A6 s15.1 c6), (8, vs A8 s15.2.1 c8), (9, vs A9 s15.2.2.1 c9), (10, vi (-1)), (30, vi (((l).length : Nat) : Int)), (31, vi ((s15.2.2.2 : Nat) : Int)), (34, vi (((l).length : Nat) : Int)), (35, vi 0)] ?_
              refine xLo hS (fun g own sl s75 => own = [k15_0, k15_1, k15_2] ∧ sl = [(0, vs Al l cl), (1, vi capacity), (7, vs A6 s15.1 c6), (8, vs A8 s15.2.1 c8), (9, vs A9 s15.2.2.1 c9), (10, vi s75.1), (30, vi (((l).length : Nat) : Int)), (31, vi ((s15.2.2.2 : Nat) : Int)), (34, vi (((l).length : Nat) : Int)), (35, vi ((s75.2 : Nat) : Int))]) ⟨by kernel_rfl, by kernel_rfl⟩ ?_
              rintro g76 _ _ s75 uu75 e77 ⟨rfl, rfl⟩ hS Qr75 hN75 hD75
              unfold o20_L3 at hS
              refine xSq ?_
              refine xRg ?_
              refine xB 1 [] [(0, vs Al l cl), (1, vi capacity), (7, vs A6 s15.1 c6), (8, vs A8 s15.2.1 c8), (9, vs A9 s15.2.2.1 c9), (10, vi s75.1), (30, vi (((l).length : Nat) : Int)), (31, vi ((s15.2.2.2 : Nat) : Int)), (34, vi (((l).length : Nat) : Int)), (35, vi ((s75.2 : Nat) : Int)), (36, vb (decide (((s75.2 : Nat) : Int) < (((l).length : Nat) : Int))))] ?_
              refine xRe ?_
              refine wpq_then ?_
              refine xSq ?_
              refine xCd (decide (((s75.2 : Nat) : Int) < (((l).length : Nat) : Int))) (fun h78 => ?_) (fun h78 => ?_)
              · have hS := cond_T h78 hS
                have h78p := of_decide_eq_true h78
                refine xSk ?_
                refine wpq_then ?_
                refine xSub [(0, vs Al l cl), (1, vi capacity), (7, vs A6 s15.1 c6), (8, vs A8 s15.2.1 c8), (9, vs A9 s15.2.2.1 c9), (10, vi s75.1), (30, vi (((l).length : Nat) : Int)), (31, vi ((s15.2.2.2 : Nat) : Int)), (34, vi (((l).length : Nat) : Int)), (35, vi ((s75.2 : Nat) : Int))] ?_
                refine xSq ?_
                refine xBl 3 ?_
                refine xSq ?_
                refine xRg ?_
                refine xB 2 [] [(0, vs Al l cl), (1, vi capacity), (7, vs A6 s15.1 c6), (8, vs A8 s15.2.1 c8), (9, vs A9 s15.2.2.1 c9), (10, vi s75.1), (11, vi ((s75.2 : Nat) : Int)), (30, vi (((l).length : Nat) : Int)), (31, vi ((s15.2.2.2 : Nat) : Int)), (34, vi (((l).length : Nat) : Int)), (35, vi ((s75.2 : Nat) : Int))] ?_
                refine xRe ?_
                refine wpq_then ?_
                refine xSq ?_
                refine xDr 0 [3, 12, 16] [] [k15_2] 20 (fun RG => ?_) (fun _ _ _ _ _ h => h)
                have h15_2 := h15_2.mono e77.b
                obtain ⟨q80, hS⟩ := grd_T hS
                have q80p := of_decide_eq_true q80
                obtain ⟨kc79, cs79, hA79, hk79, hr79, hw79⟩ := h15_2.open_ q80p false
                obtain ⟨kb79, rfl⟩ : ∃ z, z = kc79 := ⟨_, rfl⟩
                subst hk79
                have hr79 : cs79 = [vb (List.getD s15.2.2.1 s75.2 false)] := hr79
                subst hr79
                refine xT 18 [0, 1] [] [some 2] [(0, vs Al l cl), (1, vi capacity), (7, vs A6 s15.1 c6), (8, vs A8 s15.2.1 c8), (9, vs A9 s15.2.2.1 c9), (10, vi s75.1), (11, vi ((s75.2 : Nat) : Int)), (30, vi (((l).length : Nat) : Int)), (31, vi ((s15.2.2.2 : Nat) : Int)), (34, vi (((l).length : Nat) : Int)), (35, vi ((s75.2 : Nat) : Int)), (38, vs A9 s15.2.2.1 c9), (39, vi ((s75.2 : Nat) : Int))] RG (Psi.le.refl _) ?_
                refine xTp 2 RG (fun _ => (qIxB s75.2 1 kb79.g hA79 rfl q80p)) ?_
                refine xTv 3 [some 2] RG (Psi.le.refl _) (qLdB s75.2 1 0 0 hw79) ?_
                refine xT 14 [4, 5] [] [some 2] [(0, vs Al l cl), (1, vi capacity), (7, vs A6 s15.1 c6), (8, vs A8 s15.2.1 c8), (9, vs A9 s15.2.2.1 c9), (10, vi s75.1), (11, vi ((s75.2 : Nat) : Int)), (30, vi (((l).length : Nat) : Int)), (31, vi ((s15.2.2.2 : Nat) : Int)), (34, vi (((l).length : Nat) : Int)), (35, vi ((s75.2 : Nat) : Int)), (43, vb (!(List.getD s15.2.2.1 s75.2 false)))] RG (Psi.le.refl _) ?_
                refine xGJoA hS 0 [true, true, true, true, true, true, true, true, true, true, true, true, true, true, true, true, true, true, true, true] (fun g own sl t81 => own = [k15_0, k15_1, (some kb79)] ∧ sl = [(0, vs Al l cl), (1, vi capacity), (7, vs A6 s15.1 c6), (8, vs A8 s15.2.1 c8), (9, vs A9 s15.2.2.1 c9), (10, vi s75.1), (11, vi ((s75.2 : Nat) : Int)), (30, vi (((l).length : Nat) : Int)), (31, vi ((s15.2.2.2 : Nat) : Int)), (34, vi (((l).length : Nat) : Int)), (35, vi ((s75.2 : Nat) : Int)), (57, vb t81)]) ?_ ?_
                · rintro g82 _ _ t81 e83 ⟨rfl, rfl⟩ hS
                  refine xAe (lds := [3, 12, 16]) ?_
                  refine wpq_then ?_
                  refine xLetJ hS (fun g own sl t84 => own = [k15_0, k15_1, (some kb79)] ∧ sl = [(0, vs Al l cl), (1, vi capacity), (7, vs A6 s15.1 c6), (8, vs A8 s15.2.1 c8), (9, vs A9 s15.2.2.1 c9), (10, vi t84), (30, vi (((l).length : Nat) : Int)), (31, vi ((s15.2.2.2 : Nat) : Int)), (34, vi (((l).length : Nat) : Int)), (35, vi ((s75.2 : Nat) : Int))]) ?_ ?_
                  · rintro g85 _ _ t84 e86 ⟨rfl, rfl⟩ hS
                    refine wpq_blockN ?_
                    refine wpq_then ?_
                    refine xRg ?_
                    obtain ⟨q87, hS⟩ := grd_T hS
                    have q87p := of_decide_eq_true q87
                    refine xV (qAdd .i64 (((s75.2 : Nat) : Int)) (1) (wr64 (by omega))) ?_
                    refine xB 1 [] [(0, vs Al l cl), (1, vi capacity), (7, vs A6 s15.1 c6), (8, vs A8 s15.2.1 c8), (9, vs A9 s15.2.2.1 c9), (10, vi t84), (30, vi (((l).length : Nat) : Int)), (31, vi ((s15.2.2.2 : Nat) : Int)), (34, vi (((l).length : Nat) : Int)), (35, vi (((s75.2 : Nat) : Int) + 1))] ?_
                    refine xRe ?_
                    refine wpq_thenN ?_
                    refine xSub [(0, vs Al l cl), (1, vi capacity), (7, vs A6 s15.1 c6), (8, vs A8 s15.2.1 c8), (9, vs A9 s15.2.2.1 c9), (10, vi t84), (30, vi (((l).length : Nat) : Int)), (31, vi ((s15.2.2.2 : Nat) : Int)), (34, vi (((l).length : Nat) : Int)), (35, vi (((s75.2 : Nat) : Int) + 1))] ?_
                    have eS := (Option.some.inj hS).symm
                    exact hN75 _ eS _ _ _ (e83.trans e86) ⟨by kernel_rfl, by kernel_rfl⟩
                  · intro uu84 hS hN84
                    refine xCd (t81) (fun h88 => ?_) (fun h88 => ?_)
                    · have hS := cond_T h88 hS
                      refine xRg ?_
                      refine xB 2 [] [(0, vs Al l cl), (1, vi capacity), (7, vs A6 s15.1 c6), (8, vs A8 s15.2.1 c8), (9, vs A9 s15.2.2.1 c9), (10, vi ((s75.2 : Nat) : Int)), (30, vi (((l).length : Nat) : Int)), (31, vi ((s15.2.2.2 : Nat) : Int)), (34, vi (((l).length : Nat) : Int)), (35, vi ((s75.2 : Nat) : Int))] ?_
                      refine xRe ?_
                      refine xSub [(0, vs Al l cl), (1, vi capacity), (7, vs A6 s15.1 c6), (8, vs A8 s15.2.1 c8), (9, vs A9 s15.2.2.1 c9), (10, vi ((s75.2 : Nat) : Int)), (30, vi (((l).length : Nat) : Int)), (31, vi ((s15.2.2.2 : Nat) : Int)), (34, vi (((l).length : Nat) : Int)), (35, vi ((s75.2 : Nat) : Int))] ?_
                      have eS := hS.symm
                      exact hN84 _ eS _ _ _ (Gh.le.refl _) ⟨by kernel_rfl, by kernel_rfl⟩
                    · have hS := cond_F h88 hS
                      refine xSk ?_
                      refine xSub [(0, vs Al l cl), (1, vi capacity), (7, vs A6 s15.1 c6), (8, vs A8 s15.2.1 c8), (9, vs A9 s15.2.2.1 c9), (10, vi s75.1), (30, vi (((l).length : Nat) : Int)), (31, vi ((s15.2.2.2 : Nat) : Int)), (34, vi (((l).length : Nat) : Int)), (35, vi ((s75.2 : Nat) : Int))] ?_
                      have eS := hS.symm
                      exact hN84 _ eS _ _ _ (Gh.le.refl _) ⟨by kernel_rfl, by kernel_rfl⟩
                · intro uu81 hS hN81
                  refine wpq_split 43 (b := (!(List.getD s15.2.2.1 s75.2 false))) (by kernel_rfl) (fun q89 => ?_) (fun q89 => ?_)
                  · have hS := cond_T q89 hS
                    have q89n := not_eq_true_ q89
                    refine xT 11 [6, 7, 8] [] [some 2] [(0, vs Al l cl), (1, vi capacity), (7, vs A6 s15.1 c6), (8, vs A8 s15.2.1 c8), (9, vs A9 s15.2.2.1 c9), (10, vi s75.1), (11, vi ((s75.2 : Nat) : Int)), (30, vi (((l).length : Nat) : Int)), (31, vi ((s15.2.2.2 : Nat) : Int)), (34, vi (((l).length : Nat) : Int)), (35, vi ((s75.2 : Nat) : Int)), (43, vb true), (46, vb (decide (s75.1 < 0)))] RG (Psi.le.refl _) ?_
                    refine xGJoA hS 1 [true, true, true, true, true, true, true, true, true, true, true, true, true, true, true, true, true, true, true, false] (fun g own sl t90 => own = [k15_0, k15_1, (some kb79)] ∧ sl = [(0, vs Al l cl), (1, vi capacity), (7, vs A6 s15.1 c6), (8, vs A8 s15.2.1 c8), (9, vs A9 s15.2.2.1 c9), (10, vi s75.1), (11, vi ((s75.2 : Nat) : Int)), (30, vi (((l).length : Nat) : Int)), (31, vi ((s15.2.2.2 : Nat) : Int)), (34, vi (((l).length : Nat) : Int)), (35, vi ((s75.2 : Nat) : Int)), (43, vb true), (56, vb t90)]) ?_ ?_
                    · rintro g91 _ _ t90 e92 ⟨rfl, rfl⟩ hS
                      refine xT 0 [19] [] [some 2] [(0, vs Al l cl), (1, vi capacity), (7, vs A6 s15.1 c6), (8, vs A8 s15.2.1 c8), (9, vs A9 s15.2.2.1 c9), (10, vi s75.1), (11, vi ((s75.2 : Nat) : Int)), (30, vi (((l).length : Nat) : Int)), (31, vi ((s15.2.2.2 : Nat) : Int)), (34, vi (((l).length : Nat) : Int)), (35, vi ((s75.2 : Nat) : Int)), (57, vb t90)] RG e92.r ?_
                      refine xSub [(0, vs Al l cl), (1, vi capacity), (7, vs A6 s15.1 c6), (8, vs A8 s15.2.1 c8), (9, vs A9 s15.2.2.1 c9), (10, vi s75.1), (11, vi ((s75.2 : Nat) : Int)), (30, vi (((l).length : Nat) : Int)), (31, vi ((s15.2.2.2 : Nat) : Int)), (34, vi (((l).length : Nat) : Int)), (35, vi ((s75.2 : Nat) : Int)), (57, vb t90)] ?_
                      exact hN81 _ (Option.some.inj hS).symm _ _ _ e92 ⟨by kernel_rfl, by kernel_rfl⟩
                    · intro uu90 hS hN90
                      refine wpq_split 46 (b := decide (s75.1 < 0)) (by kernel_rfl) (fun q93 => ?_) (fun q93 => ?_)
                      · have hS := cond_T q93 hS
                        have q93p := of_decide_eq_true q93
                        refine xT 3 [9, 10, 11, 12, 13, 14, 15, 16] [] [some 2] [(0, vs Al l cl), (1, vi capacity), (7, vs A6 s15.1 c6), (8, vs A8 s15.2.1 c8), (9, vs A9 s15.2.2.1 c9), (10, vi s75.1), (11, vi ((s75.2 : Nat) : Int)), (30, vi (((l).length : Nat) : Int)), (31, vi ((s15.2.2.2 : Nat) : Int)), (34, vi (((l).length : Nat) : Int)), (35, vi ((s75.2 : Nat) : Int)), (43, vb true), (46, vb true), (50, undef), (54, undef)] RG (Psi.le.refl _) ?_
                        refine xO1 (lds := [3, 12, 16]) 17 ?_
                        refine xIb (lds := [3, 12, 16]) [] ?_
                        refine xT 1 [18] [] [some 2] [(0, vs Al l cl), (1, vi capacity), (7, vs A6 s15.1 c6), (8, vs A8 s15.2.1 c8), (9, vs A9 s15.2.2.1 c9), (10, vi s75.1), (11, vi ((s75.2 : Nat) : Int)), (30, vi (((l).length : Nat) : Int)), (31, vi ((s15.2.2.2 : Nat) : Int)), (34, vi (((l).length : Nat) : Int)), (35, vi ((s75.2 : Nat) : Int)), (43, vb true), (56, vb true)] RG (Psi.le.refl _) ?_
                        refine xSub [(0, vs Al l cl), (1, vi capacity), (7, vs A6 s15.1 c6), (8, vs A8 s15.2.1 c8), (9, vs A9 s15.2.2.1 c9), (10, vi s75.1), (11, vi ((s75.2 : Nat) : Int)), (30, vi (((l).length : Nat) : Int)), (31, vi ((s15.2.2.2 : Nat) : Int)), (34, vi (((l).length : Nat) : Int)), (35, vi ((s75.2 : Nat) : Int)), (43, vb true), (56, vb true)] ?_
                        exact hN90 _ (Option.some.inj hS).symm _ _ _ (Gh.le.refl _) ⟨by kernel_rfl, by kernel_rfl⟩
                      · have hS := cond_F q93 hS
                        have q93p := of_decide_eq_false q93
                        have fl := fl.mono (e3.trans (e17.trans e77)).r
                        have i95 : s75.2 < (l).length := by omega
                        obtain ⟨ad94, cs94, hA94, hr94, hc94⟩ := fl.at_ (get_getD (d := default) i95)
                        obtain ⟨rfl⟩ := hr94
                        refine xT 9 [9, 10] [] [some 2] [(0, vs Al l cl), (1, vi capacity), (7, vs A6 s15.1 c6), (8, vs A8 s15.2.1 c8), (9, vs A9 s15.2.2.1 c9), (10, vi s75.1), (11, vi ((s75.2 : Nat) : Int)), (30, vi (((l).length : Nat) : Int)), (31, vi ((s15.2.2.2 : Nat) : Int)), (34, vi (((l).length : Nat) : Int)), (35, vi ((s75.2 : Nat) : Int)), (43, vb true), (46, vb false), (47, vs Al l cl), (48, vi ((s75.2 : Nat) : Int))] RG (Psi.le.refl _) ?_
                        refine xTp 11 RG (fun _ => (qIx s75.2 3 hA94 rfl i95)) ?_
                        refine xTv 12 [some 2] RG (Psi.le.refl _) (qLdP (Addr.add ad94 (s75.2 * 3)) 0 hc94) ?_
                        obtain ⟨q97, hS⟩ := grd_T hS
                        have q97p := of_decide_eq_true q97
                        have i98 : (s75.1).toNat < (l).length := by omega
                        obtain ⟨ad96, cs96, hA96, hr96, hc96⟩ := fl.at_ (get_getD (d := default) i98)
                        obtain ⟨rfl⟩ := hr96
                        refine xT 5 [13, 14] [] [some 2] [(0, vs Al l cl), (1, vi capacity), (7, vs A6 s15.1 c6), (8, vs A8 s15.2.1 c8), (9, vs A9 s15.2.2.1 c9), (10, vi s75.1), (11, vi ((s75.2 : Nat) : Int)), (30, vi (((l).length : Nat) : Int)), (31, vi ((s15.2.2.2 : Nat) : Int)), (34, vi (((l).length : Nat) : Int)), (35, vi ((s75.2 : Nat) : Int)), (43, vb true), (46, vb false), (50, Value.agg #[vy ((List.getD l s75.2 default).label), vi ((List.getD l s75.2 default).period), vi ((List.getD l s75.2 default).length)]), (51, vs Al l cl), (52, vi s75.1)] RG (Psi.le.refl _) ?_
                        refine xTp 15 RG (fun _ => (qIx (s75.1).toNat 3 hA96 (show (s75.1 : Int) = _ from by omega) i98)) ?_
                        refine xTv 16 [some 2] RG (Psi.le.refl _) (qLdP (Addr.add ad96 ((s75.1).toNat * 3)) 0 hc96) ?_
                        obtain ⟨y99, hy99, hS⟩ := letJ_T hS
                        refine xO1 (lds := [3, 12, 16]) 17 ?_
                        refine xIe (lds := [3, 12, 16]) (Psi.le.refl _) (eC 0 (fun g' lr eb ln => c45 g' (List.getD l s75.2 default) (List.getD l (s75.1).toNat default) hy99)) ?_
                        rintro _ g100 _ e101 ⟨_, rfl, rfl, rfl⟩
                        refine kk [some 2] ?_
                        refine xT 1 [18] [] [some 2] [(0, vs Al l cl), (1, vi capacity), (7, vs A6 s15.1 c6), (8, vs A8 s15.2.1 c8), (9, vs A9 s15.2.2.1 c9), (10, vi s75.1), (11, vi ((s75.2 : Nat) : Int)), (30, vi (((l).length : Nat) : Int)), (31, vi ((s15.2.2.2 : Nat) : Int)), (34, vi (((l).length : Nat) : Int)), (35, vi ((s75.2 : Nat) : Int)), (43, vb true), (56, vb y99)] RG e101.r ?_
                        refine xSub [(0, vs Al l cl), (1, vi capacity), (7, vs A6 s15.1 c6), (8, vs A8 s15.2.1 c8), (9, vs A9 s15.2.2.1 c9), (10, vi s75.1), (11, vi ((s75.2 : Nat) : Int)), (30, vi (((l).length : Nat) : Int)), (31, vi ((s15.2.2.2 : Nat) : Int)), (34, vi (((l).length : Nat) : Int)), (35, vi ((s75.2 : Nat) : Int)), (43, vb true), (56, vb y99)] ?_
                        exact hN90 _ (Option.some.inj hS).symm _ _ _ e101 ⟨by kernel_rfl, by kernel_rfl⟩
                  · have hS := cond_F q89 hS
                    have q89n := not_eq_false_ q89
                    refine xT 3 [6, 7, 8, 9, 10, 11, 12, 13, 14, 15, 16] [] [some 2] [(0, vs Al l cl), (1, vi capacity), (7, vs A6 s15.1 c6), (8, vs A8 s15.2.1 c8), (9, vs A9 s15.2.2.1 c9), (10, vi s75.1), (11, vi ((s75.2 : Nat) : Int)), (30, vi (((l).length : Nat) : Int)), (31, vi ((s15.2.2.2 : Nat) : Int)), (34, vi (((l).length : Nat) : Int)), (35, vi ((s75.2 : Nat) : Int)), (43, vb false), (46, undef), (50, undef), (54, undef)] RG (Psi.le.refl _) ?_
                    refine xO1 (lds := [3, 12, 16]) 17 ?_
                    refine xIb (lds := [3, 12, 16]) [] ?_
                    refine xT 0 [18, 19] [] [some 2] [(0, vs Al l cl), (1, vi capacity), (7, vs A6 s15.1 c6), (8, vs A8 s15.2.1 c8), (9, vs A9 s15.2.2.1 c9), (10, vi s75.1), (11, vi ((s75.2 : Nat) : Int)), (30, vi (((l).length : Nat) : Int)), (31, vi ((s15.2.2.2 : Nat) : Int)), (34, vi (((l).length : Nat) : Int)), (35, vi ((s75.2 : Nat) : Int)), (57, vb false)] RG (Psi.le.refl _) ?_
                    refine xSub [(0, vs Al l cl), (1, vi capacity), (7, vs A6 s15.1 c6), (8, vs A8 s15.2.1 c8), (9, vs A9 s15.2.2.1 c9), (10, vi s75.1), (11, vi ((s75.2 : Nat) : Int)), (30, vi (((l).length : Nat) : Int)), (31, vi ((s15.2.2.2 : Nat) : Int)), (34, vi (((l).length : Nat) : Int)), (35, vi ((s75.2 : Nat) : Int)), (57, vb false)] ?_
                    exact hN81 _ (Option.some.inj hS).symm _ _ _ (Gh.le.refl _) ⟨by kernel_rfl, by kernel_rfl⟩
              · have hS := cond_F h78 hS
                have h78p := of_decide_eq_false h78
                refine xEx 2 ?_
                refine wpq_thenX ?_
                refine wpq_thenX ?_
                refine wpq_blockE ?_
                refine xSub [(0, vs Al l cl), (1, vi capacity), (7, vs A6 s15.1 c6), (8, vs A8 s15.2.1 c8), (9, vs A9 s15.2.2.1 c9), (10, vi s75.1), (30, vi (((l).length : Nat) : Int)), (31, vi ((s15.2.2.2 : Nat) : Int))] ?_
                have eS := (Option.some.inj hS).symm
                have eS := (hD75 _ eS).symm
                exact hN23 _ eS _ _ _ e77 ⟨by kernel_rfl, by kernel_rfl⟩
        · have hS := cond_F h18 hS
          have h18p := of_decide_eq_false h18
          refine xEx 0 ?_
          refine wpq_thenX ?_
          refine wpq_thenX ?_
          refine wpq_blockE ?_
          refine xSel [some 1] ?_
          refine xSub [(8, vs A8 s15.2.1 c8)] ?_
          have eS := (Option.some.inj hS).symm
          have eS := (hD15 _ eS).symm
          exact hN10 _ eS _ _ _ e17 ⟨k15_1, by kernel_rfl, by kernel_rfl, h15_1⟩

def o5_L0 (y6 : (List Slot) × Int) (y12 : (List Slot) × Int) (s22 : Nat) : Option (Ctl (Nat) (Ctl (Unit) (Bool))) :=
  (cond (decide (((s22 : Nat) : Int) < (((y6.1).length : Nat) : Int))) (grd (decide (s22 < (y12.1).length)) (bindO (τ := Bool) (cond (((List.getD y6.1 s22 default).label != (List.getD y12.1 s22 default).label)) (some (true)) (grd (decide (s22 < (y12.1).length)) (some ((List.getD y6.1 s22 default).offset != (List.getD y12.1 s22 default).offset)))) fun t30 => (cond (t30) (some (Ctl.done (Ctl.done ((false))))) (grd (decide (((s22 : Nat) : Int) + 1 ≤ 9223372036854775807)) (some (Ctl.go (s22 + 1))))))) (some (Ctl.done (Ctl.go ()))))
def o5 (l : List Msg) (capacity : Int) : Option (Bool) :=
  (bindO (τ := Bool) (o12) fun y1 => (cond ((!y1)) (some ((false))) (bindO (τ := (List Slot) × Int) (o19 ((List.take ((minI (((l).length : Nat) : Int) 34)).toNat l) : List Msg) (capacity : Int)) fun y6 => (bindO (τ := (List Msg)) (o21 ((List.take ((minI (((l).length : Nat) : Int) 34)).toNat l) : List Msg)) fun y9 => (bindO (τ := (List Slot) × Int) (o20 (y9 : List Msg) (capacity : Int)) fun y12 => (cond (((y6.2 != y12.2) || ((((y6.1).length : Nat) : Int) != (((y12.1).length : Nat) : Int)))) (some ((false))) (joinO (τ := Unit) (ρ := Bool) (loopO (σ := Nat) (ρ := Ctl (Unit) (Bool)) fuelN (o5_L0 y6 y12) (0)) fun t17 => (some ((true))))))))))
set_option maxRecDepth 100000 in
theorem c5 (g : Gh) (l : List Msg) (Al : Option Addr) (cl : Nat) (capacity : Int) (fl : Arr g.b tyMsg Al cl l) {r : Bool} (hS : o5 l capacity = some r) :
    Ctr Try.prog 5 [vs Al l cl, vi capacity] g [] (fun v ψ o => v = vb r ∧ o = []) := by
  unfold o5 at hS
  refine xFn Try.f5 (Try.f5.body.getD .skip) 70 ?_
  have nfl := fl.len
  refine xSq ?_
  refine xRg ?_
  refine xB 1 [] [(0, vs Al l cl), (1, vi capacity)] ?_
  refine xRe ?_
  refine wpq_then ?_
  refine xSq ?_
  refine xSq ?_
  refine xRg ?_
  obtain ⟨y1, hy1, hS⟩ := bindO_T hS
  refine xE (eC 0 (fun g' lr eb ln => c12 g'  hy1)) ?_
  rintro _ g2 _ e3 ⟨_, rfl, rfl, rfl⟩
  refine xB 1 [] [(0, vs Al l cl), (1, vi capacity), (11, vb (!y1))] ?_
  refine xRe ?_
  refine wpq_then ?_
  refine xCd ((!y1)) (fun h4 => ?_) (fun h4 => ?_)
  · have hS := cond_T h4 hS
    have h4n := not_eq_true_ h4
    refine xSq ?_
    refine xRg ?_
    refine xB 1 [] [(4, vb false)] ?_
    refine xRe ?_
    refine wpq_then ?_
    have eS := (Option.some.inj hS).symm
    subst eS
    exact xRet [] [4] e3 ⟨by kernel_rfl, by kernel_rfl⟩ (fun _ _ h => h)
  · have hS := cond_F h4 hS
    have h4n := not_eq_false_ h4
    refine xSk ?_
    refine wpq_then ?_
    refine xSub [(0, vs Al l cl), (1, vi capacity)] ?_
    refine xSq ?_
    refine xRg ?_
    have z1 := minI_spec (((l).length : Nat) : Int) 34
    have fl := fl.mono e3.b
    have ncapf5 := fl.cap
    have f5 : Arr g2.b tyMsg (offA Al cl 0 3) (cl - 0) (List.take ((minI (((l).length : Nat) : Int) 34)).toNat l) := fl.cut_to ((minI (((l).length : Nat) : Int) 34)).toNat (by omega)
    have nf5 := f5.len
    have hlf5 : ((minI (((l).length : Nat) : Int) 34)).toNat - 0 = ((List.take ((minI (((l).length : Nat) : Int) 34)).toNat l)).length := by simp only [List.length_take, List.length_drop] <;> omega
    have hvf5 : ((((List.take ((minI (((l).length : Nat) : Int) 34)).toNat l)).length : Nat) : Int) = (minI (((l).length : Nat) : Int) 34) - 0 := by omega
    refine xB 4 [] [(0, vs Al l cl), (1, vi capacity), (12, vs Al l cl), (15, vi (minI (((l).length : Nat) : Int) 34))] ?_
    refine xV (qSl (m := 3) (A := Al) (len := (l).length) (c := cl) 0 ((minI (((l).length : Nat) : Int) 34)).toNat none (some (minI (((l).length : Nat) : Int) 34)) ((List.take ((minI (((l).length : Nat) : Int) 34)).toNat l)).length rfl (show _ = _ by omega) (by omega) (by omega) hlf5) ?_
    refine xB 1 [] [(0, vs (offA Al cl 0 3) (List.take ((minI (((l).length : Nat) : Int) 34)).toNat l) (cl - 0)), (1, vi capacity)] ?_
    refine xRe ?_
    refine wpq_then ?_
    refine xSq ?_
    refine xRg ?_
    refine xB 2 [] [(0, vs (offA Al cl 0 3) (List.take ((minI (((l).length : Nat) : Int) 34)).toNat l) (cl - 0)), (1, vi capacity), (18, vs (offA Al cl 0 3) (List.take ((minI (((l).length : Nat) : Int) 34)).toNat l) (cl - 0)), (19, vi capacity)] ?_
    obtain ⟨y6, hy6, hS⟩ := bindO_T hS
    refine xE (eC 0 (fun g' lr eb ln => c19 g' ((List.take ((minI (((l).length : Nat) : Int) 34)).toNat l) : List Msg) (offA Al cl 0 3) (cl - 0) (capacity : Int) (ArrM.lent (f5.toM g2.br) lr eb) hy6)) ?_
    rintro _ g7 _ e8 ⟨_, rfl, A6_0, c6_0, k6_0, rfl, rfl, h6_0⟩
    have nh6_0 := h6_0.len
    refine xB 5 [] [(0, vs (offA Al cl 0 3) (List.take ((minI (((l).length : Nat) : Int) 34)).toNat l) (cl - 0)), (1, vi capacity), (5, vs A6_0 y6.1 c6_0), (6, vi y6.2)] ?_
    refine xRe ?_
    refine wpq_then ?_
    refine xSq ?_
    refine xRg ?_
    refine xB 1 [] [(1, vi capacity), (5, vs A6_0 y6.1 c6_0), (6, vi y6.2), (24, vs (offA Al cl 0 3) (List.take ((minI (((l).length : Nat) : Int) 34)).toNat l) (cl - 0))] ?_
    have f5 := f5.mono e8.b
    obtain ⟨y9, hy9, hS⟩ := bindO_T hS
    refine xE (eC 0 (fun g' lr eb ln => c21 g' ((List.take ((minI (((l).length : Nat) : Int) 34)).toNat l) : List Msg) (offA Al cl 0 3) (cl - 0) ((f5.mono g7.br).mono lr) hy9)) ?_
    rintro _ g10 _ e11 ⟨_, rfl, A9_0, c9_0, k9_0, rfl, rfl, h9_0⟩
    have nh9_0 := h9_0.len
    refine xB 1 [] [(5, vs A6_0 y6.1 c6_0), (6, vi y6.2), (25, vs A9_0 y9 c9_0), (26, vi capacity)] ?_
    obtain ⟨y12, hy12, hS⟩ := bindO_T hS
    refine xE (eC 0 (fun g' lr eb ln => c20 g' (y9 : List Msg) A9_0 c9_0 (capacity : Int) (arr_of_buf h9_0 (Psi.le_b eb) (lentk 0 (by kernel_rfl) ln)) hy12)) ?_
    rintro _ g13 _ e14 ⟨_, rfl, A12_0, c12_0, k12_0, rfl, rfl, h12_0⟩
    have nh12_0 := h12_0.len
    refine xB 5 [] [(5, vs A6_0 y6.1 c6_0), (6, vi y6.2), (7, vs A12_0 y12.1 c12_0), (8, vi y12.2)] ?_
    refine xRe ?_
    refine wpq_then ?_
    refine xSq ?_
    refine xSq ?_
    refine xRg ?_
    refine xB 4 [] [(5, vs A6_0 y6.1 c6_0), (7, vs A12_0 y12.1 c12_0), (33, vb (y6.2 != y12.2))] ?_
    refine wpr_grp 10 [(5, vs A6_0 y6.1 c6_0), (7, vs A12_0 y12.1 c12_0), (39, vb ((y6.2 != y12.2) || ((((y6.1).length : Nat) : Int) != (((y12.1).length : Nat) : Int))))] (fun hk3 => ?_) ?_
    · refine wpq_split 33 (b := (y6.2 != y12.2)) (by kernel_rfl) (fun q15 => ?_) (fun q15 => ?_)
      · have q15p : ¬ (y6.2 = y12.2) := ne_of_bne_ q15
        refine xB 6 [] [(5, vs A6_0 y6.1 c6_0), (7, vs A12_0 y12.1 c12_0), (39, vb true)] ?_
        refine wpq_re 39 (v := vb true) (Value.bool (((y6.2 != y12.2) || ((((y6.1).length : Nat) : Int) != (((y12.1).length : Nat) : Int))))) (by kernel_rfl) (re_or1 q15) ?_
        exact wpq_sub _ (by kernel_rfl) hk3
      · have q15p : y6.2 = y12.2 := eq_of_bne_false_ q15
        refine xB 6 [] [(5, vs A6_0 y6.1 c6_0), (7, vs A12_0 y12.1 c12_0), (39, vb ((((y6.1).length : Nat) : Int) != (((y12.1).length : Nat) : Int)))] ?_
        refine wpq_re 39 (v := vb ((((y6.1).length : Nat) : Int) != (((y12.1).length : Nat) : Int))) (Value.bool (((y6.2 != y12.2) || ((((y6.1).length : Nat) : Int) != (((y12.1).length : Nat) : Int))))) (by kernel_rfl) (re_or0 q15) ?_
        exact wpq_sub _ (by kernel_rfl) hk3
    · refine xRe ?_
      refine wpq_then ?_
      refine xCd (((y6.2 != y12.2) || ((((y6.1).length : Nat) : Int) != (((y12.1).length : Nat) : Int)))) (fun h16 => ?_) (fun h16 => ?_)
      · have hS := cond_T h16 hS
        refine xSq ?_
        refine xRg ?_
        refine xB 1 [] [(4, vb false)] ?_
        refine xRe ?_
        refine wpq_then ?_
        have eS := (Option.some.inj hS).symm
        subst eS
        exact xRet [] [4] (e3.trans (e8.trans (e11.trans e14))) ⟨by kernel_rfl, by kernel_rfl⟩ (fun _ _ h => h)
      · have hS := cond_F h16 hS
        have h16l := (or_false_ h16).1
        have h16r := (or_false_ h16).2
        have h16lp : y6.2 = y12.2 := eq_of_bne_false_ h16l
        have h16rp : (((y6.1).length : Nat) : Int) = (((y12.1).length : Nat) : Int) := eq_of_bne_false_ h16r
        refine xSk ?_
        refine wpq_then ?_
        refine xSub [(5, vs A6_0 y6.1 c6_0), (7, vs A12_0 y12.1 c12_0)] ?_
        refine xSq ?_
        refine xSq ?_
        refine xRg ?_
        refine xB 3 [] [(5, vs A6_0 y6.1 c6_0), (7, vs A12_0 y12.1 c12_0), (41, vi (((y6.1).length : Nat) : Int)), (42, vi 0)] ?_
        refine xRe ?_
        refine wpq_then ?_
        refine xJoinO hS (fun g own sl t17 => own = [] ∧ sl = []) ?_ ?_
        · rintro g18 _ _ t17 e19 ⟨rfl, rfl⟩ hS
          refine wpq_then ?_
          refine xSq ?_
          refine xRg ?_
          refine xB 1 [] [(4, vb true)] ?_
          refine xRe ?_
          refine wpq_then ?_
          have eS := (Option.some.inj hS).symm
          subst eS
          exact xRet [] [4] (e3.trans (e8.trans (e11.trans (e14.trans e19)))) ⟨by kernel_rfl, by kernel_rfl⟩ (fun _ _ h => h)
        · intro uu17 hS hN17 hD17
          refine xBl 0 ?_
          refine xSel [some 2, some 0] ?_
          refine xSub [(5, vs A6_0 y6.1 c6_0), (7, vs A12_0 y12.1 c12_0), (41, vi (((y6.1).length : Nat) : Int)), (42, vi 0)] ?_
          refine xLo hS (fun g own sl s22 => own = [k6_0, k12_0] ∧ sl = [(5, vs A6_0 y6.1 c6_0), (7, vs A12_0 y12.1 c12_0), (41, vi (((y6.1).length : Nat) : Int)), (42, vi ((s22 : Nat) : Int))]) ⟨by kernel_rfl, by kernel_rfl⟩ ?_
          rintro g23 _ _ s22 uu22 e24 ⟨rfl, rfl⟩ hS Qr22 hN22 hD22
          unfold o5_L0 at hS
          refine xSq ?_
          refine xRg ?_
          refine xB 1 [] [(5, vs A6_0 y6.1 c6_0), (7, vs A12_0 y12.1 c12_0), (41, vi (((y6.1).length : Nat) : Int)), (42, vi ((s22 : Nat) : Int)), (43, vb (decide (((s22 : Nat) : Int) < (((y6.1).length : Nat) : Int))))] ?_
          refine xRe ?_
          refine wpq_then ?_
          refine xSq ?_
          refine xCd (decide (((s22 : Nat) : Int) < (((y6.1).length : Nat) : Int))) (fun h25 => ?_) (fun h25 => ?_)
          · have hS := cond_T h25 hS
            have h25p := of_decide_eq_true h25
            refine xSk ?_
            refine wpq_then ?_
            refine xSub [(5, vs A6_0 y6.1 c6_0), (7, vs A12_0 y12.1 c12_0), (41, vi (((y6.1).length : Nat) : Int)), (42, vi ((s22 : Nat) : Int))] ?_
            refine xSq ?_
            refine xBl 1 ?_
            refine xSq ?_
            refine xRg ?_
            refine xB 2 [] [(5, vs A6_0 y6.1 c6_0), (7, vs A12_0 y12.1 c12_0), (9, vi ((s22 : Nat) : Int)), (41, vi (((y6.1).length : Nat) : Int)), (42, vi ((s22 : Nat) : Int))] ?_
            refine xRe ?_
            refine wpq_then ?_
            refine xSq ?_
            refine xDr 0 [4, 9, 16, 21] [] [k6_0, k12_0] 24 (fun RG => ?_) (fun _ _ _ _ _ h => h)
            have h6_0 := h6_0.mono (e11.trans (e14.trans e24)).b
            have i27 : s22 < (y6.1).length := by omega
            obtain ⟨kc26, cs26, hA26, hk26, hr26, hw26⟩ := h6_0.open_ i27 default
            obtain ⟨kb26, rfl⟩ : ∃ z, z = kc26 := ⟨_, rfl⟩
            subst hk26
            obtain ⟨rfl⟩ := hr26
            refine xT 22 [0, 1] [] [some 0, some 1] [(5, vs A6_0 y6.1 c6_0), (7, vs A12_0 y12.1 c12_0), (9, vi ((s22 : Nat) : Int)), (41, vi (((y6.1).length : Nat) : Int)), (42, vi ((s22 : Nat) : Int)), (45, vs A6_0 y6.1 c6_0), (46, vi ((s22 : Nat) : Int))] RG (Psi.le.refl _) ?_
            refine xTp 2 RG (fun _ => (qIxB s22 2 kb26.g hA26 rfl i27)) ?_
            refine xT 20 [3] [] [some 0, some 1] [(5, vs A6_0 y6.1 c6_0), (7, vs A12_0 y12.1 c12_0), (9, vi ((s22 : Nat) : Int)), (41, vi (((y6.1).length : Nat) : Int)), (42, vi ((s22 : Nat) : Int)), (48, Value.pointer (some ⟨kb26.g, s22 * 2 + 0, none⟩))] RG (Psi.le.refl _) ?_
            refine xTv 4 [some 0, some 1] RG (Psi.le.refl _) (qLdB s22 2 0 0 hw26) ?_
            have h12_0 := h12_0.mono e24.b
            obtain ⟨q29, hS⟩ := grd_T hS
            have q29p := of_decide_eq_true q29
            obtain ⟨kc28, cs28, hA28, hk28, hr28, hw28⟩ := h12_0.open_ q29p default
            obtain ⟨kb28, rfl⟩ : ∃ z, z = kc28 := ⟨_, rfl⟩
            subst hk28
            obtain ⟨rfl⟩ := hr28
            refine xT 17 [5, 6] [] [some 0, some 1] [(5, vs A6_0 y6.1 c6_0), (7, vs A12_0 y12.1 c12_0), (9, vi ((s22 : Nat) : Int)), (41, vi (((y6.1).length : Nat) : Int)), (42, vi ((s22 : Nat) : Int)), (49, vy ((List.getD y6.1 s22 default).label)), (50, vs A12_0 y12.1 c12_0), (51, vi ((s22 : Nat) : Int))] RG (Psi.le.refl _) ?_
            refine xTp 7 RG (fun _ => (qIxB s22 2 kb28.g hA28 rfl q29p)) ?_
            refine xT 15 [8] [] [some 0, some 1] [(5, vs A6_0 y6.1 c6_0), (7, vs A12_0 y12.1 c12_0), (9, vi ((s22 : Nat) : Int)), (41, vi (((y6.1).length : Nat) : Int)), (42, vi ((s22 : Nat) : Int)), (49, vy ((List.getD y6.1 s22 default).label)), (53, Value.pointer (some ⟨kb28.g, s22 * 2 + 0, none⟩))] RG (Psi.le.refl _) ?_
            refine xTv 9 [some 0, some 1] RG (Psi.le.refl _) (qLdB s22 2 0 1 hw28) ?_
            refine xT 12 [10, 11] [] [some 0, some 1] [(5, vs A6_0 y6.1 c6_0), (7, vs A12_0 y12.1 c12_0), (9, vi ((s22 : Nat) : Int)), (41, vi (((y6.1).length : Nat) : Int)), (42, vi ((s22 : Nat) : Int)), (56, vb ((List.getD y6.1 s22 default).label != (List.getD y12.1 s22 default).label))] RG (Psi.le.refl _) ?_
            refine xGJoA hS 0 [true, true, true, true, true, true, true, true, true, true, true, true, true, true, true, true, true, true, true, true, true, true, true, true] (fun g own sl t30 => own = [(some kb26), (some kb28)] ∧ sl = [(5, vs A6_0 y6.1 c6_0), (7, vs A12_0 y12.1 c12_0), (41, vi (((y6.1).length : Nat) : Int)), (42, vi ((s22 : Nat) : Int)), (68, vb t30)]) ?_ ?_
            · rintro g31 _ _ t30 e32 ⟨rfl, rfl⟩ hS
              refine xAe (lds := [4, 9, 16, 21]) ?_
              refine wpq_then ?_
              refine xCd (t30) (fun h33 => ?_) (fun h33 => ?_)
              · have hS := cond_T h33 hS
                refine xSq ?_
                refine xRg ?_
                refine xB 1 [] [(4, vb false)] ?_
                refine xRe ?_
                refine wpq_then ?_
                have eS := (Option.some.inj hS).symm
                have eS := (hD22 _ eS).symm
                have eS := (hD17 _ eS).symm
                subst eS
                exact xRet [] [4] (e3.trans (e8.trans (e11.trans (e14.trans (e24.trans e32))))) ⟨by kernel_rfl, by kernel_rfl⟩ (fun _ _ h => h)
              · have hS := cond_F h33 hS
                refine xSk ?_
                refine wpq_blockN ?_
                refine wpq_then ?_
                refine xSub [(5, vs A6_0 y6.1 c6_0), (7, vs A12_0 y12.1 c12_0), (41, vi (((y6.1).length : Nat) : Int)), (42, vi ((s22 : Nat) : Int))] ?_
                refine xRg ?_
                obtain ⟨q34, hS⟩ := grd_T hS
                have q34p := of_decide_eq_true q34
                refine xV (qAdd .i64 (((s22 : Nat) : Int)) (1) (wr64 (by omega))) ?_
                refine xB 1 [] [(5, vs A6_0 y6.1 c6_0), (7, vs A12_0 y12.1 c12_0), (41, vi (((y6.1).length : Nat) : Int)), (42, vi (((s22 : Nat) : Int) + 1))] ?_
                refine xRe ?_
                refine wpq_thenN ?_
                refine xSub [(5, vs A6_0 y6.1 c6_0), (7, vs A12_0 y12.1 c12_0), (41, vi (((y6.1).length : Nat) : Int)), (42, vi (((s22 : Nat) : Int) + 1))] ?_
                have eS := (Option.some.inj hS).symm
                exact hN22 _ eS _ _ _ e32 ⟨by kernel_rfl, by kernel_rfl⟩
            · intro uu30 hS hN30
              refine wpq_split 56 (b := ((List.getD y6.1 s22 default).label != (List.getD y12.1 s22 default).label)) (by kernel_rfl) (fun q35 => ?_) (fun q35 => ?_)
              · have hS := cond_T q35 hS
                have q35p : ¬ ((List.getD y6.1 s22 default).label = (List.getD y12.1 s22 default).label) := ne_of_bne_ q35
                refine xT 0 [12, 13, 14, 15, 16, 17, 18, 19, 20, 21, 22, 23] [] [some 0, some 1] [(5, vs A6_0 y6.1 c6_0), (7, vs A12_0 y12.1 c12_0), (41, vi (((y6.1).length : Nat) : Int)), (42, vi ((s22 : Nat) : Int)), (68, vb true)] RG (Psi.le.refl _) ?_
                refine xSub [(5, vs A6_0 y6.1 c6_0), (7, vs A12_0 y12.1 c12_0), (41, vi (((y6.1).length : Nat) : Int)), (42, vi ((s22 : Nat) : Int)), (68, vb true)] ?_
                exact hN30 _ (Option.some.inj hS).symm _ _ _ (Gh.le.refl _) ⟨by kernel_rfl, by kernel_rfl⟩
              · have hS := cond_F q35 hS
                have q35p : (List.getD y6.1 s22 default).label = (List.getD y12.1 s22 default).label := eq_of_bne_false_ q35
                have i37 : s22 < (y6.1).length := by omega
                obtain ⟨kc36, cs36, hA36, hk36, hr36, hw36⟩ := h6_0.open_ i37 default
                cases hk36
                obtain ⟨rfl⟩ := hr36
                refine xT 10 [12, 13] [] [some 0, some 1] [(5, vs A6_0 y6.1 c6_0), (7, vs A12_0 y12.1 c12_0), (9, vi ((s22 : Nat) : Int)), (41, vi (((y6.1).length : Nat) : Int)), (42, vi ((s22 : Nat) : Int)), (56, vb false), (57, vs A6_0 y6.1 c6_0), (58, vi ((s22 : Nat) : Int))] RG (Psi.le.refl _) ?_
                refine xTp 14 RG (fun _ => (qIxB s22 2 kb26.g hA36 rfl i37)) ?_
                refine xT 8 [15] [] [some 0, some 1] [(5, vs A6_0 y6.1 c6_0), (7, vs A12_0 y12.1 c12_0), (9, vi ((s22 : Nat) : Int)), (41, vi (((y6.1).length : Nat) : Int)), (42, vi ((s22 : Nat) : Int)), (56, vb false), (60, Value.pointer (some ⟨kb26.g, s22 * 2 + 1, none⟩))] RG (Psi.le.refl _) ?_
                refine xTv 16 [some 0, some 1] RG (Psi.le.refl _) (qLdB s22 2 1 0 hw36) ?_
                obtain ⟨q39, hS⟩ := grd_T hS
                have q39p := of_decide_eq_true q39
                obtain ⟨kc38, cs38, hA38, hk38, hr38, hw38⟩ := h12_0.open_ q39p default
                cases hk38
                obtain ⟨rfl⟩ := hr38
                refine xT 5 [17, 18] [] [some 0, some 1] [(5, vs A6_0 y6.1 c6_0), (7, vs A12_0 y12.1 c12_0), (41, vi (((y6.1).length : Nat) : Int)), (42, vi ((s22 : Nat) : Int)), (56, vb false), (61, vi ((List.getD y6.1 s22 default).offset)), (62, vs A12_0 y12.1 c12_0), (63, vi ((s22 : Nat) : Int))] RG (Psi.le.refl _) ?_
                refine xTp 19 RG (fun _ => (qIxB s22 2 kb28.g hA38 rfl q39p)) ?_
                refine xT 3 [20] [] [some 0, some 1] [(5, vs A6_0 y6.1 c6_0), (7, vs A12_0 y12.1 c12_0), (41, vi (((y6.1).length : Nat) : Int)), (42, vi ((s22 : Nat) : Int)), (56, vb false), (61, vi ((List.getD y6.1 s22 default).offset)), (65, Value.pointer (some ⟨kb28.g, s22 * 2 + 1, none⟩))] RG (Psi.le.refl _) ?_
                refine xTv 21 [some 0, some 1] RG (Psi.le.refl _) (qLdB s22 2 1 1 hw38) ?_
                refine xT 0 [22, 23] [] [some 0, some 1] [(5, vs A6_0 y6.1 c6_0), (7, vs A12_0 y12.1 c12_0), (41, vi (((y6.1).length : Nat) : Int)), (42, vi ((s22 : Nat) : Int)), (68, vb ((List.getD y6.1 s22 default).offset != (List.getD y12.1 s22 default).offset))] RG (Psi.le.refl _) ?_
                refine xSub [(5, vs A6_0 y6.1 c6_0), (7, vs A12_0 y12.1 c12_0), (41, vi (((y6.1).length : Nat) : Int)), (42, vi ((s22 : Nat) : Int)), (68, vb ((List.getD y6.1 s22 default).offset != (List.getD y12.1 s22 default).offset))] ?_
                exact hN30 _ (Option.some.inj hS).symm _ _ _ (Gh.le.refl _) ⟨by kernel_rfl, by kernel_rfl⟩
          · have hS := cond_F h25 hS
            have h25p := of_decide_eq_false h25
            refine xEx 0 ?_
            refine wpq_thenX ?_
            refine wpq_thenX ?_
            refine wpq_blockE ?_
            refine xSel [] ?_
            refine xSub [] ?_
            have eS := (Option.some.inj hS).symm
            have eS := (hD22 _ eS).symm
            exact hN17 _ eS _ _ _ e24 ⟨by kernel_rfl, by kernel_rfl⟩

end Go.Proofs.Ytmcgofgpcnlljaa
