/-
Walks, printed by wip/gen. Conditions: each theorem's own.
-/
import Derived.Test.YtgnajpoebooafaaN2
namespace Go.Proofs.Ytgnajpoebooafaa
set_option linter.unusedVariables false
set_option linter.unusedSimpArgs false
open Go.RowKit
def o33 (x : Sett) : Sett :=
  (x)
set_option maxRecDepth 100000 in
theorem c33 (g : Gh) (x : Sett) (Ax_in_ : Option Addr) (cx_in_ : Nat) (fx_in_ : Arr g.b tyU8 Ax_in_ cx_in_ x.in_) {r : Sett} (hS : o33 x = r) :
    Ctr Try.prog 33 [Value.agg #[vi x.steps, vi x.cycle, vb x.fresh, vs Ax_in_ x.in_ cx_in_]] g [] (fun v ψ o => ∃ (Ar_0_in_ : Option Addr) (cr_0_in_ : Nat), v = Value.agg #[vi r.steps, vi r.cycle, vb r.fresh, vs Ar_0_in_ r.in_ cr_0_in_] ∧ o = [] ∧ Arr ψ tyU8 Ar_0_in_ cr_0_in_ r.in_) := by
  unfold o33 at hS
  refine xFn Try.f33 (Try.f33.body.getD .skip) 12 ?_
  have nfx_in_ := fx_in_.len
  refine xSq ?_
  refine xRg ?_
  refine xE eB ?_
  rintro _ _ _ - ⟨b1, rfl, rfl, rfl⟩
  refine xE eB ?_
  rintro _ _ _ - ⟨b2, rfl, rfl, rfl⟩
  refine xRe ?_
  refine wpq_then ?_
  refine xSub [(1, vp b1 0), (2, vp b2 0)] ?_
  refine xSq ?_
  refine xRg ?_
  refine xBo 10 [(1, 1), (3, 1), (5, 1), (7, 1), (9, 0)] [some ⟨b2, 67, (cSett x Ax_in_ cx_in_)⟩, some ⟨b1, 64, (cSett x Ax_in_ cx_in_)⟩] [(2, vp b2 0)] ?_
  refine xRe ?_
  refine wpq_then ?_
  have eS := hS.symm
  subst eS
  exact xRetC [] [(2, 0)] (Gh.le.refl _) ⟨Ax_in_, cx_in_, by kernel_rfl, by kernel_rfl, fx_in_⟩ (fun _ _ h => h)

def o35 (a : Sett) (b : Sett) : Bool :=
  ((((((a.steps == b.steps) && (a.cycle == b.cycle)) && (a.fresh == b.fresh)) && (a.in_ == b.in_))))
set_option maxRecDepth 100000 in
theorem c35 (g : Gh) (a : Sett) (Aa_in_ : Option Addr) (ca_in_ : Nat) (b : Sett) (Ab_in_ : Option Addr) (cb_in_ : Nat) (fa_in_ : Arr g.r tyU8 Aa_in_ ca_in_ a.in_) (fb_in_ : Arr g.r tyU8 Ab_in_ cb_in_ b.in_) {r : Bool} (hS : o35 a b = r) :
    Ctr Try.prog 35 [Value.agg #[vi a.steps, vi a.cycle, vb a.fresh, vs Aa_in_ a.in_ ca_in_], Value.agg #[vi b.steps, vi b.cycle, vb b.fresh, vs Ab_in_ b.in_ cb_in_]] g [] (fun v ψ o => v = vb r ∧ o = []) := by
  unfold o35 at hS
  refine xFn Try.f35 (Try.f35.body.getD .skip) 33 ?_
  have nfa_in_ := fa_in_.len
  have nfb_in_ := fb_in_.len
  refine xSq ?_
  refine xRg ?_
  refine xE eB ?_
  rintro _ _ _ - ⟨b1, rfl, rfl, rfl⟩
  refine xE eB ?_
  rintro _ _ _ - ⟨b2, rfl, rfl, rfl⟩
  refine xB 1 [] [(2, vp b1 0), (3, vp b2 0)] ?_
  refine xRe ?_
  refine wpq_then ?_
  refine xSq ?_
  refine xRg ?_
  refine xB 6 [(1, 1), (3, 0)] [(2, vp b1 0), (3, vp b2 0), (10, vb (a.steps == b.steps))] ?_
  refine wpr_grp 12 [(2, vp b1 0), (3, vp b2 0), (16, vb ((a.steps == b.steps) && (a.cycle == b.cycle)))] (fun hk5 => ?_) ?_
  · refine wpq_split 10 (b := (a.steps == b.steps)) (by kernel_rfl) (fun q3 => ?_) (fun q3 => ?_)
    · have q3p : a.steps = b.steps := eq_of_beq q3
      refine xB 6 [(7, 1), (9, 0)] [(2, vp b1 0), (3, vp b2 0), (16, vb (a.cycle == b.cycle))] ?_
      refine wpq_re 16 (v := vb (a.cycle == b.cycle)) (Value.bool (((a.steps == b.steps) && (a.cycle == b.cycle)))) (by kernel_rfl) (re_and1 q3) ?_
      exact wpq_sub _ (by kernel_rfl) hk5
    · have q3p : ¬ (a.steps = b.steps) := ne_of_beq_false_ q3
      refine xB 6 [] [(2, vp b1 0), (3, vp b2 0), (16, vb false)] ?_
      refine wpq_re 16 (v := vb false) (Value.bool (((a.steps == b.steps) && (a.cycle == b.cycle)))) (by kernel_rfl) (re_and0 q3) ?_
      exact wpq_sub _ (by kernel_rfl) hk5
  · refine xB 1 [] [(2, vp b1 0), (3, vp b2 0), (17, vb ((a.steps == b.steps) && (a.cycle == b.cycle)))] ?_
    refine wpr_grp 19 [(2, vp b1 0), (3, vp b2 0), (23, vb (((a.steps == b.steps) && (a.cycle == b.cycle)) && (a.fresh == b.fresh)))] (fun hk12 => ?_) ?_
    · refine wpq_split 17 (b := ((a.steps == b.steps) && (a.cycle == b.cycle))) (by kernel_rfl) (fun q4 => ?_) (fun q4 => ?_)
      · have q4l := (and_true_ q4).1
        have q4r := (and_true_ q4).2
        have q4lp : a.steps = b.steps := eq_of_beq q4l
        have q4rp : a.cycle = b.cycle := eq_of_beq q4r
        refine xB 6 [(14, 1), (16, 0)] [(2, vp b1 0), (3, vp b2 0), (23, vb (a.fresh == b.fresh))] ?_
        refine wpq_re 23 (v := vb (a.fresh == b.fresh)) (Value.bool ((((a.steps == b.steps) && (a.cycle == b.cycle)) && (a.fresh == b.fresh)))) (by kernel_rfl) (re_and1 q4) ?_
        exact wpq_sub _ (by kernel_rfl) hk12
      · refine xB 6 [] [(2, vp b1 0), (3, vp b2 0), (23, vb false)] ?_
        refine wpq_re 23 (v := vb false) (Value.bool ((((a.steps == b.steps) && (a.cycle == b.cycle)) && (a.fresh == b.fresh)))) (by kernel_rfl) (re_and0 q4) ?_
        exact wpq_sub _ (by kernel_rfl) hk12
    · refine xB 1 [] [(2, vp b1 0), (3, vp b2 0), (24, vb (((a.steps == b.steps) && (a.cycle == b.cycle)) && (a.fresh == b.fresh)))] ?_
      refine wpr_grp 28 [(32, vb ((((a.steps == b.steps) && (a.cycle == b.cycle)) && (a.fresh == b.fresh)) && (a.in_ == b.in_)))] (fun hk19 => ?_) ?_
      · refine wpq_split 24 (b := (((a.steps == b.steps) && (a.cycle == b.cycle)) && (a.fresh == b.fresh))) (by kernel_rfl) (fun q5 => ?_) (fun q5 => ?_)
        · have q5l := (and_true_ q5).1
          have q5r := (and_true_ q5).2
          have q5ll := (and_true_ q5l).1
          have q5lr := (and_true_ q5l).2
          have q5llp : a.steps = b.steps := eq_of_beq q5ll
          have q5lrp : a.cycle = b.cycle := eq_of_beq q5lr
          have q5rp : a.fresh = b.fresh := eq_of_beq q5r
          refine xB 2 [(21, 1)] [(3, vp b2 0), (24, vb true), (26, vs Aa_in_ a.in_ ca_in_)] ?_
          refine xV (qStr fa_in_) ?_
          refine xB 2 [(24, 0)] [(24, vb true), (27, vt a.in_), (29, vs Ab_in_ b.in_ cb_in_)] ?_
          refine xV (qStr fb_in_) ?_
          refine xV (qEqS (a.in_) (b.in_)) ?_
          refine xB 1 [] [(32, vb (a.in_ == b.in_))] ?_
          refine wpq_re 32 (v := vb (a.in_ == b.in_)) (Value.bool (((((a.steps == b.steps) && (a.cycle == b.cycle)) && (a.fresh == b.fresh)) && (a.in_ == b.in_)))) (by kernel_rfl) (re_and1 q5) ?_
          exact wpq_sub _ (by kernel_rfl) hk19
        · refine xB 8 [] [(32, vb false)] ?_
          refine wpq_re 32 (v := vb false) (Value.bool (((((a.steps == b.steps) && (a.cycle == b.cycle)) && (a.fresh == b.fresh)) && (a.in_ == b.in_)))) (by kernel_rfl) (re_and0 q5) ?_
          exact wpq_sub _ (by kernel_rfl) hk19
      · refine xB 1 [] [(4, vb ((((a.steps == b.steps) && (a.cycle == b.cycle)) && (a.fresh == b.fresh)) && (a.in_ == b.in_)))] ?_
        refine xRe ?_
        refine wpq_then ?_
        have eS := hS.symm
        subst eS
        exact xRet [] [4] (Gh.le.refl _) ⟨by kernel_rfl, by kernel_rfl⟩ (fun _ _ h => h)

def o21_L0 (r_ : Result) (s214 : (List UInt8) × Nat) : Option (Ctl ((List UInt8) × Nat) ((List UInt8))) :=
  (cond (decide (((s214.2 : Nat) : Int) < (((([(r_.targets.bank : Int), (r_.targets.speed : Int), (r_.targets.alt : Int), (r_.targets.vs : Int)] : List Int)).length : Nat) : Int))) (bindO (τ := (List UInt8)) (o53 (s214.1 : List UInt8) ((List.getD ([(r_.targets.bank : Int), (r_.targets.speed : Int), (r_.targets.alt : Int), (r_.targets.vs : Int)] : List Int) s214.2 0) : Int) (8 : Int)) fun y220 => (grd (decide (((s214.2 : Nat) : Int) + 1 ≤ 9223372036854775807)) (some (Ctl.go ((y220 : List UInt8), (s214.2 + 1)))))) (some (Ctl.done ((s214.1 : List UInt8)))))
def o21 (r_ : Result) : Option ((List UInt8)) :=
  (bindO (τ := (List UInt8)) (o53 ([] : List UInt8) (r_.steps : Int) (8 : Int)) fun y4 => (grd (decide (0 ≤ r_.targets.lateral ∧ r_.targets.lateral ≤ 255)) (grd (decide (0 ≤ r_.targets.vertical ∧ r_.targets.vertical ≤ 255)) (grd (decide (0 ≤ r_.targets.phase ∧ r_.targets.phase ≤ 255)) (grd (decide (((y4).length + (([(u8 r_.targets.lateral), (u8 r_.targets.vertical), (u8 r_.targets.phase)] : List UInt8)).length) * 1 ≤ 140737488355328)) (bindO (τ := (List UInt8)) (loopO (σ := (List UInt8) × Nat) (ρ := (List UInt8)) fuelN (o21_L0 r_) (((y4 ++ ([(u8 r_.targets.lateral), (u8 r_.targets.vertical), (u8 r_.targets.phase)] : List UInt8)) : List UInt8), 0)) fun t209 => (some ((t209 : List UInt8)))))))))
set_option maxRecDepth 100000 in
theorem c21 (g : Gh) (r_ : Result) {r : (List UInt8)} (hS : o21 r_ = some r) :
    Ctr Try.prog 21 [Value.agg #[vi r_.steps, vy r_.targets.lateral, vy r_.targets.vertical, vy r_.targets.phase, vi r_.targets.bank, vi r_.targets.speed, vi r_.targets.alt, vi r_.targets.vs]] g [] (fun v ψ o => ∃ (Ar_0 : Option Addr) (cr_0 : Nat) (kr_0 : Option Bk), v = vs Ar_0 r cr_0 ∧ o = [kr_0] ∧ Buf ψ tyU8 5 (.slice Ar_0 (r).length cr_0) kr_0 r) := by
  unfold o21 at hS
  refine xFn Try.f21 (Try.f21.body.getD .skip) 39 ?_
  refine xSq ?_
  refine xRg ?_
  refine xE eB ?_
  rintro _ _ _ - ⟨b1, rfl, rfl, rfl⟩
  refine xB 1 [] [(1, vp b1 0)] ?_
  refine xRe ?_
  refine wpq_then ?_
  refine xSq ?_
  refine xRg ?_
  refine xB 2 [(1, 0)] [(1, vp b1 0), (8, Value.agg #[vy r_.targets.lateral, vy r_.targets.vertical, vy r_.targets.phase, vi r_.targets.bank, vi r_.targets.speed, vi r_.targets.alt, vi r_.targets.vs])] ?_
  refine xE eB ?_
  rintro _ _ _ - ⟨b2, rfl, rfl, rfl⟩
  refine xBo 1 [(3, 0)] [some ⟨b2, 36, (cTargets r_.targets)⟩, some ⟨b1, 38, (cResult r_)⟩] [(1, vp b1 0), (3, vp b2 0)] ?_
  refine xRe ?_
  refine wpq_then ?_
  refine xSq ?_
  refine xDr 0 [1, 4, 6, 8] [11] [some ⟨b2, 36, (cTargets r_.targets)⟩, some ⟨b1, 38, (cResult r_)⟩] 12 (fun RG => ?_) (fun _ _ _ _ _ h => h)
  refine xT 4 [0, 1, 3, 4, 5, 6, 7, 8] [(1, 1), (4, 0), (6, 0), (8, 0)] [some 0, some 1] [(3, vp b2 0), (10, vi r_.steps), (13, vy r_.targets.lateral), (15, vy r_.targets.vertical), (17, vy r_.targets.phase)] RG (Psi.le.refl _) ?_
  obtain ⟨y4, hy4, hS⟩ := bindO_T hS
  obtain ⟨q7, hS⟩ := grd_T hS
  have q7p := of_decide_eq_true q7
  obtain ⟨q8, hS⟩ := grd_T hS
  have q8p := of_decide_eq_true q8
  obtain ⟨q9, hS⟩ := grd_T hS
  have q9p := of_decide_eq_true q9
  refine wpa_meet (fun g own sl => ∃ (A4_0 : Option Addr) (c4_0 : Nat) (k4_0 : Option Bk) (A10 : Option Addr) (c10 : Nat) (k10 : Option Bk), own = [k10, k4_0, some ⟨b2, 36, (cTargets r_.targets)⟩, some ⟨b1, 38, (cResult r_)⟩] ∧ sl = [(3, vp b2 0), (11, vs A4_0 y4 c4_0), (18, vs A10 ([(u8 r_.targets.lateral), (u8 r_.targets.vertical), (u8 r_.targets.phase)] : List UInt8) c10)] ∧ Buf g.b tyU8 5 (.slice A4_0 (y4).length c4_0) k4_0 y4 ∧ Buf g.b tyU8 5 (.slice A10 (([(u8 r_.targets.lateral), (u8 r_.targets.vertical), (u8 r_.targets.phase)] : List UInt8)).length c10) k10 ([(u8 r_.targets.lateral), (u8 r_.targets.vertical), (u8 r_.targets.phase)] : List UInt8)) 2 [true, true, true, true, true, true, true, true, true, true, false, false] ?_ (fun hD3 => ?_)
  · rintro g204 _ _ e205 ⟨A4_0, c4_0, k4_0, A10, c10, k10, rfl, rfl, h4_0, h10⟩
    have nh4_0 := h4_0.len
    have nh10 := h10.len
    obtain ⟨nw206, hp206, hs206⟩ := h10.srcO (g := g204)
    obtain ⟨q207, hS⟩ := grd_T hS
    have q207p := of_decide_eq_true q207
    refine xO1 (lds := [1, 4, 6, 8]) 10 ?_
    refine xIe (lds := [1, 4, 6, 8]) e205.r (eApp (T := tyU8) (p := g204.b) (et := 5) (bytes := 1) (xs := (y4 : List UInt8)) (ys := (([(u8 r_.targets.lateral), (u8 r_.targets.vertical), (u8 r_.targets.phase)] : List UInt8) : List UInt8)) 1 h4_0 rfl (fun w hs => hs206 0 w _ hs (by kernel_rfl)) hp206 (by first | omega | (simp only [List.length_cons, List.length_nil] at *; omega)) (by first | omega | (simp only [List.length_cons, List.length_nil] at *; omega))) ?_
    rintro _ _ _ - ⟨A206, c206, k206, rfl, rfl, rfl, h206⟩
    refine kk [some 2, some 3] ?_
    have nh206 := h206.len
    have hz206 : ((y4 ++ ([(u8 r_.targets.lateral), (u8 r_.targets.vertical), (u8 r_.targets.phase)] : List UInt8)) : List UInt8).length = (y4).length + (([(u8 r_.targets.lateral), (u8 r_.targets.vertical), (u8 r_.targets.phase)] : List UInt8)).length := List.length_append
    refine xT 0 [11] [] [some 2, some 3] [(3, vp b2 0), (4, vs A206 (y4 ++ ([(u8 r_.targets.lateral), (u8 r_.targets.vertical), (u8 r_.targets.phase)] : List UInt8)) c206)] RG e205.r ?_
    refine xAe (lds := [1, 4, 6, 8]) ?_
    refine wpq_then ?_
    refine xSq ?_
    refine xSq ?_
    refine xRg ?_
    refine xB 8 [(1, 2), (3, 2), (5, 2), (7, 2)] [(4, vs A206 (y4 ++ ([(u8 r_.targets.lateral), (u8 r_.targets.vertical), (u8 r_.targets.phase)] : List UInt8)) c206), (21, vi r_.targets.bank), (23, vi r_.targets.speed), (25, vi r_.targets.alt), (27, vi r_.targets.vs)] ?_
    refine xE (eBs (T := (tyI .i64)) (p := g204.b) (et := 2) (xs := ([(r_.targets.bank : Int), (r_.targets.speed : Int), (r_.targets.alt : Int), (r_.targets.vs : Int)] : List Int)) (reps_cons (c := [vi r_.targets.bank]) (show (tyI .i64).rep _ _ _ from rfl) (reps_cons (c := [vi r_.targets.speed]) (show (tyI .i64).rep _ _ _ from rfl) (reps_cons (c := [vi r_.targets.alt]) (show (tyI .i64).rep _ _ _ from rfl) (reps_cons (c := [vi r_.targets.vs]) (show (tyI .i64).rep _ _ _ from rfl) reps_nil)))) (by simp)) ?_
    rintro _ _ _ - ⟨A208, c208, k208, rfl, rfl, rfl, h208⟩
    refine xB 2 [] [(4, vs A206 (y4 ++ ([(u8 r_.targets.lateral), (u8 r_.targets.vertical), (u8 r_.targets.phase)] : List UInt8)) c206), (28, vs A208 ([(r_.targets.bank : Int), (r_.targets.speed : Int), (r_.targets.alt : Int), (r_.targets.vs : Int)] : List Int) c208), (29, vi (((([(r_.targets.bank : Int), (r_.targets.speed : Int), (r_.targets.alt : Int), (r_.targets.vs : Int)] : List Int)).length : Nat) : Int)), (30, vi 0)] ?_
    refine xRe ?_
    refine wpq_then ?_
    refine xBindO hS (fun g own sl t209 => ∃ (A209_0 : Option Addr) (c209_0 : Nat) (k209_0 : Option Bk), own = [k209_0] ∧ sl = [(4, vs A209_0 t209 c209_0)] ∧ Buf g.b tyU8 5 (.slice A209_0 (t209).length c209_0) k209_0 t209) ?_ ?_
    · rintro g210 _ _ t209 e211 ⟨A209_0, c209_0, k209_0, rfl, rfl, h209_0⟩ hS
      have nh209_0 := h209_0.len
      refine wpq_then ?_
      refine xSq ?_
      refine xRg ?_
      refine xB 2 [] [(2, vs A209_0 t209 c209_0)] ?_
      refine xRe ?_
      refine wpq_then ?_
      have eS := (Option.some.inj hS).symm
      subst eS
      exact xRet [some 0] [2] (e205.trans e211) ⟨A209_0, c209_0, k209_0, by kernel_rfl, by kernel_rfl, h209_0⟩ (fun _ _ h => h)
    · intro u209 hS hN209
      refine xBl 0 ?_
      refine xSel [some 2, some 0] ?_
      refine xSub [(4, vs A206 (y4 ++ ([(u8 r_.targets.lateral), (u8 r_.targets.vertical), (u8 r_.targets.phase)] : List UInt8)) c206), (28, vs A208 ([(r_.targets.bank : Int), (r_.targets.speed : Int), (r_.targets.alt : Int), (r_.targets.vs : Int)] : List Int) c208), (29, vi (((([(r_.targets.bank : Int), (r_.targets.speed : Int), (r_.targets.alt : Int), (r_.targets.vs : Int)] : List Int)).length : Nat) : Int)), (30, vi 0)] ?_
      refine xLo hS (fun g own sl s214 => ∃ (A214_0 : Option Addr) (c214_0 : Nat) (k214_0 : Option Bk), own = [k214_0, k208] ∧ sl = [(4, vs A214_0 s214.1 c214_0), (28, vs A208 ([(r_.targets.bank : Int), (r_.targets.speed : Int), (r_.targets.alt : Int), (r_.targets.vs : Int)] : List Int) c208), (29, vi (((([(r_.targets.bank : Int), (r_.targets.speed : Int), (r_.targets.alt : Int), (r_.targets.vs : Int)] : List Int)).length : Nat) : Int)), (30, vi ((s214.2 : Nat) : Int))] ∧ Buf g.b tyU8 5 (.slice A214_0 (s214.1).length c214_0) k214_0 s214.1) ⟨A206, c206, k206, by kernel_rfl, by kernel_rfl, h206⟩ ?_
      rintro g215 _ _ s214 u214 e216 ⟨A214_0, c214_0, k214_0, rfl, rfl, h214_0⟩ hS Qr214 hN214 hD214
      have nh214_0 := h214_0.len
      unfold o21_L0 at hS
      refine xSq ?_
      refine xRg ?_
      refine xB 1 [] [(4, vs A214_0 s214.1 c214_0), (28, vs A208 ([(r_.targets.bank : Int), (r_.targets.speed : Int), (r_.targets.alt : Int), (r_.targets.vs : Int)] : List Int) c208), (29, vi (((([(r_.targets.bank : Int), (r_.targets.speed : Int), (r_.targets.alt : Int), (r_.targets.vs : Int)] : List Int)).length : Nat) : Int)), (30, vi ((s214.2 : Nat) : Int)), (31, vb (decide (((s214.2 : Nat) : Int) < (((([(r_.targets.bank : Int), (r_.targets.speed : Int), (r_.targets.alt : Int), (r_.targets.vs : Int)] : List Int)).length : Nat) : Int))))] ?_
      refine xRe ?_
      refine wpq_then ?_
      refine xSq ?_
      refine xCd (decide (((s214.2 : Nat) : Int) < (((([(r_.targets.bank : Int), (r_.targets.speed : Int), (r_.targets.alt : Int), (r_.targets.vs : Int)] : List Int)).length : Nat) : Int))) (fun h217 => ?_) (fun h217 => ?_)
      · have hS := cond_T h217 hS
        have h217p := of_decide_eq_true h217
        refine xSk ?_
        refine wpq_then ?_
        refine xSub [(4, vs A214_0 s214.1 c214_0), (28, vs A208 ([(r_.targets.bank : Int), (r_.targets.speed : Int), (r_.targets.alt : Int), (r_.targets.vs : Int)] : List Int) c208), (29, vi (((([(r_.targets.bank : Int), (r_.targets.speed : Int), (r_.targets.alt : Int), (r_.targets.vs : Int)] : List Int)).length : Nat) : Int)), (30, vi ((s214.2 : Nat) : Int))] ?_
        refine xSq ?_
        refine xBl 1 ?_
        refine xSq ?_
        refine xRg ?_
        have h208 := h208.mono e216.b
        have i219 : s214.2 < (([(r_.targets.bank : Int), (r_.targets.speed : Int), (r_.targets.alt : Int), (r_.targets.vs : Int)] : List Int)).length := by omega
        obtain ⟨kc218, cs218, hA218, hk218, hr218, hw218⟩ := h208.open_ i219 0
        obtain ⟨kb218, rfl⟩ : ∃ z, z = kc218 := ⟨_, rfl⟩
        subst hk218
        have hr218 : cs218 = [vi (List.getD ([(r_.targets.bank : Int), (r_.targets.speed : Int), (r_.targets.alt : Int), (r_.targets.vs : Int)] : List Int) s214.2 0)] := hr218
        subst hr218
        refine xV (qIxB s214.2 1 kb218.g hA218 rfl i219) ?_
        refine xV (qLdB s214.2 1 0 1 hw218) ?_
        refine xB 1 [] [(4, vs A214_0 s214.1 c214_0), (6, vi (List.getD ([(r_.targets.bank : Int), (r_.targets.speed : Int), (r_.targets.alt : Int), (r_.targets.vs : Int)] : List Int) s214.2 0)), (28, vs A208 ([(r_.targets.bank : Int), (r_.targets.speed : Int), (r_.targets.alt : Int), (r_.targets.vs : Int)] : List Int) c208), (29, vi (((([(r_.targets.bank : Int), (r_.targets.speed : Int), (r_.targets.alt : Int), (r_.targets.vs : Int)] : List Int)).length : Nat) : Int)), (30, vi ((s214.2 : Nat) : Int))] ?_
        refine xRe ?_
        refine wpq_then ?_
        refine xRg ?_
        refine xB 2 [] [(4, vs A214_0 s214.1 c214_0), (28, vs A208 ([(r_.targets.bank : Int), (r_.targets.speed : Int), (r_.targets.alt : Int), (r_.targets.vs : Int)] : List Int) c208), (29, vi (((([(r_.targets.bank : Int), (r_.targets.speed : Int), (r_.targets.alt : Int), (r_.targets.vs : Int)] : List Int)).length : Nat) : Int)), (30, vi ((s214.2 : Nat) : Int)), (34, vs A214_0 s214.1 c214_0), (35, vi (List.getD ([(r_.targets.bank : Int), (r_.targets.speed : Int), (r_.targets.alt : Int), (r_.targets.vs : Int)] : List Int) s214.2 0))] ?_
        obtain ⟨y220, hy220, hS⟩ := bindO_T hS
        refine xE (eC 1 (fun g' lr eb ln => c53 g' (s214.1 : List UInt8) A214_0 c214_0 k214_0 ((List.getD ([(r_.targets.bank : Int), (r_.targets.speed : Int), (r_.targets.alt : Int), (r_.targets.vs : Int)] : List Int) s214.2 0) : Int) (8 : Int) (by rw [eb]; exact h214_0) hy220)) ?_
        rintro _ g221 _ e222 ⟨_, rfl, A220_0, c220_0, k220_0, rfl, rfl, h220_0⟩
        have nh220_0 := h220_0.len
        refine xB 1 [] [(4, vs A220_0 y220 c220_0), (28, vs A208 ([(r_.targets.bank : Int), (r_.targets.speed : Int), (r_.targets.alt : Int), (r_.targets.vs : Int)] : List Int) c208), (29, vi (((([(r_.targets.bank : Int), (r_.targets.speed : Int), (r_.targets.alt : Int), (r_.targets.vs : Int)] : List Int)).length : Nat) : Int)), (30, vi ((s214.2 : Nat) : Int))] ?_
        refine xRe ?_
        refine wpq_blockN ?_
        refine wpq_then ?_
        refine xRg ?_
        obtain ⟨q223, hS⟩ := grd_T hS
        have q223p := of_decide_eq_true q223
        refine xV (qAdd .i64 (((s214.2 : Nat) : Int)) (1) (wr64 (by omega))) ?_
        refine xB 1 [] [(4, vs A220_0 y220 c220_0), (28, vs A208 ([(r_.targets.bank : Int), (r_.targets.speed : Int), (r_.targets.alt : Int), (r_.targets.vs : Int)] : List Int) c208), (29, vi (((([(r_.targets.bank : Int), (r_.targets.speed : Int), (r_.targets.alt : Int), (r_.targets.vs : Int)] : List Int)).length : Nat) : Int)), (30, vi (((s214.2 : Nat) : Int) + 1))] ?_
        refine xRe ?_
        refine wpq_thenN ?_
        refine xSub [(4, vs A220_0 y220 c220_0), (28, vs A208 ([(r_.targets.bank : Int), (r_.targets.speed : Int), (r_.targets.alt : Int), (r_.targets.vs : Int)] : List Int) c208), (29, vi (((([(r_.targets.bank : Int), (r_.targets.speed : Int), (r_.targets.alt : Int), (r_.targets.vs : Int)] : List Int)).length : Nat) : Int)), (30, vi (((s214.2 : Nat) : Int) + 1))] ?_
        have eS := (Option.some.inj hS).symm
        exact hN214 _ eS _ _ _ e222 ⟨A220_0, c220_0, k220_0, by kernel_rfl, by kernel_rfl, h220_0⟩
      · have hS := cond_F h217 hS
        have h217p := of_decide_eq_false h217
        refine xEx 0 ?_
        refine wpq_thenX ?_
        refine wpq_thenX ?_
        refine wpq_blockE ?_
        refine xSel [some 0] ?_
        refine xSub [(4, vs A214_0 s214.1 c214_0)] ?_
        have eS := (Option.some.inj hS).symm
        have eS := (hD214 _ eS).symm
        exact hN209 _ eS _ _ _ e216 ⟨A214_0, c214_0, k214_0, by kernel_rfl, by kernel_rfl, h214_0⟩
  · refine xO2 (lds := [1, 4, 6, 8]) 2 9 ?_ ?_
    · refine xSel [none, some 0, some 1] ?_
      refine xIe (lds := [1, 4, 6, 8]) (Psi.le.refl _) (eC 1 (fun g' lr eb ln => c53 g' ([] : List UInt8) none 0 none (r_.steps : Int) (8 : Int) Buf.nil hy4)) ?_
      rintro _ g225 _ e226 ⟨_, rfl, A4_0, c4_0, k4_0, rfl, rfl, h4_0⟩
      refine kk [some 1, some 2] ?_
      have nh4_0 := h4_0.len
      refine xO1 (lds := [1, 4, 6, 8]) 9 ?_
      refine xIe (lds := [1, 4, 6, 8]) e226.r (eBs (T := tyU8) (p := g225.b) (et := 5) (xs := ([(u8 r_.targets.lateral), (u8 r_.targets.vertical), (u8 r_.targets.phase)] : List UInt8)) (reps_cons (c := [vy r_.targets.lateral]) (u8_rep (by omega)) (reps_cons (c := [vy r_.targets.vertical]) (u8_rep (by omega)) (reps_cons (c := [vy r_.targets.phase]) (u8_rep (by omega)) reps_nil))) (by simp)) ?_
      rintro _ _ _ - ⟨A230, c230, k230, rfl, rfl, rfl, h230⟩
      refine kk [some 2, some 3] ?_
      refine xSub [(3, vp b2 0), (11, vs A4_0 y4 c4_0), (18, vs A230 ([(u8 r_.targets.lateral), (u8 r_.targets.vertical), (u8 r_.targets.phase)] : List UInt8) c230)] ?_
      exact hD3 _ _ _ e226 ⟨A4_0, c4_0, k4_0, A230, c230, k230, by kernel_rfl, by kernel_rfl, h4_0, h230⟩
    · refine xIe (lds := [1, 4, 6, 8]) (Psi.le.refl _) (eBs (T := tyU8) (p := g.b) (et := 5) (xs := ([(u8 r_.targets.lateral), (u8 r_.targets.vertical), (u8 r_.targets.phase)] : List UInt8)) (reps_cons (c := [vy r_.targets.lateral]) (u8_rep (by omega)) (reps_cons (c := [vy r_.targets.vertical]) (u8_rep (by omega)) (reps_cons (c := [vy r_.targets.phase]) (u8_rep (by omega)) reps_nil))) (by simp)) ?_
      rintro _ _ _ - ⟨A234, c234, k234, rfl, rfl, rfl, h234⟩
      refine kk [some 1, some 2] ?_
      refine xSel [none, some 0, some 1, some 2] ?_
      refine xO1 (lds := [1, 4, 6, 8]) 2 ?_
      refine xIe (lds := [1, 4, 6, 8]) (Psi.le.refl _) (eC 1 (fun g' lr eb ln => c53 g' ([] : List UInt8) none 0 none (r_.steps : Int) (8 : Int) Buf.nil hy4)) ?_
      rintro _ g236 _ e237 ⟨_, rfl, A4_0, c4_0, k4_0, rfl, rfl, h4_0⟩
      refine kk [some 2, some 3] ?_
      have nh4_0 := h4_0.len
      refine xSel [some 1, some 0, some 2, some 3] ?_
      refine xSub [(3, vp b2 0), (11, vs A4_0 y4 c4_0), (18, vs A234 ([(u8 r_.targets.lateral), (u8 r_.targets.vertical), (u8 r_.targets.phase)] : List UInt8) c234)] ?_
      have h234 := h234.mono e237.b
      exact hD3 _ _ _ e237 ⟨A4_0, c4_0, k4_0, A234, c234, k234, by kernel_rfl, by kernel_rfl, h4_0, h234⟩

def o50 (n : Node) (t : Targets) : Option (Node × Frame × Bool × Int) :=
  (letJ (τ := Int) (o69 n (4 : Int)) fun y3 => (cond ((y3 != 0)) (some ((n, (⟨0, 0, 0, ([] : List UInt8)⟩ : Frame), (false), (y3 : Int)))) (cond ((!n.has)) (some ((({ n with next_ := 5 }), (⟨0, 0, 0, ([] : List UInt8)⟩ : Frame), (false), (0 : Int)))) (bindO (τ := (List UInt8)) (o21 ({ n with targets := t })) fun y8 => (letJ (τ := Frame) (o70 ({ n with next_ := 5, told := { n with targets := t } }) (3 : Int) (y8 : List UInt8)) fun y14 => (some ((({ n with next_ := 5, told := { n with targets := t } }), y14, (true), (0 : Int)))))))))
set_option maxRecDepth 100000 in
theorem c50 (g : Gh) (b_n : Nat) (n : Node) (An_input : Option Addr) (cn_input : Nat) (An_heard_input : Option Addr) (cn_heard_input : Nat) (An_set__in_ : Option Addr) (cn_set__in_ : Nat) (t : Targets) (fn_input : Arr g.b tyU8 An_input cn_input n.input) (fn_heard_input : Arr g.b tyU8 An_heard_input cn_heard_input n.heard.input) (fn_set__in_ : Arr g.b tyU8 An_set__in_ cn_set__in_ n.set_.in_) {r : Node × Frame × Bool × Int} (hS : o50 n t = some r) :
    Ctr Try.prog 50 [vp b_n 0, Value.agg #[vy t.lateral, vy t.vertical, vy t.phase, vi t.bank, vi t.speed, vi t.alt, vi t.vs]] g [some ⟨b_n, 131, (cNode n An_input cn_input An_heard_input cn_heard_input An_set__in_ cn_set__in_)⟩] (fun v ψ o => ∃ (Ao_n_input : Option Addr) (co_n_input : Nat) (Ao_n_heard_input : Option Addr) (co_n_heard_input : Nat) (Ao_n_set__in_ : Option Addr) (co_n_set__in_ : Nat) (Ar_0_payload : Option Addr) (cr_0_payload : Nat), v = Value.tuple #[Value.agg #[vy r.2.1.label, vy r.2.1.from_, vi r.2.1.cycle, vs Ar_0_payload r.2.1.payload cr_0_payload], vb r.2.2.1, vi r.2.2.2] ∧ o = [some ⟨b_n, 131, (cNode r.1 Ao_n_input co_n_input Ao_n_heard_input co_n_heard_input Ao_n_set__in_ co_n_set__in_)⟩] ∧ Arr ψ tyU8 Ao_n_input co_n_input r.1.input ∧ Arr ψ tyU8 Ao_n_heard_input co_n_heard_input r.1.heard.input ∧ Arr ψ tyU8 Ao_n_set__in_ co_n_set__in_ r.1.set_.in_ ∧ Arr ψ tyU8 Ar_0_payload cr_0_payload r.2.1.payload) := by
  unfold o50 at hS
  refine xFn Try.f50 (Try.f50.body.getD .skip) 39 ?_
  have nfn_input := fn_input.len
  have nfn_heard_input := fn_heard_input.len
  have nfn_set__in_ := fn_set__in_.len
  refine xSq ?_
  refine xRg ?_
  refine xE eB ?_
  rintro _ _ _ - ⟨b1, rfl, rfl, rfl⟩
  refine xE eB ?_
  rintro _ _ _ - ⟨b2, rfl, rfl, rfl⟩
  refine xB 2 [] [(0, vp b_n 0), (3, vp b1 0), (4, vp b2 0)] ?_
  refine xRe ?_
  refine wpq_then ?_
  refine xSq ?_
  refine xSq ?_
  refine xRg ?_
  refine xB 1 [] [(0, vp b_n 0), (3, vp b1 0), (4, vp b2 0), (8, vp b_n 0)] ?_
  obtain ⟨y3, hy3, hS⟩ := letJ_T hS
  refine xE (eC 0 (fun g' lr eb ln => c69 g' ⟨b_n, 0, none⟩ n An_input cn_input An_heard_input cn_heard_input An_set__in_ cn_set__in_ (4 : Int) (cells_lent' 2 b_n 0 (cNode n An_input cn_input An_heard_input cn_heard_input An_set__in_ cn_set__in_) ln) ((fn_input.mono g.br).mono lr) ((fn_heard_input.mono g.br).mono lr) ((fn_set__in_.mono g.br).mono lr) hy3)) ?_
  rintro _ g4 _ e5 ⟨_, rfl, rfl, rfl⟩
  refine xB 1 [] [(0, vp b_n 0), (3, vp b1 0), (4, vp b2 0), (7, vi y3)] ?_
  refine xRe ?_
  refine wpq_then ?_
  refine xSq ?_
  refine xRg ?_
  refine xB 2 [] [(0, vp b_n 0), (3, vp b1 0), (4, vp b2 0), (7, vi y3), (11, vb (y3 != 0))] ?_
  refine xRe ?_
  refine wpq_then ?_
  refine xCd ((y3 != 0)) (fun h6 => ?_) (fun h6 => ?_)
  · have hS := cond_T h6 hS
    have h6p : ¬ (y3 = 0) := ne_of_bne_ h6
    refine xSq ?_
    refine xRg ?_
    refine xBo 5 [(2, 0)] [some ⟨b2, 100, (cFrame (⟨0, 0, 0, ([] : List UInt8)⟩ : Frame) none 0)⟩, some ⟨b1, 36, (cTargets t)⟩, some ⟨b_n, 131, (cNode n An_input cn_input An_heard_input cn_heard_input An_set__in_ cn_set__in_)⟩] [(4, vp b2 0), (5, vb false), (6, vi y3)] ?_
    refine xRe ?_
    refine wpq_then ?_
    have fn_input := fn_input.mono e5.b
    have fn_heard_input := fn_heard_input.mono e5.b
    have fn_set__in_ := fn_set__in_.mono e5.b
    have eS := (Option.some.inj hS).symm
    subst eS
    exact xRetC [some 2] [(4, 0)] e5 ⟨An_input, cn_input, An_heard_input, cn_heard_input, An_set__in_, cn_set__in_, none, 0, by kernel_rfl, by kernel_rfl, fn_input, fn_heard_input, fn_set__in_, Arr.nil⟩ (fun _ _ h => h)
  · have hS := cond_F h6 hS
    have h6p : y3 = 0 := eq_of_bne_false_ h6
    refine xSk ?_
    refine wpq_then ?_
    refine xSub [(0, vp b_n 0), (3, vp b1 0), (4, vp b2 0)] ?_
    refine xSq ?_
    refine xRg ?_
    refine xBo 4 [(3, 2)] [some ⟨b2, 100, (cFrame (⟨0, 0, 0, ([] : List UInt8)⟩ : Frame) none 0)⟩, some ⟨b1, 36, (cTargets t)⟩, some ⟨b_n, 131, (cNode ({ n with next_ := 5 }) An_input cn_input An_heard_input cn_heard_input An_set__in_ cn_set__in_)⟩] [(0, vp b_n 0), (3, vp b1 0), (4, vp b2 0)] ?_
    refine xRe ?_
    refine wpq_then ?_
    refine xSq ?_
    refine xSq ?_
    refine xRg ?_
    refine xB 5 [(3, 2)] [(0, vp b_n 0), (3, vp b1 0), (4, vp b2 0), (21, vb (!n.has))] ?_
    refine xRe ?_
    refine wpq_then ?_
    refine xCd ((!n.has)) (fun h7 => ?_) (fun h7 => ?_)
    · have hS := cond_T h7 hS
      have h7n := not_eq_true_ h7
      refine xSq ?_
      refine xRg ?_
      refine xBo 4 [(1, 0)] [some ⟨b2, 100, (cFrame (⟨0, 0, 0, ([] : List UInt8)⟩ : Frame) none 0)⟩, some ⟨b1, 36, (cTargets t)⟩, some ⟨b_n, 131, (cNode ({ n with next_ := 5 }) An_input cn_input An_heard_input cn_heard_input An_set__in_ cn_set__in_)⟩] [(4, vp b2 0), (5, vb false), (6, vi 0)] ?_
      refine xRe ?_
      refine wpq_then ?_
      have fn_input := fn_input.mono e5.b
      have fn_heard_input := fn_heard_input.mono e5.b
      have fn_set__in_ := fn_set__in_.mono e5.b
      have eS := (Option.some.inj hS).symm
      subst eS
      exact xRetC [some 2] [(4, 0)] e5 ⟨An_input, cn_input, An_heard_input, cn_heard_input, An_set__in_, cn_set__in_, none, 0, by kernel_rfl, by kernel_rfl, fn_input, fn_heard_input, fn_set__in_, Arr.nil⟩ (fun _ _ h => h)
    · have hS := cond_F h7 hS
      have h7n := not_eq_false_ h7
      refine xSk ?_
      refine wpq_then ?_
      refine xSub [(0, vp b_n 0), (3, vp b1 0), (4, vp b2 0)] ?_
      refine xSq ?_
      refine xDr 0 [4, 5] [9, 6, 7, 8] [some ⟨b2, 100, (cFrame (⟨0, 0, 0, ([] : List UInt8)⟩ : Frame) none 0)⟩, some ⟨b1, 36, (cTargets t)⟩, some ⟨b_n, 131, (cNode ({ n with next_ := 5 }) An_input cn_input An_heard_input cn_heard_input An_set__in_ cn_set__in_)⟩] 10 (fun RG => ?_) (fun _ _ _ _ _ h => h)
      refine xT 1 [0, 1, 2, 3, 4, 5, 6, 7, 8] [(4, 2), (5, 1)] [some 0, some 1, some 2] [(0, vp b_n 0), (4, vp b2 0), (29, Value.agg #[vi n.steps, vy t.lateral, vy t.vertical, vy t.phase, vi t.bank, vi t.speed, vi t.alt, vi t.vs]), (31, vp b_n 19)] RG (Psi.le.refl _) ?_
      refine xO1 (lds := [4, 5]) 9 ?_
      refine xId (lds := [4, 5]) (Psi.le.refl _) (eStL b_n 19 2) ?_
      rintro _ _ _ - ⟨rfl, rfl⟩
      refine kf ?_
      refine xAe (lds := [4, 5]) ?_
      refine wpq_then ?_
      refine xSub [(0, vp b_n 0), (4, vp b2 0)] ?_
      refine xSq ?_
      refine xRg ?_
      refine xB 5 [(4, 2)] [(4, vp b2 0), (32, vp b_n 0), (36, Value.agg #[vi n.steps, vy t.lateral, vy t.vertical, vy t.phase, vi t.bank, vi t.speed, vi t.alt, vi t.vs])] ?_
      obtain ⟨y8, hy8, hS⟩ := bindO_T hS
      refine xE (eC 0 (fun g' lr eb ln => c21 g' ({ n with targets := t }) hy8)) ?_
      rintro _ g9 _ e10 ⟨_, rfl, A8_0, c8_0, k8_0, rfl, rfl, h8_0⟩
      have nh8_0 := h8_0.len
      refine wpq_freeze 0 (by kernel_rfl) h8_0 (fun g11 e12 f13 => ?_)
      have fn_input := fn_input.mono (e5.trans (e10.trans e12)).b
      have fn_heard_input := fn_heard_input.mono (e5.trans (e10.trans e12)).b
      have fn_set__in_ := fn_set__in_.mono (e5.trans (e10.trans e12)).b
      obtain ⟨y14, hy14, hS⟩ := letJ_T hS
      refine xE (eC 0 (fun g' lr eb ln => c70 g' ⟨b_n, 0, none⟩ ({ n with next_ := 5, told := { n with targets := t } }) An_input cn_input An_heard_input cn_heard_input An_set__in_ cn_set__in_ (3 : Int) (y8 : List UInt8) A8_0 c8_0 (cells_lent' 3 b_n 0 (cNode ({ n with next_ := 5, told := { n with targets := t } }) An_input cn_input An_heard_input cn_heard_input An_set__in_ cn_set__in_) ln) ((fn_input.mono g11.br).mono lr) ((fn_heard_input.mono g11.br).mono lr) ((fn_set__in_.mono g11.br).mono lr) (by rw [eb]; exact f13) hy14)) ?_
      rintro _ g15 _ e16 ⟨_, rfl, A14_0_payload, c14_0_payload, rfl, rfl, f14_0_payload⟩
      have nf14_0_payload := f14_0_payload.len
      refine xBo 3 [(7, 1)] [none, some ⟨b2, 100, (cFrame y14 A14_0_payload c14_0_payload)⟩, some ⟨b1, 36, (cTargets t)⟩, some ⟨b_n, 131, (cNode ({ n with next_ := 5, told := { n with targets := t } }) An_input cn_input An_heard_input cn_heard_input An_set__in_ cn_set__in_)⟩] [(4, vp b2 0), (5, vb true), (6, vi 0)] ?_
      refine xRe ?_
      refine wpq_then ?_
      have fn_input := fn_input.mono e16.b
      have fn_heard_input := fn_heard_input.mono e16.b
      have fn_set__in_ := fn_set__in_.mono e16.b
      have eS := (Option.some.inj hS).symm
      subst eS
      exact xRetC [some 3] [(4, 1)] (e5.trans (e10.trans (e12.trans e16))) ⟨An_input, cn_input, An_heard_input, cn_heard_input, An_set__in_, cn_set__in_, A14_0_payload, c14_0_payload, by kernel_rfl, by kernel_rfl, fn_input, fn_heard_input, fn_set__in_, f14_0_payload⟩ (fun _ _ h => h)

def o23 (r_ : Result) : Option ((List UInt8)) :=
  (bindO (τ := (List UInt8)) (o54 (r_.steps : Int) (8 : Int)) fun y4 => (grd (decide (0 ≤ r_.targets.lateral ∧ r_.targets.lateral ≤ 255)) (grd (decide (0 ≤ r_.targets.vertical ∧ r_.targets.vertical ≤ 255)) (grd (decide (0 ≤ r_.targets.phase ∧ r_.targets.phase ≤ 255)) (grd (decide (((y4).length + (([(u8 r_.targets.lateral), (u8 r_.targets.vertical), (u8 r_.targets.phase)] : List UInt8)).length) * 1 ≤ 140737488355328)) (bindO (τ := (List UInt8)) (o54 (r_.targets.bank : Int) (8 : Int)) fun y208 => (grd (decide ((((y4 ++ ([(u8 r_.targets.lateral), (u8 r_.targets.vertical), (u8 r_.targets.phase)] : List UInt8))).length + (y208).length) * 1 ≤ 140737488355328)) (bindO (τ := (List UInt8)) (o54 (r_.targets.speed : Int) (8 : Int)) fun y213 => (grd (decide (((((y4 ++ ([(u8 r_.targets.lateral), (u8 r_.targets.vertical), (u8 r_.targets.phase)] : List UInt8)) ++ y208)).length + (y213).length) * 1 ≤ 140737488355328)) (bindO (τ := (List UInt8)) (o54 (r_.targets.alt : Int) (8 : Int)) fun y218 => (grd (decide ((((((y4 ++ ([(u8 r_.targets.lateral), (u8 r_.targets.vertical), (u8 r_.targets.phase)] : List UInt8)) ++ y208) ++ y213)).length + (y218).length) * 1 ≤ 140737488355328)) (bindO (τ := (List UInt8)) (o54 (r_.targets.vs : Int) (8 : Int)) fun y223 => (grd (decide (((((((y4 ++ ([(u8 r_.targets.lateral), (u8 r_.targets.vertical), (u8 r_.targets.phase)] : List UInt8)) ++ y208) ++ y213) ++ y218)).length + (y223).length) * 1 ≤ 140737488355328)) (some (((((((y4 ++ ([(u8 r_.targets.lateral), (u8 r_.targets.vertical), (u8 r_.targets.phase)] : List UInt8)) ++ y208) ++ y213) ++ y218) ++ y223) : List UInt8))))))))))))))))
set_option maxRecDepth 100000 in
theorem c23 (g : Gh) (r_ : Result) {r : (List UInt8)} (hS : o23 r_ = some r) :
    Ctr Try.prog 23 [Value.agg #[vi r_.steps, vy r_.targets.lateral, vy r_.targets.vertical, vy r_.targets.phase, vi r_.targets.bank, vi r_.targets.speed, vi r_.targets.alt, vi r_.targets.vs]] g [] (fun v ψ o => ∃ (Ar_0 : Option Addr) (cr_0 : Nat) (kr_0 : Option Bk), v = vs Ar_0 r cr_0 ∧ o = [kr_0] ∧ Buf ψ tyU8 5 (.slice Ar_0 (r).length cr_0) kr_0 r) := by
  unfold o23 at hS
  refine xFn Try.f23 (Try.f23.body.getD .skip) 38 ?_
  refine xSq ?_
  refine xRg ?_
  refine xE eB ?_
  rintro _ _ _ - ⟨b1, rfl, rfl, rfl⟩
  refine xB 1 [] [(1, vp b1 0)] ?_
  refine xRe ?_
  refine wpq_then ?_
  refine xSq ?_
  refine xRg ?_
  refine xB 2 [(1, 0)] [(1, vp b1 0), (6, Value.agg #[vy r_.targets.lateral, vy r_.targets.vertical, vy r_.targets.phase, vi r_.targets.bank, vi r_.targets.speed, vi r_.targets.alt, vi r_.targets.vs])] ?_
  refine xE eB ?_
  rintro _ _ _ - ⟨b2, rfl, rfl, rfl⟩
  refine xBo 1 [(3, 0)] [some ⟨b2, 36, (cTargets r_.targets)⟩, some ⟨b1, 43, (cResult r_)⟩] [(1, vp b1 0), (3, vp b2 0)] ?_
  refine xRe ?_
  refine wpq_then ?_
  refine xSq ?_
  refine xDr 0 [1, 4, 6, 8] [11] [some ⟨b2, 36, (cTargets r_.targets)⟩, some ⟨b1, 43, (cResult r_)⟩] 12 (fun RG => ?_) (fun _ _ _ _ _ h => h)
  refine xT 4 [0, 1, 3, 4, 5, 6, 7, 8] [(1, 1), (4, 0), (6, 0), (8, 0)] [some 0, some 1] [(3, vp b2 0), (8, vi r_.steps), (11, vy r_.targets.lateral), (13, vy r_.targets.vertical), (15, vy r_.targets.phase)] RG (Psi.le.refl _) ?_
  obtain ⟨y4, hy4, hS⟩ := bindO_T hS
  obtain ⟨q7, hS⟩ := grd_T hS
  have q7p := of_decide_eq_true q7
  obtain ⟨q8, hS⟩ := grd_T hS
  have q8p := of_decide_eq_true q8
  obtain ⟨q9, hS⟩ := grd_T hS
  have q9p := of_decide_eq_true q9
  refine wpa_meet (fun g own sl => ∃ (A4_0 : Option Addr) (c4_0 : Nat) (k4_0 : Option Bk) (A10 : Option Addr) (c10 : Nat) (k10 : Option Bk), own = [k10, k4_0, some ⟨b2, 36, (cTargets r_.targets)⟩, some ⟨b1, 43, (cResult r_)⟩] ∧ sl = [(3, vp b2 0), (9, vs A4_0 y4 c4_0), (16, vs A10 ([(u8 r_.targets.lateral), (u8 r_.targets.vertical), (u8 r_.targets.phase)] : List UInt8) c10)] ∧ Buf g.b tyU8 5 (.slice A4_0 (y4).length c4_0) k4_0 y4 ∧ Buf g.b tyU8 5 (.slice A10 (([(u8 r_.targets.lateral), (u8 r_.targets.vertical), (u8 r_.targets.phase)] : List UInt8)).length c10) k10 ([(u8 r_.targets.lateral), (u8 r_.targets.vertical), (u8 r_.targets.phase)] : List UInt8)) 2 [true, true, true, true, true, true, true, true, true, true, false, false] ?_ (fun hD3 => ?_)
  · rintro g204 _ _ e205 ⟨A4_0, c4_0, k4_0, A10, c10, k10, rfl, rfl, h4_0, h10⟩
    have nh4_0 := h4_0.len
    have nh10 := h10.len
    obtain ⟨nw206, hp206, hs206⟩ := h10.srcO (g := g204)
    obtain ⟨q207, hS⟩ := grd_T hS
    have q207p := of_decide_eq_true q207
    refine xO1 (lds := [1, 4, 6, 8]) 10 ?_
    refine xIe (lds := [1, 4, 6, 8]) e205.r (eApp (T := tyU8) (p := g204.b) (et := 5) (bytes := 1) (xs := (y4 : List UInt8)) (ys := (([(u8 r_.targets.lateral), (u8 r_.targets.vertical), (u8 r_.targets.phase)] : List UInt8) : List UInt8)) 1 h4_0 rfl (fun w hs => hs206 0 w _ hs (by kernel_rfl)) hp206 (by first | omega | (simp only [List.length_cons, List.length_nil] at *; omega)) (by first | omega | (simp only [List.length_cons, List.length_nil] at *; omega))) ?_
    rintro _ _ _ - ⟨A206, c206, k206, rfl, rfl, rfl, h206⟩
    refine kk [some 2, some 3] ?_
    have nh206 := h206.len
    have hz206 : ((y4 ++ ([(u8 r_.targets.lateral), (u8 r_.targets.vertical), (u8 r_.targets.phase)] : List UInt8)) : List UInt8).length = (y4).length + (([(u8 r_.targets.lateral), (u8 r_.targets.vertical), (u8 r_.targets.phase)] : List UInt8)).length := List.length_append
    refine xT 0 [11] [] [some 2, some 3] [(3, vp b2 0), (4, vs A206 (y4 ++ ([(u8 r_.targets.lateral), (u8 r_.targets.vertical), (u8 r_.targets.phase)] : List UInt8)) c206)] RG e205.r ?_
    refine xAe (lds := [1, 4, 6, 8]) ?_
    refine wpq_then ?_
    refine xSq ?_
    refine xRg ?_
    refine xB 3 [(2, 2)] [(3, vp b2 0), (4, vs A206 (y4 ++ ([(u8 r_.targets.lateral), (u8 r_.targets.vertical), (u8 r_.targets.phase)] : List UInt8)) c206), (18, vs A206 (y4 ++ ([(u8 r_.targets.lateral), (u8 r_.targets.vertical), (u8 r_.targets.phase)] : List UInt8)) c206), (20, vi r_.targets.bank)] ?_
    obtain ⟨y208, hy208, hS⟩ := bindO_T hS
    refine xE (eC 0 (fun g' lr eb ln => c54 g' (r_.targets.bank : Int) (8 : Int) hy208)) ?_
    rintro _ g209 _ e210 ⟨_, rfl, A208_0, c208_0, k208_0, rfl, rfl, h208_0⟩
    have nh208_0 := h208_0.len
    have h206 := h206.mono e210.b
    obtain ⟨nw211, hp211, hs211⟩ := h208_0.srcO (g := g209)
    obtain ⟨q212, hS⟩ := grd_T hS
    have q212p := of_decide_eq_true q212
    refine xE (eApp (T := tyU8) (p := g209.b) (et := 5) (bytes := 1) (xs := ((y4 ++ ([(u8 r_.targets.lateral), (u8 r_.targets.vertical), (u8 r_.targets.phase)] : List UInt8)) : List UInt8)) (ys := (y208 : List UInt8)) 2 h206 rfl (fun w hs => hs211 0 w _ hs (by kernel_rfl)) hp211 (by first | omega | (simp only [List.length_cons, List.length_nil] at *; omega)) (by first | omega | (simp only [List.length_cons, List.length_nil] at *; omega))) ?_
    rintro _ _ _ - ⟨A211, c211, k211, rfl, rfl, rfl, h211⟩
    have nh211 := h211.len
    have hz211 : (((y4 ++ ([(u8 r_.targets.lateral), (u8 r_.targets.vertical), (u8 r_.targets.phase)] : List UInt8)) ++ y208) : List UInt8).length = ((y4 ++ ([(u8 r_.targets.lateral), (u8 r_.targets.vertical), (u8 r_.targets.phase)] : List UInt8))).length + (y208).length := List.length_append
    refine xB 1 [] [(3, vp b2 0), (4, vs A211 ((y4 ++ ([(u8 r_.targets.lateral), (u8 r_.targets.vertical), (u8 r_.targets.phase)] : List UInt8)) ++ y208) c211)] ?_
    refine xRe ?_
    refine wpq_then ?_
    refine xSq ?_
    refine xRg ?_
    refine xB 3 [(2, 3)] [(3, vp b2 0), (4, vs A211 ((y4 ++ ([(u8 r_.targets.lateral), (u8 r_.targets.vertical), (u8 r_.targets.phase)] : List UInt8)) ++ y208) c211), (23, vs A211 ((y4 ++ ([(u8 r_.targets.lateral), (u8 r_.targets.vertical), (u8 r_.targets.phase)] : List UInt8)) ++ y208) c211), (25, vi r_.targets.speed)] ?_
    obtain ⟨y213, hy213, hS⟩ := bindO_T hS
    refine xE (eC 0 (fun g' lr eb ln => c54 g' (r_.targets.speed : Int) (8 : Int) hy213)) ?_
    rintro _ g214 _ e215 ⟨_, rfl, A213_0, c213_0, k213_0, rfl, rfl, h213_0⟩
    have nh213_0 := h213_0.len
    have h211 := h211.mono e215.b
    obtain ⟨nw216, hp216, hs216⟩ := h213_0.srcO (g := g214)
    obtain ⟨q217, hS⟩ := grd_T hS
    have q217p := of_decide_eq_true q217
    refine xE (eApp (T := tyU8) (p := g214.b) (et := 5) (bytes := 1) (xs := (((y4 ++ ([(u8 r_.targets.lateral), (u8 r_.targets.vertical), (u8 r_.targets.phase)] : List UInt8)) ++ y208) : List UInt8)) (ys := (y213 : List UInt8)) 3 h211 rfl (fun w hs => hs216 0 w _ hs (by kernel_rfl)) hp216 (by first | omega | (simp only [List.length_cons, List.length_nil] at *; omega)) (by first | omega | (simp only [List.length_cons, List.length_nil] at *; omega))) ?_
    rintro _ _ _ - ⟨A216, c216, k216, rfl, rfl, rfl, h216⟩
    have nh216 := h216.len
    have hz216 : ((((y4 ++ ([(u8 r_.targets.lateral), (u8 r_.targets.vertical), (u8 r_.targets.phase)] : List UInt8)) ++ y208) ++ y213) : List UInt8).length = (((y4 ++ ([(u8 r_.targets.lateral), (u8 r_.targets.vertical), (u8 r_.targets.phase)] : List UInt8)) ++ y208)).length + (y213).length := List.length_append
    refine xB 1 [] [(3, vp b2 0), (4, vs A216 (((y4 ++ ([(u8 r_.targets.lateral), (u8 r_.targets.vertical), (u8 r_.targets.phase)] : List UInt8)) ++ y208) ++ y213) c216)] ?_
    refine xRe ?_
    refine wpq_then ?_
    refine xSq ?_
    refine xRg ?_
    refine xB 3 [(2, 4)] [(3, vp b2 0), (4, vs A216 (((y4 ++ ([(u8 r_.targets.lateral), (u8 r_.targets.vertical), (u8 r_.targets.phase)] : List UInt8)) ++ y208) ++ y213) c216), (28, vs A216 (((y4 ++ ([(u8 r_.targets.lateral), (u8 r_.targets.vertical), (u8 r_.targets.phase)] : List UInt8)) ++ y208) ++ y213) c216), (30, vi r_.targets.alt)] ?_
    obtain ⟨y218, hy218, hS⟩ := bindO_T hS
    refine xE (eC 0 (fun g' lr eb ln => c54 g' (r_.targets.alt : Int) (8 : Int) hy218)) ?_
    rintro _ g219 _ e220 ⟨_, rfl, A218_0, c218_0, k218_0, rfl, rfl, h218_0⟩
    have nh218_0 := h218_0.len
    have h216 := h216.mono e220.b
    obtain ⟨nw221, hp221, hs221⟩ := h218_0.srcO (g := g219)
    obtain ⟨q222, hS⟩ := grd_T hS
    have q222p := of_decide_eq_true q222
    refine xE (eApp (T := tyU8) (p := g219.b) (et := 5) (bytes := 1) (xs := ((((y4 ++ ([(u8 r_.targets.lateral), (u8 r_.targets.vertical), (u8 r_.targets.phase)] : List UInt8)) ++ y208) ++ y213) : List UInt8)) (ys := (y218 : List UInt8)) 4 h216 rfl (fun w hs => hs221 0 w _ hs (by kernel_rfl)) hp221 (by first | omega | (simp only [List.length_cons, List.length_nil] at *; omega)) (by first | omega | (simp only [List.length_cons, List.length_nil] at *; omega))) ?_
    rintro _ _ _ - ⟨A221, c221, k221, rfl, rfl, rfl, h221⟩
    have nh221 := h221.len
    have hz221 : (((((y4 ++ ([(u8 r_.targets.lateral), (u8 r_.targets.vertical), (u8 r_.targets.phase)] : List UInt8)) ++ y208) ++ y213) ++ y218) : List UInt8).length = ((((y4 ++ ([(u8 r_.targets.lateral), (u8 r_.targets.vertical), (u8 r_.targets.phase)] : List UInt8)) ++ y208) ++ y213)).length + (y218).length := List.length_append
    refine xB 1 [] [(3, vp b2 0), (4, vs A221 ((((y4 ++ ([(u8 r_.targets.lateral), (u8 r_.targets.vertical), (u8 r_.targets.phase)] : List UInt8)) ++ y208) ++ y213) ++ y218) c221)] ?_
    refine xRe ?_
    refine wpq_then ?_
    refine xSq ?_
    refine xRg ?_
    refine xB 3 [(2, 5)] [(33, vs A221 ((((y4 ++ ([(u8 r_.targets.lateral), (u8 r_.targets.vertical), (u8 r_.targets.phase)] : List UInt8)) ++ y208) ++ y213) ++ y218) c221), (35, vi r_.targets.vs)] ?_
    obtain ⟨y223, hy223, hS⟩ := bindO_T hS
    refine xE (eC 0 (fun g' lr eb ln => c54 g' (r_.targets.vs : Int) (8 : Int) hy223)) ?_
    rintro _ g224 _ e225 ⟨_, rfl, A223_0, c223_0, k223_0, rfl, rfl, h223_0⟩
    have nh223_0 := h223_0.len
    have h221 := h221.mono e225.b
    obtain ⟨nw226, hp226, hs226⟩ := h223_0.srcO (g := g224)
    obtain ⟨q227, hS⟩ := grd_T hS
    have q227p := of_decide_eq_true q227
    refine xE (eApp (T := tyU8) (p := g224.b) (et := 5) (bytes := 1) (xs := (((((y4 ++ ([(u8 r_.targets.lateral), (u8 r_.targets.vertical), (u8 r_.targets.phase)] : List UInt8)) ++ y208) ++ y213) ++ y218) : List UInt8)) (ys := (y223 : List UInt8)) 5 h221 rfl (fun w hs => hs226 0 w _ hs (by kernel_rfl)) hp226 (by first | omega | (simp only [List.length_cons, List.length_nil] at *; omega)) (by first | omega | (simp only [List.length_cons, List.length_nil] at *; omega))) ?_
    rintro _ _ _ - ⟨A226, c226, k226, rfl, rfl, rfl, h226⟩
    have nh226 := h226.len
    have hz226 : ((((((y4 ++ ([(u8 r_.targets.lateral), (u8 r_.targets.vertical), (u8 r_.targets.phase)] : List UInt8)) ++ y208) ++ y213) ++ y218) ++ y223) : List UInt8).length = (((((y4 ++ ([(u8 r_.targets.lateral), (u8 r_.targets.vertical), (u8 r_.targets.phase)] : List UInt8)) ++ y208) ++ y213) ++ y218)).length + (y223).length := List.length_append
    refine xB 1 [] [(2, vs A226 (((((y4 ++ ([(u8 r_.targets.lateral), (u8 r_.targets.vertical), (u8 r_.targets.phase)] : List UInt8)) ++ y208) ++ y213) ++ y218) ++ y223) c226)] ?_
    refine xRe ?_
    refine wpq_then ?_
    have eS := (Option.some.inj hS).symm
    subst eS
    exact xRet [some 5] [2] (e205.trans (e210.trans (e215.trans (e220.trans e225)))) ⟨A226, c226, k226, by kernel_rfl, by kernel_rfl, h226⟩ (fun _ _ h => h)
  · refine xO2 (lds := [1, 4, 6, 8]) 2 9 ?_ ?_
    · refine xIe (lds := [1, 4, 6, 8]) (Psi.le.refl _) (eC 0 (fun g' lr eb ln => c54 g' (r_.steps : Int) (8 : Int) hy4)) ?_
      rintro _ g229 _ e230 ⟨_, rfl, A4_0, c4_0, k4_0, rfl, rfl, h4_0⟩
      refine kk [some 1, some 2] ?_
      have nh4_0 := h4_0.len
      refine xO1 (lds := [1, 4, 6, 8]) 9 ?_
      refine xIe (lds := [1, 4, 6, 8]) e230.r (eBs (T := tyU8) (p := g229.b) (et := 5) (xs := ([(u8 r_.targets.lateral), (u8 r_.targets.vertical), (u8 r_.targets.phase)] : List UInt8)) (reps_cons (c := [vy r_.targets.lateral]) (u8_rep (by omega)) (reps_cons (c := [vy r_.targets.vertical]) (u8_rep (by omega)) (reps_cons (c := [vy r_.targets.phase]) (u8_rep (by omega)) reps_nil))) (by simp)) ?_
      rintro _ _ _ - ⟨A234, c234, k234, rfl, rfl, rfl, h234⟩
      refine kk [some 2, some 3] ?_
      refine xSub [(3, vp b2 0), (9, vs A4_0 y4 c4_0), (16, vs A234 ([(u8 r_.targets.lateral), (u8 r_.targets.vertical), (u8 r_.targets.phase)] : List UInt8) c234)] ?_
      exact hD3 _ _ _ e230 ⟨A4_0, c4_0, k4_0, A234, c234, k234, by kernel_rfl, by kernel_rfl, h4_0, h234⟩
    · refine xIe (lds := [1, 4, 6, 8]) (Psi.le.refl _) (eBs (T := tyU8) (p := g.b) (et := 5) (xs := ([(u8 r_.targets.lateral), (u8 r_.targets.vertical), (u8 r_.targets.phase)] : List UInt8)) (reps_cons (c := [vy r_.targets.lateral]) (u8_rep (by omega)) (reps_cons (c := [vy r_.targets.vertical]) (u8_rep (by omega)) (reps_cons (c := [vy r_.targets.phase]) (u8_rep (by omega)) reps_nil))) (by simp)) ?_
      rintro _ _ _ - ⟨A238, c238, k238, rfl, rfl, rfl, h238⟩
      refine kk [some 1, some 2] ?_
      refine xO1 (lds := [1, 4, 6, 8]) 2 ?_
      refine xIe (lds := [1, 4, 6, 8]) (Psi.le.refl _) (eC 0 (fun g' lr eb ln => c54 g' (r_.steps : Int) (8 : Int) hy4)) ?_
      rintro _ g240 _ e241 ⟨_, rfl, A4_0, c4_0, k4_0, rfl, rfl, h4_0⟩
      refine kk [some 2, some 3] ?_
      have nh4_0 := h4_0.len
      refine xSel [some 1, some 0, some 2, some 3] ?_
      refine xSub [(3, vp b2 0), (9, vs A4_0 y4 c4_0), (16, vs A238 ([(u8 r_.targets.lateral), (u8 r_.targets.vertical), (u8 r_.targets.phase)] : List UInt8) c238)] ?_
      have h238 := h238.mono e241.b
      exact hD3 _ _ _ e241 ⟨A4_0, c4_0, k4_0, A238, c238, k238, by kernel_rfl, by kernel_rfl, h4_0, h238⟩

def o64 (n : RNode) (t : Targets) : Option (RNode × Frame × Bool × Int) :=
  (cond ((n.stage != 4)) (some ((n, (⟨0, 0, 0, ([] : List UInt8)⟩ : Frame), (false), (8 : Int)))) (cond ((!n.stepped)) (some ((({ n with stage := 5 }), (⟨0, 0, 0, ([] : List UInt8)⟩ : Frame), (false), (0 : Int)))) (bindO (τ := (List UInt8)) (o23 ({ n with targets := t })) fun y7 => (some ((({ n with stage := 5, told := t }), (⟨3, (IntKind.u8.wrap n.number), n.cycle, y7⟩ : Frame), (true), (0 : Int)))))))
set_option maxRecDepth 100000 in
theorem c64 (g : Gh) (n : RNode) (An_input : Option Addr) (cn_input : Nat) (An_heard_input : Option Addr) (cn_heard_input : Nat) (t : Targets) (fn_input : Arr g.b tyU8 An_input cn_input n.input) (fn_heard_input : Arr g.b tyU8 An_heard_input cn_heard_input n.heard.input) {r : RNode × Frame × Bool × Int} (hS : o64 n t = some r) :
    Ctr Try.prog 64 [Value.agg #[vi n.number, vy n.role, vi n.steps, vi n.alone, vi n.stage, vi n.cycle, vs An_input n.input cn_input, vb n.fresh, vb n.isHeard, vy n.heard.role, vi n.heard.steps, vi n.heard.want.base, vi n.heard.want.have_, vs An_heard_input n.heard.input cn_heard_input, vb n.stepped, vy n.told.lateral, vy n.told.vertical, vy n.told.phase, vi n.told.bank, vi n.told.speed, vi n.told.alt, vi n.told.vs], Value.agg #[vy t.lateral, vy t.vertical, vy t.phase, vi t.bank, vi t.speed, vi t.alt, vi t.vs]] g [] (fun v ψ o => ∃ (Ar_0_input : Option Addr) (cr_0_input : Nat) (Ar_0_heard_input : Option Addr) (cr_0_heard_input : Nat) (Ar_1_payload : Option Addr) (cr_1_payload : Nat), v = Value.tuple #[Value.agg #[vi r.1.number, vy r.1.role, vi r.1.steps, vi r.1.alone, vi r.1.stage, vi r.1.cycle, vs Ar_0_input r.1.input cr_0_input, vb r.1.fresh, vb r.1.isHeard, vy r.1.heard.role, vi r.1.heard.steps, vi r.1.heard.want.base, vi r.1.heard.want.have_, vs Ar_0_heard_input r.1.heard.input cr_0_heard_input, vb r.1.stepped, vy r.1.told.lateral, vy r.1.told.vertical, vy r.1.told.phase, vi r.1.told.bank, vi r.1.told.speed, vi r.1.told.alt, vi r.1.told.vs], Value.agg #[vy r.2.1.label, vy r.2.1.from_, vi r.2.1.cycle, vs Ar_1_payload r.2.1.payload cr_1_payload], vb r.2.2.1, vi r.2.2.2] ∧ o = [] ∧ Arr ψ tyU8 Ar_0_input cr_0_input r.1.input ∧ Arr ψ tyU8 Ar_0_heard_input cr_0_heard_input r.1.heard.input ∧ Arr ψ tyU8 Ar_1_payload cr_1_payload r.2.1.payload) := by
  unfold o64 at hS
  refine xFn Try.f64 (Try.f64.body.getD .skip) 33 ?_
  have nfn_input := fn_input.len
  have nfn_heard_input := fn_heard_input.len
  refine xSq ?_
  refine xRg ?_
  refine xE eB ?_
  rintro _ _ _ - ⟨b1, rfl, rfl, rfl⟩
  refine xE eB ?_
  rintro _ _ _ - ⟨b2, rfl, rfl, rfl⟩
  refine xE eB ?_
  rintro _ _ _ - ⟨b3, rfl, rfl, rfl⟩
  refine xE eB ?_
  rintro _ _ _ - ⟨b4, rfl, rfl, rfl⟩
  refine xB 2 [] [(2, vp b1 0), (3, vp b2 0), (4, vp b3 0), (5, vp b4 0)] ?_
  refine xRe ?_
  refine wpq_then ?_
  refine xSq ?_
  refine xSq ?_
  refine xRg ?_
  refine xB 3 [(1, 3)] [(2, vp b1 0), (3, vp b2 0), (4, vp b3 0), (5, vp b4 0), (10, vb (n.stage != 4))] ?_
  refine xRe ?_
  refine wpq_then ?_
  refine xCd ((n.stage != 4)) (fun h5 => ?_) (fun h5 => ?_)
  · have hS := cond_T h5 hS
    have h5p : ¬ (n.stage = 4) := ne_of_bne_ h5
    refine xSq ?_
    refine xRg ?_
    refine xBo 6 [(0, 3), (2, 1), (3, 0)] [some ⟨b4, 100, (cFrame (⟨0, 0, 0, ([] : List UInt8)⟩ : Frame) none 0)⟩, some ⟨b3, 96, (cRNode n An_input cn_input An_heard_input cn_heard_input)⟩, some ⟨b2, 36, (cTargets t)⟩, some ⟨b1, 96, (cRNode n An_input cn_input An_heard_input cn_heard_input)⟩] [(4, vp b3 0), (5, vp b4 0), (6, vb false), (7, vi 8)] ?_
    refine xRe ?_
    refine wpq_then ?_
    have eS := (Option.some.inj hS).symm
    subst eS
    exact xRetC [] [(4, 1), (5, 0)] (Gh.le.refl _) ⟨An_input, cn_input, An_heard_input, cn_heard_input, none, 0, by kernel_rfl, by kernel_rfl, fn_input, fn_heard_input, Arr.nil⟩ (fun _ _ h => h)
  · have hS := cond_F h5 hS
    have h5p : n.stage = 4 := eq_of_bne_false_ h5
    refine xSk ?_
    refine wpq_then ?_
    refine xSub [(2, vp b1 0), (3, vp b2 0), (4, vp b3 0), (5, vp b4 0)] ?_
    refine xSq ?_
    refine xRg ?_
    refine xBo 2 [(1, 3)] [some ⟨b4, 100, (cFrame (⟨0, 0, 0, ([] : List UInt8)⟩ : Frame) none 0)⟩, some ⟨b3, 96, (cRNode (⟨0, 0, 0, 0, 0, 0, ([] : List UInt8), false, false, (⟨0, 0, (⟨0, 0⟩ : Want), ([] : List UInt8)⟩ : Heard), false, (⟨0, 0, 0, 0, 0, 0, 0⟩ : Targets)⟩ : RNode) none 0 none 0)⟩, some ⟨b2, 36, (cTargets t)⟩, some ⟨b1, 96, (cRNode ({ n with stage := 5 }) An_input cn_input An_heard_input cn_heard_input)⟩] [(2, vp b1 0), (3, vp b2 0), (4, vp b3 0), (5, vp b4 0)] ?_
    refine xRe ?_
    refine wpq_then ?_
    refine xSq ?_
    refine xSq ?_
    refine xRg ?_
    refine xB 3 [(1, 3)] [(2, vp b1 0), (3, vp b2 0), (4, vp b3 0), (5, vp b4 0), (16, vb (!n.stepped))] ?_
    refine xRe ?_
    refine wpq_then ?_
    refine xCd ((!n.stepped)) (fun h6 => ?_) (fun h6 => ?_)
    · have hS := cond_T h6 hS
      have h6n := not_eq_true_ h6
      refine xSq ?_
      refine xRg ?_
      refine xBo 6 [(0, 3), (2, 1), (3, 0)] [some ⟨b4, 100, (cFrame (⟨0, 0, 0, ([] : List UInt8)⟩ : Frame) none 0)⟩, some ⟨b3, 96, (cRNode ({ n with stage := 5 }) An_input cn_input An_heard_input cn_heard_input)⟩, some ⟨b2, 36, (cTargets t)⟩, some ⟨b1, 96, (cRNode ({ n with stage := 5 }) An_input cn_input An_heard_input cn_heard_input)⟩] [(4, vp b3 0), (5, vp b4 0), (6, vb false), (7, vi 0)] ?_
      refine xRe ?_
      refine wpq_then ?_
      have eS := (Option.some.inj hS).symm
      subst eS
      exact xRetC [] [(4, 1), (5, 0)] (Gh.le.refl _) ⟨An_input, cn_input, An_heard_input, cn_heard_input, none, 0, by kernel_rfl, by kernel_rfl, fn_input, fn_heard_input, Arr.nil⟩ (fun _ _ h => h)
    · have hS := cond_F h6 hS
      have h6n := not_eq_false_ h6
      refine xSk ?_
      refine wpq_then ?_
      refine xSub [(2, vp b1 0), (3, vp b2 0), (4, vp b3 0), (5, vp b4 0)] ?_
      refine xSq ?_
      refine xRg ?_
      refine xBo 3 [(0, 2), (2, 3)] [some ⟨b4, 100, (cFrame (⟨0, 0, 0, ([] : List UInt8)⟩ : Frame) none 0)⟩, some ⟨b3, 96, (cRNode (⟨0, 0, 0, 0, 0, 0, ([] : List UInt8), false, false, (⟨0, 0, (⟨0, 0⟩ : Want), ([] : List UInt8)⟩ : Heard), false, (⟨0, 0, 0, 0, 0, 0, 0⟩ : Targets)⟩ : RNode) none 0 none 0)⟩, some ⟨b2, 36, (cTargets t)⟩, some ⟨b1, 96, (cRNode ({ n with stage := 5, told := t }) An_input cn_input An_heard_input cn_heard_input)⟩] [(2, vp b1 0), (3, vp b2 0), (4, vp b3 0), (5, vp b4 0)] ?_
      refine xRe ?_
      refine wpq_then ?_
      refine xSq ?_
      refine xDr 0 [0, 2, 5, 7, 8] [13, 14, 15] [some ⟨b2, 36, (cTargets t)⟩, some ⟨b1, 96, (cRNode ({ n with stage := 5, told := t }) An_input cn_input An_heard_input cn_heard_input)⟩] 16 (fun RG => ?_) (fun _ _ _ _ _ h => h)
      refine xT 6 [0, 1, 2, 3, 4, 5, 6, 7, 8, 9] [(0, 1), (2, 1), (5, 1), (7, 1), (8, 0)] [some 2, some 3] [(4, vp b3 0), (5, vp b4 0), (21, Value.agg #[vi n.number, vy n.role, vi n.steps, vi n.alone, vi 5, vi n.cycle, vs An_input n.input cn_input, vb n.fresh, vb n.isHeard, vy n.heard.role, vi n.heard.steps, vi n.heard.want.base, vi n.heard.want.have_, vs An_heard_input n.heard.input cn_heard_input, vb n.stepped, vy t.lateral, vy t.vertical, vy t.phase, vi t.bank, vi t.speed, vi t.alt, vi t.vs]), (24, vy (IntKind.u8.wrap n.number)), (26, vi n.cycle), (30, Value.agg #[vi n.steps, vy t.lateral, vy t.vertical, vy t.phase, vi t.bank, vi t.speed, vi t.alt, vi t.vs])] RG (Psi.le.refl _) ?_
      obtain ⟨y7, hy7, hS⟩ := bindO_T hS
      refine xO1 (lds := [0, 2, 5, 7, 8]) 10 ?_
      refine xIe (lds := [0, 2, 5, 7, 8]) (Psi.le.refl _) (eC 0 (fun g' lr eb ln => c23 g' ({ n with targets := t }) hy7)) ?_
      rintro _ g8 _ e9 ⟨_, rfl, A7_0, c7_0, k7_0, rfl, rfl, h7_0⟩
      refine kk [some 3, some 4] ?_
      have nh7_0 := h7_0.len
      refine xT 4 [11] [] [some 3, some 4] [(4, vp b3 0), (5, vp b4 0), (21, Value.agg #[vi n.number, vy n.role, vi n.steps, vi n.alone, vi 5, vi n.cycle, vs An_input n.input cn_input, vb n.fresh, vb n.isHeard, vy n.heard.role, vi n.heard.steps, vi n.heard.want.base, vi n.heard.want.have_, vs An_heard_input n.heard.input cn_heard_input, vb n.stepped, vy t.lateral, vy t.vertical, vy t.phase, vi t.bank, vi t.speed, vi t.alt, vi t.vs]), (32, Value.agg #[vy 3, vy (IntKind.u8.wrap n.number), vi n.cycle, vs A7_0 y7 c7_0])] RG e9.r ?_
      refine xO1 (lds := [0, 2, 5, 7, 8]) 12 ?_
      refine xId (lds := [0, 2, 5, 7, 8]) e9.r (eStL b3 0 2) ?_
      rintro _ _ _ - ⟨rfl, rfl⟩
      refine kk [some 3, some 4] ?_
      refine xO1 (lds := [0, 2, 5, 7, 8]) 13 ?_
      refine xId (lds := [0, 2, 5, 7, 8]) e9.r (eStL b4 0 1) ?_
      rintro _ _ _ - ⟨rfl, rfl⟩
      refine kf ?_
      refine xT 0 [14, 15] [] [some 3, some 4] [(4, vp b3 0), (5, vp b4 0), (6, vb true), (7, vi 0)] RG e9.r ?_
      refine xAe (lds := [0, 2, 5, 7, 8]) ?_
      refine wpq_then ?_
      refine wpq_freeze 0 (by kernel_rfl) h7_0 (fun g10 e11 f12 => ?_)
      have fn_input := fn_input.mono (e9.trans e11).b
      have fn_heard_input := fn_heard_input.mono (e9.trans e11).b
      have eS := (Option.some.inj hS).symm
      subst eS
      exact xRetC [] [(4, 2), (5, 1)] (e9.trans e11) ⟨An_input, cn_input, An_heard_input, cn_heard_input, A7_0, c7_0, by kernel_rfl, by kernel_rfl, fn_input, fn_heard_input, f12⟩ (fun _ _ h => h)

def o22 (p : List UInt8) : Option (Result × Int) :=
  (cond (((((p).length : Nat) : Int) != 43)) (some (((⟨0, (⟨0, 0, 0, 0, 0, 0, 0⟩ : Targets)⟩ : Result), (4 : Int)))) (bindO (τ := Int) (o55 (p : List UInt8) (8 : Int)) fun y13 => (bindO (τ := Int) (o55 ((List.drop 11 p) : List UInt8) (8 : Int)) fun y16 => (bindO (τ := Int) (o55 ((List.drop 19 p) : List UInt8) (8 : Int)) fun y19 => (bindO (τ := Int) (o55 ((List.drop 27 p) : List UInt8) (8 : Int)) fun y22 => (bindO (τ := Int) (o55 ((List.drop 35 p) : List UInt8) (8 : Int)) fun y25 => (some (((⟨y13, (⟨((List.getD p 8 0).toNat : Int), ((List.getD p 9 0).toNat : Int), ((List.getD p 10 0).toNat : Int), y16, y19, y22, y25⟩ : Targets)⟩ : Result), (0 : Int))))))))))
set_option maxRecDepth 100000 in
theorem c22 (g : Gh) (p : List UInt8) (Ap : Option Addr) (cp : Nat) (fp : Arr g.r tyU8 Ap cp p) {r : Result × Int} (hS : o22 p = some r) :
    Ctr Try.prog 22 [vs Ap p cp] g [] (fun v ψ o => v = Value.tuple #[Value.agg #[vi r.1.steps, vy r.1.targets.lateral, vy r.1.targets.vertical, vy r.1.targets.phase, vi r.1.targets.bank, vi r.1.targets.speed, vi r.1.targets.alt, vi r.1.targets.vs], vi r.2] ∧ o = []) := by
  unfold o22 at hS
  refine xFn Try.f22 (Try.f22.body.getD .skip) 33 ?_
  have nfp := fp.len
  refine xSq ?_
  refine xRg ?_
  refine xE eB ?_
  rintro _ _ _ - ⟨b1, rfl, rfl, rfl⟩
  refine xB 1 [] [(0, vs Ap p cp), (2, vp b1 0)] ?_
  refine xRe ?_
  refine wpq_then ?_
  refine xSq ?_
  refine xSq ?_
  refine xRg ?_
  refine xB 3 [] [(0, vs Ap p cp), (2, vp b1 0), (6, vb ((((p).length : Nat) : Int) != 43))] ?_
  refine xRe ?_
  refine wpq_then ?_
  refine xCd (((((p).length : Nat) : Int) != 43)) (fun h2 => ?_) (fun h2 => ?_)
  · have hS := cond_T h2 hS
    have h2p : ¬ ((((p).length : Nat) : Int) = 43) := ne_of_bne_ h2
    refine xSq ?_
    refine xRg ?_
    refine xBo 3 [(1, 0)] [some ⟨b1, 38, (cResult (⟨0, (⟨0, 0, 0, 0, 0, 0, 0⟩ : Targets)⟩ : Result))⟩] [(2, vp b1 0), (3, vi 4)] ?_
    refine xRe ?_
    refine wpq_then ?_
    have eS := (Option.some.inj hS).symm
    subst eS
    exact xRetC [] [(2, 0)] (Gh.le.refl _) ⟨by kernel_rfl, by kernel_rfl⟩ (fun _ _ h => h)
  · have hS := cond_F h2 hS
    have h2p : (((p).length : Nat) : Int) = 43 := eq_of_bne_false_ h2
    refine xSk ?_
    refine wpq_then ?_
    refine xSub [(0, vs Ap p cp), (2, vp b1 0)] ?_
    refine xSq ?_
    refine xDr 0 [4, 7, 10] [25, 23, 26] [] 27 (fun RG => ?_) (fun _ _ _ _ _ h => h)
    have i4 : 8 < (p).length := by omega
    obtain ⟨ad3, cs3, hA3, hr3, hc3⟩ := fp.at_ (get_getD (d := 0) i4)
    have hr3 : cs3 = [vy ((List.getD p 8 0).toNat : Int)] := hr3
    subst hr3
    have nb3 := UInt8.toNat_lt (List.getD p 8 0)
    refine xT 25 [0, 2] [] [] [(0, vs Ap p cp), (2, vp b1 0), (8, vs Ap p cp), (10, vs Ap p cp)] RG (Psi.le.refl _) ?_
    refine xTp 3 RG (fun _ => (qIx 8 1 hA3 rfl i4)) ?_
    refine xTv 4 [] RG (Psi.le.refl _) (qLdP (Addr.add ad3 (8 * 1)) 0 hc3) ?_
    have i6 : 9 < (p).length := by omega
    obtain ⟨ad5, cs5, hA5, hr5, hc5⟩ := fp.at_ (get_getD (d := 0) i6)
    have hr5 : cs5 = [vy ((List.getD p 9 0).toNat : Int)] := hr5
    subst hr5
    have nb5 := UInt8.toNat_lt (List.getD p 9 0)
    refine xT 22 [5] [] [] [(0, vs Ap p cp), (2, vp b1 0), (8, vs Ap p cp), (12, vy ((List.getD p 8 0).toNat : Int)), (13, vs Ap p cp)] RG (Psi.le.refl _) ?_
    refine xTp 6 RG (fun _ => (qIx 9 1 hA5 rfl i6)) ?_
    refine xTv 7 [] RG (Psi.le.refl _) (qLdP (Addr.add ad5 (9 * 1)) 0 hc5) ?_
    have i8 : 10 < (p).length := by omega
    obtain ⟨ad7, cs7, hA7, hr7, hc7⟩ := fp.at_ (get_getD (d := 0) i8)
    have hr7 : cs7 = [vy ((List.getD p 10 0).toNat : Int)] := hr7
    subst hr7
    have nb7 := UInt8.toNat_lt (List.getD p 10 0)
    refine xT 19 [8] [] [] [(0, vs Ap p cp), (2, vp b1 0), (8, vs Ap p cp), (12, vy ((List.getD p 8 0).toNat : Int)), (15, vy ((List.getD p 9 0).toNat : Int)), (16, vs Ap p cp)] RG (Psi.le.refl _) ?_
    refine xTp 9 RG (fun _ => (qIx 10 1 hA7 rfl i8)) ?_
    refine xTv 10 [] RG (Psi.le.refl _) (qLdP (Addr.add ad7 (10 * 1)) 0 hc7) ?_
    have ncapf9 := fp.cap
    have f9 : Arr g.r tyU8 (offA Ap cp 11 1) (cp - 11) (List.drop 11 p) := fp.cut_from 11 (by omega)
    have nf9 := f9.len
    have hlf9 : (p).length - 11 = ((List.drop 11 p)).length := by simp only [List.length_take, List.length_drop] <;> omega
    have hvf9 : ((((List.drop 11 p)).length : Nat) : Int) = (((p).length : Nat) : Int) - 11 := by omega
    refine xT 16 [11] [] [] [(0, vs Ap p cp), (2, vp b1 0), (8, vs Ap p cp), (12, vy ((List.getD p 8 0).toNat : Int)), (15, vy ((List.getD p 9 0).toNat : Int)), (18, vy ((List.getD p 10 0).toNat : Int)), (19, vs Ap p cp)] RG (Psi.le.refl _) ?_
    refine xTp 12 RG (fun _ => (qSl (m := 1) (A := Ap) (len := (p).length) (c := cp) 11 (p).length (some 11) none ((List.drop 11 p)).length rfl rfl (by omega) (by omega) hlf9)) ?_
    have ncapf10 := fp.cap
    have f10 : Arr g.r tyU8 (offA Ap cp 19 1) (cp - 19) (List.drop 19 p) := fp.cut_from 19 (by omega)
    have nf10 := f10.len
    have hlf10 : (p).length - 19 = ((List.drop 19 p)).length := by simp only [List.length_take, List.length_drop] <;> omega
    have hvf10 : ((((List.drop 19 p)).length : Nat) : Int) = (((p).length : Nat) : Int) - 19 := by omega
    refine xT 14 [14] [] [] [(0, vs Ap p cp), (2, vp b1 0), (8, vs Ap p cp), (12, vy ((List.getD p 8 0).toNat : Int)), (15, vy ((List.getD p 9 0).toNat : Int)), (18, vy ((List.getD p 10 0).toNat : Int)), (20, vs (offA Ap cp 11 1) (List.drop 11 p) (cp - 11)), (22, vs Ap p cp)] RG (Psi.le.refl _) ?_
    refine xTp 15 RG (fun _ => (qSl (m := 1) (A := Ap) (len := (p).length) (c := cp) 19 (p).length (some 19) none ((List.drop 19 p)).length rfl rfl (by omega) (by omega) hlf10)) ?_
    have ncapf11 := fp.cap
    have f11 : Arr g.r tyU8 (offA Ap cp 27 1) (cp - 27) (List.drop 27 p) := fp.cut_from 27 (by omega)
    have nf11 := f11.len
    have hlf11 : (p).length - 27 = ((List.drop 27 p)).length := by simp only [List.length_take, List.length_drop] <;> omega
    have hvf11 : ((((List.drop 27 p)).length : Nat) : Int) = (((p).length : Nat) : Int) - 27 := by omega
    refine xT 12 [17] [] [] [(0, vs Ap p cp), (2, vp b1 0), (8, vs Ap p cp), (12, vy ((List.getD p 8 0).toNat : Int)), (15, vy ((List.getD p 9 0).toNat : Int)), (18, vy ((List.getD p 10 0).toNat : Int)), (20, vs (offA Ap cp 11 1) (List.drop 11 p) (cp - 11)), (23, vs (offA Ap cp 19 1) (List.drop 19 p) (cp - 19)), (25, vs Ap p cp)] RG (Psi.le.refl _) ?_
    refine xTp 18 RG (fun _ => (qSl (m := 1) (A := Ap) (len := (p).length) (c := cp) 27 (p).length (some 27) none ((List.drop 27 p)).length rfl rfl (by omega) (by omega) hlf11)) ?_
    have ncapf12 := fp.cap
    have f12 : Arr g.r tyU8 (offA Ap cp 35 1) (cp - 35) (List.drop 35 p) := fp.cut_from 35 (by omega)
    have nf12 := f12.len
    have hlf12 : (p).length - 35 = ((List.drop 35 p)).length := by simp only [List.length_take, List.length_drop] <;> omega
    have hvf12 : ((((List.drop 35 p)).length : Nat) : Int) = (((p).length : Nat) : Int) - 35 := by omega
    refine xT 10 [20] [] [] [(2, vp b1 0), (8, vs Ap p cp), (12, vy ((List.getD p 8 0).toNat : Int)), (15, vy ((List.getD p 9 0).toNat : Int)), (18, vy ((List.getD p 10 0).toNat : Int)), (20, vs (offA Ap cp 11 1) (List.drop 11 p) (cp - 11)), (23, vs (offA Ap cp 19 1) (List.drop 19 p) (cp - 19)), (26, vs (offA Ap cp 27 1) (List.drop 27 p) (cp - 27)), (28, vs Ap p cp)] RG (Psi.le.refl _) ?_
    refine xTp 21 RG (fun _ => (qSl (m := 1) (A := Ap) (len := (p).length) (c := cp) 35 (p).length (some 35) none ((List.drop 35 p)).length rfl rfl (by omega) (by omega) hlf12)) ?_
    obtain ⟨y13, hy13, hS⟩ := bindO_T hS
    refine xO1 (lds := [4, 7, 10]) 1 ?_
    refine xIe (lds := [4, 7, 10]) (Psi.le.refl _) (eC 0 (fun g' lr eb ln => c55 g' (p : List UInt8) Ap cp (8 : Int) (fp.mono lr) hy13)) ?_
    rintro _ g14 _ e15 ⟨_, rfl, rfl, rfl⟩
    refine kk [] ?_
    have f9 := f9.mono e15.r
    obtain ⟨y16, hy16, hS⟩ := bindO_T hS
    refine xO1 (lds := [4, 7, 10]) 13 ?_
    refine xIe (lds := [4, 7, 10]) e15.r (eC 0 (fun g' lr eb ln => c55 g' ((List.drop 11 p) : List UInt8) (offA Ap cp 11 1) (cp - 11) (8 : Int) (f9.mono lr) hy16)) ?_
    rintro _ g17 _ e18 ⟨_, rfl, rfl, rfl⟩
    refine kk [] ?_
    have f10 := f10.mono (e15.trans e18).r
    obtain ⟨y19, hy19, hS⟩ := bindO_T hS
    refine xO1 (lds := [4, 7, 10]) 16 ?_
    refine xIe (lds := [4, 7, 10]) (e15.trans e18).r (eC 0 (fun g' lr eb ln => c55 g' ((List.drop 19 p) : List UInt8) (offA Ap cp 19 1) (cp - 19) (8 : Int) (f10.mono lr) hy19)) ?_
    rintro _ g20 _ e21 ⟨_, rfl, rfl, rfl⟩
    refine kk [] ?_
    have f11 := f11.mono (e15.trans (e18.trans e21)).r
    obtain ⟨y22, hy22, hS⟩ := bindO_T hS
    refine xO1 (lds := [4, 7, 10]) 19 ?_
    refine xIe (lds := [4, 7, 10]) (e15.trans (e18.trans e21)).r (eC 0 (fun g' lr eb ln => c55 g' ((List.drop 27 p) : List UInt8) (offA Ap cp 27 1) (cp - 27) (8 : Int) (f11.mono lr) hy22)) ?_
    rintro _ g23 _ e24 ⟨_, rfl, rfl, rfl⟩
    refine kk [] ?_
    have f12 := f12.mono (e15.trans (e18.trans (e21.trans e24))).r
    obtain ⟨y25, hy25, hS⟩ := bindO_T hS
    refine xO1 (lds := [4, 7, 10]) 22 ?_
    refine xIe (lds := [4, 7, 10]) (e15.trans (e18.trans (e21.trans e24))).r (eC 0 (fun g' lr eb ln => c55 g' ((List.drop 35 p) : List UInt8) (offA Ap cp 35 1) (cp - 35) (8 : Int) (f12.mono lr) hy25)) ?_
    rintro _ g26 _ e27 ⟨_, rfl, rfl, rfl⟩
    refine kk [] ?_
    refine xT 2 [23, 24] [] [] [(2, vp b1 0), (32, Value.agg #[vi y13, vy ((List.getD p 8 0).toNat : Int), vy ((List.getD p 9 0).toNat : Int), vy ((List.getD p 10 0).toNat : Int), vi y16, vi y19, vi y22, vi y25])] RG (e15.trans (e18.trans (e21.trans (e24.trans e27)))).r ?_
    refine xO1 (lds := [4, 7, 10]) 25 ?_
    refine xId (lds := [4, 7, 10]) (e15.trans (e18.trans (e21.trans (e24.trans e27)))).r (eStL b1 0 0) ?_
    rintro _ _ _ - ⟨rfl, rfl⟩
    refine kf ?_
    refine xT 0 [26] [] [] [(2, vp b1 0), (3, vi 0)] RG (e15.trans (e18.trans (e21.trans (e24.trans e27)))).r ?_
    refine xAe (lds := [4, 7, 10]) ?_
    refine wpq_then ?_
    have eS := (Option.some.inj hS).symm
    subst eS
    exact xRetC [] [(2, 0)] (e15.trans (e18.trans (e21.trans (e24.trans e27)))) ⟨by kernel_rfl, by kernel_rfl⟩ (fun _ _ h => h)

def o51 (n : Node) (f : Frame) (came : Bool) : Option (Node × Int × Int) :=
  (letJ (τ := Int) (o69 n (5 : Int)) fun y2 => (cond ((y2 != 0)) (some ((n, (0 : Int), (y2 : Int)))) (cond ((!n.has)) (some ((({ n with next_ := 0 }), (2 : Int), (0 : Int)))) (bindO (τ := Result × Int) (o22 (f.payload : List UInt8)) fun y7 => (letJ (τ := Bool) (o71 ({ n with next_ := 0 }) f (came) (3 : Int)) fun y11 => (cond ((!(y11 && (y7.2 == 0)))) (some ((({ n with next_ := 0 }), (3 : Int), (0 : Int)))) (letJ (τ := Bool) (cond ((n.role == 3)) (true) (letJ (τ := Bool) (o72 ({ n with next_ := 0 })) fun y22 => y22)) fun t16 => (cond ((t16 && ((y7.1.steps == n.told.steps) && ((y7.1.targets.lateral == n.told.targets.lateral) && ((y7.1.targets.vertical == n.told.targets.vertical) && ((y7.1.targets.phase == n.told.targets.phase) && ((y7.1.targets.bank == n.told.targets.bank) && ((y7.1.targets.speed == n.told.targets.speed) && ((y7.1.targets.alt == n.told.targets.alt) && (y7.1.targets.vs == n.told.targets.vs)))))))))) (some ((({ n with next_ := 0 }), (4 : Int), (0 : Int)))) (some ((({ n with next_ := 0 }), (2 : Int), (0 : Int))))))))))))
set_option maxRecDepth 100000 in
theorem c51 (g : Gh) (b_n : Nat) (n : Node) (An_input : Option Addr) (cn_input : Nat) (An_heard_input : Option Addr) (cn_heard_input : Nat) (An_set__in_ : Option Addr) (cn_set__in_ : Nat) (f : Frame) (Af_payload : Option Addr) (cf_payload : Nat) (came : Bool) (fn_input : Arr g.b tyU8 An_input cn_input n.input) (fn_heard_input : Arr g.b tyU8 An_heard_input cn_heard_input n.heard.input) (fn_set__in_ : Arr g.b tyU8 An_set__in_ cn_set__in_ n.set_.in_) (ff_payload : Arr g.r tyU8 Af_payload cf_payload f.payload) {r : Node × Int × Int} (hS : o51 n f came = some r) :
    Ctr Try.prog 51 [vp b_n 0, Value.agg #[vy f.label, vy f.from_, vi f.cycle, vs Af_payload f.payload cf_payload], vb came] g [some ⟨b_n, 131, (cNode n An_input cn_input An_heard_input cn_heard_input An_set__in_ cn_set__in_)⟩] (fun v ψ o => ∃ (Ao_n_input : Option Addr) (co_n_input : Nat) (Ao_n_heard_input : Option Addr) (co_n_heard_input : Nat) (Ao_n_set__in_ : Option Addr) (co_n_set__in_ : Nat), v = Value.tuple #[vy r.2.1, vi r.2.2] ∧ o = [some ⟨b_n, 131, (cNode r.1 Ao_n_input co_n_input Ao_n_heard_input co_n_heard_input Ao_n_set__in_ co_n_set__in_)⟩] ∧ Arr ψ tyU8 Ao_n_input co_n_input r.1.input ∧ Arr ψ tyU8 Ao_n_heard_input co_n_heard_input r.1.heard.input ∧ Arr ψ tyU8 Ao_n_set__in_ co_n_set__in_ r.1.set_.in_) := by
  unfold o51 at hS
  refine xFn Try.f51 (Try.f51.body.getD .skip) 60 ?_
  have nfn_input := fn_input.len
  have nfn_heard_input := fn_heard_input.len
  have nfn_set__in_ := fn_set__in_.len
  have nff_payload := ff_payload.len
  refine xSq ?_
  refine xRg ?_
  refine xE eB ?_
  rintro _ _ _ - ⟨b1, rfl, rfl, rfl⟩
  refine xB 2 [] [(0, vp b_n 0), (2, vb came), (4, vp b1 0)] ?_
  refine xRe ?_
  refine wpq_then ?_
  refine xSq ?_
  refine xSq ?_
  refine xRg ?_
  refine xB 1 [] [(0, vp b_n 0), (2, vb came), (4, vp b1 0), (12, vp b_n 0)] ?_
  obtain ⟨y2, hy2, hS⟩ := letJ_T hS
  refine xE (eC 0 (fun g' lr eb ln => c69 g' ⟨b_n, 0, none⟩ n An_input cn_input An_heard_input cn_heard_input An_set__in_ cn_set__in_ (5 : Int) (cells_lent' 1 b_n 0 (cNode n An_input cn_input An_heard_input cn_heard_input An_set__in_ cn_set__in_) ln) ((fn_input.mono g.br).mono lr) ((fn_heard_input.mono g.br).mono lr) ((fn_set__in_.mono g.br).mono lr) hy2)) ?_
  rintro _ g3 _ e4 ⟨_, rfl, rfl, rfl⟩
  refine xB 1 [] [(0, vp b_n 0), (2, vb came), (4, vp b1 0), (8, vi y2)] ?_
  refine xRe ?_
  refine wpq_then ?_
  refine xSq ?_
  refine xRg ?_
  refine xB 2 [] [(0, vp b_n 0), (2, vb came), (4, vp b1 0), (8, vi y2), (15, vb (y2 != 0))] ?_
  refine xRe ?_
  refine wpq_then ?_
  refine xCd ((y2 != 0)) (fun h5 => ?_) (fun h5 => ?_)
  · have hS := cond_T h5 hS
    have h5p : ¬ (y2 = 0) := ne_of_bne_ h5
    refine xSq ?_
    refine xRg ?_
    refine xB 3 [] [(6, vy 0), (7, vi y2)] ?_
    refine xRe ?_
    refine wpq_then ?_
    have fn_input := fn_input.mono e4.b
    have fn_heard_input := fn_heard_input.mono e4.b
    have fn_set__in_ := fn_set__in_.mono e4.b
    have eS := (Option.some.inj hS).symm
    subst eS
    exact xRet [some 1] [6, 7] e4 ⟨An_input, cn_input, An_heard_input, cn_heard_input, An_set__in_, cn_set__in_, by kernel_rfl, by kernel_rfl, fn_input, fn_heard_input, fn_set__in_⟩ (fun _ _ h => h)
  · have hS := cond_F h5 hS
    have h5p : y2 = 0 := eq_of_bne_false_ h5
    refine xSk ?_
    refine wpq_then ?_
    refine xSub [(0, vp b_n 0), (2, vb came), (4, vp b1 0)] ?_
    refine xSq ?_
    refine xRg ?_
    refine xBo 4 [(3, 1)] [some ⟨b1, 100, (cFrame f Af_payload cf_payload)⟩, some ⟨b_n, 131, (cNode ({ n with next_ := 0 }) An_input cn_input An_heard_input cn_heard_input An_set__in_ cn_set__in_)⟩] [(0, vp b_n 0), (2, vb came), (4, vp b1 0)] ?_
    refine xRe ?_
    refine wpq_then ?_
    refine xSq ?_
    refine xSq ?_
    refine xRg ?_
    refine xB 5 [(3, 1)] [(0, vp b_n 0), (2, vb came), (4, vp b1 0), (24, vb (!n.has))] ?_
    refine xRe ?_
    refine wpq_then ?_
    refine xCd ((!n.has)) (fun h6 => ?_) (fun h6 => ?_)
    · have hS := cond_T h6 hS
      have h6n := not_eq_true_ h6
      refine xSq ?_
      refine xRg ?_
      refine xB 2 [] [(6, vy 2), (7, vi 0)] ?_
      refine xRe ?_
      refine wpq_then ?_
      have fn_input := fn_input.mono e4.b
      have fn_heard_input := fn_heard_input.mono e4.b
      have fn_set__in_ := fn_set__in_.mono e4.b
      have eS := (Option.some.inj hS).symm
      subst eS
      exact xRet [some 1] [6, 7] e4 ⟨An_input, cn_input, An_heard_input, cn_heard_input, An_set__in_, cn_set__in_, by kernel_rfl, by kernel_rfl, fn_input, fn_heard_input, fn_set__in_⟩ (fun _ _ h => h)
    · have hS := cond_F h6 hS
      have h6n := not_eq_false_ h6
      refine xSk ?_
      refine wpq_then ?_
      refine xSub [(0, vp b_n 0), (2, vb came), (4, vp b1 0)] ?_
      refine xSq ?_
      refine xRg ?_
      refine xB 2 [(1, 0)] [(0, vp b_n 0), (2, vb came), (4, vp b1 0), (27, vs Af_payload f.payload cf_payload)] ?_
      have ff_payload := ff_payload.mono e4.r
      obtain ⟨y7, hy7, hS⟩ := bindO_T hS
      refine xE (eC 0 (fun g' lr eb ln => c22 g' (f.payload : List UInt8) Af_payload cf_payload (ff_payload.mono lr) hy7)) ?_
      rintro _ g8 _ e9 ⟨_, rfl, rfl, rfl⟩
      refine xB 3 [] [(0, vp b_n 0), (2, vb came), (4, vp b1 0), (29, Value.agg #[vi y7.1.steps, vy y7.1.targets.lateral, vy y7.1.targets.vertical, vy y7.1.targets.phase, vi y7.1.targets.bank, vi y7.1.targets.speed, vi y7.1.targets.alt, vi y7.1.targets.vs]), (30, vi y7.2)] ?_
      refine xE eB ?_
      rintro _ _ _ - ⟨b10, rfl, rfl, rfl⟩
      refine xBo 2 [(7, 0)] [some ⟨b10, 38, (cResult y7.1)⟩, some ⟨b1, 100, (cFrame f Af_payload cf_payload)⟩, some ⟨b_n, 131, (cNode ({ n with next_ := 0 }) An_input cn_input An_heard_input cn_heard_input An_set__in_ cn_set__in_)⟩] [(0, vp b_n 0), (2, vb came), (4, vp b1 0), (9, vp b10 0), (10, vi y7.2)] ?_
      refine xRe ?_
      refine wpq_then ?_
      refine xSq ?_
      refine xRg ?_
      refine xB 3 [(1, 1)] [(0, vp b_n 0), (9, vp b10 0), (10, vi y7.2), (31, vp b_n 0), (32, Value.agg #[vy f.label, vy f.from_, vi f.cycle, vs Af_payload f.payload cf_payload]), (33, vb came)] ?_
      have fn_input := fn_input.mono (e4.trans e9).b
      have fn_heard_input := fn_heard_input.mono (e4.trans e9).b
      have fn_set__in_ := fn_set__in_.mono (e4.trans e9).b
      have ff_payload := ff_payload.mono e9.r
      obtain ⟨y11, hy11, hS⟩ := letJ_T hS
      refine xE (eC 0 (fun g' lr eb ln => c71 g' ⟨b_n, 0, none⟩ ({ n with next_ := 0 }) An_input cn_input An_heard_input cn_heard_input An_set__in_ cn_set__in_ f Af_payload cf_payload (came) (3 : Int) (cells_lent' 2 b_n 0 (cNode ({ n with next_ := 0 }) An_input cn_input An_heard_input cn_heard_input An_set__in_ cn_set__in_) ln) ((fn_input.mono g8.br).mono lr) ((fn_heard_input.mono g8.br).mono lr) ((fn_set__in_.mono g8.br).mono lr) (ff_payload.mono lr) hy11)) ?_
      rintro _ g12 _ e13 ⟨_, rfl, rfl, rfl⟩
      refine xB 1 [] [(0, vp b_n 0), (9, vp b10 0), (10, vi y7.2), (35, vb y11)] ?_
      refine wpr_grp 8 [(0, vp b_n 0), (9, vp b10 0), (38, vb (y11 && (y7.2 == 0)))] (fun hk4 => ?_) ?_
      · refine wpq_split 35 (b := y11) (by kernel_rfl) (fun q14 => ?_) (fun q14 => ?_)
        · refine xB 3 [] [(0, vp b_n 0), (9, vp b10 0), (38, vb (y7.2 == 0))] ?_
          refine wpq_re 38 (v := vb (y7.2 == 0)) (Value.bool ((y11 && (y7.2 == 0)))) (by kernel_rfl) (re_and1 q14) ?_
          exact wpq_sub _ (by kernel_rfl) hk4
        · refine xB 3 [] [(0, vp b_n 0), (9, vp b10 0), (38, vb false)] ?_
          refine wpq_re 38 (v := vb false) (Value.bool ((y11 && (y7.2 == 0)))) (by kernel_rfl) (re_and0 q14) ?_
          exact wpq_sub _ (by kernel_rfl) hk4
      · refine xB 1 [] [(0, vp b_n 0), (9, vp b10 0), (11, vb (y11 && (y7.2 == 0)))] ?_
        refine xRe ?_
        refine wpq_then ?_
        refine xSq ?_
        refine xBl 0 ?_
        refine xSq ?_
        refine xRg ?_
        refine xB 3 [] [(0, vp b_n 0), (9, vp b10 0), (39, vb (!(y11 && (y7.2 == 0))))] ?_
        refine xRe ?_
        refine wpq_then ?_
        refine xCd ((!(y11 && (y7.2 == 0)))) (fun h15 => ?_) (fun h15 => ?_)
        · have hS := cond_T h15 hS
          have h15n := not_eq_true_ h15
          refine xSq ?_
          refine xRg ?_
          refine xB 2 [] [(6, vy 3), (7, vi 0)] ?_
          refine xRe ?_
          refine wpq_then ?_
          have fn_input := fn_input.mono e13.b
          have fn_heard_input := fn_heard_input.mono e13.b
          have fn_set__in_ := fn_set__in_.mono e13.b
          have eS := (Option.some.inj hS).symm
          subst eS
          exact xRet [some 2] [6, 7] (e4.trans (e9.trans e13)) ⟨An_input, cn_input, An_heard_input, cn_heard_input, An_set__in_, cn_set__in_, by kernel_rfl, by kernel_rfl, fn_input, fn_heard_input, fn_set__in_⟩ (fun _ _ h => h)
        · have hS := cond_F h15 hS
          have h15n := not_eq_false_ h15
          have h15nl := (and_true_ h15n).1
          have h15nr := (and_true_ h15n).2
          have h15nrp : y7.2 = 0 := eq_of_beq h15nr
          refine xSq ?_
          refine xDr 0 [3, 10, 14] [] [some ⟨b10, 38, (cResult y7.1)⟩, some ⟨b1, 100, (cFrame f Af_payload cf_payload)⟩, some ⟨b_n, 131, (cNode ({ n with next_ := 0 }) An_input cn_input An_heard_input cn_heard_input An_set__in_ cn_set__in_)⟩] 18 (fun RG => ?_) (fun _ _ _ _ _ h => h)
          refine xT 12 [0, 1, 2, 3, 4, 5] [(3, 2)] [some 0, some 1, some 2] [(0, vp b_n 0), (9, vp b10 0), (48, vb (n.role == 3))] RG (Psi.le.refl _) ?_
          refine xGJlA hS 9 [true, true, true, true, true, true, true, true, true, false, false, false, false, false, false, false, false, false] (fun g own sl t16 => own = [some ⟨b10, 38, (cResult y7.1)⟩, some ⟨b1, 100, (cFrame f Af_payload cf_payload)⟩, some ⟨b_n, 131, (cNode ({ n with next_ := 0 }) An_input cn_input An_heard_input cn_heard_input An_set__in_ cn_set__in_)⟩] ∧ sl = [(0, vp b_n 0), (9, vp b10 0), (51, vb t16)]) ?_ ?_
          · rintro g17 _ _ t16 e18 ⟨rfl, rfl⟩ hS
            refine xT 8 [9] [] [some 0, some 1, some 2] [(0, vp b_n 0), (9, vp b10 0), (52, vb t16)] RG e18.r ?_
            refine wpa_grp 1 [true, true, true, true, true, true, true, true, true, true, true, true, true, true, true, true, true, false] [(59, vb (t16 && ((y7.1.steps == n.told.steps) && ((y7.1.targets.lateral == n.told.targets.lateral) && ((y7.1.targets.vertical == n.told.targets.vertical) && ((y7.1.targets.phase == n.told.targets.phase) && ((y7.1.targets.bank == n.told.targets.bank) && ((y7.1.targets.speed == n.told.targets.speed) && ((y7.1.targets.alt == n.told.targets.alt) && (y7.1.targets.vs == n.told.targets.vs))))))))))] (fun hk9 => ?_) ?_
            · refine wpq_split 52 (b := t16) (by kernel_rfl) (fun q19 => ?_) (fun q19 => ?_)
              · refine xT 3 [10, 11, 12, 13, 14] [(10, 0), (14, 2)] [some 0, some 1, some 2] [(52, vb true), (53, Value.agg #[vi y7.1.steps, vy y7.1.targets.lateral, vy y7.1.targets.vertical, vy y7.1.targets.phase, vi y7.1.targets.bank, vi y7.1.targets.speed, vi y7.1.targets.alt, vi y7.1.targets.vs]), (57, Value.agg #[vi n.told.steps, vy n.told.targets.lateral, vy n.told.targets.vertical, vy n.told.targets.phase, vi n.told.targets.bank, vi n.told.targets.speed, vi n.told.targets.alt, vi n.told.targets.vs])] RG e18.r ?_
                refine xTp 15 RG (fun _ => (qEqA (((y7.1.steps == n.told.steps) && ((y7.1.targets.lateral == n.told.targets.lateral) && ((y7.1.targets.vertical == n.told.targets.vertical) && ((y7.1.targets.phase == n.told.targets.phase) && ((y7.1.targets.bank == n.told.targets.bank) && ((y7.1.targets.speed == n.told.targets.speed) && ((y7.1.targets.alt == n.told.targets.alt) && (y7.1.targets.vs == n.told.targets.vs))))))))))) ?_
                refine xT 1 [16] [] [some 0, some 1, some 2] [(59, vb ((y7.1.steps == n.told.steps) && ((y7.1.targets.lateral == n.told.targets.lateral) && ((y7.1.targets.vertical == n.told.targets.vertical) && ((y7.1.targets.phase == n.told.targets.phase) && ((y7.1.targets.bank == n.told.targets.bank) && ((y7.1.targets.speed == n.told.targets.speed) && ((y7.1.targets.alt == n.told.targets.alt) && (y7.1.targets.vs == n.told.targets.vs)))))))))] RG e18.r ?_
                refine wpq_re 59 (v := vb ((y7.1.steps == n.told.steps) && ((y7.1.targets.lateral == n.told.targets.lateral) && ((y7.1.targets.vertical == n.told.targets.vertical) && ((y7.1.targets.phase == n.told.targets.phase) && ((y7.1.targets.bank == n.told.targets.bank) && ((y7.1.targets.speed == n.told.targets.speed) && ((y7.1.targets.alt == n.told.targets.alt) && (y7.1.targets.vs == n.told.targets.vs))))))))) (Value.bool ((t16 && ((y7.1.steps == n.told.steps) && ((y7.1.targets.lateral == n.told.targets.lateral) && ((y7.1.targets.vertical == n.told.targets.vertical) && ((y7.1.targets.phase == n.told.targets.phase) && ((y7.1.targets.bank == n.told.targets.bank) && ((y7.1.targets.speed == n.told.targets.speed) && ((y7.1.targets.alt == n.told.targets.alt) && (y7.1.targets.vs == n.told.targets.vs))))))))))) (by kernel_rfl) (re_and1 q19) ?_
                exact wpq_sub _ (by kernel_rfl) hk9
              · refine xT 1 [10, 11, 12, 13, 14, 15, 16] [] [some 0, some 1, some 2] [(59, vb false)] RG e18.r ?_
                refine wpq_re 59 (v := vb false) (Value.bool ((t16 && ((y7.1.steps == n.told.steps) && ((y7.1.targets.lateral == n.told.targets.lateral) && ((y7.1.targets.vertical == n.told.targets.vertical) && ((y7.1.targets.phase == n.told.targets.phase) && ((y7.1.targets.bank == n.told.targets.bank) && ((y7.1.targets.speed == n.told.targets.speed) && ((y7.1.targets.alt == n.told.targets.alt) && (y7.1.targets.vs == n.told.targets.vs))))))))))) (by kernel_rfl) (re_and0 q19) ?_
                exact wpq_sub _ (by kernel_rfl) hk9
            · refine xT 0 [17] [] [some 0, some 1, some 2] [(42, vb (t16 && ((y7.1.steps == n.told.steps) && ((y7.1.targets.lateral == n.told.targets.lateral) && ((y7.1.targets.vertical == n.told.targets.vertical) && ((y7.1.targets.phase == n.told.targets.phase) && ((y7.1.targets.bank == n.told.targets.bank) && ((y7.1.targets.speed == n.told.targets.speed) && ((y7.1.targets.alt == n.told.targets.alt) && (y7.1.targets.vs == n.told.targets.vs))))))))))] RG e18.r ?_
              refine xAe (lds := [3, 10, 14]) ?_
              refine wpq_then ?_
              refine xCd ((t16 && ((y7.1.steps == n.told.steps) && ((y7.1.targets.lateral == n.told.targets.lateral) && ((y7.1.targets.vertical == n.told.targets.vertical) && ((y7.1.targets.phase == n.told.targets.phase) && ((y7.1.targets.bank == n.told.targets.bank) && ((y7.1.targets.speed == n.told.targets.speed) && ((y7.1.targets.alt == n.told.targets.alt) && (y7.1.targets.vs == n.told.targets.vs)))))))))) (fun h20 => ?_) (fun h20 => ?_)
              · have hS := cond_T h20 hS
                have h20l := (and_true_ h20).1
                have h20r := (and_true_ h20).2
                have h20rl := (and_true_ h20r).1
                have h20rr := (and_true_ h20r).2
                have h20rlp : y7.1.steps = n.told.steps := eq_of_beq h20rl
                have h20rrl := (and_true_ h20rr).1
                have h20rrr := (and_true_ h20rr).2
                have h20rrlp : y7.1.targets.lateral = n.told.targets.lateral := eq_of_beq h20rrl
                have h20rrrl := (and_true_ h20rrr).1
                have h20rrrr := (and_true_ h20rrr).2
                have h20rrrlp : y7.1.targets.vertical = n.told.targets.vertical := eq_of_beq h20rrrl
                have h20rrrrl := (and_true_ h20rrrr).1
                have h20rrrrr := (and_true_ h20rrrr).2
                have h20rrrrlp : y7.1.targets.phase = n.told.targets.phase := eq_of_beq h20rrrrl
                have h20rrrrrl := (and_true_ h20rrrrr).1
                have h20rrrrrr := (and_true_ h20rrrrr).2
                have h20rrrrrlp : y7.1.targets.bank = n.told.targets.bank := eq_of_beq h20rrrrrl
                have h20rrrrrrl := (and_true_ h20rrrrrr).1
                have h20rrrrrrr := (and_true_ h20rrrrrr).2
                have h20rrrrrrlp : y7.1.targets.speed = n.told.targets.speed := eq_of_beq h20rrrrrrl
                have h20rrrrrrrl := (and_true_ h20rrrrrrr).1
                have h20rrrrrrrr := (and_true_ h20rrrrrrr).2
                have h20rrrrrrrlp : y7.1.targets.alt = n.told.targets.alt := eq_of_beq h20rrrrrrrl
                have h20rrrrrrrrp : y7.1.targets.vs = n.told.targets.vs := eq_of_beq h20rrrrrrrr
                refine xSq ?_
                refine xRg ?_
                refine xB 2 [] [(6, vy 4), (7, vi 0)] ?_
                refine xRe ?_
                refine wpq_then ?_
                have fn_input := fn_input.mono (e13.trans e18).b
                have fn_heard_input := fn_heard_input.mono (e13.trans e18).b
                have fn_set__in_ := fn_set__in_.mono (e13.trans e18).b
                have eS := (Option.some.inj hS).symm
                subst eS
                exact xRet [some 2] [6, 7] (e4.trans (e9.trans (e13.trans e18))) ⟨An_input, cn_input, An_heard_input, cn_heard_input, An_set__in_, cn_set__in_, by kernel_rfl, by kernel_rfl, fn_input, fn_heard_input, fn_set__in_⟩ (fun _ _ h => h)
              · have hS := cond_F h20 hS
                refine xSk ?_
                refine wpq_blockN ?_
                refine wpq_then ?_
                refine xSub [] ?_
                refine xSq ?_
                refine xRg ?_
                refine xB 2 [] [(6, vy 2), (7, vi 0)] ?_
                refine xRe ?_
                refine wpq_then ?_
                have fn_input := fn_input.mono (e13.trans e18).b
                have fn_heard_input := fn_heard_input.mono (e13.trans e18).b
                have fn_set__in_ := fn_set__in_.mono (e13.trans e18).b
                have eS := (Option.some.inj hS).symm
                subst eS
                exact xRet [some 2] [6, 7] (e4.trans (e9.trans (e13.trans e18))) ⟨An_input, cn_input, An_heard_input, cn_heard_input, An_set__in_, cn_set__in_, by kernel_rfl, by kernel_rfl, fn_input, fn_heard_input, fn_set__in_⟩ (fun _ _ h => h)
          · intro u16 hS hN16
            refine wpq_split 48 (b := (n.role == 3)) (by kernel_rfl) (fun q21 => ?_) (fun q21 => ?_)
            · have hS := cond_T q21 hS
              have q21p : n.role = 3 := eq_of_beq q21
              refine xT 11 [6] [] [some 0, some 1, some 2] [(0, vp b_n 0), (9, vp b10 0), (48, vb true), (49, undef)] RG (Psi.le.refl _) ?_
              refine xO1 (lds := [3, 10, 14]) 7 ?_
              refine xIb (lds := [3, 10, 14]) [] ?_
              refine xT 9 [8] [] [some 0, some 1, some 2] [(0, vp b_n 0), (9, vp b10 0), (51, vb true)] RG (Psi.le.refl _) ?_
              refine xSub [(0, vp b_n 0), (9, vp b10 0), (51, vb true)] ?_
              exact hN16 _ hS.symm _ _ _ (Gh.le.refl _) ⟨by kernel_rfl, by kernel_rfl⟩
            · have hS := cond_F q21 hS
              have q21p : ¬ (n.role = 3) := ne_of_beq_false_ q21
              refine xT 11 [6] [] [some 0, some 1, some 2] [(0, vp b_n 0), (9, vp b10 0), (48, vb false), (49, vp b_n 0)] RG (Psi.le.refl _) ?_
              have fn_input := fn_input.mono e13.b
              have fn_heard_input := fn_heard_input.mono e13.b
              have fn_set__in_ := fn_set__in_.mono e13.b
              obtain ⟨y22, hy22, hS⟩ := letJ_T hS
              refine xO1 (lds := [3, 10, 14]) 7 ?_
              refine xIe (lds := [3, 10, 14]) (Psi.le.refl _) (eC 0 (fun g' lr eb ln => c72 g' ⟨b_n, 0, none⟩ ({ n with next_ := 0 }) An_input cn_input An_heard_input cn_heard_input An_set__in_ cn_set__in_ (cells_lent' 2 b_n 0 (cNode ({ n with next_ := 0 }) An_input cn_input An_heard_input cn_heard_input An_set__in_ cn_set__in_) ln) ((fn_input.mono g12.br).mono lr) ((fn_heard_input.mono g12.br).mono lr) ((fn_set__in_.mono g12.br).mono lr) hy22)) ?_
              rintro _ g23 _ e24 ⟨_, rfl, rfl, rfl⟩
              refine kk [some 0, some 1, some 2] ?_
              refine xT 9 [8] [] [some 0, some 1, some 2] [(0, vp b_n 0), (9, vp b10 0), (51, vb y22)] RG e24.r ?_
              refine xSub [(0, vp b_n 0), (9, vp b10 0), (51, vb y22)] ?_
              exact hN16 _ hS.symm _ _ _ e24 ⟨by kernel_rfl, by kernel_rfl⟩

def o24 (p : List UInt8) : Option (Result × Int) :=
  (cond (((((p).length : Nat) : Int) != 43)) (some (((⟨0, (⟨0, 0, 0, 0, 0, 0, 0⟩ : Targets)⟩ : Result), (4 : Int)))) (bindO (τ := Int) (o58 ((List.take (19 - 11) (List.drop 11 p)) : List UInt8)) fun y11 => (bindO (τ := Int) (o58 ((List.take (27 - 19) (List.drop 19 p)) : List UInt8)) fun y15 => (bindO (τ := Int) (o58 ((List.take (35 - 27) (List.drop 27 p)) : List UInt8)) fun y19 => (bindO (τ := Int) (o58 ((List.take (43 - 35) (List.drop 35 p)) : List UInt8)) fun y23 => (bindO (τ := Int) (o58 ((List.take 8 p) : List UInt8)) fun y27 => (some (((⟨y27, (⟨((List.getD p 8 0).toNat : Int), ((List.getD p 9 0).toNat : Int), ((List.getD p 10 0).toNat : Int), y11, y15, y19, y23⟩ : Targets)⟩ : Result), (0 : Int))))))))))
set_option maxRecDepth 100000 in
theorem c24 (g : Gh) (p : List UInt8) (Ap : Option Addr) (cp : Nat) (fp : Arr g.r tyU8 Ap cp p) {r : Result × Int} (hS : o24 p = some r) :
    Ctr Try.prog 24 [vs Ap p cp] g [] (fun v ψ o => v = Value.tuple #[Value.agg #[vi r.1.steps, vy r.1.targets.lateral, vy r.1.targets.vertical, vy r.1.targets.phase, vi r.1.targets.bank, vi r.1.targets.speed, vi r.1.targets.alt, vi r.1.targets.vs], vi r.2] ∧ o = []) := by
  unfold o24 at hS
  refine xFn Try.f24 (Try.f24.body.getD .skip) 40 ?_
  have nfp := fp.len
  refine xSq ?_
  refine xRg ?_
  refine xE eB ?_
  rintro _ _ _ - ⟨b1, rfl, rfl, rfl⟩
  refine xB 1 [] [(0, vs Ap p cp), (2, vp b1 0)] ?_
  refine xRe ?_
  refine wpq_then ?_
  refine xSq ?_
  refine xSq ?_
  refine xRg ?_
  refine xB 3 [] [(0, vs Ap p cp), (2, vp b1 0), (7, vb ((((p).length : Nat) : Int) != 43))] ?_
  refine xRe ?_
  refine wpq_then ?_
  refine xCd (((((p).length : Nat) : Int) != 43)) (fun h2 => ?_) (fun h2 => ?_)
  · have hS := cond_T h2 hS
    have h2p : ¬ ((((p).length : Nat) : Int) = 43) := ne_of_bne_ h2
    refine xSq ?_
    refine xRg ?_
    refine xBo 3 [(1, 0)] [some ⟨b1, 43, (cResult (⟨0, (⟨0, 0, 0, 0, 0, 0, 0⟩ : Targets)⟩ : Result))⟩] [(2, vp b1 0), (3, vi 4)] ?_
    refine xRe ?_
    refine wpq_then ?_
    have eS := (Option.some.inj hS).symm
    subst eS
    exact xRetC [] [(2, 0)] (Gh.le.refl _) ⟨by kernel_rfl, by kernel_rfl⟩ (fun _ _ h => h)
  · have hS := cond_F h2 hS
    have h2p : (((p).length : Nat) : Int) = 43 := eq_of_bne_false_ h2
    refine xSk ?_
    refine wpq_then ?_
    refine xSub [(0, vs Ap p cp), (2, vp b1 0)] ?_
    refine xSq ?_
    refine xDr 0 [2, 5, 8] [11, 9] [some ⟨b1, 43, (cResult (⟨0, (⟨0, 0, 0, 0, 0, 0, 0⟩ : Targets)⟩ : Result))⟩] 12 (fun RG => ?_) (fun _ _ _ _ _ h => h)
    have i4 : 8 < (p).length := by omega
    obtain ⟨ad3, cs3, hA3, hr3, hc3⟩ := fp.at_ (get_getD (d := 0) i4)
    have hr3 : cs3 = [vy ((List.getD p 8 0).toNat : Int)] := hr3
    subst hr3
    have nb3 := UInt8.toNat_lt (List.getD p 8 0)
    refine xT 11 [0] [] [some 0] [(0, vs Ap p cp), (2, vp b1 0), (9, vs Ap p cp)] RG (Psi.le.refl _) ?_
    refine xTp 1 RG (fun _ => (qIx 8 1 hA3 rfl i4)) ?_
    refine xTv 2 [some 0] RG (Psi.le.refl _) (qLdP (Addr.add ad3 (8 * 1)) 0 hc3) ?_
    have i6 : 9 < (p).length := by omega
    obtain ⟨ad5, cs5, hA5, hr5, hc5⟩ := fp.at_ (get_getD (d := 0) i6)
    have hr5 : cs5 = [vy ((List.getD p 9 0).toNat : Int)] := hr5
    subst hr5
    have nb5 := UInt8.toNat_lt (List.getD p 9 0)
    refine xT 8 [3] [] [some 0] [(0, vs Ap p cp), (2, vp b1 0), (11, vy ((List.getD p 8 0).toNat : Int)), (12, vs Ap p cp)] RG (Psi.le.refl _) ?_
    refine xTp 4 RG (fun _ => (qIx 9 1 hA5 rfl i6)) ?_
    refine xTv 5 [some 0] RG (Psi.le.refl _) (qLdP (Addr.add ad5 (9 * 1)) 0 hc5) ?_
    have i8 : 10 < (p).length := by omega
    obtain ⟨ad7, cs7, hA7, hr7, hc7⟩ := fp.at_ (get_getD (d := 0) i8)
    have hr7 : cs7 = [vy ((List.getD p 10 0).toNat : Int)] := hr7
    subst hr7
    have nb7 := UInt8.toNat_lt (List.getD p 10 0)
    refine xT 5 [6] [] [some 0] [(0, vs Ap p cp), (2, vp b1 0), (11, vy ((List.getD p 8 0).toNat : Int)), (14, vy ((List.getD p 9 0).toNat : Int)), (15, vs Ap p cp)] RG (Psi.le.refl _) ?_
    refine xTp 7 RG (fun _ => (qIx 10 1 hA7 rfl i8)) ?_
    refine xTv 8 [some 0] RG (Psi.le.refl _) (qLdP (Addr.add ad7 (10 * 1)) 0 hc7) ?_
    refine xT 2 [9] [] [some 0] [(0, vs Ap p cp), (2, vp b1 0), (18, Value.agg #[vy ((List.getD p 8 0).toNat : Int), vy ((List.getD p 9 0).toNat : Int), vy ((List.getD p 10 0).toNat : Int), vi 0, vi 0, vi 0, vi 0])] RG (Psi.le.refl _) ?_
    refine xO1 (lds := [2, 5, 8]) 10 ?_
    refine xIe (lds := [2, 5, 8]) (Psi.le.refl _) eB ?_
    rintro _ _ _ - ⟨b9, rfl, rfl, rfl⟩
    refine kk [some 1] ?_
    refine xO1 (lds := [2, 5, 8]) 11 ?_
    refine xId (lds := [2, 5, 8]) (Psi.le.refl _) (eStL b9 0 0) ?_
    rintro _ _ _ - ⟨rfl, rfl⟩
    refine kf ?_
    refine xAe (lds := [2, 5, 8]) ?_
    refine wpq_then ?_
    refine xSub [(0, vs Ap p cp), (2, vp b1 0), (4, vp b9 0)] ?_
    refine xSq ?_
    refine xRg ?_
    have ncapf10 := fp.cap
    have f10 : Arr g.r tyU8 (offA Ap cp 11 1) (cp - 11) (List.take (19 - 11) (List.drop 11 p)) := fp.cut 11 19 (by omega) (by omega)
    have nf10 := f10.len
    have hlf10 : 19 - 11 = ((List.take (19 - 11) (List.drop 11 p))).length := by simp only [List.length_take, List.length_drop] <;> omega
    have hvf10 : ((((List.take (19 - 11) (List.drop 11 p))).length : Nat) : Int) = 19 - 11 := by omega
    refine xB 1 [] [(0, vs Ap p cp), (2, vp b1 0), (4, vp b9 0), (19, vs Ap p cp)] ?_
    refine xV (qSl (m := 1) (A := Ap) (len := (p).length) (c := cp) 11 19 (some 11) (some 19) ((List.take (19 - 11) (List.drop 11 p))).length rfl rfl (by omega) (by omega) hlf10) ?_
    obtain ⟨y11, hy11, hS⟩ := bindO_T hS
    refine xE (eC 0 (fun g' lr eb ln => c58 g' ((List.take (19 - 11) (List.drop 11 p)) : List UInt8) (offA Ap cp 11 1) (cp - 11) (f10.mono lr) hy11)) ?_
    rintro _ g12 _ e13 ⟨_, rfl, rfl, rfl⟩
    refine xBo 2 [(4, 0)] [some ⟨b9, 36, (cTargets (⟨((List.getD p 8 0).toNat : Int), ((List.getD p 9 0).toNat : Int), ((List.getD p 10 0).toNat : Int), y11, 0, 0, 0⟩ : Targets))⟩, some ⟨b1, 43, (cResult (⟨0, (⟨0, 0, 0, 0, 0, 0, 0⟩ : Targets)⟩ : Result))⟩] [(0, vs Ap p cp), (2, vp b1 0), (4, vp b9 0)] ?_
    refine xRe ?_
    refine wpq_then ?_
    refine xSq ?_
    refine xRg ?_
    have fp := fp.mono e13.r
    have ncapf14 := fp.cap
    have f14 : Arr g12.r tyU8 (offA Ap cp 19 1) (cp - 19) (List.take (27 - 19) (List.drop 19 p)) := fp.cut 19 27 (by omega) (by omega)
    have nf14 := f14.len
    have hlf14 : 27 - 19 = ((List.take (27 - 19) (List.drop 19 p))).length := by simp only [List.length_take, List.length_drop] <;> omega
    have hvf14 : ((((List.take (27 - 19) (List.drop 19 p))).length : Nat) : Int) = 27 - 19 := by omega
    refine xB 1 [] [(0, vs Ap p cp), (2, vp b1 0), (4, vp b9 0), (23, vs Ap p cp)] ?_
    refine xV (qSl (m := 1) (A := Ap) (len := (p).length) (c := cp) 19 27 (some 19) (some 27) ((List.take (27 - 19) (List.drop 19 p))).length rfl rfl (by omega) (by omega) hlf14) ?_
    obtain ⟨y15, hy15, hS⟩ := bindO_T hS
    refine xE (eC 0 (fun g' lr eb ln => c58 g' ((List.take (27 - 19) (List.drop 19 p)) : List UInt8) (offA Ap cp 19 1) (cp - 19) (f14.mono lr) hy15)) ?_
    rintro _ g16 _ e17 ⟨_, rfl, rfl, rfl⟩
    refine xBo 2 [(4, 0)] [some ⟨b9, 36, (cTargets (⟨((List.getD p 8 0).toNat : Int), ((List.getD p 9 0).toNat : Int), ((List.getD p 10 0).toNat : Int), y11, y15, 0, 0⟩ : Targets))⟩, some ⟨b1, 43, (cResult (⟨0, (⟨0, 0, 0, 0, 0, 0, 0⟩ : Targets)⟩ : Result))⟩] [(0, vs Ap p cp), (2, vp b1 0), (4, vp b9 0)] ?_
    refine xRe ?_
    refine wpq_then ?_
    refine xSq ?_
    refine xRg ?_
    have fp := fp.mono e17.r
    have ncapf18 := fp.cap
    have f18 : Arr g16.r tyU8 (offA Ap cp 27 1) (cp - 27) (List.take (35 - 27) (List.drop 27 p)) := fp.cut 27 35 (by omega) (by omega)
    have nf18 := f18.len
    have hlf18 : 35 - 27 = ((List.take (35 - 27) (List.drop 27 p))).length := by simp only [List.length_take, List.length_drop] <;> omega
    have hvf18 : ((((List.take (35 - 27) (List.drop 27 p))).length : Nat) : Int) = 35 - 27 := by omega
    refine xB 1 [] [(0, vs Ap p cp), (2, vp b1 0), (4, vp b9 0), (27, vs Ap p cp)] ?_
    refine xV (qSl (m := 1) (A := Ap) (len := (p).length) (c := cp) 27 35 (some 27) (some 35) ((List.take (35 - 27) (List.drop 27 p))).length rfl rfl (by omega) (by omega) hlf18) ?_
    obtain ⟨y19, hy19, hS⟩ := bindO_T hS
    refine xE (eC 0 (fun g' lr eb ln => c58 g' ((List.take (35 - 27) (List.drop 27 p)) : List UInt8) (offA Ap cp 27 1) (cp - 27) (f18.mono lr) hy19)) ?_
    rintro _ g20 _ e21 ⟨_, rfl, rfl, rfl⟩
    refine xBo 2 [(4, 0)] [some ⟨b9, 36, (cTargets (⟨((List.getD p 8 0).toNat : Int), ((List.getD p 9 0).toNat : Int), ((List.getD p 10 0).toNat : Int), y11, y15, y19, 0⟩ : Targets))⟩, some ⟨b1, 43, (cResult (⟨0, (⟨0, 0, 0, 0, 0, 0, 0⟩ : Targets)⟩ : Result))⟩] [(0, vs Ap p cp), (2, vp b1 0), (4, vp b9 0)] ?_
    refine xRe ?_
    refine wpq_then ?_
    refine xSq ?_
    refine xRg ?_
    have fp := fp.mono e21.r
    have ncapf22 := fp.cap
    have f22 : Arr g20.r tyU8 (offA Ap cp 35 1) (cp - 35) (List.take (43 - 35) (List.drop 35 p)) := fp.cut 35 43 (by omega) (by omega)
    have nf22 := f22.len
    have hlf22 : 43 - 35 = ((List.take (43 - 35) (List.drop 35 p))).length := by simp only [List.length_take, List.length_drop] <;> omega
    have hvf22 : ((((List.take (43 - 35) (List.drop 35 p))).length : Nat) : Int) = 43 - 35 := by omega
    refine xB 1 [] [(0, vs Ap p cp), (2, vp b1 0), (4, vp b9 0), (31, vs Ap p cp)] ?_
    refine xV (qSl (m := 1) (A := Ap) (len := (p).length) (c := cp) 35 43 (some 35) (some 43) ((List.take (43 - 35) (List.drop 35 p))).length rfl rfl (by omega) (by omega) hlf22) ?_
    obtain ⟨y23, hy23, hS⟩ := bindO_T hS
    refine xE (eC 0 (fun g' lr eb ln => c58 g' ((List.take (43 - 35) (List.drop 35 p)) : List UInt8) (offA Ap cp 35 1) (cp - 35) (f22.mono lr) hy23)) ?_
    rintro _ g24 _ e25 ⟨_, rfl, rfl, rfl⟩
    refine xBo 2 [(4, 0)] [some ⟨b9, 36, (cTargets (⟨((List.getD p 8 0).toNat : Int), ((List.getD p 9 0).toNat : Int), ((List.getD p 10 0).toNat : Int), y11, y15, y19, y23⟩ : Targets))⟩, some ⟨b1, 43, (cResult (⟨0, (⟨0, 0, 0, 0, 0, 0, 0⟩ : Targets)⟩ : Result))⟩] [(0, vs Ap p cp), (2, vp b1 0), (4, vp b9 0)] ?_
    refine xRe ?_
    refine wpq_then ?_
    refine xSq ?_
    refine xDr 0 [3] [5, 4, 6] [some ⟨b9, 36, (cTargets (⟨((List.getD p 8 0).toNat : Int), ((List.getD p 9 0).toNat : Int), ((List.getD p 10 0).toNat : Int), y11, y15, y19, y23⟩ : Targets))⟩] 7 (fun RG => ?_) (fun _ _ _ _ _ h => h)
    have fp := fp.mono e25.r
    have ncapf26 := fp.cap
    have f26 : Arr g24.r tyU8 (offA Ap cp 0 1) (cp - 0) (List.take 8 p) := fp.cut_to 8 (by omega)
    have nf26 := f26.len
    have hlf26 : 8 - 0 = ((List.take 8 p)).length := by simp only [List.length_take, List.length_drop] <;> omega
    have hvf26 : ((((List.take 8 p)).length : Nat) : Int) = 8 - 0 := by omega
    refine xT 6 [0] [] [some 0] [(2, vp b1 0), (4, vp b9 0), (35, vs Ap p cp)] RG (Psi.le.refl _) ?_
    refine xTp 1 RG (fun _ => (qSl (m := 1) (A := Ap) (len := (p).length) (c := cp) 0 8 none (some 8) ((List.take 8 p)).length rfl rfl (by omega) (by omega) hlf26)) ?_
    refine xT 4 [3] [(3, 0)] [some 0] [(2, vp b1 0), (36, vs (offA Ap cp 0 1) (List.take 8 p) (cp - 0)), (38, Value.agg #[vy ((List.getD p 8 0).toNat : Int), vy ((List.getD p 9 0).toNat : Int), vy ((List.getD p 10 0).toNat : Int), vi y11, vi y15, vi y19, vi y23])] RG (Psi.le.refl _) ?_
    obtain ⟨y27, hy27, hS⟩ := bindO_T hS
    refine xO1 (lds := [3]) 2 ?_
    refine xIe (lds := [3]) (Psi.le.refl _) (eC 0 (fun g' lr eb ln => c58 g' ((List.take 8 p) : List UInt8) (offA Ap cp 0 1) (cp - 0) (f26.mono lr) hy27)) ?_
    rintro _ g28 _ e29 ⟨_, rfl, rfl, rfl⟩
    refine kk [some 0] ?_
    refine xT 2 [4] [] [some 0] [(2, vp b1 0), (39, Value.agg #[vi y27, vy ((List.getD p 8 0).toNat : Int), vy ((List.getD p 9 0).toNat : Int), vy ((List.getD p 10 0).toNat : Int), vi y11, vi y15, vi y19, vi y23])] RG e29.r ?_
    refine xO1 (lds := [3]) 5 ?_
    refine xId (lds := [3]) e29.r (eStL b1 0 1) ?_
    rintro _ _ _ - ⟨rfl, rfl⟩
    refine kf ?_
    refine xT 0 [6] [] [some 0] [(2, vp b1 0), (3, vi 0)] RG e29.r ?_
    refine xAe (lds := [3]) ?_
    refine wpq_then ?_
    have eS := (Option.some.inj hS).symm
    subst eS
    exact xRetC [] [(2, 1)] (e13.trans (e17.trans (e21.trans (e25.trans e29)))) ⟨by kernel_rfl, by kernel_rfl⟩ (fun _ _ h => h)

def o65 (n : RNode) (f : Frame) (came : Bool) : Option (RNode × Int × Int) :=
  (cond ((n.stage != 5)) (some ((n, (0 : Int), (8 : Int)))) (cond ((!n.stepped)) (some ((({ n with stage := 0 }), (2 : Int), (0 : Int)))) (letJ (τ := Bool) (o73 ({ n with stage := 0 }) f (came) (3 : Int)) fun y7 => (bindO (τ := Int × Result) (cond (y7) (bindO (τ := Result × Int) (o24 (f.payload : List UInt8)) fun y20 => (some ((y20.2, (y20.1 : Result))))) (some ((4, ((⟨0, (⟨0, 0, 0, 0, 0, 0, 0⟩ : Targets)⟩ : Result) : Result))))) fun t10 => (cond ((t10.1 != 0)) (some ((({ n with stage := 0 }), (3 : Int), (0 : Int)))) (cond (((((n.role == 3) || (n.isHeard && (n.heard.role == 3))) && (t10.2.steps == n.steps)) && ((t10.2.targets.lateral == n.told.lateral) && ((t10.2.targets.vertical == n.told.vertical) && ((t10.2.targets.phase == n.told.phase) && ((t10.2.targets.bank == n.told.bank) && ((t10.2.targets.speed == n.told.speed) && ((t10.2.targets.alt == n.told.alt) && (t10.2.targets.vs == n.told.vs))))))))) (some ((({ n with stage := 0 }), (4 : Int), (0 : Int)))) (some ((({ n with stage := 0 }), (2 : Int), (0 : Int))))))))))
set_option maxRecDepth 100000 in
theorem c65 (g : Gh) (n : RNode) (An_input : Option Addr) (cn_input : Nat) (An_heard_input : Option Addr) (cn_heard_input : Nat) (f : Frame) (Af_payload : Option Addr) (cf_payload : Nat) (came : Bool) (fn_input : Arr g.b tyU8 An_input cn_input n.input) (fn_heard_input : Arr g.b tyU8 An_heard_input cn_heard_input n.heard.input) (ff_payload : Arr g.r tyU8 Af_payload cf_payload f.payload) {r : RNode × Int × Int} (hS : o65 n f came = some r) :
    Ctr Try.prog 65 [Value.agg #[vi n.number, vy n.role, vi n.steps, vi n.alone, vi n.stage, vi n.cycle, vs An_input n.input cn_input, vb n.fresh, vb n.isHeard, vy n.heard.role, vi n.heard.steps, vi n.heard.want.base, vi n.heard.want.have_, vs An_heard_input n.heard.input cn_heard_input, vb n.stepped, vy n.told.lateral, vy n.told.vertical, vy n.told.phase, vi n.told.bank, vi n.told.speed, vi n.told.alt, vi n.told.vs], Value.agg #[vy f.label, vy f.from_, vi f.cycle, vs Af_payload f.payload cf_payload], vb came] g [] (fun v ψ o => ∃ (Ar_0_input : Option Addr) (cr_0_input : Nat) (Ar_0_heard_input : Option Addr) (cr_0_heard_input : Nat), v = Value.tuple #[Value.agg #[vi r.1.number, vy r.1.role, vi r.1.steps, vi r.1.alone, vi r.1.stage, vi r.1.cycle, vs Ar_0_input r.1.input cr_0_input, vb r.1.fresh, vb r.1.isHeard, vy r.1.heard.role, vi r.1.heard.steps, vi r.1.heard.want.base, vi r.1.heard.want.have_, vs Ar_0_heard_input r.1.heard.input cr_0_heard_input, vb r.1.stepped, vy r.1.told.lateral, vy r.1.told.vertical, vy r.1.told.phase, vi r.1.told.bank, vi r.1.told.speed, vi r.1.told.alt, vi r.1.told.vs], vy r.2.1, vi r.2.2] ∧ o = [] ∧ Arr ψ tyU8 Ar_0_input cr_0_input r.1.input ∧ Arr ψ tyU8 Ar_0_heard_input cr_0_heard_input r.1.heard.input) := by
  unfold o65 at hS
  refine xFn Try.f65 (Try.f65.body.getD .skip) 65 ?_
  have nfn_input := fn_input.len
  have nfn_heard_input := fn_heard_input.len
  have nff_payload := ff_payload.len
  refine xSq ?_
  refine xRg ?_
  refine xE eB ?_
  rintro _ _ _ - ⟨b1, rfl, rfl, rfl⟩
  refine xE eB ?_
  rintro _ _ _ - ⟨b2, rfl, rfl, rfl⟩
  refine xE eB ?_
  rintro _ _ _ - ⟨b3, rfl, rfl, rfl⟩
  refine xB 2 [] [(2, vb came), (3, vp b1 0), (4, vp b2 0), (6, vp b3 0)] ?_
  refine xRe ?_
  refine wpq_then ?_
  refine xSq ?_
  refine xSq ?_
  refine xRg ?_
  refine xB 3 [(1, 2)] [(2, vb came), (3, vp b1 0), (4, vp b2 0), (6, vp b3 0), (14, vb (n.stage != 5))] ?_
  refine xRe ?_
  refine wpq_then ?_
  refine xCd ((n.stage != 5)) (fun h4 => ?_) (fun h4 => ?_)
  · have hS := cond_T h4 hS
    have h4p : ¬ (n.stage = 5) := ne_of_bne_ h4
    refine xSq ?_
    refine xRg ?_
    refine xBo 4 [(0, 2), (1, 0)] [some ⟨b3, 96, (cRNode n An_input cn_input An_heard_input cn_heard_input)⟩, some ⟨b2, 100, (cFrame f Af_payload cf_payload)⟩, some ⟨b1, 96, (cRNode n An_input cn_input An_heard_input cn_heard_input)⟩] [(6, vp b3 0), (7, vy 0), (8, vi 8)] ?_
    refine xRe ?_
    refine wpq_then ?_
    have eS := (Option.some.inj hS).symm
    subst eS
    exact xRetC [] [(6, 0)] (Gh.le.refl _) ⟨An_input, cn_input, An_heard_input, cn_heard_input, by kernel_rfl, by kernel_rfl, fn_input, fn_heard_input⟩ (fun _ _ h => h)
  · have hS := cond_F h4 hS
    have h4p : n.stage = 5 := eq_of_bne_false_ h4
    refine xSk ?_
    refine wpq_then ?_
    refine xSub [(2, vb came), (3, vp b1 0), (4, vp b2 0), (6, vp b3 0)] ?_
    refine xSq ?_
    refine xRg ?_
    refine xBo 2 [(1, 2)] [some ⟨b3, 96, (cRNode (⟨0, 0, 0, 0, 0, 0, ([] : List UInt8), false, false, (⟨0, 0, (⟨0, 0⟩ : Want), ([] : List UInt8)⟩ : Heard), false, (⟨0, 0, 0, 0, 0, 0, 0⟩ : Targets)⟩ : RNode) none 0 none 0)⟩, some ⟨b2, 100, (cFrame f Af_payload cf_payload)⟩, some ⟨b1, 96, (cRNode ({ n with stage := 0 }) An_input cn_input An_heard_input cn_heard_input)⟩] [(2, vb came), (3, vp b1 0), (4, vp b2 0), (6, vp b3 0)] ?_
    refine xRe ?_
    refine wpq_then ?_
    refine xSq ?_
    refine xSq ?_
    refine xRg ?_
    refine xB 3 [(1, 2)] [(2, vb came), (3, vp b1 0), (4, vp b2 0), (6, vp b3 0), (19, vb (!n.stepped))] ?_
    refine xRe ?_
    refine wpq_then ?_
    refine xCd ((!n.stepped)) (fun h5 => ?_) (fun h5 => ?_)
    · have hS := cond_T h5 hS
      have h5n := not_eq_true_ h5
      refine xSq ?_
      refine xRg ?_
      refine xBo 4 [(0, 2), (1, 0)] [some ⟨b3, 96, (cRNode ({ n with stage := 0 }) An_input cn_input An_heard_input cn_heard_input)⟩, some ⟨b2, 100, (cFrame f Af_payload cf_payload)⟩, some ⟨b1, 96, (cRNode ({ n with stage := 0 }) An_input cn_input An_heard_input cn_heard_input)⟩] [(6, vp b3 0), (7, vy 2), (8, vi 0)] ?_
      refine xRe ?_
      refine wpq_then ?_
      have eS := (Option.some.inj hS).symm
      subst eS
      exact xRetC [] [(6, 0)] (Gh.le.refl _) ⟨An_input, cn_input, An_heard_input, cn_heard_input, by kernel_rfl, by kernel_rfl, fn_input, fn_heard_input⟩ (fun _ _ h => h)
    · have hS := cond_F h5 hS
      have h5n := not_eq_false_ h5
      refine xSk ?_
      refine wpq_then ?_
      refine xSub [(2, vb came), (3, vp b1 0), (4, vp b2 0), (6, vp b3 0)] ?_
      refine xSq ?_
      refine xRg ?_
      refine xB 1 [] [(2, vb came), (3, vp b1 0), (4, vp b2 0), (6, vp b3 0), (21, Value.agg #[vi 0, vy 0, vy 0, vy 0, vi 0, vi 0, vi 0, vi 0])] ?_
      refine xE eB ?_
      rintro _ _ _ - ⟨b6, rfl, rfl, rfl⟩
      refine xBo 2 [(2, 0)] [some ⟨b6, 43, (cResult (⟨0, (⟨0, 0, 0, 0, 0, 0, 0⟩ : Targets)⟩ : Result))⟩, some ⟨b3, 96, (cRNode (⟨0, 0, 0, 0, 0, 0, ([] : List UInt8), false, false, (⟨0, 0, (⟨0, 0⟩ : Want), ([] : List UInt8)⟩ : Heard), false, (⟨0, 0, 0, 0, 0, 0, 0⟩ : Targets)⟩ : RNode) none 0 none 0)⟩, some ⟨b2, 100, (cFrame f Af_payload cf_payload)⟩, some ⟨b1, 96, (cRNode ({ n with stage := 0 }) An_input cn_input An_heard_input cn_heard_input)⟩] [(2, vb came), (3, vp b1 0), (4, vp b2 0), (6, vp b3 0), (9, vp b6 0), (10, vi 4)] ?_
      refine xRe ?_
      refine wpq_then ?_
      refine xSq ?_
      refine xSq ?_
      refine xRg ?_
      refine xB 3 [(0, 3), (1, 2)] [(3, vp b1 0), (4, vp b2 0), (6, vp b3 0), (9, vp b6 0), (10, vi 4), (22, Value.agg #[vi n.number, vy n.role, vi n.steps, vi n.alone, vi 0, vi n.cycle, vs An_input n.input cn_input, vb n.fresh, vb n.isHeard, vy n.heard.role, vi n.heard.steps, vi n.heard.want.base, vi n.heard.want.have_, vs An_heard_input n.heard.input cn_heard_input, vb n.stepped, vy n.told.lateral, vy n.told.vertical, vy n.told.phase, vi n.told.bank, vi n.told.speed, vi n.told.alt, vi n.told.vs]), (23, Value.agg #[vy f.label, vy f.from_, vi f.cycle, vs Af_payload f.payload cf_payload]), (24, vb came)] ?_
      obtain ⟨y7, hy7, hS⟩ := letJ_T hS
      refine xE (eC 0 (fun g' lr eb ln => c73 g' ({ n with stage := 0 }) An_input cn_input An_heard_input cn_heard_input f Af_payload cf_payload (came) (3 : Int) ((fn_input.mono g.br).mono lr) ((fn_heard_input.mono g.br).mono lr) (ff_payload.mono lr) hy7)) ?_
      rintro _ g8 _ e9 ⟨_, rfl, rfl, rfl⟩
      refine xRe ?_
      refine wpq_then ?_
      refine xSub [(3, vp b1 0), (4, vp b2 0), (6, vp b3 0), (9, vp b6 0), (10, vi 4), (25, vb y7)] ?_
      refine xBindO hS (fun g own sl t10 => own = [some ⟨b6, 43, (cResult t10.2)⟩, some ⟨b3, 96, (cRNode (⟨0, 0, 0, 0, 0, 0, ([] : List UInt8), false, false, (⟨0, 0, (⟨0, 0⟩ : Want), ([] : List UInt8)⟩ : Heard), false, (⟨0, 0, 0, 0, 0, 0, 0⟩ : Targets)⟩ : RNode) none 0 none 0)⟩, some ⟨b1, 96, (cRNode ({ n with stage := 0 }) An_input cn_input An_heard_input cn_heard_input)⟩] ∧ sl = [(3, vp b1 0), (6, vp b3 0), (9, vp b6 0), (10, vi t10.1)]) ?_ ?_
      · rintro g11 _ _ t10 e12 ⟨rfl, rfl⟩ hS
        refine wpq_then ?_
        refine xSq ?_
        refine xSq ?_
        refine xRg ?_
        refine xB 2 [] [(3, vp b1 0), (6, vp b3 0), (9, vp b6 0), (33, vb (t10.1 != 0))] ?_
        refine xRe ?_
        refine wpq_then ?_
        refine xCd ((t10.1 != 0)) (fun h13 => ?_) (fun h13 => ?_)
        · have hS := cond_T h13 hS
          have h13p : ¬ (t10.1 = 0) := ne_of_bne_ h13
          refine xSq ?_
          refine xRg ?_
          refine xBo 4 [(0, 2), (1, 1)] [some ⟨b6, 43, (cResult t10.2)⟩, some ⟨b3, 96, (cRNode ({ n with stage := 0 }) An_input cn_input An_heard_input cn_heard_input)⟩, some ⟨b1, 96, (cRNode ({ n with stage := 0 }) An_input cn_input An_heard_input cn_heard_input)⟩] [(6, vp b3 0), (7, vy 3), (8, vi 0)] ?_
          refine xRe ?_
          refine wpq_then ?_
          have fn_input := fn_input.mono (e9.trans e12).b
          have fn_heard_input := fn_heard_input.mono (e9.trans e12).b
          have eS := (Option.some.inj hS).symm
          subst eS
          exact xRetC [] [(6, 1)] (e9.trans e12) ⟨An_input, cn_input, An_heard_input, cn_heard_input, by kernel_rfl, by kernel_rfl, fn_input, fn_heard_input⟩ (fun _ _ h => h)
        · have hS := cond_F h13 hS
          have h13p : t10.1 = 0 := eq_of_bne_false_ h13
          refine xSk ?_
          refine wpq_then ?_
          refine xSub [(3, vp b1 0), (6, vp b3 0), (9, vp b6 0)] ?_
          refine xSq ?_
          refine xRg ?_
          refine xB 4 [(1, 2)] [(3, vp b1 0), (6, vp b3 0), (9, vp b6 0), (38, vb (n.role == 3))] ?_
          refine wpr_grp 13 [(3, vp b1 0), (6, vp b3 0), (9, vp b6 0), (47, vb ((n.role == 3) || (n.isHeard && (n.heard.role == 3))))] (fun hk3 => ?_) ?_
          · refine wpq_split 38 (b := (n.role == 3)) (by kernel_rfl) (fun q14 => ?_) (fun q14 => ?_)
            · have q14p : n.role = 3 := eq_of_beq q14
              refine xB 9 [] [(3, vp b1 0), (6, vp b3 0), (9, vp b6 0), (47, vb true)] ?_
              refine wpq_re 47 (v := vb true) (Value.bool (((n.role == 3) || (n.isHeard && (n.heard.role == 3))))) (by kernel_rfl) (re_or1 q14) ?_
              exact wpq_sub _ (by kernel_rfl) hk3
            · have q14p : ¬ (n.role = 3) := ne_of_beq_false_ q14
              refine xB 3 [(5, 2)] [(3, vp b1 0), (6, vp b3 0), (9, vp b6 0), (38, vb false), (41, vb n.isHeard)] ?_
              refine wpr_grp 12 [(3, vp b1 0), (6, vp b3 0), (9, vp b6 0), (38, vb false), (46, vb (n.isHeard && (n.heard.role == 3)))] (fun hk6 => ?_) ?_
              · refine wpq_split 41 (b := n.isHeard) (by kernel_rfl) (fun q15 => ?_) (fun q15 => ?_)
                · refine xB 5 [(9, 2)] [(3, vp b1 0), (6, vp b3 0), (9, vp b6 0), (38, vb false), (46, vb (n.heard.role == 3))] ?_
                  refine wpq_re 46 (v := vb (n.heard.role == 3)) (Value.bool ((n.isHeard && (n.heard.role == 3)))) (by kernel_rfl) (re_and1 q15) ?_
                  exact wpq_sub _ (by kernel_rfl) hk6
                · refine xB 5 [] [(3, vp b1 0), (6, vp b3 0), (9, vp b6 0), (38, vb false), (46, vb false)] ?_
                  refine wpq_re 46 (v := vb false) (Value.bool ((n.isHeard && (n.heard.role == 3)))) (by kernel_rfl) (re_and0 q15) ?_
                  exact wpq_sub _ (by kernel_rfl) hk6
              · refine xB 1 [] [(3, vp b1 0), (6, vp b3 0), (9, vp b6 0), (47, vb (n.isHeard && (n.heard.role == 3)))] ?_
                refine wpq_re 47 (v := vb (n.isHeard && (n.heard.role == 3))) (Value.bool (((n.role == 3) || (n.isHeard && (n.heard.role == 3))))) (by kernel_rfl) (re_or0 q14) ?_
                exact wpq_sub _ (by kernel_rfl) hk3
          · refine xB 1 [] [(3, vp b1 0), (6, vp b3 0), (9, vp b6 0), (11, vb ((n.role == 3) || (n.isHeard && (n.heard.role == 3))))] ?_
            refine xRe ?_
            refine wpq_then ?_
            refine xSq ?_
            refine xSq ?_
            refine xRg ?_
            refine xB 2 [] [(3, vp b1 0), (6, vp b3 0), (9, vp b6 0), (49, vb ((n.role == 3) || (n.isHeard && (n.heard.role == 3))))] ?_
            refine wpr_grp 8 [(3, vp b1 0), (6, vp b3 0), (9, vp b6 0), (55, vb (((n.role == 3) || (n.isHeard && (n.heard.role == 3))) && (t10.2.steps == n.steps)))] (fun hk1 => ?_) ?_
            · refine wpq_split 49 (b := ((n.role == 3) || (n.isHeard && (n.heard.role == 3)))) (by kernel_rfl) (fun q16 => ?_) (fun q16 => ?_)
              · refine xB 6 [(3, 0), (5, 2)] [(3, vp b1 0), (6, vp b3 0), (9, vp b6 0), (55, vb (t10.2.steps == n.steps))] ?_
                refine wpq_re 55 (v := vb (t10.2.steps == n.steps)) (Value.bool ((((n.role == 3) || (n.isHeard && (n.heard.role == 3))) && (t10.2.steps == n.steps)))) (by kernel_rfl) (re_and1 q16) ?_
                exact wpq_sub _ (by kernel_rfl) hk1
              · have q16l := (or_false_ q16).1
                have q16r := (or_false_ q16).2
                have q16lp : ¬ (n.role = 3) := ne_of_beq_false_ q16l
                refine xB 6 [] [(3, vp b1 0), (6, vp b3 0), (9, vp b6 0), (55, vb false)] ?_
                refine wpq_re 55 (v := vb false) (Value.bool ((((n.role == 3) || (n.isHeard && (n.heard.role == 3))) && (t10.2.steps == n.steps)))) (by kernel_rfl) (re_and0 q16) ?_
                exact wpq_sub _ (by kernel_rfl) hk1
            · refine xB 1 [] [(3, vp b1 0), (6, vp b3 0), (9, vp b6 0), (56, vb (((n.role == 3) || (n.isHeard && (n.heard.role == 3))) && (t10.2.steps == n.steps)))] ?_
              refine wpr_grp 15 [(3, vp b1 0), (6, vp b3 0), (62, vb ((((n.role == 3) || (n.isHeard && (n.heard.role == 3))) && (t10.2.steps == n.steps)) && ((t10.2.targets.lateral == n.told.lateral) && ((t10.2.targets.vertical == n.told.vertical) && ((t10.2.targets.phase == n.told.phase) && ((t10.2.targets.bank == n.told.bank) && ((t10.2.targets.speed == n.told.speed) && ((t10.2.targets.alt == n.told.alt) && (t10.2.targets.vs == n.told.vs)))))))))] (fun hk8 => ?_) ?_
              · refine wpq_split 56 (b := (((n.role == 3) || (n.isHeard && (n.heard.role == 3))) && (t10.2.steps == n.steps))) (by kernel_rfl) (fun q17 => ?_) (fun q17 => ?_)
                · have q17l := (and_true_ q17).1
                  have q17r := (and_true_ q17).2
                  have q17rp : t10.2.steps = n.steps := eq_of_beq q17r
                  refine xB 4 [(10, 0), (12, 2)] [(3, vp b1 0), (6, vp b3 0), (56, vb true), (58, Value.agg #[vy t10.2.targets.lateral, vy t10.2.targets.vertical, vy t10.2.targets.phase, vi t10.2.targets.bank, vi t10.2.targets.speed, vi t10.2.targets.alt, vi t10.2.targets.vs]), (60, Value.agg #[vy n.told.lateral, vy n.told.vertical, vy n.told.phase, vi n.told.bank, vi n.told.speed, vi n.told.alt, vi n.told.vs])] ?_
                  refine xV (qEqA (((t10.2.targets.lateral == n.told.lateral) && ((t10.2.targets.vertical == n.told.vertical) && ((t10.2.targets.phase == n.told.phase) && ((t10.2.targets.bank == n.told.bank) && ((t10.2.targets.speed == n.told.speed) && ((t10.2.targets.alt == n.told.alt) && (t10.2.targets.vs == n.told.vs))))))))) ?_
                  refine xB 1 [] [(3, vp b1 0), (6, vp b3 0), (62, vb ((t10.2.targets.lateral == n.told.lateral) && ((t10.2.targets.vertical == n.told.vertical) && ((t10.2.targets.phase == n.told.phase) && ((t10.2.targets.bank == n.told.bank) && ((t10.2.targets.speed == n.told.speed) && ((t10.2.targets.alt == n.told.alt) && (t10.2.targets.vs == n.told.vs))))))))] ?_
                  refine wpq_re 62 (v := vb ((t10.2.targets.lateral == n.told.lateral) && ((t10.2.targets.vertical == n.told.vertical) && ((t10.2.targets.phase == n.told.phase) && ((t10.2.targets.bank == n.told.bank) && ((t10.2.targets.speed == n.told.speed) && ((t10.2.targets.alt == n.told.alt) && (t10.2.targets.vs == n.told.vs)))))))) (Value.bool (((((n.role == 3) || (n.isHeard && (n.heard.role == 3))) && (t10.2.steps == n.steps)) && ((t10.2.targets.lateral == n.told.lateral) && ((t10.2.targets.vertical == n.told.vertical) && ((t10.2.targets.phase == n.told.phase) && ((t10.2.targets.bank == n.told.bank) && ((t10.2.targets.speed == n.told.speed) && ((t10.2.targets.alt == n.told.alt) && (t10.2.targets.vs == n.told.vs)))))))))) (by kernel_rfl) (re_and1 q17) ?_
                  exact wpq_sub _ (by kernel_rfl) hk8
                · refine xB 6 [] [(3, vp b1 0), (6, vp b3 0), (62, vb false)] ?_
                  refine wpq_re 62 (v := vb false) (Value.bool (((((n.role == 3) || (n.isHeard && (n.heard.role == 3))) && (t10.2.steps == n.steps)) && ((t10.2.targets.lateral == n.told.lateral) && ((t10.2.targets.vertical == n.told.vertical) && ((t10.2.targets.phase == n.told.phase) && ((t10.2.targets.bank == n.told.bank) && ((t10.2.targets.speed == n.told.speed) && ((t10.2.targets.alt == n.told.alt) && (t10.2.targets.vs == n.told.vs)))))))))) (by kernel_rfl) (re_and0 q17) ?_
                  exact wpq_sub _ (by kernel_rfl) hk8
              · refine xRe ?_
                refine wpq_then ?_
                refine xCd (((((n.role == 3) || (n.isHeard && (n.heard.role == 3))) && (t10.2.steps == n.steps)) && ((t10.2.targets.lateral == n.told.lateral) && ((t10.2.targets.vertical == n.told.vertical) && ((t10.2.targets.phase == n.told.phase) && ((t10.2.targets.bank == n.told.bank) && ((t10.2.targets.speed == n.told.speed) && ((t10.2.targets.alt == n.told.alt) && (t10.2.targets.vs == n.told.vs))))))))) (fun h18 => ?_) (fun h18 => ?_)
                · have hS := cond_T h18 hS
                  have h18l := (and_true_ h18).1
                  have h18r := (and_true_ h18).2
                  have h18ll := (and_true_ h18l).1
                  have h18lr := (and_true_ h18l).2
                  have h18lrp : t10.2.steps = n.steps := eq_of_beq h18lr
                  have h18rl := (and_true_ h18r).1
                  have h18rr := (and_true_ h18r).2
                  have h18rlp : t10.2.targets.lateral = n.told.lateral := eq_of_beq h18rl
                  have h18rrl := (and_true_ h18rr).1
                  have h18rrr := (and_true_ h18rr).2
                  have h18rrlp : t10.2.targets.vertical = n.told.vertical := eq_of_beq h18rrl
                  have h18rrrl := (and_true_ h18rrr).1
                  have h18rrrr := (and_true_ h18rrr).2
                  have h18rrrlp : t10.2.targets.phase = n.told.phase := eq_of_beq h18rrrl
                  have h18rrrrl := (and_true_ h18rrrr).1
                  have h18rrrrr := (and_true_ h18rrrr).2
                  have h18rrrrlp : t10.2.targets.bank = n.told.bank := eq_of_beq h18rrrrl
                  have h18rrrrrl := (and_true_ h18rrrrr).1
                  have h18rrrrrr := (and_true_ h18rrrrr).2
                  have h18rrrrrlp : t10.2.targets.speed = n.told.speed := eq_of_beq h18rrrrrl
                  have h18rrrrrrl := (and_true_ h18rrrrrr).1
                  have h18rrrrrrr := (and_true_ h18rrrrrr).2
                  have h18rrrrrrlp : t10.2.targets.alt = n.told.alt := eq_of_beq h18rrrrrrl
                  have h18rrrrrrrp : t10.2.targets.vs = n.told.vs := eq_of_beq h18rrrrrrr
                  refine xSq ?_
                  refine xRg ?_
                  refine xBo 4 [(0, 2), (1, 1)] [some ⟨b6, 43, (cResult t10.2)⟩, some ⟨b3, 96, (cRNode ({ n with stage := 0 }) An_input cn_input An_heard_input cn_heard_input)⟩, some ⟨b1, 96, (cRNode ({ n with stage := 0 }) An_input cn_input An_heard_input cn_heard_input)⟩] [(6, vp b3 0), (7, vy 4), (8, vi 0)] ?_
                  refine xRe ?_
                  refine wpq_then ?_
                  have fn_input := fn_input.mono (e9.trans e12).b
                  have fn_heard_input := fn_heard_input.mono (e9.trans e12).b
                  have eS := (Option.some.inj hS).symm
                  subst eS
                  exact xRetC [] [(6, 1)] (e9.trans e12) ⟨An_input, cn_input, An_heard_input, cn_heard_input, by kernel_rfl, by kernel_rfl, fn_input, fn_heard_input⟩ (fun _ _ h => h)
                · have hS := cond_F h18 hS
                  refine xSk ?_
                  refine wpq_then ?_
                  refine xSub [(3, vp b1 0), (6, vp b3 0)] ?_
                  refine xSq ?_
                  refine xRg ?_
                  refine xBo 4 [(0, 2), (1, 1)] [some ⟨b6, 43, (cResult t10.2)⟩, some ⟨b3, 96, (cRNode ({ n with stage := 0 }) An_input cn_input An_heard_input cn_heard_input)⟩, some ⟨b1, 96, (cRNode ({ n with stage := 0 }) An_input cn_input An_heard_input cn_heard_input)⟩] [(6, vp b3 0), (7, vy 2), (8, vi 0)] ?_
                  refine xRe ?_
                  refine wpq_then ?_
                  have fn_input := fn_input.mono (e9.trans e12).b
                  have fn_heard_input := fn_heard_input.mono (e9.trans e12).b
                  have eS := (Option.some.inj hS).symm
                  subst eS
                  exact xRetC [] [(6, 1)] (e9.trans e12) ⟨An_input, cn_input, An_heard_input, cn_heard_input, by kernel_rfl, by kernel_rfl, fn_input, fn_heard_input⟩ (fun _ _ h => h)
      · intro u10 hS hN10
        refine xCd (y7) (fun h19 => ?_) (fun h19 => ?_)
        · have hS := cond_T h19 hS
          refine xRg ?_
          refine xB 2 [(1, 2)] [(3, vp b1 0), (6, vp b3 0), (9, vp b6 0), (10, vi 4), (28, vs Af_payload f.payload cf_payload)] ?_
          have ff_payload := ff_payload.mono e9.r
          obtain ⟨y20, hy20, hS⟩ := bindO_T hS
          refine xE (eC 0 (fun g' lr eb ln => c24 g' (f.payload : List UInt8) Af_payload cf_payload (ff_payload.mono lr) hy20)) ?_
          rintro _ g21 _ e22 ⟨_, rfl, rfl, rfl⟩
          refine xBo 5 [(6, 0)] [some ⟨b6, 43, (cResult y20.1)⟩, some ⟨b3, 96, (cRNode (⟨0, 0, 0, 0, 0, 0, ([] : List UInt8), false, false, (⟨0, 0, (⟨0, 0⟩ : Want), ([] : List UInt8)⟩ : Heard), false, (⟨0, 0, 0, 0, 0, 0, 0⟩ : Targets)⟩ : RNode) none 0 none 0)⟩, some ⟨b2, 100, (cFrame f Af_payload cf_payload)⟩, some ⟨b1, 96, (cRNode ({ n with stage := 0 }) An_input cn_input An_heard_input cn_heard_input)⟩] [(3, vp b1 0), (6, vp b3 0), (9, vp b6 0), (10, vi y20.2)] ?_
          refine xRe ?_
          refine xSel [some 0, some 1, some 3] ?_
          refine xSub [(3, vp b1 0), (6, vp b3 0), (9, vp b6 0), (10, vi y20.2)] ?_
          have eS := (Option.some.inj hS).symm
          exact hN10 _ eS _ _ _ e22 ⟨by kernel_rfl, by kernel_rfl⟩
        · have hS := cond_F h19 hS
          refine xSk ?_
          refine xSel [some 0, some 1, some 3] ?_
          refine xSub [(3, vp b1 0), (6, vp b3 0), (9, vp b6 0), (10, vi 4)] ?_
          have eS := (Option.some.inj hS).symm
          exact hN10 _ eS _ _ _ (Gh.le.refl _) ⟨by kernel_rfl, by kernel_rfl⟩

def o45 (n : Node) : Node :=
  (letJ (τ := Node) (o68 n) fun y1 => (({ y1 with next_ := 0 })))
set_option maxRecDepth 100000 in
theorem c45 (g : Gh) (b_n : Nat) (n : Node) (An_input : Option Addr) (cn_input : Nat) (An_heard_input : Option Addr) (cn_heard_input : Nat) (An_set__in_ : Option Addr) (cn_set__in_ : Nat) (fn_input : Arr g.b tyU8 An_input cn_input n.input) (fn_heard_input : Arr g.b tyU8 An_heard_input cn_heard_input n.heard.input) (fn_set__in_ : Arr g.b tyU8 An_set__in_ cn_set__in_ n.set_.in_) {r : Node} (hS : o45 n = r) :
    Ctr Try.prog 45 [vp b_n 0] g [some ⟨b_n, 131, (cNode n An_input cn_input An_heard_input cn_heard_input An_set__in_ cn_set__in_)⟩] (fun v ψ o => ∃ (Ao_n_input : Option Addr) (co_n_input : Nat) (Ao_n_heard_input : Option Addr) (co_n_heard_input : Nat) (Ao_n_set__in_ : Option Addr) (co_n_set__in_ : Nat), v = Value.tuple #[] ∧ o = [some ⟨b_n, 131, (cNode r Ao_n_input co_n_input Ao_n_heard_input co_n_heard_input Ao_n_set__in_ co_n_set__in_)⟩] ∧ Arr ψ tyU8 Ao_n_input co_n_input r.input ∧ Arr ψ tyU8 Ao_n_heard_input co_n_heard_input r.heard.input ∧ Arr ψ tyU8 Ao_n_set__in_ co_n_set__in_ r.set_.in_) := by
  unfold o45 at hS
  refine xFn Try.f45 (Try.f45.body.getD .skip) 9 ?_
  have nfn_input := fn_input.len
  have nfn_heard_input := fn_heard_input.len
  have nfn_set__in_ := fn_set__in_.len
  refine xSq ?_
  refine xRg ?_
  refine xB 2 [] [(0, vp b_n 0), (3, vb true)] ?_
  refine xRe ?_
  refine wpq_then ?_
  refine xCt ?_
  refine xSq ?_
  refine xRg ?_
  refine xB 1 [] [(0, vp b_n 0), (4, vp b_n 0)] ?_
  obtain ⟨y1, hy1, hS⟩ := letJ_T hS
  refine xE (eC 1 (fun g' lr eb ln => c68 g' b_n n An_input cn_input An_heard_input cn_heard_input An_set__in_ cn_set__in_ (by rw [eb]; exact fn_input) (by rw [eb]; exact fn_heard_input) (by rw [eb]; exact fn_set__in_) hy1)) ?_
  rintro _ g2 _ e3 ⟨_, rfl, A1_n_input, c1_n_input, A1_n_heard_input, c1_n_heard_input, A1_n_set__in_, c1_n_set__in_, rfl, rfl, f1_n_input, f1_n_heard_input, f1_n_set__in_⟩
  have nf1_n_input := f1_n_input.len
  have nf1_n_heard_input := f1_n_heard_input.len
  have nf1_n_set__in_ := f1_n_set__in_.len
  refine xRe ?_
  refine wpq_then ?_
  refine xSub [(0, vp b_n 0)] ?_
  refine xRg ?_
  refine xBo 4 [(3, 0)] [some ⟨b_n, 131, (cNode ({ y1 with next_ := 0 }) A1_n_input c1_n_input A1_n_heard_input c1_n_heard_input A1_n_set__in_ c1_n_set__in_)⟩] [] ?_
  refine xRe ?_
  have eS := hS.symm
  subst eS
  exact xFin [some 0] [] e3 ⟨A1_n_input, c1_n_input, A1_n_heard_input, c1_n_heard_input, A1_n_set__in_, c1_n_set__in_, by kernel_rfl, by kernel_rfl, f1_n_input, f1_n_heard_input, f1_n_set__in_⟩

def o66 (n : RNode) : RNode :=
  (({ n with role := 1, steps := 0, stage := 0 }))
set_option maxRecDepth 100000 in
theorem c66 (g : Gh) (n : RNode) (An_input : Option Addr) (cn_input : Nat) (An_heard_input : Option Addr) (cn_heard_input : Nat) (fn_input : Arr g.b tyU8 An_input cn_input n.input) (fn_heard_input : Arr g.b tyU8 An_heard_input cn_heard_input n.heard.input) {r : RNode} (hS : o66 n = r) :
    Ctr Try.prog 66 [Value.agg #[vi n.number, vy n.role, vi n.steps, vi n.alone, vi n.stage, vi n.cycle, vs An_input n.input cn_input, vb n.fresh, vb n.isHeard, vy n.heard.role, vi n.heard.steps, vi n.heard.want.base, vi n.heard.want.have_, vs An_heard_input n.heard.input cn_heard_input, vb n.stepped, vy n.told.lateral, vy n.told.vertical, vy n.told.phase, vi n.told.bank, vi n.told.speed, vi n.told.alt, vi n.told.vs]] g [] (fun v ψ o => ∃ (Ar_0_input : Option Addr) (cr_0_input : Nat) (Ar_0_heard_input : Option Addr) (cr_0_heard_input : Nat), v = Value.agg #[vi r.number, vy r.role, vi r.steps, vi r.alone, vi r.stage, vi r.cycle, vs Ar_0_input r.input cr_0_input, vb r.fresh, vb r.isHeard, vy r.heard.role, vi r.heard.steps, vi r.heard.want.base, vi r.heard.want.have_, vs Ar_0_heard_input r.heard.input cr_0_heard_input, vb r.stepped, vy r.told.lateral, vy r.told.vertical, vy r.told.phase, vi r.told.bank, vi r.told.speed, vi r.told.alt, vi r.told.vs] ∧ o = [] ∧ Arr ψ tyU8 Ar_0_input cr_0_input r.input ∧ Arr ψ tyU8 Ar_0_heard_input cr_0_heard_input r.heard.input) := by
  unfold o66 at hS
  refine xFn Try.f66 (Try.f66.body.getD .skip) 7 ?_
  have nfn_input := fn_input.len
  have nfn_heard_input := fn_heard_input.len
  refine xSq ?_
  refine xRg ?_
  refine xE eB ?_
  rintro _ _ _ - ⟨b1, rfl, rfl, rfl⟩
  refine xE eB ?_
  rintro _ _ _ - ⟨b2, rfl, rfl, rfl⟩
  refine xRe ?_
  refine wpq_then ?_
  refine xSub [(1, vp b1 0), (2, vp b2 0)] ?_
  refine xSq ?_
  refine xRg ?_
  refine xBo 6 [(1, 1), (3, 1), (5, 1)] [some ⟨b2, 96, (cRNode (⟨0, 0, 0, 0, 0, 0, ([] : List UInt8), false, false, (⟨0, 0, (⟨0, 0⟩ : Want), ([] : List UInt8)⟩ : Heard), false, (⟨0, 0, 0, 0, 0, 0, 0⟩ : Targets)⟩ : RNode) none 0 none 0)⟩, some ⟨b1, 96, (cRNode ({ n with role := 1, steps := 0, stage := 0 }) An_input cn_input An_heard_input cn_heard_input)⟩] [(1, vp b1 0), (2, vp b2 0)] ?_
  refine xRe ?_
  refine wpq_then ?_
  refine xSq ?_
  refine xRg ?_
  refine xBo 2 [(0, 1), (1, 0)] [some ⟨b2, 96, (cRNode ({ n with role := 1, steps := 0, stage := 0 }) An_input cn_input An_heard_input cn_heard_input)⟩, some ⟨b1, 96, (cRNode ({ n with role := 1, steps := 0, stage := 0 }) An_input cn_input An_heard_input cn_heard_input)⟩] [(2, vp b2 0)] ?_
  refine xRe ?_
  refine wpq_then ?_
  have eS := hS.symm
  subst eS
  exact xRetC [] [(2, 0)] (Gh.le.refl _) ⟨An_input, cn_input, An_heard_input, cn_heard_input, by kernel_rfl, by kernel_rfl, fn_input, fn_heard_input⟩ (fun _ _ h => h)

def o38 (n : Node) (steps : Int) : Node × Int :=
  (cond (((n.next_ != 0) || (n.role != 1))) ((n, (8 : Int))) (cond ((decide (steps < 1) || decide (steps > 4611686018427387904))) ((n, (1 : Int))) ((({ n with role := 3, steps := steps }), (0 : Int)))))
set_option maxRecDepth 100000 in
theorem c38 (g : Gh) (b_n : Nat) (n : Node) (An_input : Option Addr) (cn_input : Nat) (An_heard_input : Option Addr) (cn_heard_input : Nat) (An_set__in_ : Option Addr) (cn_set__in_ : Nat) (steps : Int) (fn_input : Arr g.b tyU8 An_input cn_input n.input) (fn_heard_input : Arr g.b tyU8 An_heard_input cn_heard_input n.heard.input) (fn_set__in_ : Arr g.b tyU8 An_set__in_ cn_set__in_ n.set_.in_) {r : Node × Int} (hS : o38 n steps = r) :
    Ctr Try.prog 38 [vp b_n 0, vi steps] g [some ⟨b_n, 131, (cNode n An_input cn_input An_heard_input cn_heard_input An_set__in_ cn_set__in_)⟩] (fun v ψ o => ∃ (Ao_n_input : Option Addr) (co_n_input : Nat) (Ao_n_heard_input : Option Addr) (co_n_heard_input : Nat) (Ao_n_set__in_ : Option Addr) (co_n_set__in_ : Nat), v = vi r.2 ∧ o = [some ⟨b_n, 131, (cNode r.1 Ao_n_input co_n_input Ao_n_heard_input co_n_heard_input Ao_n_set__in_ co_n_set__in_)⟩] ∧ Arr ψ tyU8 Ao_n_input co_n_input r.1.input ∧ Arr ψ tyU8 Ao_n_heard_input co_n_heard_input r.1.heard.input ∧ Arr ψ tyU8 Ao_n_set__in_ co_n_set__in_ r.1.set_.in_) := by
  unfold o38 at hS
  refine xFn Try.f38 (Try.f38.body.getD .skip) 32 ?_
  have nfn_input := fn_input.len
  have nfn_heard_input := fn_heard_input.len
  have nfn_set__in_ := fn_set__in_.len
  refine xSq ?_
  refine xRg ?_
  refine xB 1 [] [(0, vp b_n 0), (1, vi steps)] ?_
  refine xRe ?_
  refine wpq_then ?_
  refine xSq ?_
  refine xSq ?_
  refine xRg ?_
  refine xB 2 [] [(0, vp b_n 0), (1, vi steps), (6, vb false)] ?_
  refine xRe ?_
  refine wpq_then ?_
  refine xCf ?_
  refine xSk ?_
  refine wpq_then ?_
  refine xSub [(0, vp b_n 0), (1, vi steps)] ?_
  refine xSq ?_
  refine xSq ?_
  refine xRg ?_
  refine xB 6 [(3, 0)] [(0, vp b_n 0), (1, vi steps), (12, vb (n.next_ != 0))] ?_
  refine wpr_grp 12 [(0, vp b_n 0), (1, vi steps), (18, vb ((n.next_ != 0) || (n.role != 1)))] (fun hk5 => ?_) ?_
  · refine wpq_split 12 (b := (n.next_ != 0)) (by kernel_rfl) (fun q1 => ?_) (fun q1 => ?_)
    · have q1p : ¬ (n.next_ = 0) := ne_of_bne_ q1
      refine xB 6 [] [(0, vp b_n 0), (1, vi steps), (18, vb true)] ?_
      refine wpq_re 18 (v := vb true) (Value.bool (((n.next_ != 0) || (n.role != 1)))) (by kernel_rfl) (re_or1 q1) ?_
      exact wpq_sub _ (by kernel_rfl) hk5
    · have q1p : n.next_ = 0 := eq_of_bne_false_ q1
      refine xB 6 [(9, 0)] [(0, vp b_n 0), (1, vi steps), (18, vb (n.role != 1))] ?_
      refine wpq_re 18 (v := vb (n.role != 1)) (Value.bool (((n.next_ != 0) || (n.role != 1)))) (by kernel_rfl) (re_or0 q1) ?_
      exact wpq_sub _ (by kernel_rfl) hk5
  · refine xRe ?_
    refine wpq_then ?_
    refine xCd (((n.next_ != 0) || (n.role != 1))) (fun h2 => ?_) (fun h2 => ?_)
    · have hS := cond_T h2 hS
      refine xSq ?_
      refine xRg ?_
      refine xB 1 [] [(4, vi 8)] ?_
      refine xRe ?_
      refine wpq_then ?_
      have eS := hS.symm
      subst eS
      exact xRet [some 0] [4] (Gh.le.refl _) ⟨An_input, cn_input, An_heard_input, cn_heard_input, An_set__in_, cn_set__in_, by kernel_rfl, by kernel_rfl, fn_input, fn_heard_input, fn_set__in_⟩ (fun _ _ h => h)
    · have hS := cond_F h2 hS
      have h2l := (or_false_ h2).1
      have h2r := (or_false_ h2).2
      have h2lp : n.next_ = 0 := eq_of_bne_false_ h2l
      have h2rp : n.role = 1 := eq_of_bne_false_ h2r
      refine xSk ?_
      refine wpq_then ?_
      refine xSub [(0, vp b_n 0), (1, vi steps)] ?_
      refine xSq ?_
      refine xSq ?_
      refine xRg ?_
      refine xB 3 [] [(0, vp b_n 0), (1, vi steps), (21, vb (decide (steps < 1)))] ?_
      refine wpr_grp 6 [(0, vp b_n 0), (1, vi steps), (24, vb (decide (steps < 1) || decide (steps > 4611686018427387904)))] (fun hk2 => ?_) ?_
      · refine wpq_split 21 (b := decide (steps < 1)) (by kernel_rfl) (fun q3 => ?_) (fun q3 => ?_)
        · have q3p := of_decide_eq_true q3
          refine xB 3 [] [(0, vp b_n 0), (1, vi steps), (24, vb true)] ?_
          refine wpq_re 24 (v := vb true) (Value.bool ((decide (steps < 1) || decide (steps > 4611686018427387904)))) (by kernel_rfl) (re_or1 q3) ?_
          exact wpq_sub _ (by kernel_rfl) hk2
        · have q3p := of_decide_eq_false q3
          refine xB 3 [] [(0, vp b_n 0), (1, vi steps), (24, vb (decide (steps > 4611686018427387904)))] ?_
          refine wpq_re 24 (v := vb (decide (steps > 4611686018427387904))) (Value.bool ((decide (steps < 1) || decide (steps > 4611686018427387904)))) (by kernel_rfl) (re_or0 q3) ?_
          exact wpq_sub _ (by kernel_rfl) hk2
      · refine xRe ?_
        refine wpq_then ?_
        refine xCd ((decide (steps < 1) || decide (steps > 4611686018427387904))) (fun h4 => ?_) (fun h4 => ?_)
        · have hS := cond_T h4 hS
          refine xSq ?_
          refine xRg ?_
          refine xB 1 [] [(4, vi 1)] ?_
          refine xRe ?_
          refine wpq_then ?_
          have eS := hS.symm
          subst eS
          exact xRet [some 0] [4] (Gh.le.refl _) ⟨An_input, cn_input, An_heard_input, cn_heard_input, An_set__in_, cn_set__in_, by kernel_rfl, by kernel_rfl, fn_input, fn_heard_input, fn_set__in_⟩ (fun _ _ h => h)
        · have hS := cond_F h4 hS
          have h4l := (or_false_ h4).1
          have h4r := (or_false_ h4).2
          have h4lp := of_decide_eq_false h4l
          have h4rp := of_decide_eq_false h4r
          refine xSk ?_
          refine wpq_then ?_
          refine xSub [(0, vp b_n 0), (1, vi steps)] ?_
          refine xSq ?_
          refine xRg ?_
          refine xBo 9 [(5, 0), (8, 0)] [some ⟨b_n, 131, (cNode ({ n with role := 3, steps := steps }) An_input cn_input An_heard_input cn_heard_input An_set__in_ cn_set__in_)⟩] [] ?_
          refine xRe ?_
          refine wpq_then ?_
          refine xSq ?_
          refine xRg ?_
          refine xB 1 [] [(4, vi 0)] ?_
          refine xRe ?_
          refine wpq_then ?_
          have eS := hS.symm
          subst eS
          exact xRet [some 0] [4] (Gh.le.refl _) ⟨An_input, cn_input, An_heard_input, cn_heard_input, An_set__in_, cn_set__in_, by kernel_rfl, by kernel_rfl, fn_input, fn_heard_input, fn_set__in_⟩ (fun _ _ h => h)

def o67 (n : RNode) (steps : Int) : RNode × Int :=
  (cond (((n.stage != 0) || (n.role != 1))) ((n, (8 : Int))) (cond ((decide (steps < 1) || decide (steps > 4611686018427387904))) ((n, (1 : Int))) ((({ n with role := 3, steps := steps }), (0 : Int)))))
set_option maxRecDepth 100000 in
theorem c67 (g : Gh) (n : RNode) (An_input : Option Addr) (cn_input : Nat) (An_heard_input : Option Addr) (cn_heard_input : Nat) (steps : Int) (fn_input : Arr g.b tyU8 An_input cn_input n.input) (fn_heard_input : Arr g.b tyU8 An_heard_input cn_heard_input n.heard.input) {r : RNode × Int} (hS : o67 n steps = r) :
    Ctr Try.prog 67 [Value.agg #[vi n.number, vy n.role, vi n.steps, vi n.alone, vi n.stage, vi n.cycle, vs An_input n.input cn_input, vb n.fresh, vb n.isHeard, vy n.heard.role, vi n.heard.steps, vi n.heard.want.base, vi n.heard.want.have_, vs An_heard_input n.heard.input cn_heard_input, vb n.stepped, vy n.told.lateral, vy n.told.vertical, vy n.told.phase, vi n.told.bank, vi n.told.speed, vi n.told.alt, vi n.told.vs], vi steps] g [] (fun v ψ o => ∃ (Ar_0_input : Option Addr) (cr_0_input : Nat) (Ar_0_heard_input : Option Addr) (cr_0_heard_input : Nat), v = Value.tuple #[Value.agg #[vi r.1.number, vy r.1.role, vi r.1.steps, vi r.1.alone, vi r.1.stage, vi r.1.cycle, vs Ar_0_input r.1.input cr_0_input, vb r.1.fresh, vb r.1.isHeard, vy r.1.heard.role, vi r.1.heard.steps, vi r.1.heard.want.base, vi r.1.heard.want.have_, vs Ar_0_heard_input r.1.heard.input cr_0_heard_input, vb r.1.stepped, vy r.1.told.lateral, vy r.1.told.vertical, vy r.1.told.phase, vi r.1.told.bank, vi r.1.told.speed, vi r.1.told.alt, vi r.1.told.vs], vi r.2] ∧ o = [] ∧ Arr ψ tyU8 Ar_0_input cr_0_input r.1.input ∧ Arr ψ tyU8 Ar_0_heard_input cr_0_heard_input r.1.heard.input) := by
  unfold o67 at hS
  refine xFn Try.f67 (Try.f67.body.getD .skip) 26 ?_
  have nfn_input := fn_input.len
  have nfn_heard_input := fn_heard_input.len
  refine xSq ?_
  refine xRg ?_
  refine xE eB ?_
  rintro _ _ _ - ⟨b1, rfl, rfl, rfl⟩
  refine xE eB ?_
  rintro _ _ _ - ⟨b2, rfl, rfl, rfl⟩
  refine xB 1 [] [(1, vi steps), (2, vp b1 0), (4, vp b2 0)] ?_
  refine xRe ?_
  refine wpq_then ?_
  refine xSq ?_
  refine xSq ?_
  refine xRg ?_
  refine xB 4 [(1, 1)] [(1, vi steps), (2, vp b1 0), (4, vp b2 0), (9, vb (n.stage != 0))] ?_
  refine wpr_grp 8 [(1, vi steps), (2, vp b1 0), (4, vp b2 0), (13, vb ((n.stage != 0) || (n.role != 1)))] (fun hk3 => ?_) ?_
  · refine wpq_split 9 (b := (n.stage != 0)) (by kernel_rfl) (fun q3 => ?_) (fun q3 => ?_)
    · have q3p : ¬ (n.stage = 0) := ne_of_bne_ q3
      refine xB 4 [] [(1, vi steps), (2, vp b1 0), (4, vp b2 0), (13, vb true)] ?_
      refine wpq_re 13 (v := vb true) (Value.bool (((n.stage != 0) || (n.role != 1)))) (by kernel_rfl) (re_or1 q3) ?_
      exact wpq_sub _ (by kernel_rfl) hk3
    · have q3p : n.stage = 0 := eq_of_bne_false_ q3
      refine xB 4 [(5, 1)] [(1, vi steps), (2, vp b1 0), (4, vp b2 0), (13, vb (n.role != 1))] ?_
      refine wpq_re 13 (v := vb (n.role != 1)) (Value.bool (((n.stage != 0) || (n.role != 1)))) (by kernel_rfl) (re_or0 q3) ?_
      exact wpq_sub _ (by kernel_rfl) hk3
  · refine xRe ?_
    refine wpq_then ?_
    refine xCd (((n.stage != 0) || (n.role != 1))) (fun h4 => ?_) (fun h4 => ?_)
    · have hS := cond_T h4 hS
      refine xSq ?_
      refine xRg ?_
      refine xBo 3 [(0, 1), (1, 0)] [some ⟨b2, 96, (cRNode n An_input cn_input An_heard_input cn_heard_input)⟩, some ⟨b1, 96, (cRNode n An_input cn_input An_heard_input cn_heard_input)⟩] [(4, vp b2 0), (5, vi 8)] ?_
      refine xRe ?_
      refine wpq_then ?_
      have eS := hS.symm
      subst eS
      exact xRetC [] [(4, 0)] (Gh.le.refl _) ⟨An_input, cn_input, An_heard_input, cn_heard_input, by kernel_rfl, by kernel_rfl, fn_input, fn_heard_input⟩ (fun _ _ h => h)
    · have hS := cond_F h4 hS
      have h4l := (or_false_ h4).1
      have h4r := (or_false_ h4).2
      have h4lp : n.stage = 0 := eq_of_bne_false_ h4l
      have h4rp : n.role = 1 := eq_of_bne_false_ h4r
      refine xSk ?_
      refine wpq_then ?_
      refine xSub [(1, vi steps), (2, vp b1 0), (4, vp b2 0)] ?_
      refine xSq ?_
      refine xSq ?_
      refine xRg ?_
      refine xB 3 [] [(1, vi steps), (2, vp b1 0), (4, vp b2 0), (17, vb (decide (steps < 1)))] ?_
      refine wpr_grp 6 [(1, vi steps), (2, vp b1 0), (4, vp b2 0), (20, vb (decide (steps < 1) || decide (steps > 4611686018427387904)))] (fun hk2 => ?_) ?_
      · refine wpq_split 17 (b := decide (steps < 1)) (by kernel_rfl) (fun q5 => ?_) (fun q5 => ?_)
        · have q5p := of_decide_eq_true q5
          refine xB 3 [] [(1, vi steps), (2, vp b1 0), (4, vp b2 0), (20, vb true)] ?_
          refine wpq_re 20 (v := vb true) (Value.bool ((decide (steps < 1) || decide (steps > 4611686018427387904)))) (by kernel_rfl) (re_or1 q5) ?_
          exact wpq_sub _ (by kernel_rfl) hk2
        · have q5p := of_decide_eq_false q5
          refine xB 3 [] [(1, vi steps), (2, vp b1 0), (4, vp b2 0), (20, vb (decide (steps > 4611686018427387904)))] ?_
          refine wpq_re 20 (v := vb (decide (steps > 4611686018427387904))) (Value.bool ((decide (steps < 1) || decide (steps > 4611686018427387904)))) (by kernel_rfl) (re_or0 q5) ?_
          exact wpq_sub _ (by kernel_rfl) hk2
      · refine xRe ?_
        refine wpq_then ?_
        refine xCd ((decide (steps < 1) || decide (steps > 4611686018427387904))) (fun h6 => ?_) (fun h6 => ?_)
        · have hS := cond_T h6 hS
          refine xSq ?_
          refine xRg ?_
          refine xBo 3 [(0, 1), (1, 0)] [some ⟨b2, 96, (cRNode n An_input cn_input An_heard_input cn_heard_input)⟩, some ⟨b1, 96, (cRNode n An_input cn_input An_heard_input cn_heard_input)⟩] [(4, vp b2 0), (5, vi 1)] ?_
          refine xRe ?_
          refine wpq_then ?_
          have eS := hS.symm
          subst eS
          exact xRetC [] [(4, 0)] (Gh.le.refl _) ⟨An_input, cn_input, An_heard_input, cn_heard_input, by kernel_rfl, by kernel_rfl, fn_input, fn_heard_input⟩ (fun _ _ h => h)
        · have hS := cond_F h6 hS
          have h6l := (or_false_ h6).1
          have h6r := (or_false_ h6).2
          have h6lp := of_decide_eq_false h6l
          have h6rp := of_decide_eq_false h6r
          refine xSk ?_
          refine wpq_then ?_
          refine xSub [(1, vi steps), (2, vp b1 0), (4, vp b2 0)] ?_
          refine xSq ?_
          refine xRg ?_
          refine xBo 5 [(2, 1), (4, 1)] [some ⟨b2, 96, (cRNode (⟨0, 0, 0, 0, 0, 0, ([] : List UInt8), false, false, (⟨0, 0, (⟨0, 0⟩ : Want), ([] : List UInt8)⟩ : Heard), false, (⟨0, 0, 0, 0, 0, 0, 0⟩ : Targets)⟩ : RNode) none 0 none 0)⟩, some ⟨b1, 96, (cRNode ({ n with role := 3, steps := steps }) An_input cn_input An_heard_input cn_heard_input)⟩] [(2, vp b1 0), (4, vp b2 0)] ?_
          refine xRe ?_
          refine wpq_then ?_
          refine xSq ?_
          refine xRg ?_
          refine xBo 3 [(0, 1), (1, 0)] [some ⟨b2, 96, (cRNode ({ n with role := 3, steps := steps }) An_input cn_input An_heard_input cn_heard_input)⟩, some ⟨b1, 96, (cRNode ({ n with role := 3, steps := steps }) An_input cn_input An_heard_input cn_heard_input)⟩] [(4, vp b2 0), (5, vi 0)] ?_
          refine xRe ?_
          refine wpq_then ?_
          have eS := hS.symm
          subst eS
          exact xRetC [] [(4, 0)] (Gh.le.refl _) ⟨An_input, cn_input, An_heard_input, cn_heard_input, by kernel_rfl, by kernel_rfl, fn_input, fn_heard_input⟩ (fun _ _ h => h)

end Go.Proofs.Ytgnajpoebooafaa
