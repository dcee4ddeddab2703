/-
Walks, printed by wip/gen. Conditions: each theorem's own.
-/
import Derived.Test.YtgnajpoebooafaaG7
import Derived.Test.YtgnajpoebooafaaED
namespace Go.Proofs.Ytgnajpoebooafaa
set_option linter.unusedVariables false
set_option linter.unusedSimpArgs false
open Go.RowKit
def o53_L0 (n : Int) (size : Int) (s6 : (List UInt8) × Nat) : Option (Ctl ((List UInt8) × Nat) ((List UInt8))) :=
  (cond (decide (((s6.2 : Nat) : Int) < size)) (grd (decide (0 ≤ (IntKind.i64.wrap (8 * ((s6.2 : Nat) : Int))))) (grd (decide (((s6.1).length + (([(u8 (IntKind.u8.wrap (shrK .i64 n (IntKind.i64.wrap (8 * ((s6.2 : Nat) : Int))))))] : List UInt8)).length) * 1 ≤ 140737488355328)) (grd (decide (((s6.2 : Nat) : Int) + 1 ≤ 9223372036854775807)) (some (Ctl.go (((s6.1 ++ ([(u8 (IntKind.u8.wrap (shrK .i64 n (IntKind.i64.wrap (8 * ((s6.2 : Nat) : Int))))))] : List UInt8)) : List UInt8), (s6.2 + 1))))))) (some (Ctl.done ((s6.1 : List UInt8)))))
def o53 (out : List UInt8) (n : Int) (size : Int) : Option ((List UInt8)) :=
  (bindO (τ := (List UInt8)) (loopO (σ := (List UInt8) × Nat) (ρ := (List UInt8)) fuelN (o53_L0 n size) ((out : List UInt8), 0)) fun t1 => (some ((t1 : List UInt8))))
set_option maxRecDepth 100000 in
theorem c53 (g : Gh) (out : List UInt8) (Aout : Option Addr) (cout : Nat) (kout : Option Bk) (n : Int) (size : Int) (hout : Buf g.b tyU8 5 (.slice Aout (out).length cout) kout out) {r : (List UInt8)} (hS : o53 out n size = some r) :
    Ctr Try.prog 53 [vs Aout out cout, vi n, vi size] g [kout] (fun v ψ o => ∃ (Ar_0 : Option Addr) (cr_0 : Nat) (kr_0 : Option Bk), v = vs Ar_0 r cr_0 ∧ o = [kr_0] ∧ Buf ψ tyU8 5 (.slice Ar_0 (r).length cr_0) kr_0 r) := by
  unfold o53 at hS
  refine xFn Try.f53 (Try.f53.body.getD .skip) 22 ?_
  have nhout := hout.len
  refine xSq ?_
  refine xRg ?_
  refine xB 1 [] [(0, vs Aout out cout), (1, vi n), (2, vi size)] ?_
  refine xRe ?_
  refine wpq_then ?_
  refine xSq ?_
  refine xSq ?_
  refine xRg ?_
  refine xB 2 [] [(0, vs Aout out cout), (1, vi n), (8, vi size), (9, vi 0)] ?_
  refine xRe ?_
  refine wpq_then ?_
  refine xBindO hS (fun g own sl t1 => ∃ (A1_0 : Option Addr) (c1_0 : Nat) (k1_0 : Option Bk), own = [k1_0] ∧ sl = [(0, vs A1_0 t1 c1_0)] ∧ Buf g.b tyU8 5 (.slice A1_0 (t1).length c1_0) k1_0 t1) ?_ ?_
  · rintro g2 _ _ t1 e3 ⟨A1_0, c1_0, k1_0, rfl, rfl, h1_0⟩ hS
    have nh1_0 := h1_0.len
    refine wpq_then ?_
    refine xSq ?_
    refine xRg ?_
    refine xB 2 [] [(6, vs A1_0 t1 c1_0)] ?_
    refine xRe ?_
    refine wpq_then ?_
    have eS := (Option.some.inj hS).symm
    subst eS
    exact xRet [some 0] [6] e3 ⟨A1_0, c1_0, k1_0, by kernel_rfl, by kernel_rfl, h1_0⟩ (fun _ _ h => h)
  · intro u1 hS hN1
    refine xBl 0 ?_
    refine xSub [(0, vs Aout out cout), (1, vi n), (8, vi size), (9, vi 0)] ?_
    refine xLo hS (fun g own sl s6 => ∃ (A6_0 : Option Addr) (c6_0 : Nat) (k6_0 : Option Bk), own = [k6_0] ∧ sl = [(0, vs A6_0 s6.1 c6_0), (1, vi n), (8, vi size), (9, vi ((s6.2 : Nat) : Int))] ∧ Buf g.b tyU8 5 (.slice A6_0 (s6.1).length c6_0) k6_0 s6.1) ⟨Aout, cout, kout, by kernel_rfl, by kernel_rfl, hout⟩ ?_
    rintro g7 _ _ s6 u6 e8 ⟨A6_0, c6_0, k6_0, rfl, rfl, h6_0⟩ hS Qr6 hN6 hD6
    have nh6_0 := h6_0.len
    unfold o53_L0 at hS
    refine xSq ?_
    refine xRg ?_
    refine xB 1 [] [(0, vs A6_0 s6.1 c6_0), (1, vi n), (8, vi size), (9, vi ((s6.2 : Nat) : Int)), (10, vb (decide (((s6.2 : Nat) : Int) < size)))] ?_
    refine xRe ?_
    refine wpq_then ?_
    refine xSq ?_
    refine xCd (decide (((s6.2 : Nat) : Int) < size)) (fun h9 => ?_) (fun h9 => ?_)
    · have hS := cond_T h9 hS
      have h9p := of_decide_eq_true h9
      refine xSk ?_
      refine wpq_then ?_
      refine xSub [(0, vs A6_0 s6.1 c6_0), (1, vi n), (8, vi size), (9, vi ((s6.2 : Nat) : Int))] ?_
      refine xSq ?_
      refine xBl 1 ?_
      refine xSq ?_
      refine xRg ?_
      refine xB 2 [] [(0, vs A6_0 s6.1 c6_0), (1, vi n), (7, vi ((s6.2 : Nat) : Int)), (8, vi size), (9, vi ((s6.2 : Nat) : Int))] ?_
      refine xRe ?_
      refine wpq_then ?_
      refine xRg ?_
      obtain ⟨q10, hS⟩ := grd_T hS
      have q10p := of_decide_eq_true q10
      refine xB 4 [] [(0, vs A6_0 s6.1 c6_0), (1, vi n), (8, vi size), (9, vi ((s6.2 : Nat) : Int)), (12, vs A6_0 s6.1 c6_0), (13, vi n), (15, vi (IntKind.i64.wrap (8 * ((s6.2 : Nat) : Int))))] ?_
      refine xV (qShr .i64 .i64 (n) ((IntKind.i64.wrap (8 * ((s6.2 : Nat) : Int)))) (by omega)) ?_
      refine xB 1 [] [(0, vs A6_0 s6.1 c6_0), (1, vi n), (8, vi size), (9, vi ((s6.2 : Nat) : Int)), (12, vs A6_0 s6.1 c6_0), (17, vy (IntKind.u8.wrap (shrK .i64 n (IntKind.i64.wrap (8 * ((s6.2 : Nat) : Int))))))] ?_
      refine xE (eBs (T := tyU8) (p := g7.b) (et := 5) (xs := ([(u8 (IntKind.u8.wrap (shrK .i64 n (IntKind.i64.wrap (8 * ((s6.2 : Nat) : Int))))))] : List UInt8)) (reps_cons (c := [vy (IntKind.u8.wrap (shrK .i64 n (IntKind.i64.wrap (8 * ((s6.2 : Nat) : Int)))))]) (u8_rep (wrapU8_rng _)) reps_nil) (by simp)) ?_
      rintro _ _ _ - ⟨A11, c11, k11, rfl, rfl, rfl, h11⟩
      obtain ⟨nw12, hp12, hs12⟩ := h11.srcO (g := g7)
      obtain ⟨q13, hS⟩ := grd_T hS
      have q13p := of_decide_eq_true q13
      refine xE (eApp (T := tyU8) (p := g7.b) (et := 5) (bytes := 1) (xs := (s6.1 : List UInt8)) (ys := (([(u8 (IntKind.u8.wrap (shrK .i64 n (IntKind.i64.wrap (8 * ((s6.2 : Nat) : Int))))))] : List UInt8) : List UInt8)) 1 h6_0 rfl (fun w hs => hs12 0 w _ hs (by kernel_rfl)) hp12 (by first | omega | (simp only [List.length_cons, List.length_nil] at *; omega)) (by first | omega | (simp only [List.length_cons, List.length_nil] at *; omega))) ?_
      rintro _ _ _ - ⟨A12, c12, k12, rfl, rfl, rfl, h12⟩
      have nh12 := h12.len
      have hz12 : ((s6.1 ++ ([(u8 (IntKind.u8.wrap (shrK .i64 n (IntKind.i64.wrap (8 * ((s6.2 : Nat) : Int))))))] : List UInt8)) : List UInt8).length = (s6.1).length + (([(u8 (IntKind.u8.wrap (shrK .i64 n (IntKind.i64.wrap (8 * ((s6.2 : Nat) : Int))))))] : List UInt8)).length := List.length_append
      refine xB 1 [] [(0, vs A12 (s6.1 ++ ([(u8 (IntKind.u8.wrap (shrK .i64 n (IntKind.i64.wrap (8 * ((s6.2 : Nat) : Int))))))] : List UInt8)) c12), (1, vi n), (8, vi size), (9, vi ((s6.2 : Nat) : Int))] ?_
      refine xRe ?_
      refine wpq_blockN ?_
      refine wpq_then ?_
      refine xRg ?_
      obtain ⟨q14, hS⟩ := grd_T hS
      have q14p := of_decide_eq_true q14
      refine xV (qAdd .i64 (((s6.2 : Nat) : Int)) (1) (wr64 (by omega))) ?_
      refine xB 1 [] [(0, vs A12 (s6.1 ++ ([(u8 (IntKind.u8.wrap (shrK .i64 n (IntKind.i64.wrap (8 * ((s6.2 : Nat) : Int))))))] : List UInt8)) c12), (1, vi n), (8, vi size), (9, vi (((s6.2 : Nat) : Int) + 1))] ?_
      refine xRe ?_
      refine wpq_thenN ?_
      refine xSel [some 1] ?_
      refine xSub [(0, vs A12 (s6.1 ++ ([(u8 (IntKind.u8.wrap (shrK .i64 n (IntKind.i64.wrap (8 * ((s6.2 : Nat) : Int))))))] : List UInt8)) c12), (1, vi n), (8, vi size), (9, vi (((s6.2 : Nat) : Int) + 1))] ?_
      have eS := (Option.some.inj hS).symm
      exact hN6 _ eS _ _ _ (Gh.le.refl _) ⟨A12, c12, k12, by kernel_rfl, by kernel_rfl, h12⟩
    · have hS := cond_F h9 hS
      have h9p := of_decide_eq_false h9
      refine xEx 0 ?_
      refine wpq_thenX ?_
      refine wpq_thenX ?_
      refine wpq_blockE ?_
      refine xSub [(0, vs A6_0 s6.1 c6_0)] ?_
      have eS := (Option.some.inj hS).symm
      have eS := (hD6 _ eS).symm
      exact hN1 _ eS _ _ _ e8 ⟨A6_0, c6_0, k6_0, by kernel_rfl, by kernel_rfl, h6_0⟩

def o52 (p : List UInt8) (is_ : Bool) (bit : Int) (fv : List UInt8) : Option ((List UInt8)) :=
  (bindO (τ := (List UInt8)) (cond (is_) (grd (decide (0 < (fv).length)) (grd (decide (0 < (fv).length)) (bindO (τ := (List UInt8)) (o53 ((List.set fv 0 (u8 (lorK .u8 ((List.getD fv 0 0).toNat : Int) bit))) : List UInt8) ((((p).length : Nat) : Int) : Int) (2 : Int)) fun y10 => (grd (decide (((y10).length + (p).length) * 1 ≤ 140737488355328)) (some (((y10 ++ p) : List UInt8))))))) (some ((fv : List UInt8)))) fun t1 => (some ((t1 : List UInt8))))
set_option maxRecDepth 100000 in
theorem c52 (g : Gh) (p : List UInt8) (Ap : Option Addr) (cp : Nat) (is_ : Bool) (bit : Int) (b_fv : Nat) (fv : List UInt8) (Afv : Option Addr) (cfv : Nat) (kfv : Option Bk) (fp : Arr g.r tyU8 Ap cp p) (hfv : Buf g.b tyU8 5 (.slice Afv (fv).length cfv) kfv fv) {r : (List UInt8)} (hS : o52 p is_ bit fv = some r) :
    Ctr Try.prog 52 [vs Ap p cp, vb is_, vy bit, vp b_fv 0] g [some ⟨b_fv, 22, [vs Afv fv cfv]⟩, kfv] (fun v ψ o => ∃ (Ao_fv : Option Addr) (co_fv : Nat) (ko_fv : Option Bk), v = Value.tuple #[] ∧ o = [some ⟨b_fv, 22, [vs Ao_fv r co_fv]⟩, ko_fv] ∧ Buf ψ tyU8 5 (.slice Ao_fv (r).length co_fv) ko_fv r) := by
  unfold o52 at hS
  refine xFn Try.f52 (Try.f52.body.getD .skip) 20 ?_
  have nfp := fp.len
  have nhfv := hfv.len
  refine xSq ?_
  refine xRg ?_
  refine xB 1 [] [(0, vs Ap p cp), (2, vy bit), (3, vp b_fv 0), (7, vb is_)] ?_
  refine xRe ?_
  refine wpq_then ?_
  refine xBindO hS (fun g own sl t1 => ∃ (A1_0 : Option Addr) (c1_0 : Nat) (k1_0 : Option Bk), own = [some ⟨b_fv, 22, [vs A1_0 t1 c1_0]⟩, k1_0] ∧ sl = [] ∧ Buf g.b tyU8 5 (.slice A1_0 (t1).length c1_0) k1_0 t1) ?_ ?_
  · rintro g2 _ _ t1 e3 ⟨A1_0, c1_0, k1_0, rfl, rfl, h1_0⟩ hS
    have nh1_0 := h1_0.len
    have eS := (Option.some.inj hS).symm
    subst eS
    exact xFin [some 0, some 1] [] e3 ⟨A1_0, c1_0, k1_0, by kernel_rfl, by kernel_rfl, h1_0⟩
  · intro u1 hS hN1
    refine xCd (is_) (fun h4 => ?_) (fun h4 => ?_)
    · have hS := cond_T h4 hS
      refine xSq ?_
      refine xRg ?_
      obtain ⟨q6, hS⟩ := grd_T hS
      have q6p := of_decide_eq_true q6
      obtain ⟨kc5, cs5, hA5, hk5, hr5, hw5⟩ := hfv.open_ q6p 0
      obtain ⟨kb5, rfl⟩ : ∃ z, z = kc5 := ⟨_, rfl⟩
      subst hk5
      have hr5 : cs5 = [vy ((List.getD fv 0 0).toNat : Int)] := hr5
      subst hr5
      have nb5 := UInt8.toNat_lt (List.getD fv 0 0)
      refine xB 1 [(0, 0)] [(0, vs Ap p cp), (2, vy bit), (3, vp b_fv 0), (8, vs Afv fv cfv)] ?_
      refine xV (qIxB 0 1 kb5.g hA5 rfl q6p) ?_
      refine xV (qLdB 0 1 0 1 hw5) ?_
      obtain ⟨q8, hS⟩ := grd_T hS
      have q8p := of_decide_eq_true q8
      obtain ⟨kc7, cs7, hA7, hk7, hr7, hw7⟩ := hfv.open_ q8p 0
      cases hk7
      have hr7 : cs7 = [vy ((List.getD fv 0 0).toNat : Int)] := hr7
      subst hr7
      have nb7 := UInt8.toNat_lt (List.getD fv 0 0)
      refine xB 2 [] [(0, vs Ap p cp), (3, vp b_fv 0), (8, vs Afv fv cfv), (12, vy (lorK .u8 ((List.getD fv 0 0).toNat : Int) bit))] ?_
      refine xV (qIxB 0 1 kb5.g hA7 rfl q8p) ?_
      refine xD (eStB 0 1 0 1 [vy (lorK .u8 ((List.getD fv 0 0).toNat : Int) bit)] hfv rfl hw7 (u8_rep (lorU8 _ _)) q8p) ?_
      rintro _ _ _ - ⟨k9, rfl, rfl, h9⟩
      have hz9 : (fv).length = ((List.set fv 0 (u8 (lorK .u8 ((List.getD fv 0 0).toNat : Int) bit)))).length := by simp
      refine xRe ?_
      refine wpq_then ?_
      refine xSub [(0, vs Ap p cp), (3, vp b_fv 0)] ?_
      refine xRg ?_
      refine xB 3 [(0, 0)] [(0, vs Ap p cp), (3, vp b_fv 0), (14, Value.slice Afv ((fv).length) cfv), (16, vi (((p).length : Nat) : Int))] ?_
      refine wpq_re 14 (v := Value.slice Afv ((fv).length) cfv) (vs Afv (List.set fv 0 (u8 (lorK .u8 ((List.getD fv 0 0).toNat : Int) bit))) cfv) (by kernel_rfl) (congrArg (fun z => Value.slice Afv z cfv) hz9) ?_
      have h9 := Buf.re h9 hz9 (rfl : (List.set fv 0 (u8 (lorK .u8 ((List.getD fv 0 0).toNat : Int) bit))) = _)
      refine xOwn [some ⟨b_fv, 22, [Value.slice Afv ((fv).length) cfv]⟩, k9] ?_
      refine wpq_own [some ⟨b_fv, 22, [vs Afv (List.set fv 0 (u8 (lorK .u8 ((List.getD fv 0 0).toNat : Int) bit))) cfv]⟩, k9] (by rw [hz9]) ?_
      refine xSel [some 1, some 0] ?_
      obtain ⟨y10, hy10, hS⟩ := bindO_T hS
      refine xE (eC 1 (fun g' lr eb ln => c53 g' ((List.set fv 0 (u8 (lorK .u8 ((List.getD fv 0 0).toNat : Int) bit))) : List UInt8) Afv cfv k9 ((((p).length : Nat) : Int) : Int) (2 : Int) (by rw [eb]; exact h9) hy10)) ?_
      rintro _ g11 _ e12 ⟨_, rfl, A10_0, c10_0, k10_0, rfl, rfl, h10_0⟩
      have nh10_0 := h10_0.len
      refine xB 1 [] [(3, vp b_fv 0), (17, vs A10_0 y10 c10_0), (18, vs Ap p cp)] ?_
      have fp := fp.mono e12.r
      obtain ⟨nw13, hp13, hs13⟩ := fp.srcR
      obtain ⟨q14, hS⟩ := grd_T hS
      have q14p := of_decide_eq_true q14
      refine xE (eApp (T := tyU8) (p := g11.b) (et := 5) (bytes := 1) (xs := (y10 : List UInt8)) (ys := (p : List UInt8)) 0 h10_0 rfl (fun w hs => hs13 w _ hs) (flatU8.reps hp13) (by first | omega | (simp only [List.length_cons, List.length_nil] at *; omega)) (by first | omega | (simp only [List.length_cons, List.length_nil] at *; omega))) ?_
      rintro _ _ _ - ⟨A13, c13, k13, rfl, rfl, rfl, h13⟩
      have nh13 := h13.len
      have hz13 : ((y10 ++ p) : List UInt8).length = (y10).length + (p).length := List.length_append
      refine xBo 1 [(6, 1)] [k13, some ⟨b_fv, 22, [vs A13 (y10 ++ p) c13]⟩] [] ?_
      refine xRe ?_
      refine xSel [some 1, some 0] ?_
      refine xSub [] ?_
      have eS := (Option.some.inj hS).symm
      exact hN1 _ eS _ _ _ e12 ⟨A13, c13, k13, by kernel_rfl, by kernel_rfl, h13⟩
    · have hS := cond_F h4 hS
      refine xSk ?_
      refine xSub [] ?_
      have eS := (Option.some.inj hS).symm
      exact hN1 _ eS _ _ _ (Gh.le.refl _) ⟨Afv, cfv, kfv, by kernel_rfl, by kernel_rfl, hfv⟩

def o15 (one : List UInt8) (isOne : Bool) (two : List UInt8) (isTwo : Bool) : Option ((List UInt8) × Int) :=
  (cond (((isOne && decide ((((one).length : Nat) : Int) > 400)) || (isTwo && decide ((((two).length : Nat) : Int) > 400)))) (some ((([] : List UInt8), (3 : Int)))) (bindO (τ := (List UInt8)) (o52 (one : List UInt8) (isOne) (1 : Int) (([(u8 0)] : List UInt8) : List UInt8)) fun y7 => (bindO (τ := (List UInt8)) (o52 (two : List UInt8) (isTwo) (2 : Int) (y7 : List UInt8)) fun y10 => (some (((y10 : List UInt8), (0 : Int)))))))
set_option maxRecDepth 100000 in
theorem c15 (g : Gh) (one : List UInt8) (Aone : Option Addr) (cone : Nat) (isOne : Bool) (two : List UInt8) (Atwo : Option Addr) (ctwo : Nat) (isTwo : Bool) (fone : Arr g.r tyU8 Aone cone one) (ftwo : Arr g.r tyU8 Atwo ctwo two) {r : (List UInt8) × Int} (hS : o15 one isOne two isTwo = some r) :
    Ctr Try.prog 15 [vs Aone one cone, vb isOne, vs Atwo two ctwo, vb isTwo] g [] (fun v ψ o => ∃ (Ar_0 : Option Addr) (cr_0 : Nat) (kr_0 : Option Bk), v = Value.tuple #[vs Ar_0 r.1 cr_0, vi r.2] ∧ o = [kr_0] ∧ Buf ψ tyU8 5 (.slice Ar_0 (r.1).length cr_0) kr_0 r.1) := by
  unfold o15 at hS
  refine xFn Try.f15 (Try.f15.body.getD .skip) 37 ?_
  have nfone := fone.len
  have nftwo := ftwo.len
  refine xSq ?_
  refine xRg ?_
  refine xB 2 [] [(0, vs Aone one cone), (1, vb isOne), (2, vs Atwo two ctwo), (3, vb isTwo)] ?_
  refine xRe ?_
  refine wpq_then ?_
  refine xSq ?_
  refine xSq ?_
  refine xRg ?_
  refine xB 2 [] [(0, vs Aone one cone), (1, vb isOne), (2, vs Atwo two ctwo), (3, vb isTwo), (13, vb isOne)] ?_
  refine wpr_grp 6 [(0, vs Aone one cone), (1, vb isOne), (2, vs Atwo two ctwo), (3, vb isTwo), (17, vb (isOne && decide ((((one).length : Nat) : Int) > 400)))] (fun hk1 => ?_) ?_
  · refine wpq_split 13 (b := isOne) (by kernel_rfl) (fun q1 => ?_) (fun q1 => ?_)
    · refine xB 4 [] [(0, vs Aone one cone), (1, vb isOne), (2, vs Atwo two ctwo), (3, vb isTwo), (17, vb (decide ((((one).length : Nat) : Int) > 400)))] ?_
      refine wpq_re 17 (v := vb (decide ((((one).length : Nat) : Int) > 400))) (Value.bool ((isOne && decide ((((one).length : Nat) : Int) > 400)))) (by kernel_rfl) (re_and1 q1) ?_
      exact wpq_sub _ (by kernel_rfl) hk1
    · refine xB 4 [] [(0, vs Aone one cone), (1, vb isOne), (2, vs Atwo two ctwo), (3, vb isTwo), (17, vb false)] ?_
      refine wpq_re 17 (v := vb false) (Value.bool ((isOne && decide ((((one).length : Nat) : Int) > 400)))) (by kernel_rfl) (re_and0 q1) ?_
      exact wpq_sub _ (by kernel_rfl) hk1
  · refine xB 1 [] [(0, vs Aone one cone), (1, vb isOne), (2, vs Atwo two ctwo), (3, vb isTwo), (18, vb (isOne && decide ((((one).length : Nat) : Int) > 400)))] ?_
    refine wpr_grp 14 [(0, vs Aone one cone), (1, vb isOne), (2, vs Atwo two ctwo), (3, vb isTwo), (25, vb ((isOne && decide ((((one).length : Nat) : Int) > 400)) || (isTwo && decide ((((two).length : Nat) : Int) > 400))))] (fun hk6 => ?_) ?_
    · refine wpq_split 18 (b := (isOne && decide ((((one).length : Nat) : Int) > 400))) (by kernel_rfl) (fun q2 => ?_) (fun q2 => ?_)
      · have q2l := (and_true_ q2).1
        have q2r := (and_true_ q2).2
        have q2rp := of_decide_eq_true q2r
        refine xB 7 [] [(0, vs Aone one cone), (1, vb isOne), (2, vs Atwo two ctwo), (3, vb isTwo), (25, vb true)] ?_
        refine wpq_re 25 (v := vb true) (Value.bool (((isOne && decide ((((one).length : Nat) : Int) > 400)) || (isTwo && decide ((((two).length : Nat) : Int) > 400))))) (by kernel_rfl) (re_or1 q2) ?_
        exact wpq_sub _ (by kernel_rfl) hk6
      · refine xB 2 [] [(0, vs Aone one cone), (1, vb isOne), (2, vs Atwo two ctwo), (3, vb isTwo), (18, vb false), (20, vb isTwo)] ?_
        refine wpr_grp 13 [(0, vs Aone one cone), (1, vb isOne), (2, vs Atwo two ctwo), (3, vb isTwo), (18, vb false), (24, vb (isTwo && decide ((((two).length : Nat) : Int) > 400)))] (fun hk8 => ?_) ?_
        · refine wpq_split 20 (b := isTwo) (by kernel_rfl) (fun q3 => ?_) (fun q3 => ?_)
          · refine xB 4 [] [(0, vs Aone one cone), (1, vb isOne), (2, vs Atwo two ctwo), (3, vb isTwo), (18, vb false), (24, vb (decide ((((two).length : Nat) : Int) > 400)))] ?_
            refine wpq_re 24 (v := vb (decide ((((two).length : Nat) : Int) > 400))) (Value.bool ((isTwo && decide ((((two).length : Nat) : Int) > 400)))) (by kernel_rfl) (re_and1 q3) ?_
            exact wpq_sub _ (by kernel_rfl) hk8
          · refine xB 4 [] [(0, vs Aone one cone), (1, vb isOne), (2, vs Atwo two ctwo), (3, vb isTwo), (18, vb false), (24, vb false)] ?_
            refine wpq_re 24 (v := vb false) (Value.bool ((isTwo && decide ((((two).length : Nat) : Int) > 400)))) (by kernel_rfl) (re_and0 q3) ?_
            exact wpq_sub _ (by kernel_rfl) hk8
        · refine xB 1 [] [(0, vs Aone one cone), (1, vb isOne), (2, vs Atwo two ctwo), (3, vb isTwo), (25, vb (isTwo && decide ((((two).length : Nat) : Int) > 400)))] ?_
          refine wpq_re 25 (v := vb (isTwo && decide ((((two).length : Nat) : Int) > 400))) (Value.bool (((isOne && decide ((((one).length : Nat) : Int) > 400)) || (isTwo && decide ((((two).length : Nat) : Int) > 400))))) (by kernel_rfl) (re_or0 q2) ?_
          exact wpq_sub _ (by kernel_rfl) hk6
    · refine xRe ?_
      refine wpq_then ?_
      refine xCd (((isOne && decide ((((one).length : Nat) : Int) > 400)) || (isTwo && decide ((((two).length : Nat) : Int) > 400)))) (fun h4 => ?_) (fun h4 => ?_)
      · have hS := cond_T h4 hS
        refine xSq ?_
        refine xRg ?_
        refine xB 2 [] [(8, Value.slice none 0 0), (9, vi 3)] ?_
        refine xRe ?_
        refine wpq_then ?_
        have eS := (Option.some.inj hS).symm
        subst eS
        exact xRet [none] [8, 9] (Gh.le.refl _) ⟨none, 0, none, by kernel_rfl, by kernel_rfl, Buf.nil⟩ (fun _ _ h => h)
      · have hS := cond_F h4 hS
        have h4l := (or_false_ h4).1
        have h4r := (or_false_ h4).2
        refine xSk ?_
        refine wpq_then ?_
        refine xSub [(0, vs Aone one cone), (1, vb isOne), (2, vs Atwo two ctwo), (3, vb isTwo)] ?_
        refine xSq ?_
        refine xRg ?_
        refine xE (eBs (T := tyU8) (p := g.b) (et := 5) (xs := ([(u8 0)] : List UInt8)) (reps_cons (c := [vy 0]) (u8_rep (by omega)) reps_nil) (by simp)) ?_
        rintro _ _ _ - ⟨A5, c5, k5, rfl, rfl, rfl, h5⟩
        refine xE eB ?_
        rintro _ _ _ - ⟨b6, rfl, rfl, rfl⟩
        refine xBo 1 [(2, 0)] [some ⟨b6, 22, [vs A5 ([(u8 0)] : List UInt8) c5]⟩, k5] [(0, vs Aone one cone), (1, vb isOne), (2, vs Atwo two ctwo), (3, vb isTwo), (10, vp b6 0)] ?_
        refine xRe ?_
        refine wpq_then ?_
        refine xSq ?_
        refine xRg ?_
        refine xB 2 [] [(0, vs Aone one cone), (1, vb isOne), (2, vs Atwo two ctwo), (3, vb isTwo), (10, vp b6 0), (11, Value.func (.func 52) #[] #[vp b6 0])] ?_
        refine xRe ?_
        refine wpq_then ?_
        refine xSq ?_
        refine xRg ?_
        refine xB 3 [] [(2, vs Atwo two ctwo), (3, vb isTwo), (10, vp b6 0), (11, Value.func (.func 52) #[] #[vp b6 0]), (28, Value.func (.func 52) #[] #[vp b6 0]), (29, vs Aone one cone), (30, vb isOne)] ?_
        obtain ⟨y7, hy7, hS⟩ := bindO_T hS
        refine xE (eC 2 (fun g' lr eb ln => c52 g' (one : List UInt8) Aone cone (isOne) (1 : Int) b6 (([(u8 0)] : List UInt8) : List UInt8) A5 c5 k5 (fone.mono lr) (by rw [eb]; exact h5) hy7)) ?_
        rintro _ g8 _ e9 ⟨_, rfl, A7_fv, c7_fv, k7_fv, rfl, rfl, h7_fv⟩
        have nh7_fv := h7_fv.len
        refine xRe ?_
        refine wpq_then ?_
        refine xSub [(2, vs Atwo two ctwo), (3, vb isTwo), (10, vp b6 0), (11, Value.func (.func 52) #[] #[vp b6 0])] ?_
        refine xSq ?_
        refine xRg ?_
        refine xB 3 [] [(10, vp b6 0), (32, Value.func (.func 52) #[] #[vp b6 0]), (33, vs Atwo two ctwo), (34, vb isTwo)] ?_
        have ftwo := ftwo.mono e9.r
        obtain ⟨y10, hy10, hS⟩ := bindO_T hS
        refine xE (eC 2 (fun g' lr eb ln => c52 g' (two : List UInt8) Atwo ctwo (isTwo) (2 : Int) b6 (y7 : List UInt8) A7_fv c7_fv k7_fv (ftwo.mono lr) (by rw [eb]; exact h7_fv) hy10)) ?_
        rintro _ g11 _ e12 ⟨_, rfl, A10_fv, c10_fv, k10_fv, rfl, rfl, h10_fv⟩
        have nh10_fv := h10_fv.len
        refine xRe ?_
        refine wpq_then ?_
        refine xSub [(10, vp b6 0)] ?_
        refine xSq ?_
        refine xRg ?_
        refine xB 3 [(0, 0)] [(8, vs A10_fv y10 c10_fv), (9, vi 0)] ?_
        refine xRe ?_
        refine wpq_then ?_
        have eS := (Option.some.inj hS).symm
        subst eS
        exact xRet [some 1] [8, 9] (e9.trans e12) ⟨A10_fv, c10_fv, k10_fv, by kernel_rfl, by kernel_rfl, h10_fv⟩ (fun _ _ h => h)

def o55_L0 (p : List UInt8) (size : Int) (s6 : Int × Nat) : Option (Ctl (Int × Nat) (Int)) :=
  (cond (decide (((s6.2 : Nat) : Int) < size)) (grd (decide (s6.2 < (p).length)) (grd (decide (0 ≤ (IntKind.i64.wrap (8 * ((s6.2 : Nat) : Int))))) (grd (decide (((s6.2 : Nat) : Int) + 1 ≤ 9223372036854775807)) (some (Ctl.go ((lorK .u64 s6.1 (shlK .u64 ((List.getD p s6.2 0).toNat : Int) (IntKind.i64.wrap (8 * ((s6.2 : Nat) : Int))))), (s6.2 + 1))))))) (some (Ctl.done (s6.1))))
def o55 (p : List UInt8) (size : Int) : Option (Int) :=
  (bindO (τ := Int) (loopO (σ := Int × Nat) (ρ := Int) fuelN (o55_L0 p size) (0, 0)) fun t1 => (some (((IntKind.i64.wrap t1) : Int))))
set_option maxRecDepth 100000 in
theorem c55 (g : Gh) (p : List UInt8) (Ap : Option Addr) (cp : Nat) (size : Int) (fp : Arr g.r tyU8 Ap cp p) {r : Int} (hS : o55 p size = some r) :
    Ctr Try.prog 55 [vs Ap p cp, vi size] g [] (fun v ψ o => v = vi r ∧ o = []) := by
  unfold o55 at hS
  refine xFn Try.f55 (Try.f55.body.getD .skip) 24 ?_
  have nfp := fp.len
  refine xSq ?_
  refine xRg ?_
  refine xB 1 [] [(0, vs Ap p cp), (1, vi size)] ?_
  refine xRe ?_
  refine wpq_then ?_
  refine xSq ?_
  refine xRg ?_
  refine xB 1 [] [(0, vs Ap p cp), (1, vi size), (5, Value.int .u64 0)] ?_
  refine xRe ?_
  refine wpq_then ?_
  refine xSq ?_
  refine xSq ?_
  refine xRg ?_
  refine xB 2 [] [(0, vs Ap p cp), (5, Value.int .u64 0), (7, vi size), (8, vi 0)] ?_
  refine xRe ?_
  refine wpq_then ?_
  refine xBindO hS (fun g own sl t1 => own = [] ∧ sl = [(5, Value.int .u64 t1)]) ?_ ?_
  · rintro g2 _ _ t1 e3 ⟨rfl, rfl⟩ hS
    refine wpq_then ?_
    refine xSq ?_
    refine xRg ?_
    refine xB 3 [] [(4, vi (IntKind.i64.wrap t1))] ?_
    refine xRe ?_
    refine wpq_then ?_
    have eS := (Option.some.inj hS).symm
    subst eS
    exact xRet [] [4] e3 ⟨by kernel_rfl, by kernel_rfl⟩ (fun _ _ h => h)
  · intro u1 hS hN1
    refine xBl 0 ?_
    refine xSub [(0, vs Ap p cp), (5, Value.int .u64 0), (7, vi size), (8, vi 0)] ?_
    refine xLo hS (fun g own sl s6 => own = [] ∧ sl = [(0, vs Ap p cp), (5, Value.int .u64 s6.1), (7, vi size), (8, vi ((s6.2 : Nat) : Int))]) ⟨by kernel_rfl, by kernel_rfl⟩ ?_
    rintro g7 _ _ s6 u6 e8 ⟨rfl, rfl⟩ hS Qr6 hN6 hD6
    unfold o55_L0 at hS
    refine xSq ?_
    refine xRg ?_
    refine xB 1 [] [(0, vs Ap p cp), (5, Value.int .u64 s6.1), (7, vi size), (8, vi ((s6.2 : Nat) : Int)), (9, vb (decide (((s6.2 : Nat) : Int) < size)))] ?_
    refine xRe ?_
    refine wpq_then ?_
    refine xSq ?_
    refine xCd (decide (((s6.2 : Nat) : Int) < size)) (fun h9 => ?_) (fun h9 => ?_)
    · have hS := cond_T h9 hS
      have h9p := of_decide_eq_true h9
      refine xSk ?_
      refine wpq_then ?_
      refine xSub [(0, vs Ap p cp), (5, Value.int .u64 s6.1), (7, vi size), (8, vi ((s6.2 : Nat) : Int))] ?_
      refine xSq ?_
      refine xBl 1 ?_
      refine xSq ?_
      refine xRg ?_
      refine xB 2 [] [(0, vs Ap p cp), (5, Value.int .u64 s6.1), (6, vi ((s6.2 : Nat) : Int)), (7, vi size), (8, vi ((s6.2 : Nat) : Int))] ?_
      refine xRe ?_
      refine wpq_then ?_
      refine xRg ?_
      have fp := fp.mono e8.r
      obtain ⟨q11, hS⟩ := grd_T hS
      have q11p := of_decide_eq_true q11
      obtain ⟨ad10, cs10, hA10, hr10, hc10⟩ := fp.at_ (get_getD (d := 0) q11p)
      have hr10 : cs10 = [vy ((List.getD p s6.2 0).toNat : Int)] := hr10
      subst hr10
      have nb10 := UInt8.toNat_lt (List.getD p s6.2 0)
      refine xB 3 [] [(0, vs Ap p cp), (5, Value.int .u64 s6.1), (6, vi ((s6.2 : Nat) : Int)), (7, vi size), (8, vi ((s6.2 : Nat) : Int)), (11, Value.int .u64 s6.1), (12, vs Ap p cp), (13, vi ((s6.2 : Nat) : Int))] ?_
      refine xV (qIx s6.2 1 hA10 rfl q11p) ?_
      refine xV (qLdP (Addr.add ad10 (s6.2 * 1)) 0 hc10) ?_
      refine xV (qConv .u8 .u64 (((List.getD p s6.2 0).toNat : Int)) (((List.getD p s6.2 0).toNat : Int)) (wr_u64 (by omega))) ?_
      obtain ⟨q12, hS⟩ := grd_T hS
      have q12p := of_decide_eq_true q12
      refine xB 2 [] [(0, vs Ap p cp), (5, Value.int .u64 s6.1), (7, vi size), (8, vi ((s6.2 : Nat) : Int)), (11, Value.int .u64 s6.1), (16, Value.int .u64 ((List.getD p s6.2 0).toNat : Int)), (18, vi (IntKind.i64.wrap (8 * ((s6.2 : Nat) : Int))))] ?_
      refine xV (qShl .u64 .i64 (((List.getD p s6.2 0).toNat : Int)) ((IntKind.i64.wrap (8 * ((s6.2 : Nat) : Int)))) (by omega)) ?_
      refine xB 2 [] [(0, vs Ap p cp), (5, Value.int .u64 (lorK .u64 s6.1 (shlK .u64 ((List.getD p s6.2 0).toNat : Int) (IntKind.i64.wrap (8 * ((s6.2 : Nat) : Int)))))), (7, vi size), (8, vi ((s6.2 : Nat) : Int))] ?_
      refine xRe ?_
      refine wpq_blockN ?_
      refine wpq_then ?_
      refine xRg ?_
      obtain ⟨q13, hS⟩ := grd_T hS
      have q13p := of_decide_eq_true q13
      refine xV (qAdd .i64 (((s6.2 : Nat) : Int)) (1) (wr64 (by omega))) ?_
      refine xB 1 [] [(0, vs Ap p cp), (5, Value.int .u64 (lorK .u64 s6.1 (shlK .u64 ((List.getD p s6.2 0).toNat : Int) (IntKind.i64.wrap (8 * ((s6.2 : Nat) : Int)))))), (7, vi size), (8, vi (((s6.2 : Nat) : Int) + 1))] ?_
      refine xRe ?_
      refine wpq_thenN ?_
      refine xSub [(0, vs Ap p cp), (5, Value.int .u64 (lorK .u64 s6.1 (shlK .u64 ((List.getD p s6.2 0).toNat : Int) (IntKind.i64.wrap (8 * ((s6.2 : Nat) : Int)))))), (7, vi size), (8, vi (((s6.2 : Nat) : Int) + 1))] ?_
      have eS := (Option.some.inj hS).symm
      exact hN6 _ eS _ _ _ (Gh.le.refl _) ⟨by kernel_rfl, by kernel_rfl⟩
    · have hS := cond_F h9 hS
      have h9p := of_decide_eq_false h9
      refine xEx 0 ?_
      refine wpq_thenX ?_
      refine wpq_thenX ?_
      refine wpq_blockE ?_
      refine xSub [(5, Value.int .u64 s6.1)] ?_
      have eS := (Option.some.inj hS).symm
      have eS := (hD6 _ eS).symm
      exact hN1 _ eS _ _ _ e8 ⟨by kernel_rfl, by kernel_rfl⟩

def o56 (s : List UInt8) : (List UInt8) :=
  ((s : List UInt8))
set_option maxRecDepth 100000 in
theorem c56 (g : Gh) (s : List UInt8) (As : Option Addr) (cs : Nat) (fs : Arr g.r tyU8 As cs s) {r : (List UInt8)} (hS : o56 s = r) :
    Ctr Try.prog 56 [vs As s cs] g [] (fun v ψ o => ∃ (Ar_0 : Option Addr) (cr_0 : Nat) (kr_0 : Option Bk), v = vs Ar_0 r cr_0 ∧ o = [kr_0] ∧ Buf ψ tyU8 5 (.slice Ar_0 (r).length cr_0) kr_0 r) := by
  unfold o56 at hS
  refine xFn Try.f56 (Try.f56.body.getD .skip) 8 ?_
  have nfs := fs.len
  refine xSq ?_
  refine xRg ?_
  refine xB 1 [] [(0, vs As s cs)] ?_
  refine xRe ?_
  refine wpq_then ?_
  refine xSq ?_
  refine xSq ?_
  refine xRg ?_
  refine xB 1 [] [(0, vs As s cs), (3, vs As s cs)] ?_
  refine xV (qNil As) ?_
  refine xRe ?_
  refine wpq_then ?_
  refine xSub [(0, vs As s cs), (4, vb (Option.isNone As))] ?_
  refine xCd ((Option.isNone As)) (fun h1 => ?_) (fun h1 => ?_)
  · have hsh1 := fs.nil_of h1
    subst hsh1
    refine xSq ?_
    refine xRg ?_
    refine xB 1 [] [(2, Value.slice none 0 0)] ?_
    refine xRe ?_
    refine wpq_then ?_
    have eS : r = ([] : List UInt8) := by first | exact hS.symm | (simp [grd] at hS; exact hS.symm)
    subst eS
    exact xRet [none] [2] (Gh.le.refl _) ⟨none, 0, none, by kernel_rfl, by kernel_rfl, Buf.nil⟩ (fun _ _ h => h)
  · refine xSk ?_
    refine wpq_then ?_
    refine xSub [(0, vs As s cs)] ?_
    refine xSq ?_
    refine xRg ?_
    refine xE (eBs (T := tyU8) (p := g.b) (et := 5) (xs := ([] : List UInt8)) reps_nil (by simp)) ?_
    rintro _ _ _ - ⟨A2, c2, k2, rfl, rfl, rfl, h2⟩
    refine xB 1 [] [(5, vs A2 ([] : List UInt8) c2), (6, vs As s cs)] ?_
    obtain ⟨nw3, hp3, hs3⟩ := fs.srcR
    refine xE (eApp (T := tyU8) (p := g.b) (et := 5) (bytes := 1) (xs := ([] : List UInt8)) (ys := (s : List UInt8)) 0 h2 rfl (fun w hs => hs3 w _ hs) (flatU8.reps hp3) (by first | omega | (simp only [List.length_cons, List.length_nil] at *; omega)) (by first | omega | (simp only [List.length_cons, List.length_nil] at *; omega))) ?_
    rintro _ _ _ - ⟨A3, c3, k3, rfl, rfl, rfl, h3⟩
    have h3 : Buf g.b tyU8 5 (.slice A3 ((s : List UInt8)).length c3) k3 (s : List UInt8) := h3
    have nh3 := h3.len
    refine xB 1 [] [(2, vs A3 s c3)] ?_
    refine xRe ?_
    refine wpq_then ?_
    have eS := hS.symm
    subst eS
    exact xRet [some 0] [2] (Gh.le.refl _) ⟨A3, c3, k3, by kernel_rfl, by kernel_rfl, h3⟩ (fun _ _ h => h)

def o17 (in_ : List UInt8) : Option ((List UInt8) × Bool × (List UInt8) × Bool × Int) :=
  (cond ((((((in_).length : Nat) : Int) == 0) || decide (((List.getD in_ 0 0).toNat : Int) > 3))) (some ((([] : List UInt8), (false), ([] : List UInt8), (false), (4 : Int)))) (joinO (τ := (List UInt8) × (List UInt8) × (List UInt8)) (ρ := (List UInt8) × Bool × (List UInt8) × Bool × Int) (joinO (τ := (List UInt8) × (List UInt8)) (ρ := Ctl ((List UInt8) × (List UInt8) × (List UInt8)) ((List UInt8) × Bool × (List UInt8) × Bool × Int)) (cond (((landK .u8 (shrK .u8 ((List.getD in_ 0 0).toNat : Int) 0) 1) == 0)) (some (Ctl.go (((List.drop 1 in_) : List UInt8), ([] : List UInt8)))) (cond (decide (((((List.drop 1 in_)).length : Nat) : Int) < 2)) (some (Ctl.done (Ctl.done ((([] : List UInt8), (false), ([] : List UInt8), (false), (4 : Int)))))) (bindO (τ := Int) (o55 ((List.drop 1 in_) : List UInt8) (2 : Int)) fun y43 => (cond ((decide (y43 > 400) || decide (y43 > (((((List.drop 1 in_)).length : Nat) : Int) - 2)))) (some (Ctl.done (Ctl.done ((([] : List UInt8), (false), ([] : List UInt8), (false), (4 : Int)))))) (grd (decide (-9223372036854775808 ≤ 2 + y43 ∧ 2 + y43 ≤ 9223372036854775807)) (grd (decide (2 ≤ (2 + y43) ∧ (2 + y43) ≤ ((((List.drop 1 in_)).length : Nat) : Int))) (grd (decide (-9223372036854775808 ≤ 2 + y43 ∧ 2 + y43 ≤ 9223372036854775807)) (grd (decide (0 ≤ (2 + y43) ∧ (2 + y43) ≤ ((((List.drop 1 in_)).length : Nat) : Int))) (letJ (τ := (List UInt8)) (o56 ((List.take (((2 + y43)).toNat - 2) (List.drop 2 (List.drop 1 in_))) : List UInt8)) fun y54 => (some (Ctl.go (((List.drop ((2 + y43)).toNat (List.drop 1 in_)) : List UInt8), (y54 : List UInt8))))))))))))) fun t15 => (joinO (τ := (List UInt8) × (List UInt8)) (ρ := Ctl ((List UInt8) × (List UInt8) × (List UInt8)) ((List UInt8) × Bool × (List UInt8) × Bool × Int)) (cond (((landK .u8 (shrK .u8 ((List.getD in_ 0 0).toNat : Int) 1) 1) == 0)) (some (Ctl.go ((t15.1 : List UInt8), ([] : List UInt8)))) (cond (decide ((((t15.1).length : Nat) : Int) < 2)) (some (Ctl.done (Ctl.done ((([] : List UInt8), (false), ([] : List UInt8), (false), (4 : Int)))))) (bindO (τ := Int) (o55 (t15.1 : List UInt8) (2 : Int)) fun y25 => (cond ((decide (y25 > 400) || decide (y25 > ((((t15.1).length : Nat) : Int) - 2)))) (some (Ctl.done (Ctl.done ((([] : List UInt8), (false), ([] : List UInt8), (false), (4 : Int)))))) (grd (decide (-9223372036854775808 ≤ 2 + y25 ∧ 2 + y25 ≤ 9223372036854775807)) (grd (decide (2 ≤ (2 + y25) ∧ (2 + y25) ≤ (((t15.1).length : Nat) : Int))) (grd (decide (-9223372036854775808 ≤ 2 + y25 ∧ 2 + y25 ≤ 9223372036854775807)) (grd (decide (0 ≤ (2 + y25) ∧ (2 + y25) ≤ (((t15.1).length : Nat) : Int))) (letJ (τ := (List UInt8)) (o56 ((List.take (((2 + y25)).toNat - 2) (List.drop 2 t15.1)) : List UInt8)) fun y36 => (some (Ctl.go (((List.drop ((2 + y25)).toNat t15.1) : List UInt8), (y36 : List UInt8))))))))))))) fun t18 => (some (Ctl.go ((t18.1 : List UInt8), (t15.2 : List UInt8), (t18.2 : List UInt8)))))) fun t7 => (cond (((((t7.1).length : Nat) : Int) != 0)) (some ((([] : List UInt8), (false), ([] : List UInt8), (false), (4 : Int)))) (some (((t7.2.1 : List UInt8), (((landK .u8 ((List.getD in_ 0 0).toNat : Int) 1) == 1)), (t7.2.2 : List UInt8), (((landK .u8 ((List.getD in_ 0 0).toNat : Int) 2) == 2)), (0 : Int)))))))
set_option maxRecDepth 100000 in
theorem c17 (g : Gh) (in_ : List UInt8) (Ain_ : Option Addr) (cin_ : Nat) (fin_ : Arr g.r tyU8 Ain_ cin_ in_) {r : (List UInt8) × Bool × (List UInt8) × Bool × Int} (hS : o17 in_ = some r) :
    Ctr Try.prog 17 [vs Ain_ in_ cin_] g [] (fun v ψ o => ∃ (Ar_0 : Option Addr) (cr_0 : Nat) (kr_0 : Option Bk) (Ar_2 : Option Addr) (cr_2 : Nat) (kr_2 : Option Bk), v = Value.tuple #[vs Ar_0 r.1 cr_0, vb r.2.1, vs Ar_2 r.2.2.1 cr_2, vb r.2.2.2.1, vi r.2.2.2.2] ∧ o = [kr_0, kr_2] ∧ Buf ψ tyU8 5 (.slice Ar_0 (r.1).length cr_0) kr_0 r.1 ∧ Buf ψ tyU8 5 (.slice Ar_2 (r.2.2.1).length cr_2) kr_2 r.2.2.1) := by
  unfold o17 at hS
  refine xFn Try.f17 (Try.f17.body.getD .skip) 75 ?_
  have nfin_ := fin_.len
  refine xSq ?_
  refine xRg ?_
  refine xB 5 [] [(0, vs Ain_ in_ cin_)] ?_
  refine xRe ?_
  refine wpq_then ?_
  refine xSq ?_
  refine xSq ?_
  refine xRg ?_
  refine xB 4 [] [(0, vs Ain_ in_ cin_), (14, vb ((((in_).length : Nat) : Int) == 0))] ?_
  refine wpr_grp 9 [(0, vs Ain_ in_ cin_), (19, vb (((((in_).length : Nat) : Int) == 0) || decide (((List.getD in_ 0 0).toNat : Int) > 3)))] (fun hk3 => ?_) ?_
  · refine wpq_split 14 (b := ((((in_).length : Nat) : Int) == 0)) (by kernel_rfl) (fun q1 => ?_) (fun q1 => ?_)
    · have q1p : (((in_).length : Nat) : Int) = 0 := eq_of_beq q1
      refine xB 5 [] [(0, vs Ain_ in_ cin_), (19, vb true)] ?_
      refine wpq_re 19 (v := vb true) (Value.bool ((((((in_).length : Nat) : Int) == 0) || decide (((List.getD in_ 0 0).toNat : Int) > 3)))) (by kernel_rfl) (re_or1 q1) ?_
      exact wpq_sub _ (by kernel_rfl) hk3
    · have q1p : ¬ ((((in_).length : Nat) : Int) = 0) := ne_of_beq_false_ q1
      have i3 : 0 < (in_).length := by omega
      obtain ⟨ad2, cs2, hA2, hr2, hc2⟩ := fin_.at_ (get_getD (d := 0) i3)
      have hr2 : cs2 = [vy ((List.getD in_ 0 0).toNat : Int)] := hr2
      subst hr2
      have nb2 := UInt8.toNat_lt (List.getD in_ 0 0)
      refine xB 1 [] [(0, vs Ain_ in_ cin_), (14, vb false), (15, vs Ain_ in_ cin_)] ?_
      refine xV (qIx 0 1 hA2 rfl i3) ?_
      refine xV (qLdP (Addr.add ad2 (0 * 1)) 0 hc2) ?_
      refine xB 2 [] [(0, vs Ain_ in_ cin_), (19, vb (decide (((List.getD in_ 0 0).toNat : Int) > 3)))] ?_
      refine wpq_re 19 (v := vb (decide (((List.getD in_ 0 0).toNat : Int) > 3))) (Value.bool ((((((in_).length : Nat) : Int) == 0) || decide (((List.getD in_ 0 0).toNat : Int) > 3)))) (by kernel_rfl) (re_or0 q1) ?_
      exact wpq_sub _ (by kernel_rfl) hk3
  · refine xRe ?_
    refine wpq_then ?_
    refine xCd ((((((in_).length : Nat) : Int) == 0) || decide (((List.getD in_ 0 0).toNat : Int) > 3))) (fun h4 => ?_) (fun h4 => ?_)
    · have hS := cond_T h4 hS
      refine xSq ?_
      refine xRg ?_
      refine xB 5 [] [(2, Value.slice none 0 0), (3, vb false), (4, Value.slice none 0 0), (5, vb false), (6, vi 4)] ?_
      refine xRe ?_
      refine wpq_then ?_
      have eS := (Option.some.inj hS).symm
      subst eS
      exact xRet [none, none] [2, 3, 4, 5, 6] (Gh.le.refl _) ⟨none, 0, none, none, 0, none, by kernel_rfl, by kernel_rfl, Buf.nil, Buf.nil⟩ (fun _ _ h => h)
    · have hS := cond_F h4 hS
      have h4l := (or_false_ h4).1
      have h4r := (or_false_ h4).2
      have h4lp : ¬ ((((in_).length : Nat) : Int) = 0) := ne_of_beq_false_ h4l
      have h4rp := of_decide_eq_false h4r
      refine xSk ?_
      refine wpq_then ?_
      refine xSub [(0, vs Ain_ in_ cin_)] ?_
      refine xSq ?_
      refine xRg ?_
      have ncapf5 := fin_.cap
      have f5 : Arr g.r tyU8 (offA Ain_ cin_ 1 1) (cin_ - 1) (List.drop 1 in_) := fin_.cut_from 1 (by omega)
      have nf5 := f5.len
      have hlf5 : (in_).length - 1 = ((List.drop 1 in_)).length := by simp only [List.length_take, List.length_drop] <;> omega
      have hvf5 : ((((List.drop 1 in_)).length : Nat) : Int) = (((in_).length : Nat) : Int) - 1 := by omega
      refine xB 1 [] [(0, vs Ain_ in_ cin_), (20, vs Ain_ in_ cin_)] ?_
      refine xV (qSl (m := 1) (A := Ain_) (len := (in_).length) (c := cin_) 1 (in_).length (some 1) none ((List.drop 1 in_)).length rfl rfl (by omega) (by omega) hlf5) ?_
      refine xB 1 [] [(0, vs Ain_ in_ cin_), (7, vs (offA Ain_ cin_ 1 1) (List.drop 1 in_) (cin_ - 1))] ?_
      refine xRe ?_
      refine wpq_then ?_
      refine xSq ?_
      refine xRg ?_
      refine xE eB ?_
      rintro _ _ _ - ⟨b6, rfl, rfl, rfl⟩
      refine xRe ?_
      refine wpq_then ?_
      refine xSq ?_
      refine xSq ?_
      refine xRg ?_
      refine xB 1 [] [(0, vs Ain_ in_ cin_), (7, vs (offA Ain_ cin_ 1 1) (List.drop 1 in_) (cin_ - 1)), (8, vp b6 0), (22, vi 0)] ?_
      refine xRe ?_
      refine wpq_then ?_
      refine xJoinO hS (fun g own sl t7 => ∃ (A7_0 : Option Addr) (c7_0 : Nat) (A7_1 : Option Addr) (c7_1 : Nat) (k7_1 : Option Bk) (A7_2 : Option Addr) (c7_2 : Nat) (k7_2 : Option Bk), own = [some ⟨b6, 122, [vs A7_1 t7.2.1 c7_1, vs A7_2 t7.2.2 c7_2]⟩, k7_1, k7_2] ∧ sl = [(0, vs Ain_ in_ cin_), (7, vs A7_0 t7.1 c7_0), (8, vp b6 0)] ∧ Arr g.r tyU8 A7_0 c7_0 t7.1 ∧ Buf g.b tyU8 5 (.slice A7_1 (t7.2.1).length c7_1) k7_1 t7.2.1 ∧ Buf g.b tyU8 5 (.slice A7_2 (t7.2.2).length c7_2) k7_2 t7.2.2) ?_ ?_
      · rintro g8 _ _ t7 e9 ⟨A7_0, c7_0, A7_1, c7_1, k7_1, A7_2, c7_2, k7_2, rfl, rfl, f7_0, h7_1, h7_2⟩ hS
        have nf7_0 := f7_0.len
        have nh7_1 := h7_1.len
        have nh7_2 := h7_2.len
        refine wpq_then ?_
        refine xSq ?_
        refine xSq ?_
        refine xRg ?_
        refine xB 3 [] [(0, vs Ain_ in_ cin_), (8, vp b6 0), (60, vb ((((t7.1).length : Nat) : Int) != 0))] ?_
        refine xRe ?_
        refine wpq_then ?_
        refine xCd (((((t7.1).length : Nat) : Int) != 0)) (fun h10 => ?_) (fun h10 => ?_)
        · have hS := cond_T h10 hS
          have h10p : ¬ ((((t7.1).length : Nat) : Int) = 0) := ne_of_bne_ h10
          refine xSq ?_
          refine xRg ?_
          refine xB 5 [] [(2, Value.slice none 0 0), (3, vb false), (4, Value.slice none 0 0), (5, vb false), (6, vi 4)] ?_
          refine xRe ?_
          refine wpq_then ?_
          have eS := (Option.some.inj hS).symm
          subst eS
          exact xRet [none, none] [2, 3, 4, 5, 6] e9 ⟨none, 0, none, none, 0, none, by kernel_rfl, by kernel_rfl, Buf.nil, Buf.nil⟩ (fun _ _ h => h)
        · have hS := cond_F h10 hS
          have h10p : (((t7.1).length : Nat) : Int) = 0 := eq_of_bne_false_ h10
          refine xSk ?_
          refine wpq_then ?_
          refine xSub [(0, vs Ain_ in_ cin_), (8, vp b6 0)] ?_
          refine xSq ?_
          refine xDr 0 [1, 4, 8, 11] [17, 18] [some ⟨b6, 122, [vs A7_1 t7.2.1 c7_1, vs A7_2 t7.2.2 c7_2]⟩] 19 (fun RG => ?_) (fun _ _ _ _ _ h => h)
          have fin_ := fin_.mono e9.r
          have i12 : 0 < (in_).length := by omega
          obtain ⟨ad11, cs11, hA11, hr11, hc11⟩ := fin_.at_ (get_getD (d := 0) i12)
          have hr11 : cs11 = [vy ((List.getD in_ 0 0).toNat : Int)] := hr11
          subst hr11
          have nb11 := UInt8.toNat_lt (List.getD in_ 0 0)
          refine xT 16 [0, 1, 2] [(1, 0)] [some 0] [(0, vs Ain_ in_ cin_), (8, vp b6 0), (62, vs A7_1 t7.2.1 c7_1), (63, vs Ain_ in_ cin_)] RG (Psi.le.refl _) ?_
          refine xTp 3 RG (fun _ => (qIx 0 1 hA11 rfl i12)) ?_
          refine xTv 4 [some 0] RG (Psi.le.refl _) (qLdP (Addr.add ad11 (0 * 1)) 0 hc11) ?_
          have i14 : 0 < (in_).length := by omega
          obtain ⟨ad13, cs13, hA13, hr13, hc13⟩ := fin_.at_ (get_getD (d := 0) i14)
          have hr13 : cs13 = [vy ((List.getD in_ 0 0).toNat : Int)] := hr13
          subst hr13
          have nb13 := UInt8.toNat_lt (List.getD in_ 0 0)
          refine xT 9 [5, 6, 7, 8, 9] [(8, 0)] [some 0] [(62, vs A7_1 t7.2.1 c7_1), (67, vb ((landK .u8 ((List.getD in_ 0 0).toNat : Int) 1) == 1)), (69, vs A7_2 t7.2.2 c7_2), (70, vs Ain_ in_ cin_)] RG (Psi.le.refl _) ?_
          refine xTp 10 RG (fun _ => (qIx 0 1 hA13 rfl i14)) ?_
          refine xTv 11 [some 0] RG (Psi.le.refl _) (qLdP (Addr.add ad13 (0 * 1)) 0 hc13) ?_
          refine xT 0 [12, 13, 14, 15, 16, 17, 18] [] [some 0] [(2, vs A7_1 t7.2.1 c7_1), (3, vb ((landK .u8 ((List.getD in_ 0 0).toNat : Int) 1) == 1)), (4, vs A7_2 t7.2.2 c7_2), (5, vb ((landK .u8 ((List.getD in_ 0 0).toNat : Int) 2) == 2)), (6, vi 0)] RG (Psi.le.refl _) ?_
          refine xAe (lds := [1, 4, 8, 11]) ?_
          refine wpq_then ?_
          have eS := (Option.some.inj hS).symm
          subst eS
          exact xRet [some 1, some 2] [2, 3, 4, 5, 6] e9 ⟨A7_1, c7_1, k7_1, A7_2, c7_2, k7_2, by kernel_rfl, by kernel_rfl, h7_1, h7_2⟩ (fun _ _ h => h)
      · intro u7 hS hN7 hD7
        refine xBl 0 ?_
        refine xSub [(0, vs Ain_ in_ cin_), (7, vs (offA Ain_ cin_ 1 1) (List.drop 1 in_) (cin_ - 1)), (8, vp b6 0), (22, vi 0)] ?_
        refine xUn 3 ?_
        refine xRd ?_
        refine xSq ?_
        refine xRg ?_
        refine xB 1 [] [(0, vs Ain_ in_ cin_), (7, vs (offA Ain_ cin_ 1 1) (List.drop 1 in_) (cin_ - 1)), (8, vp b6 0), (22, vi 0), (23, vb true)] ?_
        refine xRe ?_
        refine wpq_then ?_
        refine xSq ?_
        refine xCt ?_
        refine xSk ?_
        refine wpq_then ?_
        refine xSub [(0, vs Ain_ in_ cin_), (7, vs (offA Ain_ cin_ 1 1) (List.drop 1 in_) (cin_ - 1)), (8, vp b6 0), (22, vi 0)] ?_
        refine xSq ?_
        refine xJoinO hS (fun g own sl t15 => ∃ (A15_0 : Option Addr) (c15_0 : Nat) (A15_1 : Option Addr) (c15_1 : Nat) (k15_1 : Option Bk), own = [some ⟨b6, 122, [vs A15_1 t15.2 c15_1, Value.slice none 0 0]⟩, k15_1] ∧ sl = [(0, vs Ain_ in_ cin_), (7, vs A15_0 t15.1 c15_0), (8, vp b6 0), (22, vi 0)] ∧ Arr g.r tyU8 A15_0 c15_0 t15.1 ∧ Buf g.b tyU8 5 (.slice A15_1 (t15.2).length c15_1) k15_1 t15.2) ?_ ?_
        · rintro g16 _ _ t15 e17 ⟨A15_0, c15_0, A15_1, c15_1, k15_1, rfl, rfl, f15_0, h15_1⟩ hS
          have nf15_0 := f15_0.len
          have nh15_1 := h15_1.len
          refine wpq_then ?_
          refine xRg ?_
          refine xB 2 [] [(0, vs Ain_ in_ cin_), (7, vs A15_0 t15.1 c15_0), (8, vp b6 0), (22, vi 1)] ?_
          refine xRe ?_
          refine wpq_thenN ?_
          refine xSub [(0, vs Ain_ in_ cin_), (7, vs A15_0 t15.1 c15_0), (8, vp b6 0), (22, vi 1)] ?_
          refine xRd ?_
          refine xSq ?_
          refine xRg ?_
          refine xB 1 [] [(0, vs Ain_ in_ cin_), (7, vs A15_0 t15.1 c15_0), (8, vp b6 0), (22, vi 1), (23, vb true)] ?_
          refine xRe ?_
          refine wpq_then ?_
          refine xSq ?_
          refine xCt ?_
          refine xSk ?_
          refine wpq_then ?_
          refine xSub [(0, vs Ain_ in_ cin_), (7, vs A15_0 t15.1 c15_0), (8, vp b6 0), (22, vi 1)] ?_
          refine xSq ?_
          refine xJoinO hS (fun g own sl t18 => ∃ (A18_0 : Option Addr) (c18_0 : Nat) (A18_1 : Option Addr) (c18_1 : Nat) (k18_1 : Option Bk), own = [some ⟨b6, 122, [vs A15_1 t15.2 c15_1, vs A18_1 t18.2 c18_1]⟩, k15_1, k18_1] ∧ sl = [(0, vs Ain_ in_ cin_), (7, vs A18_0 t18.1 c18_0), (8, vp b6 0), (22, vi 1)] ∧ Arr g.r tyU8 A18_0 c18_0 t18.1 ∧ Buf g.b tyU8 5 (.slice A18_1 (t18.2).length c18_1) k18_1 t18.2) ?_ ?_
          · rintro g19 _ _ t18 e20 ⟨A18_0, c18_0, A18_1, c18_1, k18_1, rfl, rfl, f18_0, h18_1⟩ hS
            have nf18_0 := f18_0.len
            have nh18_1 := h18_1.len
            refine wpq_then ?_
            refine xRg ?_
            refine xB 2 [] [(0, vs Ain_ in_ cin_), (7, vs A18_0 t18.1 c18_0), (8, vp b6 0), (22, vi 2)] ?_
            refine xRe ?_
            refine wpq_thenN ?_
            refine xSub [(0, vs Ain_ in_ cin_), (7, vs A18_0 t18.1 c18_0), (8, vp b6 0), (22, vi 2)] ?_
            refine xRd ?_
            refine xSq ?_
            refine xRg ?_
            refine xB 1 [] [(0, vs Ain_ in_ cin_), (7, vs A18_0 t18.1 c18_0), (8, vp b6 0), (22, vi 2), (23, vb false)] ?_
            refine xRe ?_
            refine wpq_then ?_
            refine xSq ?_
            refine xCf ?_
            refine xEx 0 ?_
            refine wpq_thenX ?_
            refine wpq_thenX ?_
            refine wpq_blockE ?_
            have h15_1 := h15_1.mono e20.b
            refine xSub [(0, vs Ain_ in_ cin_), (7, vs A18_0 t18.1 c18_0), (8, vp b6 0)] ?_
            have eS := (Option.some.inj hS).symm
            exact hN7 _ eS _ _ _ (e17.trans e20) ⟨A18_0, c18_0, A15_1, c15_1, k15_1, A18_1, c18_1, k18_1, by kernel_rfl, by kernel_rfl, f18_0, h15_1, h18_1⟩
          · intro u18 hS hN18 hD18
            refine xBl 1 ?_
            refine xSq ?_
            refine xRg ?_
            refine xB 2 [] [(0, vs Ain_ in_ cin_), (7, vs A15_0 t15.1 c15_0), (8, vp b6 0), (9, vi 1), (22, vi 1)] ?_
            refine xRe ?_
            refine wpq_then ?_
            refine xSq ?_
            refine xSq ?_
            refine xRg ?_
            have fin_ := fin_.mono e17.r
            have i22 : 0 < (in_).length := by omega
            obtain ⟨ad21, cs21, hA21, hr21, hc21⟩ := fin_.at_ (get_getD (d := 0) i22)
            have hr21 : cs21 = [vy ((List.getD in_ 0 0).toNat : Int)] := hr21
            subst hr21
            have nb21 := UInt8.toNat_lt (List.getD in_ 0 0)
            refine xB 1 [] [(0, vs Ain_ in_ cin_), (7, vs A15_0 t15.1 c15_0), (8, vp b6 0), (9, vi 1), (22, vi 1), (25, vs Ain_ in_ cin_)] ?_
            refine xV (qIx 0 1 hA21 rfl i22) ?_
            refine xV (qLdP (Addr.add ad21 (0 * 1)) 0 hc21) ?_
            refine xB 4 [] [(0, vs Ain_ in_ cin_), (7, vs A15_0 t15.1 c15_0), (8, vp b6 0), (9, vi 1), (22, vi 1), (31, vb ((landK .u8 (shrK .u8 ((List.getD in_ 0 0).toNat : Int) 1) 1) == 0))] ?_
            refine xRe ?_
            refine wpq_then ?_
            refine xCd (((landK .u8 (shrK .u8 ((List.getD in_ 0 0).toNat : Int) 1) 1) == 0)) (fun h23 => ?_) (fun h23 => ?_)
            · have hS := cond_T h23 hS
              have h23p : (landK .u8 (shrK .u8 ((List.getD in_ 0 0).toNat : Int) 1) 1) = 0 := eq_of_beq h23
              refine xEx 1 ?_
              refine wpq_thenX ?_
              refine wpq_blockE ?_
              refine xSel [some 0, some 1, none] ?_
              refine xSub [(0, vs Ain_ in_ cin_), (7, vs A15_0 t15.1 c15_0), (8, vp b6 0), (22, vi 1)] ?_
              have eS := (Option.some.inj hS).symm
              exact hN18 _ eS _ _ _ (Gh.le.refl _) ⟨A15_0, c15_0, none, 0, none, by kernel_rfl, by kernel_rfl, f15_0, Buf.nil⟩
            · have hS := cond_F h23 hS
              have h23p : ¬ ((landK .u8 (shrK .u8 ((List.getD in_ 0 0).toNat : Int) 1) 1) = 0) := ne_of_beq_false_ h23
              refine xSk ?_
              refine wpq_then ?_
              refine xSub [(0, vs Ain_ in_ cin_), (7, vs A15_0 t15.1 c15_0), (8, vp b6 0), (9, vi 1), (22, vi 1)] ?_
              refine xSq ?_
              refine xSq ?_
              refine xRg ?_
              refine xB 3 [] [(0, vs Ain_ in_ cin_), (7, vs A15_0 t15.1 c15_0), (8, vp b6 0), (9, vi 1), (22, vi 1), (34, vb (decide ((((t15.1).length : Nat) : Int) < 2)))] ?_
              refine xRe ?_
              refine wpq_then ?_
              refine xCd (decide ((((t15.1).length : Nat) : Int) < 2)) (fun h24 => ?_) (fun h24 => ?_)
              · have hS := cond_T h24 hS
                have h24p := of_decide_eq_true h24
                refine xSq ?_
                refine xRg ?_
                refine xB 5 [] [(2, Value.slice none 0 0), (3, vb false), (4, Value.slice none 0 0), (5, vb false), (6, vi 4)] ?_
                refine xRe ?_
                refine wpq_then ?_
                have eS := (Option.some.inj hS).symm
                have eS := (hD18 _ eS).symm
                have eS := (hD7 _ eS).symm
                subst eS
                exact xRet [none, none] [2, 3, 4, 5, 6] e17 ⟨none, 0, none, none, 0, none, by kernel_rfl, by kernel_rfl, Buf.nil, Buf.nil⟩ (fun _ _ h => h)
              · have hS := cond_F h24 hS
                have h24p := of_decide_eq_false h24
                refine xSk ?_
                refine wpq_then ?_
                refine xSub [(0, vs Ain_ in_ cin_), (7, vs A15_0 t15.1 c15_0), (8, vp b6 0), (9, vi 1), (22, vi 1)] ?_
                refine xSq ?_
                refine xRg ?_
                refine xB 1 [] [(0, vs Ain_ in_ cin_), (7, vs A15_0 t15.1 c15_0), (8, vp b6 0), (9, vi 1), (22, vi 1), (35, vs A15_0 t15.1 c15_0)] ?_
                obtain ⟨y25, hy25, hS⟩ := bindO_T hS
                refine xE (eC 0 (fun g' lr eb ln => c55 g' (t15.1 : List UInt8) A15_0 c15_0 (2 : Int) (f15_0.mono lr) hy25)) ?_
                rintro _ g26 _ e27 ⟨_, rfl, rfl, rfl⟩
                refine xB 1 [] [(0, vs Ain_ in_ cin_), (7, vs A15_0 t15.1 c15_0), (8, vp b6 0), (9, vi 1), (10, vi y25), (22, vi 1)] ?_
                refine xRe ?_
                refine wpq_then ?_
                refine xSq ?_
                refine xSq ?_
                refine xRg ?_
                refine xB 3 [] [(0, vs Ain_ in_ cin_), (7, vs A15_0 t15.1 c15_0), (8, vp b6 0), (9, vi 1), (10, vi y25), (22, vi 1), (39, vb (decide (y25 > 400)))] ?_
                refine wpr_grp 9 [(0, vs Ain_ in_ cin_), (7, vs A15_0 t15.1 c15_0), (8, vp b6 0), (9, vi 1), (10, vi y25), (22, vi 1), (45, vb (decide (y25 > 400) || decide (y25 > ((((t15.1).length : Nat) : Int) - 2))))] (fun hk2 => ?_) ?_
                · refine wpq_split 39 (b := decide (y25 > 400)) (by kernel_rfl) (fun q28 => ?_) (fun q28 => ?_)
                  · have q28p := of_decide_eq_true q28
                    refine xB 6 [] [(0, vs Ain_ in_ cin_), (7, vs A15_0 t15.1 c15_0), (8, vp b6 0), (9, vi 1), (10, vi y25), (22, vi 1), (45, vb true)] ?_
                    refine wpq_re 45 (v := vb true) (Value.bool ((decide (y25 > 400) || decide (y25 > ((((t15.1).length : Nat) : Int) - 2))))) (by kernel_rfl) (re_or1 q28) ?_
                    exact wpq_sub _ (by kernel_rfl) hk2
                  · have q28p := of_decide_eq_false q28
                    refine xB 3 [] [(0, vs Ain_ in_ cin_), (7, vs A15_0 t15.1 c15_0), (8, vp b6 0), (9, vi 1), (10, vi y25), (22, vi 1), (39, vb false), (40, vi y25), (42, vi (((t15.1).length : Nat) : Int))] ?_
                    refine xV (qSub .i64 ((((t15.1).length : Nat) : Int)) (2) (wr64 (by omega))) ?_
                    refine xB 2 [] [(0, vs Ain_ in_ cin_), (7, vs A15_0 t15.1 c15_0), (8, vp b6 0), (9, vi 1), (10, vi y25), (22, vi 1), (45, vb (decide (y25 > ((((t15.1).length : Nat) : Int) - 2))))] ?_
                    refine wpq_re 45 (v := vb (decide (y25 > ((((t15.1).length : Nat) : Int) - 2)))) (Value.bool ((decide (y25 > 400) || decide (y25 > ((((t15.1).length : Nat) : Int) - 2))))) (by kernel_rfl) (re_or0 q28) ?_
                    exact wpq_sub _ (by kernel_rfl) hk2
                · refine xRe ?_
                  refine wpq_then ?_
                  refine xCd ((decide (y25 > 400) || decide (y25 > ((((t15.1).length : Nat) : Int) - 2)))) (fun h29 => ?_) (fun h29 => ?_)
                  · have hS := cond_T h29 hS
                    refine xSq ?_
                    refine xRg ?_
                    refine xB 5 [] [(2, Value.slice none 0 0), (3, vb false), (4, Value.slice none 0 0), (5, vb false), (6, vi 4)] ?_
                    refine xRe ?_
                    refine wpq_then ?_
                    have eS := (Option.some.inj hS).symm
                    have eS := (hD18 _ eS).symm
                    have eS := (hD7 _ eS).symm
                    subst eS
                    exact xRet [none, none] [2, 3, 4, 5, 6] (e17.trans e27) ⟨none, 0, none, none, 0, none, by kernel_rfl, by kernel_rfl, Buf.nil, Buf.nil⟩ (fun _ _ h => h)
                  · have hS := cond_F h29 hS
                    have h29l := (or_false_ h29).1
                    have h29r := (or_false_ h29).2
                    have h29lp := of_decide_eq_false h29l
                    have h29rp := of_decide_eq_false h29r
                    refine xSk ?_
                    refine wpq_then ?_
                    refine xSub [(0, vs Ain_ in_ cin_), (7, vs A15_0 t15.1 c15_0), (8, vp b6 0), (9, vi 1), (10, vi y25), (22, vi 1)] ?_
                    refine xDr 0 [] [11, 0, 1, 2, 3, 4, 6, 7, 8, 9, 10, 12] [] 13 (fun RG => ?_) (fun _ _ _ _ _ h => h)
                    obtain ⟨q30, hS⟩ := grd_T hS
                    have q30p := of_decide_eq_true q30
                    refine xT 10 [0, 1, 2] [] [] [(0, vs Ain_ in_ cin_), (7, vs A15_0 t15.1 c15_0), (8, vp b6 0), (10, vi y25), (22, vi 1), (46, vi 1), (47, vs A15_0 t15.1 c15_0), (48, vi y25)] RG (Psi.le.refl _) ?_
                    refine xTp 3 RG (fun _ => (qAdd .i64 (2) (y25) (wr64 (by omega)))) ?_
                    have f15_0 := f15_0.mono e27.r
                    obtain ⟨q31, hS⟩ := grd_T hS
                    have q31p := of_decide_eq_true q31
                    have ncapf32 := f15_0.cap
                    have f32 : Arr g26.r tyU8 (offA A15_0 c15_0 2 1) (c15_0 - 2) (List.take (((2 + y25)).toNat - 2) (List.drop 2 t15.1)) := f15_0.cut 2 ((2 + y25)).toNat (by omega) (by omega)
                    have nf32 := f32.len
                    have hlf32 : ((2 + y25)).toNat - 2 = ((List.take (((2 + y25)).toNat - 2) (List.drop 2 t15.1))).length := by simp only [List.length_take, List.length_drop] <;> omega
                    have hvf32 : ((((List.take (((2 + y25)).toNat - 2) (List.drop 2 t15.1))).length : Nat) : Int) = (2 + y25) - 2 := by omega
                    refine xTp 4 RG (fun _ => (qSl (m := 1) (A := A15_0) (len := (t15.1).length) (c := c15_0) 2 ((2 + y25)).toNat (some 2) (some (2 + y25)) ((List.take (((2 + y25)).toNat - 2) (List.drop 2 t15.1))).length rfl (show _ = _ by omega) (by omega) (by omega) hlf32)) ?_
                    obtain ⟨q33, hS⟩ := grd_T hS
                    have q33p := of_decide_eq_true q33
                    refine xT 6 [6, 7] [] [] [(0, vs Ain_ in_ cin_), (7, vs A15_0 t15.1 c15_0), (8, vp b6 0), (22, vi 1), (46, vi 1), (50, vs (offA A15_0 c15_0 2 1) (List.take (((2 + y25)).toNat - 2) (List.drop 2 t15.1)) (c15_0 - 2)), (52, vs A15_0 t15.1 c15_0), (53, vi y25)] RG (Psi.le.refl _) ?_
                    refine xTp 8 RG (fun _ => (qAdd .i64 (2) (y25) (wr64 (by omega)))) ?_
                    obtain ⟨q34, hS⟩ := grd_T hS
                    have q34p := of_decide_eq_true q34
                    have ncapf35 := f15_0.cap
                    have f35 : Arr g26.r tyU8 (offA A15_0 c15_0 ((2 + y25)).toNat 1) (c15_0 - ((2 + y25)).toNat) (List.drop ((2 + y25)).toNat t15.1) := f15_0.cut_from ((2 + y25)).toNat (by omega)
                    have nf35 := f35.len
                    have hlf35 : (t15.1).length - ((2 + y25)).toNat = ((List.drop ((2 + y25)).toNat t15.1)).length := by simp only [List.length_take, List.length_drop] <;> omega
                    have hvf35 : ((((List.drop ((2 + y25)).toNat t15.1)).length : Nat) : Int) = (((t15.1).length : Nat) : Int) - (2 + y25) := by omega
                    refine xTp 9 RG (fun _ => (qSl (m := 1) (A := A15_0) (len := (t15.1).length) (c := c15_0) ((2 + y25)).toNat (t15.1).length (some (2 + y25)) none ((List.drop ((2 + y25)).toNat t15.1)).length (show _ = _ by omega) rfl (by omega) (by omega) hlf35)) ?_
                    obtain ⟨y36, hy36, hS⟩ := letJ_T hS
                    refine xO1 (lds := []) 5 ?_
                    refine xIe (lds := []) (Psi.le.refl _) (eC 0 (fun g' lr eb ln => c56 g' ((List.take (((2 + y25)).toNat - 2) (List.drop 2 t15.1)) : List UInt8) (offA A15_0 c15_0 2 1) (c15_0 - 2) (f32.mono lr) hy36)) ?_
                    rintro _ g37 _ e38 ⟨_, rfl, A36_0, c36_0, k36_0, rfl, rfl, h36_0⟩
                    refine kk [] ?_
                    have nh36_0 := h36_0.len
                    refine xT 2 [10] [] [] [(0, vs Ain_ in_ cin_), (7, vs A15_0 t15.1 c15_0), (8, vp b6 0), (22, vi 1), (51, vs A36_0 y36 c36_0), (55, vs (offA A15_0 c15_0 ((2 + y25)).toNat 1) (List.drop ((2 + y25)).toNat t15.1) (c15_0 - ((2 + y25)).toNat)), (56, vp b6 1)] RG e38.r ?_
                    refine xO1 (lds := []) 11 ?_
                    refine xId (lds := []) e38.r (eStL b6 1 1) ?_
                    rintro _ _ _ - ⟨rfl, rfl⟩
                    refine kf ?_
                    refine xT 0 [12] [] [] [(0, vs Ain_ in_ cin_), (7, vs (offA A15_0 c15_0 ((2 + y25)).toNat 1) (List.drop ((2 + y25)).toNat t15.1) (c15_0 - ((2 + y25)).toNat)), (8, vp b6 0), (22, vi 1)] RG e38.r ?_
                    refine xAe (lds := []) ?_
                    refine wpq_blockN ?_
                    have f35 := f35.mono e38.r
                    refine xSel [some 1, some 2, some 0] ?_
                    refine xSub [(0, vs Ain_ in_ cin_), (7, vs (offA A15_0 c15_0 ((2 + y25)).toNat 1) (List.drop ((2 + y25)).toNat t15.1) (c15_0 - ((2 + y25)).toNat)), (8, vp b6 0), (22, vi 1)] ?_
                    have eS := (Option.some.inj hS).symm
                    exact hN18 _ eS _ _ _ (e27.trans e38) ⟨(offA A15_0 c15_0 ((2 + y25)).toNat 1), (c15_0 - ((2 + y25)).toNat), A36_0, c36_0, k36_0, by kernel_rfl, by kernel_rfl, f35, h36_0⟩
        · intro u15 hS hN15 hD15
          refine xBl 1 ?_
          refine xSq ?_
          refine xRg ?_
          refine xB 2 [] [(0, vs Ain_ in_ cin_), (7, vs (offA Ain_ cin_ 1 1) (List.drop 1 in_) (cin_ - 1)), (8, vp b6 0), (9, vi 0), (22, vi 0)] ?_
          refine xRe ?_
          refine wpq_then ?_
          refine xSq ?_
          refine xSq ?_
          refine xRg ?_
          have i40 : 0 < (in_).length := by omega
          obtain ⟨ad39, cs39, hA39, hr39, hc39⟩ := fin_.at_ (get_getD (d := 0) i40)
          have hr39 : cs39 = [vy ((List.getD in_ 0 0).toNat : Int)] := hr39
          subst hr39
          have nb39 := UInt8.toNat_lt (List.getD in_ 0 0)
          refine xB 1 [] [(0, vs Ain_ in_ cin_), (7, vs (offA Ain_ cin_ 1 1) (List.drop 1 in_) (cin_ - 1)), (8, vp b6 0), (9, vi 0), (22, vi 0), (25, vs Ain_ in_ cin_)] ?_
          refine xV (qIx 0 1 hA39 rfl i40) ?_
          refine xV (qLdP (Addr.add ad39 (0 * 1)) 0 hc39) ?_
          refine xB 4 [] [(0, vs Ain_ in_ cin_), (7, vs (offA Ain_ cin_ 1 1) (List.drop 1 in_) (cin_ - 1)), (8, vp b6 0), (9, vi 0), (22, vi 0), (31, vb ((landK .u8 (shrK .u8 ((List.getD in_ 0 0).toNat : Int) 0) 1) == 0))] ?_
          refine xRe ?_
          refine wpq_then ?_
          refine xCd (((landK .u8 (shrK .u8 ((List.getD in_ 0 0).toNat : Int) 0) 1) == 0)) (fun h41 => ?_) (fun h41 => ?_)
          · have hS := cond_T h41 hS
            have h41p : (landK .u8 (shrK .u8 ((List.getD in_ 0 0).toNat : Int) 0) 1) = 0 := eq_of_beq h41
            refine xEx 1 ?_
            refine wpq_thenX ?_
            refine wpq_blockE ?_
            refine xSel [some 0, none] ?_
            refine xSub [(0, vs Ain_ in_ cin_), (7, vs (offA Ain_ cin_ 1 1) (List.drop 1 in_) (cin_ - 1)), (8, vp b6 0), (22, vi 0)] ?_
            have eS := (Option.some.inj hS).symm
            exact hN15 _ eS _ _ _ (Gh.le.refl _) ⟨(offA Ain_ cin_ 1 1), (cin_ - 1), none, 0, none, by kernel_rfl, by kernel_rfl, f5, Buf.nil⟩
          · have hS := cond_F h41 hS
            have h41p : ¬ ((landK .u8 (shrK .u8 ((List.getD in_ 0 0).toNat : Int) 0) 1) = 0) := ne_of_beq_false_ h41
            refine xSk ?_
            refine wpq_then ?_
            refine xSub [(0, vs Ain_ in_ cin_), (7, vs (offA Ain_ cin_ 1 1) (List.drop 1 in_) (cin_ - 1)), (8, vp b6 0), (9, vi 0), (22, vi 0)] ?_
            refine xSq ?_
            refine xSq ?_
            refine xRg ?_
            refine xB 3 [] [(0, vs Ain_ in_ cin_), (7, vs (offA Ain_ cin_ 1 1) (List.drop 1 in_) (cin_ - 1)), (8, vp b6 0), (9, vi 0), (22, vi 0), (34, vb (decide (((((List.drop 1 in_)).length : Nat) : Int) < 2)))] ?_
            refine xRe ?_
            refine wpq_then ?_
            refine xCd (decide (((((List.drop 1 in_)).length : Nat) : Int) < 2)) (fun h42 => ?_) (fun h42 => ?_)
            · have hS := cond_T h42 hS
              have h42p := of_decide_eq_true h42
              refine xSq ?_
              refine xRg ?_
              refine xB 5 [] [(2, Value.slice none 0 0), (3, vb false), (4, Value.slice none 0 0), (5, vb false), (6, vi 4)] ?_
              refine xRe ?_
              refine wpq_then ?_
              have eS := (Option.some.inj hS).symm
              have eS := (hD15 _ eS).symm
              have eS := (hD7 _ eS).symm
              subst eS
              exact xRet [none, none] [2, 3, 4, 5, 6] (Gh.le.refl _) ⟨none, 0, none, none, 0, none, by kernel_rfl, by kernel_rfl, Buf.nil, Buf.nil⟩ (fun _ _ h => h)
            · have hS := cond_F h42 hS
              have h42p := of_decide_eq_false h42
              refine xSk ?_
              refine wpq_then ?_
              refine xSub [(0, vs Ain_ in_ cin_), (7, vs (offA Ain_ cin_ 1 1) (List.drop 1 in_) (cin_ - 1)), (8, vp b6 0), (9, vi 0), (22, vi 0)] ?_
              refine xSq ?_
              refine xRg ?_
              refine xB 1 [] [(0, vs Ain_ in_ cin_), (7, vs (offA Ain_ cin_ 1 1) (List.drop 1 in_) (cin_ - 1)), (8, vp b6 0), (9, vi 0), (22, vi 0), (35, vs (offA Ain_ cin_ 1 1) (List.drop 1 in_) (cin_ - 1))] ?_
              obtain ⟨y43, hy43, hS⟩ := bindO_T hS
              refine xE (eC 0 (fun g' lr eb ln => c55 g' ((List.drop 1 in_) : List UInt8) (offA Ain_ cin_ 1 1) (cin_ - 1) (2 : Int) (f5.mono lr) hy43)) ?_
              rintro _ g44 _ e45 ⟨_, rfl, rfl, rfl⟩
              refine xB 1 [] [(0, vs Ain_ in_ cin_), (7, vs (offA Ain_ cin_ 1 1) (List.drop 1 in_) (cin_ - 1)), (8, vp b6 0), (9, vi 0), (10, vi y43), (22, vi 0)] ?_
              refine xRe ?_
              refine wpq_then ?_
              refine xSq ?_
              refine xSq ?_
              refine xRg ?_
              refine xB 3 [] [(0, vs Ain_ in_ cin_), (7, vs (offA Ain_ cin_ 1 1) (List.drop 1 in_) (cin_ - 1)), (8, vp b6 0), (9, vi 0), (10, vi y43), (22, vi 0), (39, vb (decide (y43 > 400)))] ?_
              refine wpr_grp 9 [(0, vs Ain_ in_ cin_), (7, vs (offA Ain_ cin_ 1 1) (List.drop 1 in_) (cin_ - 1)), (8, vp b6 0), (9, vi 0), (10, vi y43), (22, vi 0), (45, vb (decide (y43 > 400) || decide (y43 > (((((List.drop 1 in_)).length : Nat) : Int) - 2))))] (fun hk2 => ?_) ?_
              · refine wpq_split 39 (b := decide (y43 > 400)) (by kernel_rfl) (fun q46 => ?_) (fun q46 => ?_)
                · have q46p := of_decide_eq_true q46
                  refine xB 6 [] [(0, vs Ain_ in_ cin_), (7, vs (offA Ain_ cin_ 1 1) (List.drop 1 in_) (cin_ - 1)), (8, vp b6 0), (9, vi 0), (10, vi y43), (22, vi 0), (45, vb true)] ?_
                  refine wpq_re 45 (v := vb true) (Value.bool ((decide (y43 > 400) || decide (y43 > (((((List.drop 1 in_)).length : Nat) : Int) - 2))))) (by kernel_rfl) (re_or1 q46) ?_
                  exact wpq_sub _ (by kernel_rfl) hk2
                · have q46p := of_decide_eq_false q46
                  refine xB 3 [] [(0, vs Ain_ in_ cin_), (7, vs (offA Ain_ cin_ 1 1) (List.drop 1 in_) (cin_ - 1)), (8, vp b6 0), (9, vi 0), (10, vi y43), (22, vi 0), (39, vb false), (40, vi y43), (42, vi ((((List.drop 1 in_)).length : Nat) : Int))] ?_
                  refine xV (qSub .i64 (((((List.drop 1 in_)).length : Nat) : Int)) (2) (wr64 (by omega))) ?_
                  refine xB 2 [] [(0, vs Ain_ in_ cin_), (7, vs (offA Ain_ cin_ 1 1) (List.drop 1 in_) (cin_ - 1)), (8, vp b6 0), (9, vi 0), (10, vi y43), (22, vi 0), (45, vb (decide (y43 > (((((List.drop 1 in_)).length : Nat) : Int) - 2))))] ?_
                  refine wpq_re 45 (v := vb (decide (y43 > (((((List.drop 1 in_)).length : Nat) : Int) - 2)))) (Value.bool ((decide (y43 > 400) || decide (y43 > (((((List.drop 1 in_)).length : Nat) : Int) - 2))))) (by kernel_rfl) (re_or0 q46) ?_
                  exact wpq_sub _ (by kernel_rfl) hk2
              · refine xRe ?_
                refine wpq_then ?_
                refine xCd ((decide (y43 > 400) || decide (y43 > (((((List.drop 1 in_)).length : Nat) : Int) - 2)))) (fun h47 => ?_) (fun h47 => ?_)
                · have hS := cond_T h47 hS
                  refine xSq ?_
                  refine xRg ?_
                  refine xB 5 [] [(2, Value.slice none 0 0), (3, vb false), (4, Value.slice none 0 0), (5, vb false), (6, vi 4)] ?_
                  refine xRe ?_
                  refine wpq_then ?_
                  have eS := (Option.some.inj hS).symm
                  have eS := (hD15 _ eS).symm
                  have eS := (hD7 _ eS).symm
                  subst eS
                  exact xRet [none, none] [2, 3, 4, 5, 6] e45 ⟨none, 0, none, none, 0, none, by kernel_rfl, by kernel_rfl, Buf.nil, Buf.nil⟩ (fun _ _ h => h)
                · have hS := cond_F h47 hS
                  have h47l := (or_false_ h47).1
                  have h47r := (or_false_ h47).2
                  have h47lp := of_decide_eq_false h47l
                  have h47rp := of_decide_eq_false h47r
                  refine xSk ?_
                  refine wpq_then ?_
                  refine xSub [(0, vs Ain_ in_ cin_), (7, vs (offA Ain_ cin_ 1 1) (List.drop 1 in_) (cin_ - 1)), (8, vp b6 0), (9, vi 0), (10, vi y43), (22, vi 0)] ?_
                  refine xDr 0 [] [11, 0, 1, 2, 3, 4, 6, 7, 8, 9, 10, 12] [] 13 (fun RG => ?_) (fun _ _ _ _ _ h => h)
                  obtain ⟨q48, hS⟩ := grd_T hS
                  have q48p := of_decide_eq_true q48
                  refine xT 10 [0, 1, 2] [] [] [(0, vs Ain_ in_ cin_), (7, vs (offA Ain_ cin_ 1 1) (List.drop 1 in_) (cin_ - 1)), (8, vp b6 0), (10, vi y43), (22, vi 0), (46, vi 0), (47, vs (offA Ain_ cin_ 1 1) (List.drop 1 in_) (cin_ - 1)), (48, vi y43)] RG (Psi.le.refl _) ?_
                  refine xTp 3 RG (fun _ => (qAdd .i64 (2) (y43) (wr64 (by omega)))) ?_
                  have f5 := f5.mono e45.r
                  obtain ⟨q49, hS⟩ := grd_T hS
                  have q49p := of_decide_eq_true q49
                  have ncapf50 := f5.cap
                  have f50 : Arr g44.r tyU8 (offA (offA Ain_ cin_ 1 1) (cin_ - 1) 2 1) ((cin_ - 1) - 2) (List.take (((2 + y43)).toNat - 2) (List.drop 2 (List.drop 1 in_))) := f5.cut 2 ((2 + y43)).toNat (by omega) (by omega)
                  have nf50 := f50.len
                  have hlf50 : ((2 + y43)).toNat - 2 = ((List.take (((2 + y43)).toNat - 2) (List.drop 2 (List.drop 1 in_)))).length := by simp only [List.length_take, List.length_drop] <;> omega
                  have hvf50 : ((((List.take (((2 + y43)).toNat - 2) (List.drop 2 (List.drop 1 in_)))).length : Nat) : Int) = (2 + y43) - 2 := by omega
                  refine xTp 4 RG (fun _ => (qSl (m := 1) (A := (offA Ain_ cin_ 1 1)) (len := ((List.drop 1 in_)).length) (c := (cin_ - 1)) 2 ((2 + y43)).toNat (some 2) (some (2 + y43)) ((List.take (((2 + y43)).toNat - 2) (List.drop 2 (List.drop 1 in_)))).length rfl (show _ = _ by omega) (by omega) (by omega) hlf50)) ?_
                  obtain ⟨q51, hS⟩ := grd_T hS
                  have q51p := of_decide_eq_true q51
                  refine xT 6 [6, 7] [] [] [(0, vs Ain_ in_ cin_), (7, vs (offA Ain_ cin_ 1 1) (List.drop 1 in_) (cin_ - 1)), (8, vp b6 0), (22, vi 0), (46, vi 0), (50, vs (offA (offA Ain_ cin_ 1 1) (cin_ - 1) 2 1) (List.take (((2 + y43)).toNat - 2) (List.drop 2 (List.drop 1 in_))) ((cin_ - 1) - 2)), (52, vs (offA Ain_ cin_ 1 1) (List.drop 1 in_) (cin_ - 1)), (53, vi y43)] RG (Psi.le.refl _) ?_
                  refine xTp 8 RG (fun _ => (qAdd .i64 (2) (y43) (wr64 (by omega)))) ?_
                  obtain ⟨q52, hS⟩ := grd_T hS
                  have q52p := of_decide_eq_true q52
                  have ncapf53 := f5.cap
                  have f53 : Arr g44.r tyU8 (offA (offA Ain_ cin_ 1 1) (cin_ - 1) ((2 + y43)).toNat 1) ((cin_ - 1) - ((2 + y43)).toNat) (List.drop ((2 + y43)).toNat (List.drop 1 in_)) := f5.cut_from ((2 + y43)).toNat (by omega)
                  have nf53 := f53.len
                  have hlf53 : ((List.drop 1 in_)).length - ((2 + y43)).toNat = ((List.drop ((2 + y43)).toNat (List.drop 1 in_))).length := by simp only [List.length_take, List.length_drop] <;> omega
                  have hvf53 : ((((List.drop ((2 + y43)).toNat (List.drop 1 in_))).length : Nat) : Int) = ((((List.drop 1 in_)).length : Nat) : Int) - (2 + y43) := by omega
                  refine xTp 9 RG (fun _ => (qSl (m := 1) (A := (offA Ain_ cin_ 1 1)) (len := ((List.drop 1 in_)).length) (c := (cin_ - 1)) ((2 + y43)).toNat ((List.drop 1 in_)).length (some (2 + y43)) none ((List.drop ((2 + y43)).toNat (List.drop 1 in_))).length (show _ = _ by omega) rfl (by omega) (by omega) hlf53)) ?_
                  obtain ⟨y54, hy54, hS⟩ := letJ_T hS
                  refine xO1 (lds := []) 5 ?_
                  refine xIe (lds := []) (Psi.le.refl _) (eC 0 (fun g' lr eb ln => c56 g' ((List.take (((2 + y43)).toNat - 2) (List.drop 2 (List.drop 1 in_))) : List UInt8) (offA (offA Ain_ cin_ 1 1) (cin_ - 1) 2 1) ((cin_ - 1) - 2) (f50.mono lr) hy54)) ?_
                  rintro _ g55 _ e56 ⟨_, rfl, A54_0, c54_0, k54_0, rfl, rfl, h54_0⟩
                  refine kk [] ?_
                  have nh54_0 := h54_0.len
                  refine xT 2 [10] [] [] [(0, vs Ain_ in_ cin_), (7, vs (offA Ain_ cin_ 1 1) (List.drop 1 in_) (cin_ - 1)), (8, vp b6 0), (22, vi 0), (51, vs A54_0 y54 c54_0), (55, vs (offA (offA Ain_ cin_ 1 1) (cin_ - 1) ((2 + y43)).toNat 1) (List.drop ((2 + y43)).toNat (List.drop 1 in_)) ((cin_ - 1) - ((2 + y43)).toNat)), (56, vp b6 0)] RG e56.r ?_
                  refine xO1 (lds := []) 11 ?_
                  refine xId (lds := []) e56.r (eStL b6 0 1) ?_
                  rintro _ _ _ - ⟨rfl, rfl⟩
                  refine kf ?_
                  refine xT 0 [12] [] [] [(0, vs Ain_ in_ cin_), (7, vs (offA (offA Ain_ cin_ 1 1) (cin_ - 1) ((2 + y43)).toNat 1) (List.drop ((2 + y43)).toNat (List.drop 1 in_)) ((cin_ - 1) - ((2 + y43)).toNat)), (8, vp b6 0), (22, vi 0)] RG e56.r ?_
                  refine xAe (lds := []) ?_
                  refine wpq_blockN ?_
                  have f53 := f53.mono e56.r
                  refine xSel [some 1, some 0] ?_
                  refine xSub [(0, vs Ain_ in_ cin_), (7, vs (offA (offA Ain_ cin_ 1 1) (cin_ - 1) ((2 + y43)).toNat 1) (List.drop ((2 + y43)).toNat (List.drop 1 in_)) ((cin_ - 1) - ((2 + y43)).toNat)), (8, vp b6 0), (22, vi 0)] ?_
                  have eS := (Option.some.inj hS).symm
                  exact hN15 _ eS _ _ _ (e45.trans e56) ⟨(offA (offA Ain_ cin_ 1 1) (cin_ - 1) ((2 + y43)).toNat 1), ((cin_ - 1) - ((2 + y43)).toNat), A54_0, c54_0, k54_0, by kernel_rfl, by kernel_rfl, f53, h54_0⟩

def o19 (number : Int) (role : Int) (steps : Int) (alone : Int) (heard : Bool) (other : Int) (theirs : Int) : Int :=
  (cond ((role == 2)) (cond (((heard && (other == 2)) && (decide (theirs > steps) || ((theirs == steps) && (number == 2))))) ((1 : Int)) ((2 : Int))) (cond ((role == 3)) (cond (((!heard) || ((other != 2) && (other != 3)))) ((2 : Int)) (cond ((other == 2)) (cond ((theirs == steps)) ((3 : Int)) ((1 : Int))) (cond (decide (theirs > steps)) ((1 : Int)) (cond ((decide (theirs < steps) || (number == 1))) ((2 : Int)) ((3 : Int)))))) (cond ((((!heard) && decide (alone ≥ 3)) || (((heard && (other != 2)) && (other != 3)) && (number == 1)))) ((2 : Int)) ((1 : Int)))))
set_option maxRecDepth 100000 in
theorem c19 (g : Gh) (number : Int) (role : Int) (steps : Int) (alone : Int) (heard : Bool) (other : Int) (theirs : Int) {r : Int} (hS : o19 number role steps alone heard other theirs = r) :
    Ctr Try.prog 19 [vi number, vy role, vi steps, vi alone, vb heard, vy other, vi theirs] g [] (fun v ψ o => v = vy r ∧ o = []) := by
  unfold o19 at hS
  refine xFn Try.f19 (Try.f19.body.getD .skip) 89 ?_
  refine xSq ?_
  refine xRg ?_
  refine xB 1 [] [(0, vi number), (1, vy role), (2, vi steps), (3, vi alone), (4, vb heard), (5, vy other), (6, vi theirs)] ?_
  refine xRe ?_
  refine wpq_then ?_
  refine xSq ?_
  refine xSq ?_
  refine xRg ?_
  refine xB 1 [] [(0, vi number), (2, vi steps), (3, vi alone), (4, vb heard), (5, vy other), (6, vi theirs), (15, vy role)] ?_
  refine xRe ?_
  refine wpq_then ?_
  refine xBl 0 ?_
  refine xSq ?_
  refine xRg ?_
  refine xB 2 [] [(0, vi number), (2, vi steps), (3, vi alone), (4, vb heard), (5, vy other), (6, vi theirs), (15, vy role), (16, vb (role == 2))] ?_
  refine xRe ?_
  refine wpq_then ?_
  refine xCd ((role == 2)) (fun h1 => ?_) (fun h1 => ?_)
  · have hS := cond_T h1 hS
    have h1p : role = 2 := eq_of_beq h1
    refine xSq ?_
    refine xSq ?_
    refine xRg ?_
    refine xB 2 [] [(0, vi number), (2, vi steps), (5, vy other), (6, vi theirs), (19, vb heard)] ?_
    refine wpr_grp 5 [(0, vi number), (2, vi steps), (6, vi theirs), (22, vb (heard && (other == 2)))] (fun hk1 => ?_) ?_
    · refine wpq_split 19 (b := heard) (by kernel_rfl) (fun q2 => ?_) (fun q2 => ?_)
      · refine xB 3 [] [(0, vi number), (2, vi steps), (6, vi theirs), (22, vb (other == 2))] ?_
        refine wpq_re 22 (v := vb (other == 2)) (Value.bool ((heard && (other == 2)))) (by kernel_rfl) (re_and1 q2) ?_
        exact wpq_sub _ (by kernel_rfl) hk1
      · refine xB 3 [] [(0, vi number), (2, vi steps), (6, vi theirs), (22, vb false)] ?_
        refine wpq_re 22 (v := vb false) (Value.bool ((heard && (other == 2)))) (by kernel_rfl) (re_and0 q2) ?_
        exact wpq_sub _ (by kernel_rfl) hk1
    · refine xB 1 [] [(0, vi number), (2, vi steps), (6, vi theirs), (23, vb (heard && (other == 2)))] ?_
      refine wpr_grp 19 [(36, vb ((heard && (other == 2)) && (decide (theirs > steps) || ((theirs == steps) && (number == 2)))))] (fun hk5 => ?_) ?_
      · refine wpq_split 23 (b := (heard && (other == 2))) (by kernel_rfl) (fun q3 => ?_) (fun q3 => ?_)
        · have q3l := (and_true_ q3).1
          have q3r := (and_true_ q3).2
          have q3rp : other = 2 := eq_of_beq q3r
          refine xB 4 [] [(0, vi number), (2, vi steps), (6, vi theirs), (23, vb true), (27, vb (decide (theirs > steps)))] ?_
          refine wpr_grp 18 [(23, vb true), (35, vb (decide (theirs > steps) || ((theirs == steps) && (number == 2))))] (fun hk9 => ?_) ?_
          · refine wpq_split 27 (b := decide (theirs > steps)) (by kernel_rfl) (fun q4 => ?_) (fun q4 => ?_)
            · have q4p := of_decide_eq_true q4
              refine xB 8 [] [(23, vb true), (35, vb true)] ?_
              refine wpq_re 35 (v := vb true) (Value.bool ((decide (theirs > steps) || ((theirs == steps) && (number == 2))))) (by kernel_rfl) (re_or1 q4) ?_
              exact wpq_sub _ (by kernel_rfl) hk9
            · have q4p := of_decide_eq_false q4
              refine xB 4 [] [(0, vi number), (23, vb true), (27, vb false), (31, vb (theirs == steps))] ?_
              refine wpr_grp 17 [(23, vb true), (27, vb false), (34, vb ((theirs == steps) && (number == 2)))] (fun hk13 => ?_) ?_
              · refine wpq_split 31 (b := (theirs == steps)) (by kernel_rfl) (fun q5 => ?_) (fun q5 => ?_)
                · have q5p : theirs = steps := eq_of_beq q5
                  refine xB 3 [] [(23, vb true), (27, vb false), (34, vb (number == 2))] ?_
                  refine wpq_re 34 (v := vb (number == 2)) (Value.bool (((theirs == steps) && (number == 2)))) (by kernel_rfl) (re_and1 q5) ?_
                  exact wpq_sub _ (by kernel_rfl) hk13
                · have q5p : ¬ (theirs = steps) := ne_of_beq_false_ q5
                  refine xB 3 [] [(23, vb true), (27, vb false), (34, vb false)] ?_
                  refine wpq_re 34 (v := vb false) (Value.bool (((theirs == steps) && (number == 2)))) (by kernel_rfl) (re_and0 q5) ?_
                  exact wpq_sub _ (by kernel_rfl) hk13
              · refine xB 1 [] [(23, vb true), (35, vb ((theirs == steps) && (number == 2)))] ?_
                refine wpq_re 35 (v := vb ((theirs == steps) && (number == 2))) (Value.bool ((decide (theirs > steps) || ((theirs == steps) && (number == 2))))) (by kernel_rfl) (re_or0 q4) ?_
                exact wpq_sub _ (by kernel_rfl) hk9
          · refine xB 1 [] [(36, vb (decide (theirs > steps) || ((theirs == steps) && (number == 2))))] ?_
            refine wpq_re 36 (v := vb (decide (theirs > steps) || ((theirs == steps) && (number == 2)))) (Value.bool (((heard && (other == 2)) && (decide (theirs > steps) || ((theirs == steps) && (number == 2)))))) (by kernel_rfl) (re_and1 q3) ?_
            exact wpq_sub _ (by kernel_rfl) hk5
        · refine xB 13 [] [(36, vb false)] ?_
          refine wpq_re 36 (v := vb false) (Value.bool (((heard && (other == 2)) && (decide (theirs > steps) || ((theirs == steps) && (number == 2)))))) (by kernel_rfl) (re_and0 q3) ?_
          exact wpq_sub _ (by kernel_rfl) hk5
      · refine xRe ?_
        refine wpq_then ?_
        refine xCd (((heard && (other == 2)) && (decide (theirs > steps) || ((theirs == steps) && (number == 2))))) (fun h6 => ?_) (fun h6 => ?_)
        · have hS := cond_T h6 hS
          have h6l := (and_true_ h6).1
          have h6r := (and_true_ h6).2
          have h6ll := (and_true_ h6l).1
          have h6lr := (and_true_ h6l).2
          have h6lrp : other = 2 := eq_of_beq h6lr
          refine xSq ?_
          refine xRg ?_
          refine xB 1 [] [(14, vy 1)] ?_
          refine xRe ?_
          refine wpq_then ?_
          have eS := hS.symm
          subst eS
          exact xRet [] [14] (Gh.le.refl _) ⟨by kernel_rfl, by kernel_rfl⟩ (fun _ _ h => h)
        · have hS := cond_F h6 hS
          refine xSk ?_
          refine wpq_then ?_
          refine xSub [] ?_
          refine xSq ?_
          refine xRg ?_
          refine xB 1 [] [(14, vy 2)] ?_
          refine xRe ?_
          refine wpq_then ?_
          have eS := hS.symm
          subst eS
          exact xRet [] [14] (Gh.le.refl _) ⟨by kernel_rfl, by kernel_rfl⟩ (fun _ _ h => h)
  · have hS := cond_F h1 hS
    have h1p : ¬ (role = 2) := ne_of_beq_false_ h1
    refine xSq ?_
    refine xRg ?_
    refine xB 2 [] [(0, vi number), (2, vi steps), (3, vi alone), (4, vb heard), (5, vy other), (6, vi theirs), (37, vb (role == 3))] ?_
    refine xRe ?_
    refine wpq_then ?_
    refine xCd ((role == 3)) (fun h7 => ?_) (fun h7 => ?_)
    · have hS := cond_T h7 hS
      have h7p : role = 3 := eq_of_beq h7
      refine xSq ?_
      refine xBl 1 ?_
      refine xSq ?_
      refine xRg ?_
      refine xB 3 [] [(0, vi number), (2, vi steps), (5, vy other), (6, vi theirs), (42, vb (!heard))] ?_
      refine wpr_grp 10 [(0, vi number), (2, vi steps), (5, vy other), (6, vi theirs), (49, vb ((!heard) || ((other != 2) && (other != 3))))] (fun hk2 => ?_) ?_
      · refine wpq_split 42 (b := (!heard)) (by kernel_rfl) (fun q8 => ?_) (fun q8 => ?_)
        · have q8n := not_eq_true_ q8
          refine xB 7 [] [(0, vi number), (2, vi steps), (5, vy other), (6, vi theirs), (49, vb true)] ?_
          refine wpq_re 49 (v := vb true) (Value.bool (((!heard) || ((other != 2) && (other != 3))))) (by kernel_rfl) (re_or1 q8) ?_
          exact wpq_sub _ (by kernel_rfl) hk2
        · have q8n := not_eq_false_ q8
          refine xB 3 [] [(0, vi number), (2, vi steps), (5, vy other), (6, vi theirs), (42, vb false), (45, vb (other != 2))] ?_
          refine wpr_grp 9 [(0, vi number), (2, vi steps), (5, vy other), (6, vi theirs), (42, vb false), (48, vb ((other != 2) && (other != 3)))] (fun hk5 => ?_) ?_
          · refine wpq_split 45 (b := (other != 2)) (by kernel_rfl) (fun q9 => ?_) (fun q9 => ?_)
            · have q9p : ¬ (other = 2) := ne_of_bne_ q9
              refine xB 3 [] [(0, vi number), (2, vi steps), (5, vy other), (6, vi theirs), (42, vb false), (48, vb (other != 3))] ?_
              refine wpq_re 48 (v := vb (other != 3)) (Value.bool (((other != 2) && (other != 3)))) (by kernel_rfl) (re_and1 q9) ?_
              exact wpq_sub _ (by kernel_rfl) hk5
            · have q9p : other = 2 := eq_of_bne_false_ q9
              refine xB 3 [] [(0, vi number), (2, vi steps), (5, vy other), (6, vi theirs), (42, vb false), (48, vb false)] ?_
              refine wpq_re 48 (v := vb false) (Value.bool (((other != 2) && (other != 3)))) (by kernel_rfl) (re_and0 q9) ?_
              exact wpq_sub _ (by kernel_rfl) hk5
          · refine xB 1 [] [(0, vi number), (2, vi steps), (5, vy other), (6, vi theirs), (49, vb ((other != 2) && (other != 3)))] ?_
            refine wpq_re 49 (v := vb ((other != 2) && (other != 3))) (Value.bool (((!heard) || ((other != 2) && (other != 3))))) (by kernel_rfl) (re_or0 q8) ?_
            exact wpq_sub _ (by kernel_rfl) hk2
      · refine xB 1 [] [(0, vi number), (2, vi steps), (5, vy other), (6, vi theirs), (39, vb ((!heard) || ((other != 2) && (other != 3))))] ?_
        refine xRe ?_
        refine wpq_then ?_
        refine xCd (((!heard) || ((other != 2) && (other != 3)))) (fun h10 => ?_) (fun h10 => ?_)
        · have hS := cond_T h10 hS
          refine xSq ?_
          refine xRg ?_
          refine xB 1 [] [(14, vy 2)] ?_
          refine xRe ?_
          refine wpq_then ?_
          have eS := hS.symm
          subst eS
          exact xRet [] [14] (Gh.le.refl _) ⟨by kernel_rfl, by kernel_rfl⟩ (fun _ _ h => h)
        · have hS := cond_F h10 hS
          have h10l := (or_false_ h10).1
          have h10r := (or_false_ h10).2
          have h10ln := not_eq_false_ h10l
          refine xSq ?_
          refine xRg ?_
          refine xB 3 [] [(0, vi number), (2, vi steps), (6, vi theirs), (50, vb (other == 2))] ?_
          refine xRe ?_
          refine wpq_then ?_
          refine xCd ((other == 2)) (fun h11 => ?_) (fun h11 => ?_)
          · have hS := cond_T h11 hS
            have h11p : other = 2 := eq_of_beq h11
            refine xSq ?_
            refine xSq ?_
            refine xRg ?_
            refine xB 3 [] [(55, vb (theirs == steps))] ?_
            refine xRe ?_
            refine wpq_then ?_
            refine xCd ((theirs == steps)) (fun h12 => ?_) (fun h12 => ?_)
            · have hS := cond_T h12 hS
              have h12p : theirs = steps := eq_of_beq h12
              refine xSq ?_
              refine xRg ?_
              refine xB 1 [] [(14, vy 3)] ?_
              refine xRe ?_
              refine wpq_then ?_
              have eS := hS.symm
              subst eS
              exact xRet [] [14] (Gh.le.refl _) ⟨by kernel_rfl, by kernel_rfl⟩ (fun _ _ h => h)
            · have hS := cond_F h12 hS
              have h12p : ¬ (theirs = steps) := ne_of_beq_false_ h12
              refine xSk ?_
              refine wpq_then ?_
              refine xSub [] ?_
              refine xSq ?_
              refine xRg ?_
              refine xB 1 [] [(14, vy 1)] ?_
              refine xRe ?_
              refine wpq_then ?_
              have eS := hS.symm
              subst eS
              exact xRet [] [14] (Gh.le.refl _) ⟨by kernel_rfl, by kernel_rfl⟩ (fun _ _ h => h)
          · have hS := cond_F h11 hS
            have h11p : ¬ (other = 2) := ne_of_beq_false_ h11
            refine xSq ?_
            refine xRg ?_
            refine xB 4 [] [(0, vi number), (2, vi steps), (6, vi theirs), (56, vb (decide (theirs > steps)))] ?_
            refine xRe ?_
            refine wpq_then ?_
            refine xCd (decide (theirs > steps)) (fun h13 => ?_) (fun h13 => ?_)
            · have hS := cond_T h13 hS
              have h13p := of_decide_eq_true h13
              refine xSq ?_
              refine xRg ?_
              refine xB 1 [] [(14, vy 1)] ?_
              refine xRe ?_
              refine wpq_then ?_
              have eS := hS.symm
              subst eS
              exact xRet [] [14] (Gh.le.refl _) ⟨by kernel_rfl, by kernel_rfl⟩ (fun _ _ h => h)
            · have hS := cond_F h13 hS
              have h13p := of_decide_eq_false h13
              refine xSq ?_
              refine xRg ?_
              refine xB 4 [] [(0, vi number), (64, vb (decide (theirs < steps)))] ?_
              refine wpr_grp 7 [(67, vb (decide (theirs < steps) || (number == 1)))] (fun hk3 => ?_) ?_
              · refine wpq_split 64 (b := decide (theirs < steps)) (by kernel_rfl) (fun q14 => ?_) (fun q14 => ?_)
                · have q14p := of_decide_eq_true q14
                  refine xB 3 [] [(67, vb true)] ?_
                  refine wpq_re 67 (v := vb true) (Value.bool ((decide (theirs < steps) || (number == 1)))) (by kernel_rfl) (re_or1 q14) ?_
                  exact wpq_sub _ (by kernel_rfl) hk3
                · have q14p := of_decide_eq_false q14
                  refine xB 3 [] [(67, vb (number == 1))] ?_
                  refine wpq_re 67 (v := vb (number == 1)) (Value.bool ((decide (theirs < steps) || (number == 1)))) (by kernel_rfl) (re_or0 q14) ?_
                  exact wpq_sub _ (by kernel_rfl) hk3
              · refine xB 1 [] [(60, vb (decide (theirs < steps) || (number == 1)))] ?_
                refine xRe ?_
                refine wpq_then ?_
                refine xCd ((decide (theirs < steps) || (number == 1))) (fun h15 => ?_) (fun h15 => ?_)
                · have hS := cond_T h15 hS
                  refine xSq ?_
                  refine xRg ?_
                  refine xB 1 [] [(14, vy 2)] ?_
                  refine xRe ?_
                  refine wpq_then ?_
                  have eS := hS.symm
                  subst eS
                  exact xRet [] [14] (Gh.le.refl _) ⟨by kernel_rfl, by kernel_rfl⟩ (fun _ _ h => h)
                · have hS := cond_F h15 hS
                  have h15l := (or_false_ h15).1
                  have h15r := (or_false_ h15).2
                  have h15lp := of_decide_eq_false h15l
                  have h15rp : ¬ (number = 1) := ne_of_beq_false_ h15r
                  refine xSk ?_
                  refine wpq_blockN ?_
                  refine wpq_then ?_
                  refine xSub [] ?_
                  refine xSq ?_
                  refine xRg ?_
                  refine xB 1 [] [(14, vy 3)] ?_
                  refine xRe ?_
                  refine wpq_then ?_
                  have eS := hS.symm
                  subst eS
                  exact xRet [] [14] (Gh.le.refl _) ⟨by kernel_rfl, by kernel_rfl⟩ (fun _ _ h => h)
    · have hS := cond_F h7 hS
      have h7p : ¬ (role = 3) := ne_of_beq_false_ h7
      refine xSk ?_
      refine wpq_blockN ?_
      refine wpq_then ?_
      refine xSub [(0, vi number), (3, vi alone), (4, vb heard), (5, vy other)] ?_
      refine xSq ?_
      refine xSq ?_
      refine xRg ?_
      refine xB 3 [] [(0, vi number), (3, vi alone), (4, vb heard), (5, vy other), (70, vb (!heard))] ?_
      refine wpr_grp 6 [(0, vi number), (4, vb heard), (5, vy other), (73, vb ((!heard) && decide (alone ≥ 3)))] (fun hk2 => ?_) ?_
      · refine wpq_split 70 (b := (!heard)) (by kernel_rfl) (fun q16 => ?_) (fun q16 => ?_)
        · have q16n := not_eq_true_ q16
          refine xB 3 [] [(0, vi number), (4, vb heard), (5, vy other), (73, vb (decide (alone ≥ 3)))] ?_
          refine wpq_re 73 (v := vb (decide (alone ≥ 3))) (Value.bool (((!heard) && decide (alone ≥ 3)))) (by kernel_rfl) (re_and1 q16) ?_
          exact wpq_sub _ (by kernel_rfl) hk2
        · have q16n := not_eq_false_ q16
          refine xB 3 [] [(0, vi number), (4, vb heard), (5, vy other), (73, vb false)] ?_
          refine wpq_re 73 (v := vb false) (Value.bool (((!heard) && decide (alone ≥ 3)))) (by kernel_rfl) (re_and0 q16) ?_
          exact wpq_sub _ (by kernel_rfl) hk2
      · refine xB 1 [] [(0, vi number), (4, vb heard), (5, vy other), (74, vb ((!heard) && decide (alone ≥ 3)))] ?_
        refine wpr_grp 21 [(88, vb (((!heard) && decide (alone ≥ 3)) || (((heard && (other != 2)) && (other != 3)) && (number == 1))))] (fun hk6 => ?_) ?_
        · refine wpq_split 74 (b := ((!heard) && decide (alone ≥ 3))) (by kernel_rfl) (fun q17 => ?_) (fun q17 => ?_)
          · have q17l := (and_true_ q17).1
            have q17r := (and_true_ q17).2
            have q17ln := not_eq_true_ q17l
            have q17rp := of_decide_eq_true q17r
            refine xB 14 [] [(88, vb true)] ?_
            refine wpq_re 88 (v := vb true) (Value.bool ((((!heard) && decide (alone ≥ 3)) || (((heard && (other != 2)) && (other != 3)) && (number == 1))))) (by kernel_rfl) (re_or1 q17) ?_
            exact wpq_sub _ (by kernel_rfl) hk6
          · refine xB 2 [] [(0, vi number), (5, vy other), (74, vb false), (76, vb heard)] ?_
            refine wpr_grp 12 [(0, vi number), (5, vy other), (74, vb false), (79, vb (heard && (other != 2)))] (fun hk8 => ?_) ?_
            · refine wpq_split 76 (b := heard) (by kernel_rfl) (fun q18 => ?_) (fun q18 => ?_)
              · refine xB 3 [] [(0, vi number), (5, vy other), (74, vb false), (79, vb (other != 2))] ?_
                refine wpq_re 79 (v := vb (other != 2)) (Value.bool ((heard && (other != 2)))) (by kernel_rfl) (re_and1 q18) ?_
                exact wpq_sub _ (by kernel_rfl) hk8
              · refine xB 3 [] [(0, vi number), (5, vy other), (74, vb false), (79, vb false)] ?_
                refine wpq_re 79 (v := vb false) (Value.bool ((heard && (other != 2)))) (by kernel_rfl) (re_and0 q18) ?_
                exact wpq_sub _ (by kernel_rfl) hk8
            · refine xB 1 [] [(0, vi number), (5, vy other), (74, vb false), (80, vb (heard && (other != 2)))] ?_
              refine wpr_grp 16 [(0, vi number), (74, vb false), (83, vb ((heard && (other != 2)) && (other != 3)))] (fun hk12 => ?_) ?_
              · refine wpq_split 80 (b := (heard && (other != 2))) (by kernel_rfl) (fun q19 => ?_) (fun q19 => ?_)
                · have q19l := (and_true_ q19).1
                  have q19r := (and_true_ q19).2
                  have q19rp : ¬ (other = 2) := ne_of_bne_ q19r
                  refine xB 3 [] [(0, vi number), (74, vb false), (83, vb (other != 3))] ?_
                  refine wpq_re 83 (v := vb (other != 3)) (Value.bool (((heard && (other != 2)) && (other != 3)))) (by kernel_rfl) (re_and1 q19) ?_
                  exact wpq_sub _ (by kernel_rfl) hk12
                · refine xB 3 [] [(0, vi number), (74, vb false), (83, vb false)] ?_
                  refine wpq_re 83 (v := vb false) (Value.bool (((heard && (other != 2)) && (other != 3)))) (by kernel_rfl) (re_and0 q19) ?_
                  exact wpq_sub _ (by kernel_rfl) hk12
              · refine xB 1 [] [(0, vi number), (74, vb false), (84, vb ((heard && (other != 2)) && (other != 3)))] ?_
                refine wpr_grp 20 [(74, vb false), (87, vb (((heard && (other != 2)) && (other != 3)) && (number == 1)))] (fun hk16 => ?_) ?_
                · refine wpq_split 84 (b := ((heard && (other != 2)) && (other != 3))) (by kernel_rfl) (fun q20 => ?_) (fun q20 => ?_)
                  · have q20l := (and_true_ q20).1
                    have q20r := (and_true_ q20).2
                    have q20ll := (and_true_ q20l).1
                    have q20lr := (and_true_ q20l).2
                    have q20lrp : ¬ (other = 2) := ne_of_bne_ q20lr
                    have q20rp : ¬ (other = 3) := ne_of_bne_ q20r
                    refine xB 3 [] [(74, vb false), (87, vb (number == 1))] ?_
                    refine wpq_re 87 (v := vb (number == 1)) (Value.bool ((((heard && (other != 2)) && (other != 3)) && (number == 1)))) (by kernel_rfl) (re_and1 q20) ?_
                    exact wpq_sub _ (by kernel_rfl) hk16
                  · refine xB 3 [] [(74, vb false), (87, vb false)] ?_
                    refine wpq_re 87 (v := vb false) (Value.bool ((((heard && (other != 2)) && (other != 3)) && (number == 1)))) (by kernel_rfl) (re_and0 q20) ?_
                    exact wpq_sub _ (by kernel_rfl) hk16
                · refine xB 1 [] [(88, vb (((heard && (other != 2)) && (other != 3)) && (number == 1)))] ?_
                  refine wpq_re 88 (v := vb (((heard && (other != 2)) && (other != 3)) && (number == 1))) (Value.bool ((((!heard) && decide (alone ≥ 3)) || (((heard && (other != 2)) && (other != 3)) && (number == 1))))) (by kernel_rfl) (re_or0 q17) ?_
                  exact wpq_sub _ (by kernel_rfl) hk6
        · refine xRe ?_
          refine wpq_then ?_
          refine xCd ((((!heard) && decide (alone ≥ 3)) || (((heard && (other != 2)) && (other != 3)) && (number == 1)))) (fun h21 => ?_) (fun h21 => ?_)
          · have hS := cond_T h21 hS
            refine xSq ?_
            refine xRg ?_
            refine xB 1 [] [(14, vy 2)] ?_
            refine xRe ?_
            refine wpq_then ?_
            have eS := hS.symm
            subst eS
            exact xRet [] [14] (Gh.le.refl _) ⟨by kernel_rfl, by kernel_rfl⟩ (fun _ _ h => h)
          · have hS := cond_F h21 hS
            have h21l := (or_false_ h21).1
            have h21r := (or_false_ h21).2
            refine xSk ?_
            refine wpq_then ?_
            refine xSub [] ?_
            refine xSq ?_
            refine xRg ?_
            refine xB 1 [] [(14, vy 1)] ?_
            refine xRe ?_
            refine wpq_then ?_
            have eS := hS.symm
            subst eS
            exact xRet [] [14] (Gh.le.refl _) ⟨by kernel_rfl, by kernel_rfl⟩ (fun _ _ h => h)

def o13 : Option (Bool) :=
  (bindO (τ := (List UInt8) × Int) (o15 (([(u8 65)] : List UInt8) : List UInt8) (true) ([] : List UInt8) (false)) fun y5 => (bindO (τ := (List UInt8) × Bool × (List UInt8) × Bool × Int) (o17 (([(u8 4)] : List UInt8) : List UInt8)) fun y9 => (letJ (τ := Bool) (cond ((((y5.1 == ([1, 1, 0, 65])) && (y5.2 == 0)) && (y9.2.2.2.2 == 4))) (letJ (τ := Int) (o19 (2 : Int) (2 : Int) (7 : Int) (0 : Int) (true) (2 : Int) (7 : Int)) fun y32 => (y32 == 1)) (false)) fun t14 => (letJ (τ := Bool) (cond (t14) (letJ (τ := Int) (o19 (1 : Int) (2 : Int) (7 : Int) (0 : Int) (true) (2 : Int) (7 : Int)) fun y28 => (y28 == 2)) (false)) fun t17 => (letJ (τ := Bool) (cond (t17) (letJ (τ := Int) (o19 (1 : Int) (1 : Int) (0 : Int) (3 : Int) (false) (0 : Int) (0 : Int)) fun y24 => (y24 == 2)) (false)) fun t20 => (some ((t20))))))))
set_option maxRecDepth 100000 in
theorem c13 (g : Gh)  {r : Bool} (hS : o13 = some r) :
    Ctr Try.prog 13 [] g [] (fun v ψ o => v = vb r ∧ o = []) := by
  unfold o13 at hS
  refine xFn Try.f13 (Try.f13.body.getD .skip) 45 ?_
  refine xSq ?_
  refine xRg ?_
  refine xB 1 [] [] ?_
  refine xRe ?_
  refine wpq_then ?_
  refine xSq ?_
  refine xRg ?_
  refine xE (eBs (T := tyU8) (p := g.b) (et := 5) (xs := ([(u8 65)] : List UInt8)) (reps_cons (c := [vy 65]) (u8_rep (by omega)) reps_nil) (by simp)) ?_
  rintro _ _ _ - ⟨A1, c1, k1, rfl, rfl, rfl, h1⟩
  refine xE (eCv 0 h1 (by first | omega | simp)) ?_
  rintro _ g3 _ e4 ⟨rfl, rfl, f2⟩
  have nf2 := f2.len
  obtain ⟨y5, hy5, hS⟩ := bindO_T hS
  refine xE (eC 0 (fun g' lr eb ln => c15 g' (([(u8 65)] : List UInt8) : List UInt8) A1 c1 (true) ([] : List UInt8) none 0 (false) ((f2.mono g3.br).mono lr) Arr.nil hy5)) ?_
  rintro _ g6 _ e7 ⟨_, rfl, A5_0, c5_0, k5_0, rfl, rfl, h5_0⟩
  have nh5_0 := h5_0.len
  refine xB 5 [] [(1, vs A5_0 y5.1 c5_0), (2, vi y5.2)] ?_
  refine xRe ?_
  refine wpq_then ?_
  refine xSq ?_
  refine xRg ?_
  refine xE (eBs (T := tyU8) (p := g6.b) (et := 5) (xs := ([(u8 4)] : List UInt8)) (reps_cons (c := [vy 4]) (u8_rep (by omega)) reps_nil) (by simp)) ?_
  rintro _ _ _ - ⟨A8, c8, k8, rfl, rfl, rfl, h8⟩
  obtain ⟨y9, hy9, hS⟩ := bindO_T hS
  refine xE (eC 0 (fun g' lr eb ln => c17 g' (([(u8 4)] : List UInt8) : List UInt8) A8 c8 (arr_of_buf h8 (Psi.le_b eb) (lentk 0 (by kernel_rfl) ln)) hy9)) ?_
  rintro _ g10 _ e11 ⟨_, rfl, A9_0, c9_0, k9_0, A9_2, c9_2, k9_2, rfl, rfl, h9_0, h9_2⟩
  have nh9_0 := h9_0.len
  have nh9_2 := h9_2.len
  refine xB 11 [] [(1, vs A5_0 y5.1 c5_0), (2, vi y5.2), (7, vi y9.2.2.2.2)] ?_
  refine xRe ?_
  refine wpq_then ?_
  refine xSq ?_
  refine xRg ?_
  have h5_0 := h5_0.mono e11.b
  refine xB 1 [] [(2, vi y5.2), (7, vi y9.2.2.2.2), (22, vs A5_0 y5.1 c5_0)] ?_
  refine xV (qStrB 3 h5_0) ?_
  refine xV (qEqS (y5.1) ([1, 1, 0, 65])) ?_
  refine xB 1 [] [(2, vi y5.2), (7, vi y9.2.2.2.2), (25, vb (y5.1 == ([1, 1, 0, 65])))] ?_
  refine wpr_grp 7 [(7, vi y9.2.2.2.2), (28, vb ((y5.1 == ([1, 1, 0, 65])) && (y5.2 == 0)))] (fun hk3 => ?_) ?_
  · refine wpq_split 25 (b := (y5.1 == ([1, 1, 0, 65]))) (by kernel_rfl) (fun q12 => ?_) (fun q12 => ?_)
    · have q12p : y5.1 = [1, 1, 0, 65] := eq_of_beq q12
      refine xB 3 [] [(7, vi y9.2.2.2.2), (28, vb (y5.2 == 0))] ?_
      refine xSel [some 0, some 1, some 2, some 3, none] ?_
      refine wpq_re 28 (v := vb (y5.2 == 0)) (Value.bool (((y5.1 == ([1, 1, 0, 65])) && (y5.2 == 0)))) (by kernel_rfl) (re_and1 q12) ?_
      exact wpq_sub _ (by kernel_rfl) hk3
    · have q12p : ¬ (y5.1 = [1, 1, 0, 65]) := ne_of_beq_false_ q12
      refine xB 3 [] [(7, vi y9.2.2.2.2), (28, vb false)] ?_
      refine xSel [some 0, some 1, some 2, some 3, none] ?_
      refine wpq_re 28 (v := vb false) (Value.bool (((y5.1 == ([1, 1, 0, 65])) && (y5.2 == 0)))) (by kernel_rfl) (re_and0 q12) ?_
      exact wpq_sub _ (by kernel_rfl) hk3
  · refine xB 1 [] [(7, vi y9.2.2.2.2), (29, vb ((y5.1 == ([1, 1, 0, 65])) && (y5.2 == 0)))] ?_
    refine wpr_grp 11 [(32, vb (((y5.1 == ([1, 1, 0, 65])) && (y5.2 == 0)) && (y9.2.2.2.2 == 4)))] (fun hk7 => ?_) ?_
    · refine wpq_split 29 (b := ((y5.1 == ([1, 1, 0, 65])) && (y5.2 == 0))) (by kernel_rfl) (fun q13 => ?_) (fun q13 => ?_)
      · have q13l := (and_true_ q13).1
        have q13r := (and_true_ q13).2
        have q13lp : y5.1 = [1, 1, 0, 65] := eq_of_beq q13l
        have q13rp : y5.2 = 0 := eq_of_beq q13r
        refine xB 3 [] [(32, vb (y9.2.2.2.2 == 4))] ?_
        refine xSel [some 0, some 1, some 2, some 3, none] ?_
        refine wpq_re 32 (v := vb (y9.2.2.2.2 == 4)) (Value.bool ((((y5.1 == ([1, 1, 0, 65])) && (y5.2 == 0)) && (y9.2.2.2.2 == 4)))) (by kernel_rfl) (re_and1 q13) ?_
        exact wpq_sub _ (by kernel_rfl) hk7
      · refine xB 3 [] [(32, vb false)] ?_
        refine xSel [some 0, some 1, some 2, some 3, none] ?_
        refine wpq_re 32 (v := vb false) (Value.bool ((((y5.1 == ([1, 1, 0, 65])) && (y5.2 == 0)) && (y9.2.2.2.2 == 4)))) (by kernel_rfl) (re_and0 q13) ?_
        exact wpq_sub _ (by kernel_rfl) hk7
    · refine xB 1 [] [(33, vb (((y5.1 == ([1, 1, 0, 65])) && (y5.2 == 0)) && (y9.2.2.2.2 == 4)))] ?_
      refine xGJl hS 15 (fun g own sl t14 => own = [] ∧ sl = [(36, vb t14)]) ?_ ?_
      · rintro g15 _ _ t14 e16 ⟨rfl, rfl⟩ hS
        refine xB 1 [] [(37, vb t14)] ?_
        refine xGJl hS 19 (fun g own sl t17 => own = [] ∧ sl = [(40, vb t17)]) ?_ ?_
        · rintro g18 _ _ t17 e19 ⟨rfl, rfl⟩ hS
          refine xB 1 [] [(41, vb t17)] ?_
          refine xGJl hS 23 (fun g own sl t20 => own = [] ∧ sl = [(44, vb t20)]) ?_ ?_
          · rintro g21 _ _ t20 e22 ⟨rfl, rfl⟩ hS
            refine xB 1 [] [(0, vb t20)] ?_
            refine xRe ?_
            refine wpq_then ?_
            have eS := (Option.some.inj hS).symm
            subst eS
            exact xRet [] [0] (e4.trans (e7.trans (e11.trans (e16.trans (e19.trans e22))))) ⟨by kernel_rfl, by kernel_rfl⟩ (fun _ _ h => h)
          · intro u20 hS hN20
            refine wpq_split 41 (b := t17) (by kernel_rfl) (fun q23 => ?_) (fun q23 => ?_)
            · have hS := cond_T q23 hS
              obtain ⟨y24, hy24, hS⟩ := letJ_T hS
              refine xE (eC 0 (fun g' lr eb ln => c19 g' (1 : Int) (1 : Int) (0 : Int) (3 : Int) (false) (0 : Int) (0 : Int) hy24)) ?_
              rintro _ g25 _ e26 ⟨_, rfl, rfl, rfl⟩
              refine xB 2 [] [(44, vb (y24 == 2))] ?_
              refine xSub [(44, vb (y24 == 2))] ?_
              exact hN20 _ hS.symm _ _ _ e26 ⟨by kernel_rfl, by kernel_rfl⟩
            · have hS := cond_F q23 hS
              refine xB 3 [] [(44, vb false)] ?_
              refine xSub [(44, vb false)] ?_
              exact hN20 _ hS.symm _ _ _ (Gh.le.refl _) ⟨by kernel_rfl, by kernel_rfl⟩
        · intro u17 hS hN17
          refine wpq_split 37 (b := t14) (by kernel_rfl) (fun q27 => ?_) (fun q27 => ?_)
          · have hS := cond_T q27 hS
            obtain ⟨y28, hy28, hS⟩ := letJ_T hS
            refine xE (eC 0 (fun g' lr eb ln => c19 g' (1 : Int) (2 : Int) (7 : Int) (0 : Int) (true) (2 : Int) (7 : Int) hy28)) ?_
            rintro _ g29 _ e30 ⟨_, rfl, rfl, rfl⟩
            refine xB 2 [] [(40, vb (y28 == 2))] ?_
            refine xSub [(40, vb (y28 == 2))] ?_
            exact hN17 _ hS.symm _ _ _ e30 ⟨by kernel_rfl, by kernel_rfl⟩
          · have hS := cond_F q27 hS
            refine xB 3 [] [(40, vb false)] ?_
            refine xSub [(40, vb false)] ?_
            exact hN17 _ hS.symm _ _ _ (Gh.le.refl _) ⟨by kernel_rfl, by kernel_rfl⟩
      · intro u14 hS hN14
        refine wpq_split 33 (b := (((y5.1 == ([1, 1, 0, 65])) && (y5.2 == 0)) && (y9.2.2.2.2 == 4))) (by kernel_rfl) (fun q31 => ?_) (fun q31 => ?_)
        · have hS := cond_T q31 hS
          have q31l := (and_true_ q31).1
          have q31r := (and_true_ q31).2
          have q31ll := (and_true_ q31l).1
          have q31lr := (and_true_ q31l).2
          have q31llp : y5.1 = [1, 1, 0, 65] := eq_of_beq q31ll
          have q31lrp : y5.2 = 0 := eq_of_beq q31lr
          have q31rp : y9.2.2.2.2 = 4 := eq_of_beq q31r
          obtain ⟨y32, hy32, hS⟩ := letJ_T hS
          refine xE (eC 0 (fun g' lr eb ln => c19 g' (2 : Int) (2 : Int) (7 : Int) (0 : Int) (true) (2 : Int) (7 : Int) hy32)) ?_
          rintro _ g33 _ e34 ⟨_, rfl, rfl, rfl⟩
          refine xB 2 [] [(36, vb (y32 == 1))] ?_
          refine xSel [] ?_
          refine xSub [(36, vb (y32 == 1))] ?_
          exact hN14 _ hS.symm _ _ _ e34 ⟨by kernel_rfl, by kernel_rfl⟩
        · have hS := cond_F q31 hS
          refine xB 3 [] [(36, vb false)] ?_
          refine xSel [] ?_
          refine xSub [(36, vb false)] ?_
          exact hN14 _ hS.symm _ _ _ (Gh.le.refl _) ⟨by kernel_rfl, by kernel_rfl⟩

def o37 (number : Int) : (Option Node) × Int :=
  (cond (((number != 1) && (number != 2))) (((none : Option Node), (1 : Int))) (((some (⟨number, 1, 0, 0, 0, 0, ([] : List UInt8), (⟨0, 0, (⟨0, 0⟩ : Want), ([] : List UInt8)⟩ : Heard), false, false, (⟨0, 0, false, ([] : List UInt8)⟩ : Sett), false, (⟨0, (⟨0, 0, 0, 0, 0, 0, 0⟩ : Targets)⟩ : Result)⟩ : Node)), (0 : Int))))
set_option maxRecDepth 100000 in
theorem c37 (g : Gh) (number : Int) {r : (Option Node) × Int} (hS : o37 number = r) :
    Ctr Try.prog 37 [vi number] g [] (fun v ψ o => ∃ (vr_0 : Value) (kr_0 : Option Bk), v = Value.tuple #[vr_0, vi r.2] ∧ o = [kr_0] ∧ (r.1 = none → vr_0 = Value.pointer none) ∧ (∀ d, r.1 = some d → ∃ (bd : Nat) (Ad_input : Option Addr) (cd_input : Nat) (Ad_heard_input : Option Addr) (cd_heard_input : Nat) (Ad_set__in_ : Option Addr) (cd_set__in_ : Nat), vr_0 = Value.pointer (some ⟨bd, 0, none⟩) ∧ kr_0 = some ⟨bd, 131, [vi d.number, vy d.role, vi d.steps, vi d.alone, vy d.next_, vi d.cycle, vs Ad_input d.input cd_input, vy d.heard.role, vi d.heard.steps, vi d.heard.want.base, vi d.heard.want.have_, vs Ad_heard_input d.heard.input cd_heard_input, vb d.is_, vb d.fresh, vi d.set_.steps, vi d.set_.cycle, vb d.set_.fresh, vs Ad_set__in_ d.set_.in_ cd_set__in_, vb d.has, vi d.told.steps, vy d.told.targets.lateral, vy d.told.targets.vertical, vy d.told.targets.phase, vi d.told.targets.bank, vi d.told.targets.speed, vi d.told.targets.alt, vi d.told.targets.vs]⟩ ∧ Arr ψ tyU8 Ad_input cd_input d.input ∧ Arr ψ tyU8 Ad_heard_input cd_heard_input d.heard.input ∧ Arr ψ tyU8 Ad_set__in_ cd_set__in_ d.set_.in_)) := by
  unfold o37 at hS
  refine xFn Try.f37 (Try.f37.body.getD .skip) 13 ?_
  refine xSq ?_
  refine xRg ?_
  refine xB 2 [] [(0, vi number)] ?_
  refine xRe ?_
  refine wpq_then ?_
  refine xSq ?_
  refine xSq ?_
  refine xRg ?_
  refine xB 3 [] [(0, vi number), (6, vb (number != 1))] ?_
  refine wpr_grp 6 [(0, vi number), (9, vb ((number != 1) && (number != 2)))] (fun hk2 => ?_) ?_
  · refine wpq_split 6 (b := (number != 1)) (by kernel_rfl) (fun q1 => ?_) (fun q1 => ?_)
    · have q1p : ¬ (number = 1) := ne_of_bne_ q1
      refine xB 3 [] [(0, vi number), (9, vb (number != 2))] ?_
      refine wpq_re 9 (v := vb (number != 2)) (Value.bool (((number != 1) && (number != 2)))) (by kernel_rfl) (re_and1 q1) ?_
      exact wpq_sub _ (by kernel_rfl) hk2
    · have q1p : number = 1 := eq_of_bne_false_ q1
      refine xB 3 [] [(0, vi number), (9, vb false)] ?_
      refine wpq_re 9 (v := vb false) (Value.bool (((number != 1) && (number != 2)))) (by kernel_rfl) (re_and0 q1) ?_
      exact wpq_sub _ (by kernel_rfl) hk2
  · refine xRe ?_
    refine wpq_then ?_
    refine xCd (((number != 1) && (number != 2))) (fun h2 => ?_) (fun h2 => ?_)
    · have hS := cond_T h2 hS
      have h2l := (and_true_ h2).1
      have h2r := (and_true_ h2).2
      have h2lp : ¬ (number = 1) := ne_of_bne_ h2l
      have h2rp : ¬ (number = 2) := ne_of_bne_ h2r
      refine xSq ?_
      refine xRg ?_
      refine xB 2 [] [(2, vn), (3, vi 1)] ?_
      refine xRe ?_
      refine wpq_then ?_
      have eS := hS.symm
      subst eS
      exact xRet [none] [2, 3] (Gh.le.refl _) ⟨Value.pointer none, none, by kernel_rfl, by kernel_rfl, (fun _ => rfl), (fun _ h => by cases h)⟩ (fun _ _ h => h)
    · have hS := cond_F h2 hS
      refine xSk ?_
      refine wpq_then ?_
      refine xSub [(0, vi number)] ?_
      refine xSq ?_
      refine xRg ?_
      refine xB 2 [] [(11, Value.agg #[vi number, vy 1, vi 0, vi 0, vy 0, vi 0, Value.slice none 0 0, vy 0, vi 0, vi 0, vi 0, Value.slice none 0 0, vb false, vb false, vi 0, vi 0, vb false, Value.slice none 0 0, vb false, vi 0, vy 0, vy 0, vy 0, vi 0, vi 0, vi 0, vi 0])] ?_
      refine xE eB ?_
      rintro _ _ _ - ⟨b3, rfl, rfl, rfl⟩
      refine xB 2 [] [(2, vp b3 0), (3, vi 0)] ?_
      refine xRe ?_
      refine wpq_then ?_
      have eS := hS.symm
      subst eS
      exact xRet [some 0] [2, 3] (Gh.le.refl _) ⟨vp b3 0, some ⟨b3, 131, (cNode (⟨number, 1, 0, 0, 0, 0, ([] : List UInt8), (⟨0, 0, (⟨0, 0⟩ : Want), ([] : List UInt8)⟩ : Heard), false, false, (⟨0, 0, false, ([] : List UInt8)⟩ : Sett), false, (⟨0, (⟨0, 0, 0, 0, 0, 0, 0⟩ : Targets)⟩ : Result)⟩ : Node) none 0 none 0 none 0)⟩, by kernel_rfl, by kernel_rfl, (fun h => by cases h), (fun _ h => by cases h; exact ⟨b3, none, 0, none, 0, none, 0, rfl, rfl, Arr.nil, Arr.nil, Arr.nil⟩)⟩ (fun _ _ h => h)

def o38 (n : Node) (steps : Int) : Node × Int :=
  (cond (((n.next_ != 0) || (n.role != 1))) ((n, (8 : Int))) (cond ((decide (steps < 1) || decide (steps > 4611686018427387904))) ((n, (1 : Int))) ((({ n with role := 3, steps := steps }), (0 : Int)))))
set_option maxRecDepth 100000 in
theorem c38 (g : Gh) (b_n : Nat) (n : Node) (An_input : Option Addr) (cn_input : Nat) (An_heard_input : Option Addr) (cn_heard_input : Nat) (An_set__in_ : Option Addr) (cn_set__in_ : Nat) (steps : Int) (fn_input : Arr g.b tyU8 An_input cn_input n.input) (fn_heard_input : Arr g.b tyU8 An_heard_input cn_heard_input n.heard.input) (fn_set__in_ : Arr g.b tyU8 An_set__in_ cn_set__in_ n.set_.in_) {r : Node × Int} (hS : o38 n steps = r) :
    Ctr Try.prog 38 [vp b_n 0, vi steps] g [some ⟨b_n, 131, (cNode n An_input cn_input An_heard_input cn_heard_input An_set__in_ cn_set__in_)⟩] (fun v ψ o => ∃ (Ao_n_input : Option Addr) (co_n_input : Nat) (Ao_n_heard_input : Option Addr) (co_n_heard_input : Nat) (Ao_n_set__in_ : Option Addr) (co_n_set__in_ : Nat), v = vi r.2 ∧ o = [some ⟨b_n, 131, (cNode r.1 Ao_n_input co_n_input Ao_n_heard_input co_n_heard_input Ao_n_set__in_ co_n_set__in_)⟩] ∧ Arr ψ tyU8 Ao_n_input co_n_input r.1.input ∧ Arr ψ tyU8 Ao_n_heard_input co_n_heard_input r.1.heard.input ∧ Arr ψ tyU8 Ao_n_set__in_ co_n_set__in_ r.1.set_.in_) := by
  unfold o38 at hS
  refine xFn Try.f38 (Try.f38.body.getD .skip) 32 ?_
  have nfn_input := fn_input.len
  have nfn_heard_input := fn_heard_input.len
  have nfn_set__in_ := fn_set__in_.len
  refine xSq ?_
  refine xRg ?_
  refine xB 1 [] [(0, vp b_n 0), (1, vi steps)] ?_
  refine xRe ?_
  refine wpq_then ?_
  refine xSq ?_
  refine xSq ?_
  refine xRg ?_
  refine xB 2 [] [(0, vp b_n 0), (1, vi steps), (6, vb false)] ?_
  refine xRe ?_
  refine wpq_then ?_
  refine xCf ?_
  refine xSk ?_
  refine wpq_then ?_
  refine xSub [(0, vp b_n 0), (1, vi steps)] ?_
  refine xSq ?_
  refine xSq ?_
  refine xRg ?_
  refine xB 6 [(3, 0)] [(0, vp b_n 0), (1, vi steps), (12, vb (n.next_ != 0))] ?_
  refine wpr_grp 12 [(0, vp b_n 0), (1, vi steps), (18, vb ((n.next_ != 0) || (n.role != 1)))] (fun hk5 => ?_) ?_
  · refine wpq_split 12 (b := (n.next_ != 0)) (by kernel_rfl) (fun q1 => ?_) (fun q1 => ?_)
    · have q1p : ¬ (n.next_ = 0) := ne_of_bne_ q1
      refine xB 6 [] [(0, vp b_n 0), (1, vi steps), (18, vb true)] ?_
      refine wpq_re 18 (v := vb true) (Value.bool (((n.next_ != 0) || (n.role != 1)))) (by kernel_rfl) (re_or1 q1) ?_
      exact wpq_sub _ (by kernel_rfl) hk5
    · have q1p : n.next_ = 0 := eq_of_bne_false_ q1
      refine xB 6 [(9, 0)] [(0, vp b_n 0), (1, vi steps), (18, vb (n.role != 1))] ?_
      refine wpq_re 18 (v := vb (n.role != 1)) (Value.bool (((n.next_ != 0) || (n.role != 1)))) (by kernel_rfl) (re_or0 q1) ?_
      exact wpq_sub _ (by kernel_rfl) hk5
  · refine xRe ?_
    refine wpq_then ?_
    refine xCd (((n.next_ != 0) || (n.role != 1))) (fun h2 => ?_) (fun h2 => ?_)
    · have hS := cond_T h2 hS
      refine xSq ?_
      refine xRg ?_
      refine xB 1 [] [(4, vi 8)] ?_
      refine xRe ?_
      refine wpq_then ?_
      have eS := hS.symm
      subst eS
      exact xRet [some 0] [4] (Gh.le.refl _) ⟨An_input, cn_input, An_heard_input, cn_heard_input, An_set__in_, cn_set__in_, by kernel_rfl, by kernel_rfl, fn_input, fn_heard_input, fn_set__in_⟩ (fun _ _ h => h)
    · have hS := cond_F h2 hS
      have h2l := (or_false_ h2).1
      have h2r := (or_false_ h2).2
      have h2lp : n.next_ = 0 := eq_of_bne_false_ h2l
      have h2rp : n.role = 1 := eq_of_bne_false_ h2r
      refine xSk ?_
      refine wpq_then ?_
      refine xSub [(0, vp b_n 0), (1, vi steps)] ?_
      refine xSq ?_
      refine xSq ?_
      refine xRg ?_
      refine xB 3 [] [(0, vp b_n 0), (1, vi steps), (21, vb (decide (steps < 1)))] ?_
      refine wpr_grp 6 [(0, vp b_n 0), (1, vi steps), (24, vb (decide (steps < 1) || decide (steps > 4611686018427387904)))] (fun hk2 => ?_) ?_
      · refine wpq_split 21 (b := decide (steps < 1)) (by kernel_rfl) (fun q3 => ?_) (fun q3 => ?_)
        · have q3p := of_decide_eq_true q3
          refine xB 3 [] [(0, vp b_n 0), (1, vi steps), (24, vb true)] ?_
          refine wpq_re 24 (v := vb true) (Value.bool ((decide (steps < 1) || decide (steps > 4611686018427387904)))) (by kernel_rfl) (re_or1 q3) ?_
          exact wpq_sub _ (by kernel_rfl) hk2
        · have q3p := of_decide_eq_false q3
          refine xB 3 [] [(0, vp b_n 0), (1, vi steps), (24, vb (decide (steps > 4611686018427387904)))] ?_
          refine wpq_re 24 (v := vb (decide (steps > 4611686018427387904))) (Value.bool ((decide (steps < 1) || decide (steps > 4611686018427387904)))) (by kernel_rfl) (re_or0 q3) ?_
          exact wpq_sub _ (by kernel_rfl) hk2
      · refine xRe ?_
        refine wpq_then ?_
        refine xCd ((decide (steps < 1) || decide (steps > 4611686018427387904))) (fun h4 => ?_) (fun h4 => ?_)
        · have hS := cond_T h4 hS
          refine xSq ?_
          refine xRg ?_
          refine xB 1 [] [(4, vi 1)] ?_
          refine xRe ?_
          refine wpq_then ?_
          have eS := hS.symm
          subst eS
          exact xRet [some 0] [4] (Gh.le.refl _) ⟨An_input, cn_input, An_heard_input, cn_heard_input, An_set__in_, cn_set__in_, by kernel_rfl, by kernel_rfl, fn_input, fn_heard_input, fn_set__in_⟩ (fun _ _ h => h)
        · have hS := cond_F h4 hS
          have h4l := (or_false_ h4).1
          have h4r := (or_false_ h4).2
          have h4lp := of_decide_eq_false h4l
          have h4rp := of_decide_eq_false h4r
          refine xSk ?_
          refine wpq_then ?_
          refine xSub [(0, vp b_n 0), (1, vi steps)] ?_
          refine xSq ?_
          refine xRg ?_
          refine xBo 9 [(5, 0), (8, 0)] [some ⟨b_n, 131, (cNode ({ n with role := 3, steps := steps }) An_input cn_input An_heard_input cn_heard_input An_set__in_ cn_set__in_)⟩] [] ?_
          refine xRe ?_
          refine wpq_then ?_
          refine xSq ?_
          refine xRg ?_
          refine xB 1 [] [(4, vi 0)] ?_
          refine xRe ?_
          refine wpq_then ?_
          have eS := hS.symm
          subst eS
          exact xRet [some 0] [4] (Gh.le.refl _) ⟨An_input, cn_input, An_heard_input, cn_heard_input, An_set__in_, cn_set__in_, by kernel_rfl, by kernel_rfl, fn_input, fn_heard_input, fn_set__in_⟩ (fun _ _ h => h)

def o14 (p : List UInt8) (n : Int) : Option ((List UInt8)) :=
  (grd (decide (0 ≤ (minI (((p).length : Nat) : Int) n))) (some (((List.take ((minI (((p).length : Nat) : Int) n)).toNat p) : List UInt8))))
set_option maxRecDepth 100000 in
theorem c14 (g : Gh) (p : List UInt8) (Ap : Option Addr) (cp : Nat) (n : Int) (fp : Arr g.b tyU8 Ap cp p) {r : (List UInt8)} (hS : o14 p n = some r) :
    Ctr Try.prog 14 [vs Ap p cp, vi n] g [] (fun v ψ o => ∃ (Ar_0 : Option Addr) (cr_0 : Nat), v = vs Ar_0 r cr_0 ∧ o = [] ∧ Arr ψ tyU8 Ar_0 cr_0 r) := by
  unfold o14 at hS
  refine xFn Try.f14 (Try.f14.body.getD .skip) 11 ?_
  have nfp := fp.len
  refine xSq ?_
  refine xRg ?_
  refine xB 1 [] [(0, vs Ap p cp), (1, vi n)] ?_
  refine xRe ?_
  refine wpq_then ?_
  refine xSq ?_
  refine xRg ?_
  have z1 := minI_spec (((p).length : Nat) : Int) n
  obtain ⟨q1, hS⟩ := grd_T hS
  have q1p := of_decide_eq_true q1
  have ncapf2 := fp.cap
  have f2 : Arr g.b tyU8 (offA Ap cp 0 1) (cp - 0) (List.take ((minI (((p).length : Nat) : Int) n)).toNat p) := fp.cut_to ((minI (((p).length : Nat) : Int) n)).toNat (by omega)
  have nf2 := f2.len
  have hlf2 : ((minI (((p).length : Nat) : Int) n)).toNat - 0 = ((List.take ((minI (((p).length : Nat) : Int) n)).toNat p)).length := by simp only [List.length_take, List.length_drop] <;> omega
  have hvf2 : ((((List.take ((minI (((p).length : Nat) : Int) n)).toNat p)).length : Nat) : Int) = (minI (((p).length : Nat) : Int) n) - 0 := by omega
  refine xB 5 [] [(5, vs Ap p cp), (9, vi (minI (((p).length : Nat) : Int) n))] ?_
  refine xV (qSl (m := 1) (A := Ap) (len := (p).length) (c := cp) 0 ((minI (((p).length : Nat) : Int) n)).toNat none (some (minI (((p).length : Nat) : Int) n)) ((List.take ((minI (((p).length : Nat) : Int) n)).toNat p)).length rfl (show _ = _ by omega) (by omega) (by omega) hlf2) ?_
  refine xB 1 [] [(4, vs (offA Ap cp 0 1) (List.take ((minI (((p).length : Nat) : Int) n)).toNat p) (cp - 0))] ?_
  refine xRe ?_
  refine wpq_then ?_
  have eS := (Option.some.inj hS).symm
  subst eS
  exact xRet [] [4] (Gh.le.refl _) ⟨(offA Ap cp 0 1), (cp - 0), by kernel_rfl, by kernel_rfl, f2⟩ (fun _ _ h => h)

def o69 (n : Node) (c : Int) : Int :=
  (cond ((n.next_ != c)) ((8 : Int)) ((0 : Int)))
set_option maxRecDepth 100000 in
theorem c69 (g : Gh) (a_n : Addr) (n : Node) (An_input : Option Addr) (cn_input : Nat) (An_heard_input : Option Addr) (cn_heard_input : Nat) (An_set__in_ : Option Addr) (cn_set__in_ : Nat) (c : Int) (hc_n : Cells g.r a_n (cNode n An_input cn_input An_heard_input cn_heard_input An_set__in_ cn_set__in_)) (fn_input : Arr g.r tyU8 An_input cn_input n.input) (fn_heard_input : Arr g.r tyU8 An_heard_input cn_heard_input n.heard.input) (fn_set__in_ : Arr g.r tyU8 An_set__in_ cn_set__in_ n.set_.in_) {r : Int} (hS : o69 n c = r) :
    Ctr Try.prog 69 [Value.pointer (some a_n), vy c] g [] (fun v ψ o => v = vi r ∧ o = []) := by
  unfold o69 at hS
  refine xFn Try.f69 (Try.f69.body.getD .skip) 13 ?_
  have nfn_input := fn_input.len
  have nfn_heard_input := fn_heard_input.len
  have nfn_set__in_ := fn_set__in_.len
  refine xSq ?_
  refine xRg ?_
  refine xB 1 [] [(0, Value.pointer (some a_n)), (1, vy c)] ?_
  refine xRe ?_
  refine wpq_then ?_
  refine xSq ?_
  refine xSq ?_
  refine xRg ?_
  refine xB 2 [] [(0, Value.pointer (some a_n)), (1, vy c), (6, vb false)] ?_
  refine xRe ?_
  refine wpq_then ?_
  refine xCf ?_
  refine xSk ?_
  refine wpq_then ?_
  refine xSub [(0, Value.pointer (some a_n)), (1, vy c)] ?_
  refine xSq ?_
  refine xSq ?_
  refine xRg ?_
  refine xB 3 [] [(1, vy c), (9, Value.pointer (some (Addr.add a_n 4)))] ?_
  refine xV (qLdP a_n 4 hc_n) ?_
  refine xB 2 [] [(12, vb (n.next_ != c))] ?_
  refine xRe ?_
  refine wpq_then ?_
  refine xCd ((n.next_ != c)) (fun h1 => ?_) (fun h1 => ?_)
  · have hS := cond_T h1 hS
    have h1p : ¬ (n.next_ = c) := ne_of_bne_ h1
    refine xSq ?_
    refine xRg ?_
    refine xB 1 [] [(4, vi 8)] ?_
    refine xRe ?_
    refine wpq_then ?_
    have eS := hS.symm
    subst eS
    exact xRet [] [4] (Gh.le.refl _) ⟨by kernel_rfl, by kernel_rfl⟩ (fun _ _ h => h)
  · have hS := cond_F h1 hS
    have h1p : n.next_ = c := eq_of_bne_false_ h1
    refine xSk ?_
    refine wpq_then ?_
    refine xSub [] ?_
    refine xSq ?_
    refine xRg ?_
    refine xB 1 [] [(4, vi 0)] ?_
    refine xRe ?_
    refine wpq_then ?_
    have eS := hS.symm
    subst eS
    exact xRet [] [4] (Gh.le.refl _) ⟨by kernel_rfl, by kernel_rfl⟩ (fun _ _ h => h)

def o25 (h : Heard) : Option ((List UInt8) × Int) :=
  (cond ((((((decide (h.role < 1) || decide (h.role > 3)) || decide (h.steps < 0)) || decide (h.want.base < 0)) || decide (h.want.have_ < 0)) || decide (h.want.have_ > 65535))) (some ((([] : List UInt8), (1 : Int)))) (cond (decide ((((h.input).length : Nat) : Int) > 400)) (some ((([] : List UInt8), (3 : Int)))) (grd (decide (0 ≤ h.role ∧ h.role ≤ 255)) (bindO (τ := (List UInt8)) (o53 (([(u8 h.role)] : List UInt8) : List UInt8) (h.steps : Int) (8 : Int)) fun y11 => (bindO (τ := (List UInt8)) (o53 (y11 : List UInt8) (h.want.base : Int) (8 : Int)) fun y14 => (bindO (τ := (List UInt8)) (o53 (y14 : List UInt8) (h.want.have_ : Int) (2 : Int)) fun y17 => (grd (decide (((y17).length + (h.input).length) * 1 ≤ 140737488355328)) (some ((((y17 ++ h.input) : List UInt8), (0 : Int)))))))))))
set_option maxRecDepth 100000 in
theorem c25 (g : Gh) (h : Heard) (Ah_input : Option Addr) (ch_input : Nat) (fh_input : Arr g.r tyU8 Ah_input ch_input h.input) {r : (List UInt8) × Int} (hS : o25 h = some r) :
    Ctr Try.prog 25 [Value.agg #[vy h.role, vi h.steps, vi h.want.base, vi h.want.have_, vs Ah_input h.input ch_input]] g [] (fun v ψ o => ∃ (Ar_0 : Option Addr) (cr_0 : Nat) (kr_0 : Option Bk), v = Value.tuple #[vs Ar_0 r.1 cr_0, vi r.2] ∧ o = [kr_0] ∧ Buf ψ tyU8 5 (.slice Ar_0 (r.1).length cr_0) kr_0 r.1) := by
  unfold o25 at hS
  refine xFn Try.f25 (Try.f25.body.getD .skip) 59 ?_
  have nfh_input := fh_input.len
  refine xSq ?_
  refine xRg ?_
  refine xE eB ?_
  rintro _ _ _ - ⟨b1, rfl, rfl, rfl⟩
  refine xB 2 [] [(1, vp b1 0)] ?_
  refine xRe ?_
  refine wpq_then ?_
  refine xSq ?_
  refine xSq ?_
  refine xRg ?_
  refine xB 4 [(1, 0)] [(1, vp b1 0), (8, vb (decide (h.role < 1)))] ?_
  refine wpr_grp 8 [(1, vp b1 0), (12, vb (decide (h.role < 1) || decide (h.role > 3)))] (fun hk3 => ?_) ?_
  · refine wpq_split 8 (b := decide (h.role < 1)) (by kernel_rfl) (fun q2 => ?_) (fun q2 => ?_)
    · have q2p := of_decide_eq_true q2
      refine xB 4 [] [(1, vp b1 0), (12, vb true)] ?_
      refine wpq_re 12 (v := vb true) (Value.bool ((decide (h.role < 1) || decide (h.role > 3)))) (by kernel_rfl) (re_or1 q2) ?_
      exact wpq_sub _ (by kernel_rfl) hk3
    · have q2p := of_decide_eq_false q2
      refine xB 4 [(5, 0)] [(1, vp b1 0), (12, vb (decide (h.role > 3)))] ?_
      refine wpq_re 12 (v := vb (decide (h.role > 3))) (Value.bool ((decide (h.role < 1) || decide (h.role > 3)))) (by kernel_rfl) (re_or0 q2) ?_
      exact wpq_sub _ (by kernel_rfl) hk3
  · refine xB 1 [] [(1, vp b1 0), (13, vb (decide (h.role < 1) || decide (h.role > 3)))] ?_
    refine wpr_grp 13 [(1, vp b1 0), (17, vb ((decide (h.role < 1) || decide (h.role > 3)) || decide (h.steps < 0)))] (fun hk8 => ?_) ?_
    · refine wpq_split 13 (b := (decide (h.role < 1) || decide (h.role > 3))) (by kernel_rfl) (fun q3 => ?_) (fun q3 => ?_)
      · refine xB 4 [] [(1, vp b1 0), (17, vb true)] ?_
        refine wpq_re 17 (v := vb true) (Value.bool (((decide (h.role < 1) || decide (h.role > 3)) || decide (h.steps < 0)))) (by kernel_rfl) (re_or1 q3) ?_
        exact wpq_sub _ (by kernel_rfl) hk8
      · have q3l := (or_false_ q3).1
        have q3r := (or_false_ q3).2
        have q3lp := of_decide_eq_false q3l
        have q3rp := of_decide_eq_false q3r
        refine xB 4 [(10, 0)] [(1, vp b1 0), (17, vb (decide (h.steps < 0)))] ?_
        refine wpq_re 17 (v := vb (decide (h.steps < 0))) (Value.bool (((decide (h.role < 1) || decide (h.role > 3)) || decide (h.steps < 0)))) (by kernel_rfl) (re_or0 q3) ?_
        exact wpq_sub _ (by kernel_rfl) hk8
    · refine xB 1 [] [(1, vp b1 0), (18, vb ((decide (h.role < 1) || decide (h.role > 3)) || decide (h.steps < 0)))] ?_
      refine wpr_grp 19 [(1, vp b1 0), (23, vb (((decide (h.role < 1) || decide (h.role > 3)) || decide (h.steps < 0)) || decide (h.want.base < 0)))] (fun hk13 => ?_) ?_
      · refine wpq_split 18 (b := ((decide (h.role < 1) || decide (h.role > 3)) || decide (h.steps < 0))) (by kernel_rfl) (fun q4 => ?_) (fun q4 => ?_)
        · refine xB 5 [] [(1, vp b1 0), (23, vb true)] ?_
          refine wpq_re 23 (v := vb true) (Value.bool ((((decide (h.role < 1) || decide (h.role > 3)) || decide (h.steps < 0)) || decide (h.want.base < 0)))) (by kernel_rfl) (re_or1 q4) ?_
          exact wpq_sub _ (by kernel_rfl) hk13
        · have q4l := (or_false_ q4).1
          have q4r := (or_false_ q4).2
          have q4ll := (or_false_ q4l).1
          have q4lr := (or_false_ q4l).2
          have q4llp := of_decide_eq_false q4ll
          have q4lrp := of_decide_eq_false q4lr
          have q4rp := of_decide_eq_false q4r
          refine xB 5 [(16, 0)] [(1, vp b1 0), (23, vb (decide (h.want.base < 0)))] ?_
          refine wpq_re 23 (v := vb (decide (h.want.base < 0))) (Value.bool ((((decide (h.role < 1) || decide (h.role > 3)) || decide (h.steps < 0)) || decide (h.want.base < 0)))) (by kernel_rfl) (re_or0 q4) ?_
          exact wpq_sub _ (by kernel_rfl) hk13
      · refine xB 1 [] [(1, vp b1 0), (24, vb (((decide (h.role < 1) || decide (h.role > 3)) || decide (h.steps < 0)) || decide (h.want.base < 0)))] ?_
        refine wpr_grp 25 [(1, vp b1 0), (29, vb ((((decide (h.role < 1) || decide (h.role > 3)) || decide (h.steps < 0)) || decide (h.want.base < 0)) || decide (h.want.have_ < 0)))] (fun hk19 => ?_) ?_
        · refine wpq_split 24 (b := (((decide (h.role < 1) || decide (h.role > 3)) || decide (h.steps < 0)) || decide (h.want.base < 0))) (by kernel_rfl) (fun q5 => ?_) (fun q5 => ?_)
          · refine xB 5 [] [(1, vp b1 0), (29, vb true)] ?_
            refine wpq_re 29 (v := vb true) (Value.bool (((((decide (h.role < 1) || decide (h.role > 3)) || decide (h.steps < 0)) || decide (h.want.base < 0)) || decide (h.want.have_ < 0)))) (by kernel_rfl) (re_or1 q5) ?_
            exact wpq_sub _ (by kernel_rfl) hk19
          · have q5l := (or_false_ q5).1
            have q5r := (or_false_ q5).2
            have q5ll := (or_false_ q5l).1
            have q5lr := (or_false_ q5l).2
            have q5lll := (or_false_ q5ll).1
            have q5llr := (or_false_ q5ll).2
            have q5lllp := of_decide_eq_false q5lll
            have q5llrp := of_decide_eq_false q5llr
            have q5lrp := of_decide_eq_false q5lr
            have q5rp := of_decide_eq_false q5r
            refine xB 5 [(22, 0)] [(1, vp b1 0), (29, vb (decide (h.want.have_ < 0)))] ?_
            refine wpq_re 29 (v := vb (decide (h.want.have_ < 0))) (Value.bool (((((decide (h.role < 1) || decide (h.role > 3)) || decide (h.steps < 0)) || decide (h.want.base < 0)) || decide (h.want.have_ < 0)))) (by kernel_rfl) (re_or0 q5) ?_
            exact wpq_sub _ (by kernel_rfl) hk19
        · refine xB 1 [] [(1, vp b1 0), (30, vb ((((decide (h.role < 1) || decide (h.role > 3)) || decide (h.steps < 0)) || decide (h.want.base < 0)) || decide (h.want.have_ < 0)))] ?_
          refine wpr_grp 31 [(1, vp b1 0), (35, vb (((((decide (h.role < 1) || decide (h.role > 3)) || decide (h.steps < 0)) || decide (h.want.base < 0)) || decide (h.want.have_ < 0)) || decide (h.want.have_ > 65535)))] (fun hk25 => ?_) ?_
          · refine wpq_split 30 (b := ((((decide (h.role < 1) || decide (h.role > 3)) || decide (h.steps < 0)) || decide (h.want.base < 0)) || decide (h.want.have_ < 0))) (by kernel_rfl) (fun q6 => ?_) (fun q6 => ?_)
            · refine xB 5 [] [(1, vp b1 0), (35, vb true)] ?_
              refine wpq_re 35 (v := vb true) (Value.bool ((((((decide (h.role < 1) || decide (h.role > 3)) || decide (h.steps < 0)) || decide (h.want.base < 0)) || decide (h.want.have_ < 0)) || decide (h.want.have_ > 65535)))) (by kernel_rfl) (re_or1 q6) ?_
              exact wpq_sub _ (by kernel_rfl) hk25
            · have q6l := (or_false_ q6).1
              have q6r := (or_false_ q6).2
              have q6ll := (or_false_ q6l).1
              have q6lr := (or_false_ q6l).2
              have q6lll := (or_false_ q6ll).1
              have q6llr := (or_false_ q6ll).2
              have q6llll := (or_false_ q6lll).1
              have q6lllr := (or_false_ q6lll).2
              have q6llllp := of_decide_eq_false q6llll
              have q6lllrp := of_decide_eq_false q6lllr
              have q6llrp := of_decide_eq_false q6llr
              have q6lrp := of_decide_eq_false q6lr
              have q6rp := of_decide_eq_false q6r
              refine xB 5 [(28, 0)] [(1, vp b1 0), (35, vb (decide (h.want.have_ > 65535)))] ?_
              refine wpq_re 35 (v := vb (decide (h.want.have_ > 65535))) (Value.bool ((((((decide (h.role < 1) || decide (h.role > 3)) || decide (h.steps < 0)) || decide (h.want.base < 0)) || decide (h.want.have_ < 0)) || decide (h.want.have_ > 65535)))) (by kernel_rfl) (re_or0 q6) ?_
              exact wpq_sub _ (by kernel_rfl) hk25
          · refine xRe ?_
            refine wpq_then ?_
            refine xCd ((((((decide (h.role < 1) || decide (h.role > 3)) || decide (h.steps < 0)) || decide (h.want.base < 0)) || decide (h.want.have_ < 0)) || decide (h.want.have_ > 65535))) (fun h7 => ?_) (fun h7 => ?_)
            · have hS := cond_T h7 hS
              refine xSq ?_
              refine xRg ?_
              refine xB 2 [] [(2, Value.slice none 0 0), (3, vi 1)] ?_
              refine xRe ?_
              refine wpq_then ?_
              have eS := (Option.some.inj hS).symm
              subst eS
              exact xRet [none] [2, 3] (Gh.le.refl _) ⟨none, 0, none, by kernel_rfl, by kernel_rfl, Buf.nil⟩ (fun _ _ h => h)
            · have hS := cond_F h7 hS
              have h7l := (or_false_ h7).1
              have h7r := (or_false_ h7).2
              have h7ll := (or_false_ h7l).1
              have h7lr := (or_false_ h7l).2
              have h7lll := (or_false_ h7ll).1
              have h7llr := (or_false_ h7ll).2
              have h7llll := (or_false_ h7lll).1
              have h7lllr := (or_false_ h7lll).2
              have h7lllll := (or_false_ h7llll).1
              have h7llllr := (or_false_ h7llll).2
              have h7lllllp := of_decide_eq_false h7lllll
              have h7llllrp := of_decide_eq_false h7llllr
              have h7lllrp := of_decide_eq_false h7lllr
              have h7llrp := of_decide_eq_false h7llr
              have h7lrp := of_decide_eq_false h7lr
              have h7rp := of_decide_eq_false h7r
              refine xSk ?_
              refine wpq_then ?_
              refine xSub [(1, vp b1 0)] ?_
              refine xSq ?_
              refine xSq ?_
              refine xRg ?_
              refine xB 4 [(1, 0)] [(1, vp b1 0), (39, vb (decide ((((h.input).length : Nat) : Int) > 400)))] ?_
              refine xRe ?_
              refine wpq_then ?_
              refine xCd (decide ((((h.input).length : Nat) : Int) > 400)) (fun h8 => ?_) (fun h8 => ?_)
              · have hS := cond_T h8 hS
                have h8p := of_decide_eq_true h8
                refine xSq ?_
                refine xRg ?_
                refine xB 2 [] [(2, Value.slice none 0 0), (3, vi 3)] ?_
                refine xRe ?_
                refine wpq_then ?_
                have eS := (Option.some.inj hS).symm
                subst eS
                exact xRet [none] [2, 3] (Gh.le.refl _) ⟨none, 0, none, by kernel_rfl, by kernel_rfl, Buf.nil⟩ (fun _ _ h => h)
              · have hS := cond_F h8 hS
                have h8p := of_decide_eq_false h8
                refine xSk ?_
                refine wpq_then ?_
                refine xSub [(1, vp b1 0)] ?_
                refine xSq ?_
                refine xRg ?_
                refine xB 2 [(1, 0)] [(1, vp b1 0), (41, vy h.role)] ?_
                obtain ⟨q9, hS⟩ := grd_T hS
                have q9p := of_decide_eq_true q9
                refine xE (eBs (T := tyU8) (p := g.b) (et := 5) (xs := ([(u8 h.role)] : List UInt8)) (reps_cons (c := [vy h.role]) (u8_rep (by omega)) reps_nil) (by simp)) ?_
                rintro _ _ _ - ⟨A10, c10, k10, rfl, rfl, rfl, h10⟩
                refine xB 2 [(4, 1)] [(1, vp b1 0), (42, vs A10 ([(u8 h.role)] : List UInt8) c10), (44, vi h.steps)] ?_
                obtain ⟨y11, hy11, hS⟩ := bindO_T hS
                refine xE (eC 1 (fun g' lr eb ln => c53 g' (([(u8 h.role)] : List UInt8) : List UInt8) A10 c10 k10 (h.steps : Int) (8 : Int) (by rw [eb]; exact h10) hy11)) ?_
                rintro _ g12 _ e13 ⟨_, rfl, A11_0, c11_0, k11_0, rfl, rfl, h11_0⟩
                have nh11_0 := h11_0.len
                refine xB 1 [] [(1, vp b1 0), (4, vs A11_0 y11 c11_0)] ?_
                refine xRe ?_
                refine wpq_then ?_
                refine xSq ?_
                refine xDr 0 [3, 7] [9] [some ⟨b1, 50, (cHeard h Ah_input ch_input)⟩] 10 (fun RG => ?_) (fun _ _ _ _ _ h => h)
                refine xT 3 [0, 1, 2, 3, 5, 6, 7] [(3, 0), (7, 0)] [some 1] [(1, vp b1 0), (4, vs A11_0 y11 c11_0), (46, vs A11_0 y11 c11_0), (49, vi h.want.base), (53, vi h.want.have_)] RG (Psi.le.refl _) ?_
                obtain ⟨y14, hy14, hS⟩ := bindO_T hS
                refine xO1 (lds := [3, 7]) 4 ?_
                refine xIe (lds := [3, 7]) (Psi.le.refl _) (eC 1 (fun g' lr eb ln => c53 g' (y11 : List UInt8) A11_0 c11_0 k11_0 (h.want.base : Int) (8 : Int) (by rw [eb]; exact h11_0) hy14)) ?_
                rintro _ g15 _ e16 ⟨_, rfl, A14_0, c14_0, k14_0, rfl, rfl, h14_0⟩
                refine kk [some 1] ?_
                have nh14_0 := h14_0.len
                obtain ⟨y17, hy17, hS⟩ := bindO_T hS
                refine xO1 (lds := [3, 7]) 8 ?_
                refine xIe (lds := [3, 7]) e16.r (eC 1 (fun g' lr eb ln => c53 g' (y14 : List UInt8) A14_0 c14_0 k14_0 (h.want.have_ : Int) (2 : Int) (by rw [eb]; exact h14_0) hy17)) ?_
                rintro _ g18 _ e19 ⟨_, rfl, A17_0, c17_0, k17_0, rfl, rfl, h17_0⟩
                refine kk [some 1] ?_
                have nh17_0 := h17_0.len
                refine xT 0 [9] [] [some 1] [(1, vp b1 0), (4, vs A17_0 y17 c17_0)] RG (e16.trans e19).r ?_
                refine xAe (lds := [3, 7]) ?_
                refine wpq_then ?_
                refine xSq ?_
                refine xRg ?_
                refine xB 3 [(2, 1)] [(55, vs A17_0 y17 c17_0), (57, vs Ah_input h.input ch_input)] ?_
                have fh_input := fh_input.mono (e13.trans (e16.trans e19)).r
                obtain ⟨nw20, hp20, hs20⟩ := fh_input.srcR
                obtain ⟨q21, hS⟩ := grd_T hS
                have q21p := of_decide_eq_true q21
                refine xE (eApp (T := tyU8) (p := g18.b) (et := 5) (bytes := 1) (xs := (y17 : List UInt8)) (ys := (h.input : List UInt8)) 0 h17_0 rfl (fun w hs => hs20 w _ hs) (flatU8.reps hp20) (by first | omega | (simp only [List.length_cons, List.length_nil] at *; omega)) (by first | omega | (simp only [List.length_cons, List.length_nil] at *; omega))) ?_
                rintro _ _ _ - ⟨A20, c20, k20, rfl, rfl, rfl, h20⟩
                have nh20 := h20.len
                have hz20 : ((y17 ++ h.input) : List UInt8).length = (y17).length + (h.input).length := List.length_append
                refine xB 2 [] [(2, vs A20 (y17 ++ h.input) c20), (3, vi 0)] ?_
                refine xRe ?_
                refine wpq_then ?_
                have eS := (Option.some.inj hS).symm
                subst eS
                exact xRet [some 0] [2, 3] (e13.trans (e16.trans e19)) ⟨A20, c20, k20, by kernel_rfl, by kernel_rfl, h20⟩ (fun _ _ h => h)

def o70 (n : Node) (label : Int) (p : List UInt8) : Frame :=
  ((⟨label, (IntKind.u8.wrap n.number), n.cycle, p⟩ : Frame))
set_option maxRecDepth 100000 in
theorem c70 (g : Gh) (a_n : Addr) (n : Node) (An_input : Option Addr) (cn_input : Nat) (An_heard_input : Option Addr) (cn_heard_input : Nat) (An_set__in_ : Option Addr) (cn_set__in_ : Nat) (label : Int) (p : List UInt8) (Ap : Option Addr) (cp : Nat) (hc_n : Cells g.r a_n (cNode n An_input cn_input An_heard_input cn_heard_input An_set__in_ cn_set__in_)) (fn_input : Arr g.r tyU8 An_input cn_input n.input) (fn_heard_input : Arr g.r tyU8 An_heard_input cn_heard_input n.heard.input) (fn_set__in_ : Arr g.r tyU8 An_set__in_ cn_set__in_ n.set_.in_) (fp : Arr g.b tyU8 Ap cp p) {r : Frame} (hS : o70 n label p = r) :
    Ctr Try.prog 70 [Value.pointer (some a_n), vy label, vs Ap p cp] g [] (fun v ψ o => ∃ (Ar_0_payload : Option Addr) (cr_0_payload : Nat), v = Value.agg #[vy r.label, vy r.from_, vi r.cycle, vs Ar_0_payload r.payload cr_0_payload] ∧ o = [] ∧ Arr ψ tyU8 Ar_0_payload cr_0_payload r.payload) := by
  unfold o70 at hS
  refine xFn Try.f70 (Try.f70.body.getD .skip) 19 ?_
  have nfn_input := fn_input.len
  have nfn_heard_input := fn_heard_input.len
  have nfn_set__in_ := fn_set__in_.len
  have nfp := fp.len
  refine xSq ?_
  refine xRg ?_
  refine xE eB ?_
  rintro _ _ _ - ⟨b1, rfl, rfl, rfl⟩
  refine xRe ?_
  refine wpq_then ?_
  refine xSq ?_
  refine xDr 0 [4, 9] [12] [] 13 (fun RG => ?_) (fun _ _ _ _ _ h => h)
  refine xT 9 [0, 1, 2, 3] [] [] [(0, Value.pointer (some a_n)), (2, vs Ap p cp), (6, vp b1 0), (7, vy label), (10, Value.pointer (some a_n))] RG (Psi.le.refl _) ?_
  refine xTv 4 [] RG (Psi.le.refl _) (qLdP a_n 0 hc_n) ?_
  refine xT 4 [5, 6, 7, 8] [] [] [(2, vs Ap p cp), (6, vp b1 0), (7, vy label), (12, vy (IntKind.u8.wrap n.number)), (15, Value.pointer (some (Addr.add a_n 5)))] RG (Psi.le.refl _) ?_
  refine xTv 9 [] RG (Psi.le.refl _) (qLdP a_n 5 hc_n) ?_
  refine xT 1 [10, 11] [] [] [(6, vp b1 0), (18, Value.agg #[vy label, vy (IntKind.u8.wrap n.number), vi n.cycle, vs Ap p cp])] RG (Psi.le.refl _) ?_
  refine xO1 (lds := [4, 9]) 12 ?_
  refine xId (lds := [4, 9]) (Psi.le.refl _) (eStL b1 0 0) ?_
  rintro _ _ _ - ⟨rfl, rfl⟩
  refine kf ?_
  refine xAe (lds := [4, 9]) ?_
  refine wpq_then ?_
  refine xSub [(6, vp b1 0)] ?_
  have eS := hS.symm
  subst eS
  exact xRetC [] [(6, 0)] (Gh.le.refl _) ⟨Ap, cp, by kernel_rfl, by kernel_rfl, fp⟩ (fun _ _ h => h)

def o46 (n : Node) (cycle : Int) (input : List UInt8) (w_ : Want) : Option (Node × Frame × Int) :=
  (letJ (τ := Int) (o69 n (0 : Int)) fun y3 => (cond ((y3 != 0)) (some ((n, (⟨0, 0, 0, ([] : List UInt8)⟩ : Frame), (y3 : Int)))) (cond (decide (cycle < 0)) (some ((n, (⟨0, 0, 0, ([] : List UInt8)⟩ : Frame), (1 : Int)))) (bindO (τ := (List UInt8) × Int) (o25 ({ n with want := w_, input := input })) fun y8 => (cond ((y8.2 != 0)) (some ((n, (⟨0, 0, 0, ([] : List UInt8)⟩ : Frame), (y8.2 : Int)))) (letJ (τ := (List UInt8)) (o56 (input : List UInt8)) fun y12 => (letJ (τ := Frame) (o70 (⟨n.number, n.role, n.steps, n.alone, 1, cycle, y12, (⟨0, 0, (⟨0, 0⟩ : Want), ([] : List UInt8)⟩ : Heard), false, n.fresh, (⟨0, 0, false, ([] : List UInt8)⟩ : Sett), false, (⟨0, (⟨0, 0, 0, 0, 0, 0, 0⟩ : Targets)⟩ : Result)⟩ : Node) (1 : Int) (y8.1 : List UInt8)) fun y18 => (some (((⟨n.number, n.role, n.steps, n.alone, 1, cycle, y12, (⟨0, 0, (⟨0, 0⟩ : Want), ([] : List UInt8)⟩ : Heard), false, n.fresh, (⟨0, 0, false, ([] : List UInt8)⟩ : Sett), false, (⟨0, (⟨0, 0, 0, 0, 0, 0, 0⟩ : Targets)⟩ : Result)⟩ : Node), y18, (0 : Int)))))))))))
set_option maxRecDepth 100000 in
theorem c46 (g : Gh) (b_n : Nat) (n : Node) (An_input : Option Addr) (cn_input : Nat) (An_heard_input : Option Addr) (cn_heard_input : Nat) (An_set__in_ : Option Addr) (cn_set__in_ : Nat) (cycle : Int) (input : List UInt8) (Ainput : Option Addr) (cinput : Nat) (w_ : Want) (fn_input : Arr g.b tyU8 An_input cn_input n.input) (fn_heard_input : Arr g.b tyU8 An_heard_input cn_heard_input n.heard.input) (fn_set__in_ : Arr g.b tyU8 An_set__in_ cn_set__in_ n.set_.in_) (finput : Arr g.r tyU8 Ainput cinput input) {r : Node × Frame × Int} (hS : o46 n cycle input w_ = some r) :
    Ctr Try.prog 46 [vp b_n 0, vi cycle, vs Ainput input cinput, Value.agg #[vi w_.base, vi w_.have_]] g [some ⟨b_n, 131, (cNode n An_input cn_input An_heard_input cn_heard_input An_set__in_ cn_set__in_)⟩] (fun v ψ o => ∃ (Ao_n_input : Option Addr) (co_n_input : Nat) (Ao_n_heard_input : Option Addr) (co_n_heard_input : Nat) (Ao_n_set__in_ : Option Addr) (co_n_set__in_ : Nat) (Ar_0_payload : Option Addr) (cr_0_payload : Nat), v = Value.tuple #[Value.agg #[vy r.2.1.label, vy r.2.1.from_, vi r.2.1.cycle, vs Ar_0_payload r.2.1.payload cr_0_payload], vi r.2.2] ∧ o = [some ⟨b_n, 131, (cNode r.1 Ao_n_input co_n_input Ao_n_heard_input co_n_heard_input Ao_n_set__in_ co_n_set__in_)⟩] ∧ Arr ψ tyU8 Ao_n_input co_n_input r.1.input ∧ Arr ψ tyU8 Ao_n_heard_input co_n_heard_input r.1.heard.input ∧ Arr ψ tyU8 Ao_n_set__in_ co_n_set__in_ r.1.set_.in_ ∧ Arr ψ tyU8 Ar_0_payload cr_0_payload r.2.1.payload) := by
  unfold o46 at hS
  refine xFn Try.f46 (Try.f46.body.getD .skip) 74 ?_
  have nfn_input := fn_input.len
  have nfn_heard_input := fn_heard_input.len
  have nfn_set__in_ := fn_set__in_.len
  have nfinput := finput.len
  refine xSq ?_
  refine xRg ?_
  refine xE eB ?_
  rintro _ _ _ - ⟨b1, rfl, rfl, rfl⟩
  refine xE eB ?_
  rintro _ _ _ - ⟨b2, rfl, rfl, rfl⟩
  refine xB 1 [] [(0, vp b_n 0), (1, vi cycle), (2, vs Ainput input cinput), (7, vp b1 0), (8, vp b2 0)] ?_
  refine xRe ?_
  refine wpq_then ?_
  refine xSq ?_
  refine xSq ?_
  refine xRg ?_
  refine xB 1 [] [(0, vp b_n 0), (1, vi cycle), (2, vs Ainput input cinput), (7, vp b1 0), (8, vp b2 0), (13, vp b_n 0)] ?_
  obtain ⟨y3, hy3, hS⟩ := letJ_T hS
  refine xE (eC 0 (fun g' lr eb ln => c69 g' ⟨b_n, 0, none⟩ n An_input cn_input An_heard_input cn_heard_input An_set__in_ cn_set__in_ (0 : Int) (cells_lent' 2 b_n 0 (cNode n An_input cn_input An_heard_input cn_heard_input An_set__in_ cn_set__in_) ln) ((fn_input.mono g.br).mono lr) ((fn_heard_input.mono g.br).mono lr) ((fn_set__in_.mono g.br).mono lr) hy3)) ?_
  rintro _ g4 _ e5 ⟨_, rfl, rfl, rfl⟩
  refine xB 1 [] [(0, vp b_n 0), (1, vi cycle), (2, vs Ainput input cinput), (7, vp b1 0), (8, vp b2 0), (10, vi y3)] ?_
  refine xRe ?_
  refine wpq_then ?_
  refine xSq ?_
  refine xRg ?_
  refine xB 2 [] [(0, vp b_n 0), (1, vi cycle), (2, vs Ainput input cinput), (7, vp b1 0), (8, vp b2 0), (10, vi y3), (16, vb (y3 != 0))] ?_
  refine xRe ?_
  refine wpq_then ?_
  refine xCd ((y3 != 0)) (fun h6 => ?_) (fun h6 => ?_)
  · have hS := cond_T h6 hS
    have h6p : ¬ (y3 = 0) := ne_of_bne_ h6
    refine xSq ?_
    refine xRg ?_
    refine xBo 4 [(2, 0)] [some ⟨b2, 100, (cFrame (⟨0, 0, 0, ([] : List UInt8)⟩ : Frame) none 0)⟩, some ⟨b1, 48, [vi w_.base, vi w_.have_]⟩, some ⟨b_n, 131, (cNode n An_input cn_input An_heard_input cn_heard_input An_set__in_ cn_set__in_)⟩] [(8, vp b2 0), (9, vi y3)] ?_
    refine xRe ?_
    refine wpq_then ?_
    have fn_input := fn_input.mono e5.b
    have fn_heard_input := fn_heard_input.mono e5.b
    have fn_set__in_ := fn_set__in_.mono e5.b
    have eS := (Option.some.inj hS).symm
    subst eS
    exact xRetC [some 2] [(8, 0)] e5 ⟨An_input, cn_input, An_heard_input, cn_heard_input, An_set__in_, cn_set__in_, none, 0, by kernel_rfl, by kernel_rfl, fn_input, fn_heard_input, fn_set__in_, Arr.nil⟩ (fun _ _ h => h)
  · have hS := cond_F h6 hS
    have h6p : y3 = 0 := eq_of_bne_false_ h6
    refine xSk ?_
    refine wpq_then ?_
    refine xSub [(0, vp b_n 0), (1, vi cycle), (2, vs Ainput input cinput), (7, vp b1 0), (8, vp b2 0)] ?_
    refine xSq ?_
    refine xSq ?_
    refine xRg ?_
    refine xB 2 [] [(0, vp b_n 0), (1, vi cycle), (2, vs Ainput input cinput), (7, vp b1 0), (8, vp b2 0), (20, vb (decide (cycle < 0)))] ?_
    refine xRe ?_
    refine wpq_then ?_
    refine xCd (decide (cycle < 0)) (fun h7 => ?_) (fun h7 => ?_)
    · have hS := cond_T h7 hS
      have h7p := of_decide_eq_true h7
      refine xSq ?_
      refine xRg ?_
      refine xBo 3 [(1, 0)] [some ⟨b2, 100, (cFrame (⟨0, 0, 0, ([] : List UInt8)⟩ : Frame) none 0)⟩, some ⟨b1, 48, [vi w_.base, vi w_.have_]⟩, some ⟨b_n, 131, (cNode n An_input cn_input An_heard_input cn_heard_input An_set__in_ cn_set__in_)⟩] [(8, vp b2 0), (9, vi 1)] ?_
      refine xRe ?_
      refine wpq_then ?_
      have fn_input := fn_input.mono e5.b
      have fn_heard_input := fn_heard_input.mono e5.b
      have fn_set__in_ := fn_set__in_.mono e5.b
      have eS := (Option.some.inj hS).symm
      subst eS
      exact xRetC [some 2] [(8, 0)] e5 ⟨An_input, cn_input, An_heard_input, cn_heard_input, An_set__in_, cn_set__in_, none, 0, by kernel_rfl, by kernel_rfl, fn_input, fn_heard_input, fn_set__in_, Arr.nil⟩ (fun _ _ h => h)
    · have hS := cond_F h7 hS
      have h7p := of_decide_eq_false h7
      refine xSk ?_
      refine wpq_then ?_
      refine xSub [(0, vp b_n 0), (1, vi cycle), (2, vs Ainput input cinput), (7, vp b1 0), (8, vp b2 0)] ?_
      refine xSq ?_
      refine xDr 0 [3, 7, 8] [10, 15, 16] [some ⟨b2, 100, (cFrame (⟨0, 0, 0, ([] : List UInt8)⟩ : Frame) none 0)⟩, some ⟨b1, 48, [vi w_.base, vi w_.have_]⟩, some ⟨b_n, 131, (cNode n An_input cn_input An_heard_input cn_heard_input An_set__in_ cn_set__in_)⟩] 17 (fun RG => ?_) (fun _ _ _ _ _ h => h)
      refine xT 6 [0, 1, 2, 3, 4, 5, 6, 7, 8, 9, 10] [(3, 2), (7, 2), (8, 1)] [some 0, some 1, some 2] [(0, vp b_n 0), (1, vi cycle), (2, vs Ainput input cinput), (8, vp b2 0), (33, Value.agg #[vy n.role, vi n.steps, vi w_.base, vi w_.have_, vs Ainput input cinput])] RG (Psi.le.refl _) ?_
      have finput := finput.mono e5.r
      obtain ⟨y8, hy8, hS⟩ := bindO_T hS
      refine xO1 (lds := [3, 7, 8]) 11 ?_
      refine xIe (lds := [3, 7, 8]) (Psi.le.refl _) (eC 0 (fun g' lr eb ln => c25 g' ({ n with want := w_, input := input }) Ainput cinput (finput.mono lr) hy8)) ?_
      rintro _ g9 _ e10 ⟨_, rfl, A8_0, c8_0, k8_0, rfl, rfl, h8_0⟩
      refine kk [some 1, some 2, some 3] ?_
      have nh8_0 := h8_0.len
      refine xT 0 [12, 13, 14, 15, 16] [] [some 1, some 2, some 3] [(0, vp b_n 0), (1, vi cycle), (2, vs Ainput input cinput), (8, vp b2 0), (11, vs A8_0 y8.1 c8_0), (12, vi y8.2)] RG e10.r ?_
      refine xAe (lds := [3, 7, 8]) ?_
      refine wpq_then ?_
      refine xSq ?_
      refine xSq ?_
      refine xRg ?_
      refine xB 2 [] [(0, vp b_n 0), (1, vi cycle), (2, vs Ainput input cinput), (8, vp b2 0), (11, vs A8_0 y8.1 c8_0), (12, vi y8.2), (38, vb (y8.2 != 0))] ?_
      refine xRe ?_
      refine wpq_then ?_
      refine xCd ((y8.2 != 0)) (fun h11 => ?_) (fun h11 => ?_)
      · have hS := cond_T h11 hS
        have h11p : ¬ (y8.2 = 0) := ne_of_bne_ h11
        refine xSq ?_
        refine xRg ?_
        refine xBo 4 [(2, 1)] [k8_0, some ⟨b2, 100, (cFrame (⟨0, 0, 0, ([] : List UInt8)⟩ : Frame) none 0)⟩, some ⟨b1, 48, [vi w_.base, vi w_.have_]⟩, some ⟨b_n, 131, (cNode n An_input cn_input An_heard_input cn_heard_input An_set__in_ cn_set__in_)⟩] [(8, vp b2 0), (9, vi y8.2)] ?_
        refine xRe ?_
        refine wpq_then ?_
        have fn_input := fn_input.mono (e5.trans e10).b
        have fn_heard_input := fn_heard_input.mono (e5.trans e10).b
        have fn_set__in_ := fn_set__in_.mono (e5.trans e10).b
        have eS := (Option.some.inj hS).symm
        subst eS
        exact xRetC [some 3] [(8, 1)] (e5.trans e10) ⟨An_input, cn_input, An_heard_input, cn_heard_input, An_set__in_, cn_set__in_, none, 0, by kernel_rfl, by kernel_rfl, fn_input, fn_heard_input, fn_set__in_, Arr.nil⟩ (fun _ _ h => h)
      · have hS := cond_F h11 hS
        have h11p : y8.2 = 0 := eq_of_bne_false_ h11
        refine xSk ?_
        refine wpq_then ?_
        refine xSub [(0, vp b_n 0), (1, vi cycle), (2, vs Ainput input cinput), (8, vp b2 0), (11, vs A8_0 y8.1 c8_0)] ?_
        refine xSq ?_
        refine xRg ?_
        refine xB 5 [] [(0, vp b_n 0), (8, vp b2 0), (11, vs A8_0 y8.1 c8_0), (41, vp b_n 0), (42, vp b_n 0), (43, vp b_n 0), (44, vi cycle), (45, vs Ainput input cinput)] ?_
        have finput := finput.mono e10.r
        obtain ⟨y12, hy12, hS⟩ := letJ_T hS
        refine xE (eC 0 (fun g' lr eb ln => c56 g' (input : List UInt8) Ainput cinput (finput.mono lr) hy12)) ?_
        rintro _ g13 _ e14 ⟨_, rfl, A12_0, c12_0, k12_0, rfl, rfl, h12_0⟩
        have nh12_0 := h12_0.len
        refine xBo 9 [(8, 4), (11, 4), (14, 4)] [k12_0, k8_0, some ⟨b2, 100, (cFrame (⟨0, 0, 0, ([] : List UInt8)⟩ : Frame) none 0)⟩, some ⟨b1, 48, [vi w_.base, vi w_.have_]⟩, some ⟨b_n, 131, (cNode ({ n with next_ := 1, cycle := cycle, input := y12 }) A12_0 c12_0 An_heard_input cn_heard_input An_set__in_ cn_set__in_)⟩] [(0, vp b_n 0), (8, vp b2 0), (11, vs A8_0 y8.1 c8_0)] ?_
        refine xRe ?_
        refine wpq_then ?_
        refine xSq ?_
        refine xRg ?_
        refine xBo 23 [(10, 4), (13, 4), (16, 4), (19, 4), (22, 4)] [k12_0, k8_0, some ⟨b2, 100, (cFrame (⟨0, 0, 0, ([] : List UInt8)⟩ : Frame) none 0)⟩, some ⟨b1, 48, [vi w_.base, vi w_.have_]⟩, some ⟨b_n, 131, (cNode (⟨n.number, n.role, n.steps, n.alone, 1, cycle, y12, (⟨0, 0, (⟨0, 0⟩ : Want), ([] : List UInt8)⟩ : Heard), false, n.fresh, (⟨0, 0, false, ([] : List UInt8)⟩ : Sett), false, (⟨0, (⟨0, 0, 0, 0, 0, 0, 0⟩ : Targets)⟩ : Result)⟩ : Node) A12_0 c12_0 none 0 none 0)⟩] [(0, vp b_n 0), (8, vp b2 0), (11, vs A8_0 y8.1 c8_0)] ?_
        refine xRe ?_
        refine wpq_then ?_
        refine xSq ?_
        refine xRg ?_
        refine xB 2 [] [(8, vp b2 0), (71, vp b_n 0), (72, vs A8_0 y8.1 c8_0)] ?_
        have h8_0 := h8_0.mono e14.b
        refine wpq_freeze 1 (by kernel_rfl) h8_0 (fun g15 e16 f17 => ?_)
        have h12_0 := h12_0.mono e16.b
        obtain ⟨y18, hy18, hS⟩ := letJ_T hS
        refine xE (eC 0 (fun g' lr eb ln => c70 g' ⟨b_n, 0, none⟩ (⟨n.number, n.role, n.steps, n.alone, 1, cycle, y12, (⟨0, 0, (⟨0, 0⟩ : Want), ([] : List UInt8)⟩ : Heard), false, n.fresh, (⟨0, 0, false, ([] : List UInt8)⟩ : Sett), false, (⟨0, (⟨0, 0, 0, 0, 0, 0, 0⟩ : Targets)⟩ : Result)⟩ : Node) A12_0 c12_0 none 0 none 0 (1 : Int) (y8.1 : List UInt8) A8_0 c8_0 (cells_lent' 4 b_n 0 (cNode (⟨n.number, n.role, n.steps, n.alone, 1, cycle, y12, (⟨0, 0, (⟨0, 0⟩ : Want), ([] : List UInt8)⟩ : Heard), false, n.fresh, (⟨0, 0, false, ([] : List UInt8)⟩ : Sett), false, (⟨0, (⟨0, 0, 0, 0, 0, 0, 0⟩ : Targets)⟩ : Result)⟩ : Node) A12_0 c12_0 none 0 none 0) ln) (arr_of_buf h12_0 (Psi.le_b eb) (lentk 0 (by kernel_rfl) ln)) Arr.nil Arr.nil (by rw [eb]; exact f17) hy18)) ?_
        rintro _ g19 _ e20 ⟨_, rfl, A18_0_payload, c18_0_payload, rfl, rfl, f18_0_payload⟩
        have nf18_0_payload := f18_0_payload.len
        refine xBo 2 [(3, 2)] [k12_0, none, some ⟨b2, 100, (cFrame y18 A18_0_payload c18_0_payload)⟩, some ⟨b1, 48, [vi w_.base, vi w_.have_]⟩, some ⟨b_n, 131, (cNode (⟨n.number, n.role, n.steps, n.alone, 1, cycle, y12, (⟨0, 0, (⟨0, 0⟩ : Want), ([] : List UInt8)⟩ : Heard), false, n.fresh, (⟨0, 0, false, ([] : List UInt8)⟩ : Sett), false, (⟨0, (⟨0, 0, 0, 0, 0, 0, 0⟩ : Targets)⟩ : Result)⟩ : Node) A12_0 c12_0 none 0 none 0)⟩] [(8, vp b2 0), (9, vi 0)] ?_
        refine xRe ?_
        refine wpq_then ?_
        have h12_0 := h12_0.mono e20.b
        refine wpq_freeze 0 (by kernel_rfl) h12_0 (fun g21 e22 f23 => ?_)
        have f18_0_payload := f18_0_payload.mono e22.b
        have eS := (Option.some.inj hS).symm
        subst eS
        exact xRetC [some 4] [(8, 2)] (e5.trans (e10.trans (e14.trans (e16.trans (e20.trans e22))))) ⟨A12_0, c12_0, none, 0, none, 0, A18_0_payload, c18_0_payload, by kernel_rfl, by kernel_rfl, f23, Arr.nil, Arr.nil, f18_0_payload⟩ (fun _ _ h => h)

def o71 (n : Node) (f : Frame) (came : Bool) (label : Int) : Bool :=
  (((((came && (f.label == label)) && (f.from_ == (IntKind.u8.wrap (IntKind.i64.wrap (3 - n.number))))) && (f.cycle == n.cycle))))
set_option maxRecDepth 100000 in
theorem c71 (g : Gh) (a_n : Addr) (n : Node) (An_input : Option Addr) (cn_input : Nat) (An_heard_input : Option Addr) (cn_heard_input : Nat) (An_set__in_ : Option Addr) (cn_set__in_ : Nat) (f : Frame) (Af_payload : Option Addr) (cf_payload : Nat) (came : Bool) (label : Int) (hc_n : Cells g.r a_n (cNode n An_input cn_input An_heard_input cn_heard_input An_set__in_ cn_set__in_)) (fn_input : Arr g.r tyU8 An_input cn_input n.input) (fn_heard_input : Arr g.r tyU8 An_heard_input cn_heard_input n.heard.input) (fn_set__in_ : Arr g.r tyU8 An_set__in_ cn_set__in_ n.set_.in_) (ff_payload : Arr g.r tyU8 Af_payload cf_payload f.payload) {r : Bool} (hS : o71 n f came label = r) :
    Ctr Try.prog 71 [Value.pointer (some a_n), Value.agg #[vy f.label, vy f.from_, vi f.cycle, vs Af_payload f.payload cf_payload], vb came, vy label] g [] (fun v ψ o => v = vb r ∧ o = []) := by
  unfold o71 at hS
  refine xFn Try.f71 (Try.f71.body.getD .skip) 36 ?_
  have nfn_input := fn_input.len
  have nfn_heard_input := fn_heard_input.len
  have nfn_set__in_ := fn_set__in_.len
  have nff_payload := ff_payload.len
  refine xSq ?_
  refine xRg ?_
  refine xE eB ?_
  rintro _ _ _ - ⟨b1, rfl, rfl, rfl⟩
  refine xB 1 [] [(0, Value.pointer (some a_n)), (2, vb came), (3, vy label), (5, vp b1 0)] ?_
  refine xRe ?_
  refine wpq_then ?_
  refine xSq ?_
  refine xDr 0 [3, 9, 13, 20, 24] [27] [some ⟨b1, 100, (cFrame f Af_payload cf_payload)⟩] 28 (fun RG => ?_) (fun _ _ _ _ _ h => h)
  refine xT 26 [0, 1] [] [some 0] [(0, Value.pointer (some a_n)), (3, vy label), (5, vp b1 0), (10, vb came)] RG (Psi.le.refl _) ?_
  refine wpa_grp 21 [true, true, true, true, true, true, true, false, false, false, false, false, false, false, false, false, false, false, false, false, false, false, false, false, false, false, false, false] [(0, Value.pointer (some a_n)), (5, vp b1 0), (15, vb (came && (f.label == label)))] (fun hk1 => ?_) ?_
  · refine wpq_split 10 (b := came) (by kernel_rfl) (fun q2 => ?_) (fun q2 => ?_)
    · refine xT 21 [2, 3, 4, 5, 6] [(3, 0)] [some 0] [(0, Value.pointer (some a_n)), (5, vp b1 0), (15, vb (f.label == label))] RG (Psi.le.refl _) ?_
      refine wpq_re 15 (v := vb (f.label == label)) (Value.bool ((came && (f.label == label)))) (by kernel_rfl) (re_and1 q2) ?_
      exact wpq_sub _ (by kernel_rfl) hk1
    · refine xT 21 [2, 3, 4, 5, 6] [] [some 0] [(0, Value.pointer (some a_n)), (5, vp b1 0), (15, vb false)] RG (Psi.le.refl _) ?_
      refine wpq_re 15 (v := vb false) (Value.bool ((came && (f.label == label)))) (by kernel_rfl) (re_and0 q2) ?_
      exact wpq_sub _ (by kernel_rfl) hk1
  · refine xT 20 [7] [] [some 0] [(0, Value.pointer (some a_n)), (5, vp b1 0), (16, vb (came && (f.label == label)))] RG (Psi.le.refl _) ?_
    refine wpa_grp 10 [true, true, true, true, true, true, true, true, true, true, true, true, true, true, true, true, true, true, false, false, false, false, false, false, false, false, false, false] [(0, Value.pointer (some a_n)), (5, vp b1 0), (26, vb ((came && (f.label == label)) && (f.from_ == (IntKind.u8.wrap (IntKind.i64.wrap (3 - n.number))))))] (fun hk7 => ?_) ?_
    · refine wpq_split 16 (b := (came && (f.label == label))) (by kernel_rfl) (fun q3 => ?_) (fun q3 => ?_)
      · have q3l := (and_true_ q3).1
        have q3r := (and_true_ q3).2
        have q3rp : f.label = label := eq_of_beq q3r
        refine xT 15 [8, 9, 10, 11, 12] [(9, 0)] [some 0] [(0, Value.pointer (some a_n)), (5, vp b1 0), (16, vb true), (18, vy f.from_), (21, Value.pointer (some a_n))] RG (Psi.le.refl _) ?_
        refine xTv 13 [some 0] RG (Psi.le.refl _) (qLdP a_n 0 hc_n) ?_
        refine xT 10 [14, 15, 16, 17] [] [some 0] [(0, Value.pointer (some a_n)), (5, vp b1 0), (26, vb (f.from_ == (IntKind.u8.wrap (IntKind.i64.wrap (3 - n.number)))))] RG (Psi.le.refl _) ?_
        refine wpq_re 26 (v := vb (f.from_ == (IntKind.u8.wrap (IntKind.i64.wrap (3 - n.number))))) (Value.bool (((came && (f.label == label)) && (f.from_ == (IntKind.u8.wrap (IntKind.i64.wrap (3 - n.number))))))) (by kernel_rfl) (re_and1 q3) ?_
        exact wpq_sub _ (by kernel_rfl) hk7
      · refine xT 10 [8, 9, 10, 11, 12, 13, 14, 15, 16, 17] [] [some 0] [(0, Value.pointer (some a_n)), (5, vp b1 0), (26, vb false)] RG (Psi.le.refl _) ?_
        refine wpq_re 26 (v := vb false) (Value.bool (((came && (f.label == label)) && (f.from_ == (IntKind.u8.wrap (IntKind.i64.wrap (3 - n.number))))))) (by kernel_rfl) (re_and0 q3) ?_
        exact wpq_sub _ (by kernel_rfl) hk7
    · refine xT 9 [18] [] [some 0] [(0, Value.pointer (some a_n)), (5, vp b1 0), (27, vb ((came && (f.label == label)) && (f.from_ == (IntKind.u8.wrap (IntKind.i64.wrap (3 - n.number))))))] RG (Psi.le.refl _) ?_
      refine wpa_grp 1 [true, true, true, true, true, true, true, true, true, true, true, true, true, true, true, true, true, true, true, true, true, true, true, true, true, true, true, false] [(35, vb (((came && (f.label == label)) && (f.from_ == (IntKind.u8.wrap (IntKind.i64.wrap (3 - n.number))))) && (f.cycle == n.cycle)))] (fun hk18 => ?_) ?_
      · refine wpq_split 27 (b := ((came && (f.label == label)) && (f.from_ == (IntKind.u8.wrap (IntKind.i64.wrap (3 - n.number)))))) (by kernel_rfl) (fun q4 => ?_) (fun q4 => ?_)
        · have q4l := (and_true_ q4).1
          have q4r := (and_true_ q4).2
          have q4ll := (and_true_ q4l).1
          have q4lr := (and_true_ q4l).2
          have q4lrp : f.label = label := eq_of_beq q4lr
          have q4rp : f.from_ = (IntKind.u8.wrap (IntKind.i64.wrap (3 - n.number))) := eq_of_beq q4r
          refine xT 4 [19, 20, 21, 22, 23] [(20, 0)] [some 0] [(27, vb true), (29, vi f.cycle), (32, Value.pointer (some (Addr.add a_n 5)))] RG (Psi.le.refl _) ?_
          refine xTv 24 [some 0] RG (Psi.le.refl _) (qLdP a_n 5 hc_n) ?_
          refine xT 1 [25, 26] [] [some 0] [(35, vb (f.cycle == n.cycle))] RG (Psi.le.refl _) ?_
          refine wpq_re 35 (v := vb (f.cycle == n.cycle)) (Value.bool ((((came && (f.label == label)) && (f.from_ == (IntKind.u8.wrap (IntKind.i64.wrap (3 - n.number))))) && (f.cycle == n.cycle)))) (by kernel_rfl) (re_and1 q4) ?_
          exact wpq_sub _ (by kernel_rfl) hk18
        · refine xT 1 [19, 20, 21, 22, 23, 24, 25, 26] [] [some 0] [(35, vb false)] RG (Psi.le.refl _) ?_
          refine wpq_re 35 (v := vb false) (Value.bool ((((came && (f.label == label)) && (f.from_ == (IntKind.u8.wrap (IntKind.i64.wrap (3 - n.number))))) && (f.cycle == n.cycle)))) (by kernel_rfl) (re_and0 q4) ?_
          exact wpq_sub _ (by kernel_rfl) hk18
      · refine xT 0 [27] [] [some 0] [(8, vb (((came && (f.label == label)) && (f.from_ == (IntKind.u8.wrap (IntKind.i64.wrap (3 - n.number))))) && (f.cycle == n.cycle)))] RG (Psi.le.refl _) ?_
        refine xAe (lds := [3, 9, 13, 20, 24]) ?_
        refine wpq_then ?_
        have eS := hS.symm
        subst eS
        exact xRet [] [8] (Gh.le.refl _) ⟨by kernel_rfl, by kernel_rfl⟩ (fun _ _ h => h)

def o28 (p : List UInt8) : Option (Heard × Int) :=
  (cond ((decide ((((p).length : Nat) : Int) < 19) || decide ((((p).length : Nat) : Int) > 419))) (some (((⟨0, 0, (⟨0, 0⟩ : Want), ([] : List UInt8)⟩ : Heard), (4 : Int)))) (bindO (τ := Int) (o55 ((List.drop 1 p) : List UInt8) (8 : Int)) fun y11 => (bindO (τ := Int) (o55 ((List.drop 9 p) : List UInt8) (8 : Int)) fun y14 => (bindO (τ := Int) (o55 ((List.drop 17 p) : List UInt8) (2 : Int)) fun y17 => (letJ (τ := (List UInt8)) (o56 ((List.drop 19 p) : List UInt8)) fun y20 => (bindO (τ := (List UInt8) × Int) (o25 (⟨((List.getD p 0 0).toNat : Int), y11, (⟨y14, y17⟩ : Want), y20⟩ : Heard)) fun y216 => (cond ((y216.2 != 0)) (some (((⟨0, 0, (⟨0, 0⟩ : Want), ([] : List UInt8)⟩ : Heard), (4 : Int)))) (some (((⟨((List.getD p 0 0).toNat : Int), y11, (⟨y14, y17⟩ : Want), y20⟩ : Heard), (0 : Int)))))))))))
set_option maxRecDepth 100000 in
theorem c28 (g : Gh) (p : List UInt8) (Ap : Option Addr) (cp : Nat) (fp : Arr g.r tyU8 Ap cp p) {r : Heard × Int} (hS : o28 p = some r) :
    Ctr Try.prog 28 [vs Ap p cp] g [] (fun v ψ o => ∃ (Ar_0_input : Option Addr) (cr_0_input : Nat), v = Value.tuple #[Value.agg #[vy r.1.role, vi r.1.steps, vi r.1.want.base, vi r.1.want.have_, vs Ar_0_input r.1.input cr_0_input], vi r.2] ∧ o = [] ∧ Arr ψ tyU8 Ar_0_input cr_0_input r.1.input) := by
  unfold o28 at hS
  refine xFn Try.f28 (Try.f28.body.getD .skip) 42 ?_
  have nfp := fp.len
  refine xSq ?_
  refine xRg ?_
  refine xE eB ?_
  rintro _ _ _ - ⟨b1, rfl, rfl, rfl⟩
  refine xB 1 [] [(0, vs Ap p cp), (2, vp b1 0)] ?_
  refine xRe ?_
  refine wpq_then ?_
  refine xSq ?_
  refine xSq ?_
  refine xRg ?_
  refine xB 4 [] [(0, vs Ap p cp), (2, vp b1 0), (10, vb (decide ((((p).length : Nat) : Int) < 19)))] ?_
  refine wpr_grp 8 [(0, vs Ap p cp), (2, vp b1 0), (14, vb (decide ((((p).length : Nat) : Int) < 19) || decide ((((p).length : Nat) : Int) > 419)))] (fun hk3 => ?_) ?_
  · refine wpq_split 10 (b := decide ((((p).length : Nat) : Int) < 19)) (by kernel_rfl) (fun q2 => ?_) (fun q2 => ?_)
    · have q2p := of_decide_eq_true q2
      refine xB 4 [] [(0, vs Ap p cp), (2, vp b1 0), (14, vb true)] ?_
      refine wpq_re 14 (v := vb true) (Value.bool ((decide ((((p).length : Nat) : Int) < 19) || decide ((((p).length : Nat) : Int) > 419)))) (by kernel_rfl) (re_or1 q2) ?_
      exact wpq_sub _ (by kernel_rfl) hk3
    · have q2p := of_decide_eq_false q2
      refine xB 4 [] [(0, vs Ap p cp), (2, vp b1 0), (14, vb (decide ((((p).length : Nat) : Int) > 419)))] ?_
      refine wpq_re 14 (v := vb (decide ((((p).length : Nat) : Int) > 419))) (Value.bool ((decide ((((p).length : Nat) : Int) < 19) || decide ((((p).length : Nat) : Int) > 419)))) (by kernel_rfl) (re_or0 q2) ?_
      exact wpq_sub _ (by kernel_rfl) hk3
  · refine xRe ?_
    refine wpq_then ?_
    refine xCd ((decide ((((p).length : Nat) : Int) < 19) || decide ((((p).length : Nat) : Int) > 419))) (fun h3 => ?_) (fun h3 => ?_)
    · have hS := cond_T h3 hS
      refine xSq ?_
      refine xRg ?_
      refine xBo 3 [(1, 0)] [some ⟨b1, 50, (cHeard (⟨0, 0, (⟨0, 0⟩ : Want), ([] : List UInt8)⟩ : Heard) none 0)⟩] [(2, vp b1 0), (3, vi 4)] ?_
      refine xRe ?_
      refine wpq_then ?_
      have eS := (Option.some.inj hS).symm
      subst eS
      exact xRetC [] [(2, 0)] (Gh.le.refl _) ⟨none, 0, by kernel_rfl, by kernel_rfl, Arr.nil⟩ (fun _ _ h => h)
    · have hS := cond_F h3 hS
      have h3l := (or_false_ h3).1
      have h3r := (or_false_ h3).2
      have h3lp := of_decide_eq_false h3l
      have h3rp := of_decide_eq_false h3r
      refine xSk ?_
      refine wpq_then ?_
      refine xSub [(0, vs Ap p cp), (2, vp b1 0)] ?_
      refine xSq ?_
      refine xDr 0 [2] [18, 16] [some ⟨b1, 50, (cHeard (⟨0, 0, (⟨0, 0⟩ : Want), ([] : List UInt8)⟩ : Heard) none 0)⟩] 19 (fun RG => ?_) (fun _ _ _ _ _ h => h)
      have i5 : 0 < (p).length := by omega
      obtain ⟨ad4, cs4, hA4, hr4, hc4⟩ := fp.at_ (get_getD (d := 0) i5)
      have hr4 : cs4 = [vy ((List.getD p 0 0).toNat : Int)] := hr4
      subst hr4
      have nb4 := UInt8.toNat_lt (List.getD p 0 0)
      refine xT 18 [0] [] [some 0] [(0, vs Ap p cp), (2, vp b1 0), (16, vs Ap p cp)] RG (Psi.le.refl _) ?_
      refine xTp 1 RG (fun _ => (qIx 0 1 hA4 rfl i5)) ?_
      refine xTv 2 [some 0] RG (Psi.le.refl _) (qLdP (Addr.add ad4 (0 * 1)) 0 hc4) ?_
      have ncapf6 := fp.cap
      have f6 : Arr g.r tyU8 (offA Ap cp 1 1) (cp - 1) (List.drop 1 p) := fp.cut_from 1 (by omega)
      have nf6 := f6.len
      have hlf6 : (p).length - 1 = ((List.drop 1 p)).length := by simp only [List.length_take, List.length_drop] <;> omega
      have hvf6 : ((((List.drop 1 p)).length : Nat) : Int) = (((p).length : Nat) : Int) - 1 := by omega
      refine xT 15 [3] [] [some 0] [(0, vs Ap p cp), (2, vp b1 0), (18, vy ((List.getD p 0 0).toNat : Int)), (19, vs Ap p cp)] RG (Psi.le.refl _) ?_
      refine xTp 4 RG (fun _ => (qSl (m := 1) (A := Ap) (len := (p).length) (c := cp) 1 (p).length (some 1) none ((List.drop 1 p)).length rfl rfl (by omega) (by omega) hlf6)) ?_
      have ncapf7 := fp.cap
      have f7 : Arr g.r tyU8 (offA Ap cp 9 1) (cp - 9) (List.drop 9 p) := fp.cut_from 9 (by omega)
      have nf7 := f7.len
      have hlf7 : (p).length - 9 = ((List.drop 9 p)).length := by simp only [List.length_take, List.length_drop] <;> omega
      have hvf7 : ((((List.drop 9 p)).length : Nat) : Int) = (((p).length : Nat) : Int) - 9 := by omega
      refine xT 13 [6] [] [some 0] [(0, vs Ap p cp), (2, vp b1 0), (18, vy ((List.getD p 0 0).toNat : Int)), (20, vs (offA Ap cp 1 1) (List.drop 1 p) (cp - 1)), (22, vs Ap p cp)] RG (Psi.le.refl _) ?_
      refine xTp 7 RG (fun _ => (qSl (m := 1) (A := Ap) (len := (p).length) (c := cp) 9 (p).length (some 9) none ((List.drop 9 p)).length rfl rfl (by omega) (by omega) hlf7)) ?_
      have ncapf8 := fp.cap
      have f8 : Arr g.r tyU8 (offA Ap cp 17 1) (cp - 17) (List.drop 17 p) := fp.cut_from 17 (by omega)
      have nf8 := f8.len
      have hlf8 : (p).length - 17 = ((List.drop 17 p)).length := by simp only [List.length_take, List.length_drop] <;> omega
      have hvf8 : ((((List.drop 17 p)).length : Nat) : Int) = (((p).length : Nat) : Int) - 17 := by omega
      refine xT 11 [9] [] [some 0] [(0, vs Ap p cp), (2, vp b1 0), (18, vy ((List.getD p 0 0).toNat : Int)), (20, vs (offA Ap cp 1 1) (List.drop 1 p) (cp - 1)), (23, vs (offA Ap cp 9 1) (List.drop 9 p) (cp - 9)), (25, vs Ap p cp)] RG (Psi.le.refl _) ?_
      refine xTp 10 RG (fun _ => (qSl (m := 1) (A := Ap) (len := (p).length) (c := cp) 17 (p).length (some 17) none ((List.drop 17 p)).length rfl rfl (by omega) (by omega) hlf8)) ?_
      have ncapf9 := fp.cap
      have f9 : Arr g.r tyU8 (offA Ap cp 19 1) (cp - 19) (List.drop 19 p) := fp.cut_from 19 (by omega)
      have nf9 := f9.len
      have hlf9 : (p).length - 19 = ((List.drop 19 p)).length := by simp only [List.length_take, List.length_drop] <;> omega
      have hvf9 : ((((List.drop 19 p)).length : Nat) : Int) = (((p).length : Nat) : Int) - 19 := by omega
      refine xT 9 [13] [] [some 0] [(2, vp b1 0), (18, vy ((List.getD p 0 0).toNat : Int)), (20, vs (offA Ap cp 1 1) (List.drop 1 p) (cp - 1)), (23, vs (offA Ap cp 9 1) (List.drop 9 p) (cp - 9)), (26, vs (offA Ap cp 17 1) (List.drop 17 p) (cp - 17)), (29, vs Ap p cp)] RG (Psi.le.refl _) ?_
      refine xTp 14 RG (fun _ => (qSl (m := 1) (A := Ap) (len := (p).length) (c := cp) 19 (p).length (some 19) none ((List.drop 19 p)).length rfl rfl (by omega) (by omega) hlf9)) ?_
      obtain ⟨y11, hy11, hS⟩ := bindO_T hS
      obtain ⟨y14, hy14, hS⟩ := bindO_T hS
      obtain ⟨y17, hy17, hS⟩ := bindO_T hS
      obtain ⟨y20, hy20, hS⟩ := letJ_T hS
      refine wpa_meet (fun g own sl => ∃ (A20_0 : Option Addr) (c20_0 : Nat) (k20_0 : Option Bk) (b23 : Nat), own = [some ⟨b23, 50, (cHeard (⟨0, 0, (⟨0, 0⟩ : Want), ([] : List UInt8)⟩ : Heard) none 0)⟩, k20_0, some ⟨b1, 50, (cHeard (⟨0, 0, (⟨0, 0⟩ : Want), ([] : List UInt8)⟩ : Heard) none 0)⟩] ∧ sl = [(2, vp b1 0), (4, vp b23 0), (32, Value.agg #[vy ((List.getD p 0 0).toNat : Int), vi y11, vi y14, vi y17, vs A20_0 y20 c20_0])] ∧ Buf g.b tyU8 5 (.slice A20_0 (y20).length c20_0) k20_0 y20) 1 [true, true, true, true, true, true, true, true, true, true, true, true, true, true, true, true, true, true, false] ?_ (fun hD10 => ?_)
      · rintro g211 _ _ e212 ⟨A20_0, c20_0, k20_0, b23, rfl, rfl, h20_0⟩
        have nh20_0 := h20_0.len
        refine xO1 (lds := [2]) 18 ?_
        refine xId (lds := [2]) e212.r (eStL b23 0 0) ?_
        rintro _ _ _ - ⟨rfl, rfl⟩
        refine kf ?_
        refine xAe (lds := [2]) ?_
        refine wpq_then ?_
        refine xSub [(2, vp b1 0), (4, vp b23 0)] ?_
        refine xSq ?_
        refine xSq ?_
        refine xRg ?_
        refine xB 1 [(0, 0)] [(2, vp b1 0), (4, vp b23 0), (34, Value.agg #[vy ((List.getD p 0 0).toNat : Int), vi y11, vi y14, vi y17, vs A20_0 y20 c20_0])] ?_
        refine wpq_freeze 1 (by kernel_rfl) h20_0 (fun g213 e214 f215 => ?_)
        obtain ⟨y216, hy216, hS⟩ := bindO_T hS
        refine xE (eC 0 (fun g' lr eb ln => c25 g' (⟨((List.getD p 0 0).toNat : Int), y11, (⟨y14, y17⟩ : Want), y20⟩ : Heard) A20_0 c20_0 ((f215.mono g213.br).mono lr) hy216)) ?_
        rintro _ g217 _ e218 ⟨_, rfl, A216_0, c216_0, k216_0, rfl, rfl, h216_0⟩
        have nh216_0 := h216_0.len
        refine xB 5 [] [(2, vp b1 0), (4, vp b23 0), (6, vi y216.2)] ?_
        refine xRe ?_
        refine wpq_then ?_
        refine xSq ?_
        refine xRg ?_
        refine xB 2 [] [(2, vp b1 0), (4, vp b23 0), (39, vb (y216.2 != 0))] ?_
        refine xRe ?_
        refine wpq_then ?_
        refine xCd ((y216.2 != 0)) (fun h219 => ?_) (fun h219 => ?_)
        · have hS := cond_T h219 hS
          have h219p : ¬ (y216.2 = 0) := ne_of_bne_ h219
          refine xSq ?_
          refine xRg ?_
          refine xBo 3 [(1, 3)] [k216_0, some ⟨b23, 50, (cHeard (⟨((List.getD p 0 0).toNat : Int), y11, (⟨y14, y17⟩ : Want), y20⟩ : Heard) A20_0 c20_0)⟩, none, some ⟨b1, 50, (cHeard (⟨0, 0, (⟨0, 0⟩ : Want), ([] : List UInt8)⟩ : Heard) none 0)⟩] [(2, vp b1 0), (3, vi 4)] ?_
          refine xRe ?_
          refine wpq_then ?_
          have eS := (Option.some.inj hS).symm
          subst eS
          exact xRetC [] [(2, 3)] (e212.trans (e214.trans e218)) ⟨none, 0, by kernel_rfl, by kernel_rfl, Arr.nil⟩ (fun _ _ h => h)
        · have hS := cond_F h219 hS
          have h219p : y216.2 = 0 := eq_of_bne_false_ h219
          refine xSk ?_
          refine wpq_then ?_
          refine xSub [(2, vp b1 0), (4, vp b23 0)] ?_
          refine xSq ?_
          refine xRg ?_
          refine xBo 3 [(0, 1), (1, 3)] [k216_0, some ⟨b23, 50, (cHeard (⟨((List.getD p 0 0).toNat : Int), y11, (⟨y14, y17⟩ : Want), y20⟩ : Heard) A20_0 c20_0)⟩, none, some ⟨b1, 50, (cHeard (⟨((List.getD p 0 0).toNat : Int), y11, (⟨y14, y17⟩ : Want), y20⟩ : Heard) A20_0 c20_0)⟩] [(2, vp b1 0), (3, vi 0)] ?_
          refine xRe ?_
          refine wpq_then ?_
          have f215 := f215.mono e218.b
          have eS := (Option.some.inj hS).symm
          subst eS
          exact xRetC [] [(2, 3)] (e212.trans (e214.trans e218)) ⟨A20_0, c20_0, by kernel_rfl, by kernel_rfl, f215⟩ (fun _ _ h => h)
      · refine xO2 (lds := [2]) 5 17 ?_ ?_
        · refine xIe (lds := [2]) (Psi.le.refl _) (eC 0 (fun g' lr eb ln => c55 g' ((List.drop 1 p) : List UInt8) (offA Ap cp 1 1) (cp - 1) (8 : Int) (f6.mono lr) hy11)) ?_
          rintro _ g221 _ e222 ⟨_, rfl, rfl, rfl⟩
          refine kk [some 0] ?_
          refine xO2 (lds := [2]) 8 17 ?_ ?_
          · have f7 := f7.mono e222.r
            refine xIe (lds := [2]) e222.r (eC 0 (fun g' lr eb ln => c55 g' ((List.drop 9 p) : List UInt8) (offA Ap cp 9 1) (cp - 9) (8 : Int) (f7.mono lr) hy14)) ?_
            rintro _ g224 _ e225 ⟨_, rfl, rfl, rfl⟩
            refine kk [some 0] ?_
            refine xO2 (lds := [2]) 11 17 ?_ ?_
            · have f8 := f8.mono (e222.trans e225).r
              refine xIe (lds := [2]) (e222.trans e225).r (eC 0 (fun g' lr eb ln => c55 g' ((List.drop 17 p) : List UInt8) (offA Ap cp 17 1) (cp - 17) (2 : Int) (f8.mono lr) hy17)) ?_
              rintro _ g227 _ e228 ⟨_, rfl, rfl, rfl⟩
              refine kk [some 0] ?_
              refine xT 4 [12] [] [some 0] [(2, vp b1 0), (18, vy ((List.getD p 0 0).toNat : Int)), (21, vi y11), (28, Value.agg #[vi y14, vi y17]), (30, vs (offA Ap cp 19 1) (List.drop 19 p) (cp - 19))] RG (e222.trans (e225.trans e228)).r ?_
              refine xO2 (lds := [2]) 15 17 ?_ ?_
              · have f9 := f9.mono (e222.trans (e225.trans e228)).r
                refine xIe (lds := [2]) (e222.trans (e225.trans e228)).r (eC 0 (fun g' lr eb ln => c56 g' ((List.drop 19 p) : List UInt8) (offA Ap cp 19 1) (cp - 19) (f9.mono lr) hy20)) ?_
                rintro _ g230 _ e231 ⟨_, rfl, A20_0, c20_0, k20_0, rfl, rfl, h20_0⟩
                refine kk [some 1] ?_
                have nh20_0 := h20_0.len
                refine xT 2 [16] [] [some 1] [(2, vp b1 0), (32, Value.agg #[vy ((List.getD p 0 0).toNat : Int), vi y11, vi y14, vi y17, vs A20_0 y20 c20_0])] RG (e222.trans (e225.trans (e228.trans e231))).r ?_
                refine xO1 (lds := [2]) 17 ?_
                refine xIe (lds := [2]) (e222.trans (e225.trans (e228.trans e231))).r eB ?_
                rintro _ _ _ - ⟨b232, rfl, rfl, rfl⟩
                refine kk [some 2] ?_
                refine xSub [(2, vp b1 0), (4, vp b232 0), (32, Value.agg #[vy ((List.getD p 0 0).toNat : Int), vi y11, vi y14, vi y17, vs A20_0 y20 c20_0])] ?_
                exact hD10 _ _ _ (e222.trans (e225.trans (e228.trans e231))) ⟨A20_0, c20_0, k20_0, b232, by kernel_rfl, by kernel_rfl, h20_0⟩
              · refine xIe (lds := [2]) (e222.trans (e225.trans e228)).r eB ?_
                rintro _ _ _ - ⟨b233, rfl, rfl, rfl⟩
                refine kk [some 1] ?_
                have f9 := f9.mono (e222.trans (e225.trans e228)).r
                refine xO1 (lds := [2]) 15 ?_
                refine xIe (lds := [2]) (e222.trans (e225.trans e228)).r (eC 0 (fun g' lr eb ln => c56 g' ((List.drop 19 p) : List UInt8) (offA Ap cp 19 1) (cp - 19) (f9.mono lr) hy20)) ?_
                rintro _ g235 _ e236 ⟨_, rfl, A20_0, c20_0, k20_0, rfl, rfl, h20_0⟩
                refine kk [some 2] ?_
                have nh20_0 := h20_0.len
                refine xT 1 [16] [] [some 2] [(2, vp b1 0), (4, vp b233 0), (32, Value.agg #[vy ((List.getD p 0 0).toNat : Int), vi y11, vi y14, vi y17, vs A20_0 y20 c20_0])] RG (e222.trans (e225.trans (e228.trans e236))).r ?_
                refine xSel [some 1, some 0, some 2] ?_
                refine xSub [(2, vp b1 0), (4, vp b233 0), (32, Value.agg #[vy ((List.getD p 0 0).toNat : Int), vi y11, vi y14, vi y17, vs A20_0 y20 c20_0])] ?_
                exact hD10 _ _ _ (e222.trans (e225.trans (e228.trans e236))) ⟨A20_0, c20_0, k20_0, b233, by kernel_rfl, by kernel_rfl, h20_0⟩
            · refine xIe (lds := [2]) (e222.trans e225).r eB ?_
              rintro _ _ _ - ⟨b237, rfl, rfl, rfl⟩
              refine kk [some 1] ?_
              have f8 := f8.mono (e222.trans e225).r
              refine xO1 (lds := [2]) 11 ?_
              refine xIe (lds := [2]) (e222.trans e225).r (eC 0 (fun g' lr eb ln => c55 g' ((List.drop 17 p) : List UInt8) (offA Ap cp 17 1) (cp - 17) (2 : Int) (f8.mono lr) hy17)) ?_
              rintro _ g239 _ e240 ⟨_, rfl, rfl, rfl⟩
              refine kk [some 1] ?_
              refine xT 3 [12] [] [some 1] [(2, vp b1 0), (4, vp b237 0), (18, vy ((List.getD p 0 0).toNat : Int)), (21, vi y11), (28, Value.agg #[vi y14, vi y17]), (30, vs (offA Ap cp 19 1) (List.drop 19 p) (cp - 19))] RG (e222.trans (e225.trans e240)).r ?_
              have f9 := f9.mono (e222.trans (e225.trans e240)).r
              refine xO1 (lds := [2]) 15 ?_
              refine xIe (lds := [2]) (e222.trans (e225.trans e240)).r (eC 0 (fun g' lr eb ln => c56 g' ((List.drop 19 p) : List UInt8) (offA Ap cp 19 1) (cp - 19) (f9.mono lr) hy20)) ?_
              rintro _ g242 _ e243 ⟨_, rfl, A20_0, c20_0, k20_0, rfl, rfl, h20_0⟩
              refine kk [some 2] ?_
              have nh20_0 := h20_0.len
              refine xT 1 [16] [] [some 2] [(2, vp b1 0), (4, vp b237 0), (32, Value.agg #[vy ((List.getD p 0 0).toNat : Int), vi y11, vi y14, vi y17, vs A20_0 y20 c20_0])] RG (e222.trans (e225.trans (e240.trans e243))).r ?_
              refine xSel [some 1, some 0, some 2] ?_
              refine xSub [(2, vp b1 0), (4, vp b237 0), (32, Value.agg #[vy ((List.getD p 0 0).toNat : Int), vi y11, vi y14, vi y17, vs A20_0 y20 c20_0])] ?_
              exact hD10 _ _ _ (e222.trans (e225.trans (e240.trans e243))) ⟨A20_0, c20_0, k20_0, b237, by kernel_rfl, by kernel_rfl, h20_0⟩
          · refine xIe (lds := [2]) e222.r eB ?_
            rintro _ _ _ - ⟨b244, rfl, rfl, rfl⟩
            refine kk [some 1] ?_
            have f7 := f7.mono e222.r
            refine xO1 (lds := [2]) 8 ?_
            refine xIe (lds := [2]) e222.r (eC 0 (fun g' lr eb ln => c55 g' ((List.drop 9 p) : List UInt8) (offA Ap cp 9 1) (cp - 9) (8 : Int) (f7.mono lr) hy14)) ?_
            rintro _ g246 _ e247 ⟨_, rfl, rfl, rfl⟩
            refine kk [some 1] ?_
            have f8 := f8.mono (e222.trans e247).r
            refine xO1 (lds := [2]) 11 ?_
            refine xIe (lds := [2]) (e222.trans e247).r (eC 0 (fun g' lr eb ln => c55 g' ((List.drop 17 p) : List UInt8) (offA Ap cp 17 1) (cp - 17) (2 : Int) (f8.mono lr) hy17)) ?_
            rintro _ g249 _ e250 ⟨_, rfl, rfl, rfl⟩
            refine kk [some 1] ?_
            refine xT 3 [12] [] [some 1] [(2, vp b1 0), (4, vp b244 0), (18, vy ((List.getD p 0 0).toNat : Int)), (21, vi y11), (28, Value.agg #[vi y14, vi y17]), (30, vs (offA Ap cp 19 1) (List.drop 19 p) (cp - 19))] RG (e222.trans (e247.trans e250)).r ?_
            have f9 := f9.mono (e222.trans (e247.trans e250)).r
            refine xO1 (lds := [2]) 15 ?_
            refine xIe (lds := [2]) (e222.trans (e247.trans e250)).r (eC 0 (fun g' lr eb ln => c56 g' ((List.drop 19 p) : List UInt8) (offA Ap cp 19 1) (cp - 19) (f9.mono lr) hy20)) ?_
            rintro _ g252 _ e253 ⟨_, rfl, A20_0, c20_0, k20_0, rfl, rfl, h20_0⟩
            refine kk [some 2] ?_
            have nh20_0 := h20_0.len
            refine xT 1 [16] [] [some 2] [(2, vp b1 0), (4, vp b244 0), (32, Value.agg #[vy ((List.getD p 0 0).toNat : Int), vi y11, vi y14, vi y17, vs A20_0 y20 c20_0])] RG (e222.trans (e247.trans (e250.trans e253))).r ?_
            refine xSel [some 1, some 0, some 2] ?_
            refine xSub [(2, vp b1 0), (4, vp b244 0), (32, Value.agg #[vy ((List.getD p 0 0).toNat : Int), vi y11, vi y14, vi y17, vs A20_0 y20 c20_0])] ?_
            exact hD10 _ _ _ (e222.trans (e247.trans (e250.trans e253))) ⟨A20_0, c20_0, k20_0, b244, by kernel_rfl, by kernel_rfl, h20_0⟩
        · refine xIe (lds := [2]) (Psi.le.refl _) eB ?_
          rintro _ _ _ - ⟨b254, rfl, rfl, rfl⟩
          refine kk [some 1] ?_
          refine xO1 (lds := [2]) 5 ?_
          refine xIe (lds := [2]) (Psi.le.refl _) (eC 0 (fun g' lr eb ln => c55 g' ((List.drop 1 p) : List UInt8) (offA Ap cp 1 1) (cp - 1) (8 : Int) (f6.mono lr) hy11)) ?_
          rintro _ g256 _ e257 ⟨_, rfl, rfl, rfl⟩
          refine kk [some 1] ?_
          have f7 := f7.mono e257.r
          refine xO1 (lds := [2]) 8 ?_
          refine xIe (lds := [2]) e257.r (eC 0 (fun g' lr eb ln => c55 g' ((List.drop 9 p) : List UInt8) (offA Ap cp 9 1) (cp - 9) (8 : Int) (f7.mono lr) hy14)) ?_
          rintro _ g259 _ e260 ⟨_, rfl, rfl, rfl⟩
          refine kk [some 1] ?_
          have f8 := f8.mono (e257.trans e260).r
          refine xO1 (lds := [2]) 11 ?_
          refine xIe (lds := [2]) (e257.trans e260).r (eC 0 (fun g' lr eb ln => c55 g' ((List.drop 17 p) : List UInt8) (offA Ap cp 17 1) (cp - 17) (2 : Int) (f8.mono lr) hy17)) ?_
          rintro _ g262 _ e263 ⟨_, rfl, rfl, rfl⟩
          refine kk [some 1] ?_
          refine xT 3 [12] [] [some 1] [(2, vp b1 0), (4, vp b254 0), (18, vy ((List.getD p 0 0).toNat : Int)), (21, vi y11), (28, Value.agg #[vi y14, vi y17]), (30, vs (offA Ap cp 19 1) (List.drop 19 p) (cp - 19))] RG (e257.trans (e260.trans e263)).r ?_
          have f9 := f9.mono (e257.trans (e260.trans e263)).r
          refine xO1 (lds := [2]) 15 ?_
          refine xIe (lds := [2]) (e257.trans (e260.trans e263)).r (eC 0 (fun g' lr eb ln => c56 g' ((List.drop 19 p) : List UInt8) (offA Ap cp 19 1) (cp - 19) (f9.mono lr) hy20)) ?_
          rintro _ g265 _ e266 ⟨_, rfl, A20_0, c20_0, k20_0, rfl, rfl, h20_0⟩
          refine kk [some 2] ?_
          have nh20_0 := h20_0.len
          refine xT 1 [16] [] [some 2] [(2, vp b1 0), (4, vp b254 0), (32, Value.agg #[vy ((List.getD p 0 0).toNat : Int), vi y11, vi y14, vi y17, vs A20_0 y20 c20_0])] RG (e257.trans (e260.trans (e263.trans e266))).r ?_
          refine xSel [some 1, some 0, some 2] ?_
          refine xSub [(2, vp b1 0), (4, vp b254 0), (32, Value.agg #[vy ((List.getD p 0 0).toNat : Int), vi y11, vi y14, vi y17, vs A20_0 y20 c20_0])] ?_
          exact hD10 _ _ _ (e257.trans (e260.trans (e263.trans e266))) ⟨A20_0, c20_0, k20_0, b254, by kernel_rfl, by kernel_rfl, h20_0⟩

def o68 (n : Node) : Node :=
  (({ n with role := 1, steps := 0 }))
set_option maxRecDepth 100000 in
theorem c68 (g : Gh) (b_n : Nat) (n : Node) (An_input : Option Addr) (cn_input : Nat) (An_heard_input : Option Addr) (cn_heard_input : Nat) (An_set__in_ : Option Addr) (cn_set__in_ : Nat) (fn_input : Arr g.b tyU8 An_input cn_input n.input) (fn_heard_input : Arr g.b tyU8 An_heard_input cn_heard_input n.heard.input) (fn_set__in_ : Arr g.b tyU8 An_set__in_ cn_set__in_ n.set_.in_) {r : Node} (hS : o68 n = r) :
    Ctr Try.prog 68 [vp b_n 0] g [some ⟨b_n, 131, (cNode n An_input cn_input An_heard_input cn_heard_input An_set__in_ cn_set__in_)⟩] (fun v ψ o => ∃ (Ao_n_input : Option Addr) (co_n_input : Nat) (Ao_n_heard_input : Option Addr) (co_n_heard_input : Nat) (Ao_n_set__in_ : Option Addr) (co_n_set__in_ : Nat), v = Value.tuple #[] ∧ o = [some ⟨b_n, 131, (cNode r Ao_n_input co_n_input Ao_n_heard_input co_n_heard_input Ao_n_set__in_ co_n_set__in_)⟩] ∧ Arr ψ tyU8 Ao_n_input co_n_input r.input ∧ Arr ψ tyU8 Ao_n_heard_input co_n_heard_input r.heard.input ∧ Arr ψ tyU8 Ao_n_set__in_ co_n_set__in_ r.set_.in_) := by
  unfold o68 at hS
  refine xFn Try.f68 (Try.f68.body.getD .skip) 8 ?_
  have nfn_input := fn_input.len
  have nfn_heard_input := fn_heard_input.len
  have nfn_set__in_ := fn_set__in_.len
  refine xRg ?_
  refine xBo 8 [(4, 0), (7, 0)] [some ⟨b_n, 131, (cNode ({ n with role := 1, steps := 0 }) An_input cn_input An_heard_input cn_heard_input An_set__in_ cn_set__in_)⟩] [] ?_
  refine xRe ?_
  have eS := hS.symm
  subst eS
  exact xFin [some 0] [] (Gh.le.refl _) ⟨An_input, cn_input, An_heard_input, cn_heard_input, An_set__in_, cn_set__in_, by kernel_rfl, by kernel_rfl, fn_input, fn_heard_input, fn_set__in_⟩

end Go.Proofs.Ytgnajpoebooafaa
