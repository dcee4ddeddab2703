/-
Walks, printed by wip/gen. Conditions: each theorem's own.
-/
import Derived.Test.YtmcgofgpcnlljaaG8
import Derived.Test.YtmcgofgpcnlljaaED
namespace Go.Proofs.Ytmcgofgpcnlljaa
set_option linter.unusedVariables false
set_option linter.unusedSimpArgs false
open Go.RowKit
def o68_L0 (s6 : Int × Nat) : Option (Ctl (Int × Nat) (Int)) :=
  (cond (decide (((s6.2 : Nat) : Int) < 8)) (letJ (τ := Int) (cond (((landK .u32 s6.1 1) == 1)) ((lxorK .u32 (shrK .u32 s6.1 1) 3988292384)) ((shrK .u32 s6.1 1))) fun t10 => (grd (decide (((s6.2 : Nat) : Int) + 1 ≤ 9223372036854775807)) (some (Ctl.go (t10, (s6.2 + 1)))))) (some (Ctl.done (s6.1))))
def o68 (r_ : Int) (b : Int) : Option (Int) :=
  (bindO (τ := Int) (loopO (σ := Int × Nat) (ρ := Int) fuelN (o68_L0) ((lxorK .u32 r_ (IntKind.u32.wrap b)), 0)) fun t1 => (some ((t1 : Int))))
set_option maxRecDepth 100000 in
theorem c68 (g : Gh) (r_ : Int) (b : Int) {r : Int} (hS : o68 r_ b = some r) :
    Ctr Try.prog 68 [Value.int .u32 r_, vy b] g [] (fun v ψ o => v = Value.int .u32 r ∧ o = []) := by
  unfold o68 at hS
  refine xFn Try.f68 (Try.f68.body.getD .skip) 21 ?_
  refine xSq ?_
  refine xRg ?_
  refine xB 1 [] [(0, Value.int .u32 r_), (1, vy b)] ?_
  refine xRe ?_
  refine wpq_then ?_
  refine xSq ?_
  refine xRg ?_
  have z1 := u32_in_ b
  refine xB 5 [] [(0, Value.int .u32 (lxorK .u32 r_ (IntKind.u32.wrap b)))] ?_
  refine xRe ?_
  refine wpq_then ?_
  refine xSq ?_
  refine xSq ?_
  refine xRg ?_
  refine xB 1 [] [(0, Value.int .u32 (lxorK .u32 r_ (IntKind.u32.wrap b))), (9, vi 0)] ?_
  refine xRe ?_
  refine wpq_then ?_
  refine xBindO hS (fun g own sl t1 => own = [] ∧ sl = [(0, Value.int .u32 t1)]) ?_ ?_
  · rintro g2 _ _ t1 e3 ⟨rfl, rfl⟩ hS
    refine wpq_then ?_
    refine xSq ?_
    refine xRg ?_
    refine xB 2 [] [(4, Value.int .u32 t1)] ?_
    refine xRe ?_
    refine wpq_then ?_
    have eS := (Option.some.inj hS).symm
    subst eS
    exact xRet [] [4] e3 ⟨by kernel_rfl, by kernel_rfl⟩ (fun _ _ h => h)
  · intro uu1 hS hN1
    refine xBl 0 ?_
    refine xSub [(0, Value.int .u32 (lxorK .u32 r_ (IntKind.u32.wrap b))), (9, vi 0)] ?_
    refine xLo hS (fun g own sl s6 => own = [] ∧ sl = [(0, Value.int .u32 s6.1), (9, vi ((s6.2 : Nat) : Int))]) ⟨by kernel_rfl, by kernel_rfl⟩ ?_
    rintro g7 _ _ s6 uu6 e8 ⟨rfl, rfl⟩ hS Qr6 hN6 hD6
    unfold o68_L0 at hS
    refine xSq ?_
    refine xRg ?_
    refine xB 1 [] [(0, Value.int .u32 s6.1), (9, vi ((s6.2 : Nat) : Int)), (10, vb (decide (((s6.2 : Nat) : Int) < 8)))] ?_
    refine xRe ?_
    refine wpq_then ?_
    refine xSq ?_
    refine xCd (decide (((s6.2 : Nat) : Int) < 8)) (fun h9 => ?_) (fun h9 => ?_)
    · have hS := cond_T h9 hS
      have h9p := of_decide_eq_true h9
      refine xSk ?_
      refine wpq_then ?_
      refine xSub [(0, Value.int .u32 s6.1), (9, vi ((s6.2 : Nat) : Int))] ?_
      refine xSq ?_
      refine xBl 1 ?_
      refine xSq ?_
      refine xRg ?_
      refine xB 3 [] [(0, Value.int .u32 s6.1), (9, vi ((s6.2 : Nat) : Int)), (13, vb ((landK .u32 s6.1 1) == 1))] ?_
      refine xRe ?_
      refine wpq_then ?_
      refine xLetJ hS (fun g own sl t10 => own = [] ∧ sl = [(0, Value.int .u32 t10), (9, vi ((s6.2 : Nat) : Int))]) ?_ ?_
      · rintro g11 _ _ t10 e12 ⟨rfl, rfl⟩ hS
        refine wpq_blockN ?_
        refine wpq_then ?_
        refine xRg ?_
        obtain ⟨q13, hS⟩ := grd_T hS
        have q13p := of_decide_eq_true q13
        refine xV (qAdd .i64 (((s6.2 : Nat) : Int)) (1) (wr64 (by omega))) ?_
        refine xB 1 [] [(0, Value.int .u32 t10), (9, vi (((s6.2 : Nat) : Int) + 1))] ?_
        refine xRe ?_
        refine wpq_thenN ?_
        refine xSub [(0, Value.int .u32 t10), (9, vi (((s6.2 : Nat) : Int) + 1))] ?_
        have eS := (Option.some.inj hS).symm
        exact hN6 _ eS _ _ _ e12 ⟨by kernel_rfl, by kernel_rfl⟩
      · intro uu10 hS hN10
        refine xCd (((landK .u32 s6.1 1) == 1)) (fun h14 => ?_) (fun h14 => ?_)
        · have hS := cond_T h14 hS
          have h14p : (landK .u32 s6.1 1) = 1 := eq_of_beq h14
          refine xRg ?_
          refine xB 4 [] [(0, Value.int .u32 (lxorK .u32 (shrK .u32 s6.1 1) 3988292384)), (9, vi ((s6.2 : Nat) : Int))] ?_
          refine xRe ?_
          refine xSub [(0, Value.int .u32 (lxorK .u32 (shrK .u32 s6.1 1) 3988292384)), (9, vi ((s6.2 : Nat) : Int))] ?_
          have eS := hS.symm
          exact hN10 _ eS _ _ _ (Gh.le.refl _) ⟨by kernel_rfl, by kernel_rfl⟩
        · have hS := cond_F h14 hS
          have h14p : ¬ ((landK .u32 s6.1 1) = 1) := ne_of_beq_false_ h14
          refine xRg ?_
          refine xB 3 [] [(0, Value.int .u32 (shrK .u32 s6.1 1)), (9, vi ((s6.2 : Nat) : Int))] ?_
          refine xRe ?_
          refine xSub [(0, Value.int .u32 (shrK .u32 s6.1 1)), (9, vi ((s6.2 : Nat) : Int))] ?_
          have eS := hS.symm
          exact hN10 _ eS _ _ _ (Gh.le.refl _) ⟨by kernel_rfl, by kernel_rfl⟩
    · have hS := cond_F h9 hS
      have h9p := of_decide_eq_false h9
      refine xEx 0 ?_
      refine wpq_thenX ?_
      refine wpq_thenX ?_
      refine wpq_blockE ?_
      refine xSub [(0, Value.int .u32 s6.1)] ?_
      have eS := (Option.some.inj hS).symm
      have eS := (hD6 _ eS).symm
      exact hN1 _ eS _ _ _ e8 ⟨by kernel_rfl, by kernel_rfl⟩

def o56_L0 (p : List UInt8) (s6 : Int × Nat) : Option (Ctl (Int × Nat) (Int)) :=
  (cond (decide (((s6.2 : Nat) : Int) < (((p).length : Nat) : Int))) (bindO (τ := Int) (o68 (s6.1 : Int) (((List.getD p s6.2 0).toNat : Int) : Int)) fun y12 => (grd (decide (((s6.2 : Nat) : Int) + 1 ≤ 9223372036854775807)) (some (Ctl.go (y12, (s6.2 + 1)))))) (some (Ctl.done (s6.1))))
def o56 (sum : Int) (p : List UInt8) : Option (Int) :=
  (bindO (τ := Int) (loopO (σ := Int × Nat) (ρ := Int) fuelN (o56_L0 p) ((lxorK .u32 4294967295 sum), 0)) fun t1 => (some (((lxorK .u32 4294967295 t1) : Int))))
set_option maxRecDepth 100000 in
theorem c56 (g : Gh) (sum : Int) (p : List UInt8) (Ap : Option Addr) (cp : Nat) (fp : Arr g.r tyU8 Ap cp p) {r : Int} (hS : o56 sum p = some r) :
    Ctr Try.prog 56 [Value.int .u32 sum, vs Ap p cp] g [] (fun v ψ o => v = Value.int .u32 r ∧ o = []) := by
  unfold o56 at hS
  refine xFn Try.f56 (Try.f56.body.getD .skip) 22 ?_
  have nfp := fp.len
  refine xSq ?_
  refine xRg ?_
  refine xB 1 [] [(0, Value.int .u32 sum), (1, vs Ap p cp)] ?_
  refine xRe ?_
  refine wpq_then ?_
  refine xSq ?_
  refine xRg ?_
  refine xB 3 [] [(1, vs Ap p cp), (5, Value.int .u32 (lxorK .u32 4294967295 sum))] ?_
  refine xRe ?_
  refine wpq_then ?_
  refine xSq ?_
  refine xSq ?_
  refine xRg ?_
  refine xB 3 [] [(5, Value.int .u32 (lxorK .u32 4294967295 sum)), (10, vs Ap p cp), (11, vi (((p).length : Nat) : Int)), (12, vi 0)] ?_
  refine xRe ?_
  refine wpq_then ?_
  refine xBindO hS (fun g own sl t1 => own = [] ∧ sl = [(5, Value.int .u32 t1)]) ?_ ?_
  · rintro g2 _ _ t1 e3 ⟨rfl, rfl⟩ hS
    refine wpq_then ?_
    refine xSq ?_
    refine xRg ?_
    refine xB 3 [] [(4, Value.int .u32 (lxorK .u32 4294967295 t1))] ?_
    refine xRe ?_
    refine wpq_then ?_
    have eS := (Option.some.inj hS).symm
    subst eS
    exact xRet [] [4] e3 ⟨by kernel_rfl, by kernel_rfl⟩ (fun _ _ h => h)
  · intro uu1 hS hN1
    refine xBl 0 ?_
    refine xSub [(5, Value.int .u32 (lxorK .u32 4294967295 sum)), (10, vs Ap p cp), (11, vi (((p).length : Nat) : Int)), (12, vi 0)] ?_
    refine xLo hS (fun g own sl s6 => own = [] ∧ sl = [(5, Value.int .u32 s6.1), (10, vs Ap p cp), (11, vi (((p).length : Nat) : Int)), (12, vi ((s6.2 : Nat) : Int))]) ⟨by kernel_rfl, by kernel_rfl⟩ ?_
    rintro g7 _ _ s6 uu6 e8 ⟨rfl, rfl⟩ hS Qr6 hN6 hD6
    unfold o56_L0 at hS
    refine xSq ?_
    refine xRg ?_
    refine xB 1 [] [(5, Value.int .u32 s6.1), (10, vs Ap p cp), (11, vi (((p).length : Nat) : Int)), (12, vi ((s6.2 : Nat) : Int)), (13, vb (decide (((s6.2 : Nat) : Int) < (((p).length : Nat) : Int))))] ?_
    refine xRe ?_
    refine wpq_then ?_
    refine xSq ?_
    refine xCd (decide (((s6.2 : Nat) : Int) < (((p).length : Nat) : Int))) (fun h9 => ?_) (fun h9 => ?_)
    · have hS := cond_T h9 hS
      have h9p := of_decide_eq_true h9
      refine xSk ?_
      refine wpq_then ?_
      refine xSub [(5, Value.int .u32 s6.1), (10, vs Ap p cp), (11, vi (((p).length : Nat) : Int)), (12, vi ((s6.2 : Nat) : Int))] ?_
      refine xSq ?_
      refine xBl 1 ?_
      refine xSq ?_
      refine xRg ?_
      have fp := fp.mono e8.r
      have i11 : s6.2 < (p).length := by omega
      obtain ⟨ad10, cs10, hA10, hr10, hc10⟩ := fp.at_ (get_getD (d := 0) i11)
      have hr10 : cs10 = [vy ((List.getD p s6.2 0).toNat : Int)] := hr10
      subst hr10
      have nb10 := UInt8.toNat_lt (List.getD p s6.2 0)
      refine xV (qIx s6.2 1 hA10 rfl i11) ?_
      refine xV (qLdP (Addr.add ad10 (s6.2 * 1)) 0 hc10) ?_
      refine xB 1 [] [(5, Value.int .u32 s6.1), (7, vy ((List.getD p s6.2 0).toNat : Int)), (10, vs Ap p cp), (11, vi (((p).length : Nat) : Int)), (12, vi ((s6.2 : Nat) : Int))] ?_
      refine xRe ?_
      refine wpq_then ?_
      refine xRg ?_
      refine xB 2 [] [(5, Value.int .u32 s6.1), (10, vs Ap p cp), (11, vi (((p).length : Nat) : Int)), (12, vi ((s6.2 : Nat) : Int)), (16, Value.int .u32 s6.1), (17, vy ((List.getD p s6.2 0).toNat : Int))] ?_
      obtain ⟨y12, hy12, hS⟩ := bindO_T hS
      refine xE (eC 0 (fun g' lr eb ln => c68 g' (s6.1 : Int) (((List.getD p s6.2 0).toNat : Int) : Int) hy12)) ?_
      rintro _ g13 _ e14 ⟨_, rfl, rfl, rfl⟩
      refine xB 1 [] [(5, Value.int .u32 y12), (10, vs Ap p cp), (11, vi (((p).length : Nat) : Int)), (12, vi ((s6.2 : Nat) : Int))] ?_
      refine xRe ?_
      refine wpq_blockN ?_
      refine wpq_then ?_
      refine xRg ?_
      obtain ⟨q15, hS⟩ := grd_T hS
      have q15p := of_decide_eq_true q15
      refine xV (qAdd .i64 (((s6.2 : Nat) : Int)) (1) (wr64 (by omega))) ?_
      refine xB 1 [] [(5, Value.int .u32 y12), (10, vs Ap p cp), (11, vi (((p).length : Nat) : Int)), (12, vi (((s6.2 : Nat) : Int) + 1))] ?_
      refine xRe ?_
      refine wpq_thenN ?_
      refine xSub [(5, Value.int .u32 y12), (10, vs Ap p cp), (11, vi (((p).length : Nat) : Int)), (12, vi (((s6.2 : Nat) : Int) + 1))] ?_
      have eS := (Option.some.inj hS).symm
      exact hN6 _ eS _ _ _ e14 ⟨by kernel_rfl, by kernel_rfl⟩
    · have hS := cond_F h9 hS
      have h9p := of_decide_eq_false h9
      refine xEx 0 ?_
      refine wpq_thenX ?_
      refine wpq_thenX ?_
      refine wpq_blockE ?_
      refine xSub [(5, Value.int .u32 s6.1)] ?_
      have eS := (Option.some.inj hS).symm
      have eS := (hD6 _ eS).symm
      exact hN1 _ eS _ _ _ e8 ⟨by kernel_rfl, by kernel_rfl⟩

def o48 (p : List UInt8) : Option (Int) :=
  (bindO (τ := Int) (o56 (0 : Int) (p : List UInt8)) fun y1 => (some ((y1 : Int))))
set_option maxRecDepth 100000 in
theorem c48 (g : Gh) (p : List UInt8) (Ap : Option Addr) (cp : Nat) (fp : Arr g.r tyU8 Ap cp p) {r : Int} (hS : o48 p = some r) :
    Ctr Try.prog 48 [vs Ap p cp] g [] (fun v ψ o => v = Value.int .u32 r ∧ o = []) := by
  unfold o48 at hS
  refine xFn Try.f48 (Try.f48.body.getD .skip) 5 ?_
  have nfp := fp.len
  refine xSq ?_
  refine xRg ?_
  refine xB 1 [] [(0, vs Ap p cp)] ?_
  refine xRe ?_
  refine wpq_then ?_
  refine xSq ?_
  refine xRg ?_
  refine xB 1 [] [(3, vs Ap p cp)] ?_
  obtain ⟨y1, hy1, hS⟩ := bindO_T hS
  refine xE (eC 0 (fun g' lr eb ln => c56 g' (0 : Int) (p : List UInt8) Ap cp (fp.mono lr) hy1)) ?_
  rintro _ g2 _ e3 ⟨_, rfl, rfl, rfl⟩
  refine xB 1 [] [(2, Value.int .u32 y1)] ?_
  refine xRe ?_
  refine wpq_then ?_
  have eS := (Option.some.inj hS).symm
  subst eS
  exact xRet [] [2] e3 ⟨by kernel_rfl, by kernel_rfl⟩ (fun _ _ h => h)

def o47 (s : List UInt8) : (List UInt8) :=
  ((s : List UInt8))
set_option maxRecDepth 100000 in
theorem c47 (g : Gh) (s : List UInt8) (As : Option Addr) (cs : Nat) (fs : Arr g.r tyU8 As cs s) {r : (List UInt8)} (hS : o47 s = r) :
    Ctr Try.prog 47 [vs As s cs] g [] (fun v ψ o => ∃ (Ar_0 : Option Addr) (cr_0 : Nat) (kr_0 : Option Bk), v = vs Ar_0 r cr_0 ∧ o = [kr_0] ∧ Buf ψ tyU8 5 (.slice Ar_0 (r).length cr_0) kr_0 r) := by
  unfold o47 at hS
  refine xFn Try.f47 (Try.f47.body.getD .skip) 8 ?_
  have nfs := fs.len
  refine xSq ?_
  refine xRg ?_
  refine xB 1 [] [(0, vs As s cs)] ?_
  refine xRe ?_
  refine wpq_then ?_
  refine xSq ?_
  refine xSq ?_
  refine xRg ?_
  refine xB 1 [] [(0, vs As s cs), (3, vs As s cs)] ?_
  refine xV (qNil As) ?_
  refine xRe ?_
  refine wpq_then ?_
  refine xSub [(0, vs As s cs), (4, vb (Option.isNone As))] ?_
  refine xCd ((Option.isNone As)) (fun h1 => ?_) (fun h1 => ?_)
  · have hsh1 := fs.nil_of h1
    subst hsh1
    refine xSq ?_
    refine xRg ?_
    refine xB 1 [] [(2, Value.slice none 0 0)] ?_
    refine xRe ?_
    refine wpq_then ?_
    have eS : r = ([] : List UInt8) := by first | exact hS.symm | exact hS | (simp [grd] at hS; first | exact hS.symm | exact hS)
    subst eS
    exact xRet [none] [2] (Gh.le.refl _) ⟨none, 0, none, by kernel_rfl, by kernel_rfl, Buf.nil⟩ (fun _ _ h => h)
  · refine xSk ?_
    refine wpq_then ?_
    refine xSub [(0, vs As s cs)] ?_
    refine xSq ?_
    refine xRg ?_
    refine xE (eBs (T := tyU8) (p := g.b) (et := 5) (xs := ([] : List UInt8)) reps_nil (by simp)) ?_
    rintro _ _ _ - ⟨A2, c2, k2, rfl, rfl, rfl, h2⟩
    refine xB 1 [] [(5, vs A2 ([] : List UInt8) c2), (6, vs As s cs)] ?_
    obtain ⟨nw3, hp3, hs3⟩ := fs.srcR
    refine xE (eApp (T := tyU8) (p := g.b) (et := 5) (bytes := 1) (xs := ([] : List UInt8)) (ys := (s : List UInt8)) 0 h2 rfl (fun w hs => hs3 w _ hs) (flatU8.reps hp3) (by first | omega | (simp only [List.length_cons, List.length_nil] at *; omega)) (by first | omega | (simp only [List.length_cons, List.length_nil] at *; omega))) ?_
    rintro _ _ _ - ⟨A3, c3, k3, rfl, rfl, rfl, h3⟩
    have h3 : Buf g.b tyU8 5 (.slice A3 ((s : List UInt8)).length c3) k3 (s : List UInt8) := h3
    have nh3 := h3.len
    refine xB 1 [] [(2, vs A3 s c3)] ?_
    refine xRe ?_
    refine wpq_then ?_
    have eS := hS.symm
    subst eS
    exact xRet [some 0] [2] (Gh.le.refl _) ⟨A3, c3, k3, by kernel_rfl, by kernel_rfl, h3⟩ (fun _ _ h => h)

def o32 (p : List UInt8) : Option ((List UInt8)) :=
  (bindO (τ := Int) (o48 (p : List UInt8)) fun y1 => (letJ (τ := (List UInt8)) (o47 (p : List UInt8)) fun y4 => (grd (decide (((y4).length + (([(u8 (IntKind.u8.wrap y1)), (u8 (IntKind.u8.wrap (shrK .u32 y1 8))), (u8 (IntKind.u8.wrap (shrK .u32 y1 16))), (u8 (IntKind.u8.wrap (shrK .u32 y1 24)))] : List UInt8)).length) * 1 ≤ 140737488355328)) (some (((y4 ++ ([(u8 (IntKind.u8.wrap y1)), (u8 (IntKind.u8.wrap (shrK .u32 y1 8))), (u8 (IntKind.u8.wrap (shrK .u32 y1 16))), (u8 (IntKind.u8.wrap (shrK .u32 y1 24)))] : List UInt8)) : List UInt8))))))
set_option maxRecDepth 100000 in
theorem c32 (g : Gh) (p : List UInt8) (Ap : Option Addr) (cp : Nat) (fp : Arr g.r tyU8 Ap cp p) {r : (List UInt8)} (hS : o32 p = some r) :
    Ctr Try.prog 32 [vs Ap p cp] g [] (fun v ψ o => ∃ (Ar_0 : Option Addr) (cr_0 : Nat) (kr_0 : Option Bk), v = vs Ar_0 r cr_0 ∧ o = [kr_0] ∧ Buf ψ tyU8 5 (.slice Ar_0 (r).length cr_0) kr_0 r) := by
  unfold o32 at hS
  refine xFn Try.f32 (Try.f32.body.getD .skip) 21 ?_
  have nfp := fp.len
  refine xSq ?_
  refine xRg ?_
  refine xB 1 [] [(0, vs Ap p cp)] ?_
  refine xRe ?_
  refine wpq_then ?_
  refine xSq ?_
  refine xRg ?_
  refine xB 1 [] [(0, vs Ap p cp), (4, vs Ap p cp)] ?_
  obtain ⟨y1, hy1, hS⟩ := bindO_T hS
  refine xE (eC 0 (fun g' lr eb ln => c48 g' (p : List UInt8) Ap cp (fp.mono lr) hy1)) ?_
  rintro _ g2 _ e3 ⟨_, rfl, rfl, rfl⟩
  refine xB 1 [] [(0, vs Ap p cp), (3, Value.int .u32 y1)] ?_
  refine xRe ?_
  refine wpq_then ?_
  refine xSq ?_
  refine xRg ?_
  refine xB 1 [] [(3, Value.int .u32 y1), (6, vs Ap p cp)] ?_
  have fp := fp.mono e3.r
  obtain ⟨y4, hy4, hS⟩ := letJ_T hS
  refine xE (eC 0 (fun g' lr eb ln => c47 g' (p : List UInt8) Ap cp (fp.mono lr) hy4)) ?_
  rintro _ g5 _ e6 ⟨_, rfl, A4_0, c4_0, k4_0, rfl, rfl, h4_0⟩
  have nh4_0 := h4_0.len
  have z1 := u8_in_ y1
  have z2 := u8_in_ (shrK .u32 y1 8)
  have z3 := u8_in_ (shrK .u32 y1 16)
  have z4 := u8_in_ (shrK .u32 y1 24)
  refine xB 11 [] [(7, vs A4_0 y4 c4_0), (9, vy (IntKind.u8.wrap y1)), (12, vy (IntKind.u8.wrap (shrK .u32 y1 8))), (15, vy (IntKind.u8.wrap (shrK .u32 y1 16))), (18, vy (IntKind.u8.wrap (shrK .u32 y1 24)))] ?_
  refine xE (eBs (T := tyU8) (p := g5.b) (et := 5) (xs := ([(u8 (IntKind.u8.wrap y1)), (u8 (IntKind.u8.wrap (shrK .u32 y1 8))), (u8 (IntKind.u8.wrap (shrK .u32 y1 16))), (u8 (IntKind.u8.wrap (shrK .u32 y1 24)))] : List UInt8)) (reps_cons (c := [vy (IntKind.u8.wrap y1)]) (u8_rep (wrapU8_rng _)) (reps_cons (c := [vy (IntKind.u8.wrap (shrK .u32 y1 8))]) (u8_rep (wrapU8_rng _)) (reps_cons (c := [vy (IntKind.u8.wrap (shrK .u32 y1 16))]) (u8_rep (wrapU8_rng _)) (reps_cons (c := [vy (IntKind.u8.wrap (shrK .u32 y1 24))]) (u8_rep (wrapU8_rng _)) reps_nil)))) (by simp)) ?_
  rintro _ _ _ - ⟨A7, c7, k7, rfl, rfl, rfl, h7⟩
  obtain ⟨nw8, hp8, hs8⟩ := h7.srcO (g := g5)
  obtain ⟨q9, hS⟩ := grd_T hS
  have q9p := of_decide_eq_true q9
  refine xE (eApp (T := tyU8) (p := g5.b) (et := 5) (bytes := 1) (xs := (y4 : List UInt8)) (ys := (([(u8 (IntKind.u8.wrap y1)), (u8 (IntKind.u8.wrap (shrK .u32 y1 8))), (u8 (IntKind.u8.wrap (shrK .u32 y1 16))), (u8 (IntKind.u8.wrap (shrK .u32 y1 24)))] : List UInt8) : List UInt8)) 1 h4_0 rfl (fun w hs => hs8 0 w _ hs (by kernel_rfl)) hp8 (by first | omega | (simp only [List.length_cons, List.length_nil] at *; omega)) (by first | omega | (simp only [List.length_cons, List.length_nil] at *; omega))) ?_
  rintro _ _ _ - ⟨A8, c8, k8, rfl, rfl, rfl, h8⟩
  have nh8 := h8.len
  have hz8 : ((y4 ++ ([(u8 (IntKind.u8.wrap y1)), (u8 (IntKind.u8.wrap (shrK .u32 y1 8))), (u8 (IntKind.u8.wrap (shrK .u32 y1 16))), (u8 (IntKind.u8.wrap (shrK .u32 y1 24)))] : List UInt8)) : List UInt8).length = (y4).length + (([(u8 (IntKind.u8.wrap y1)), (u8 (IntKind.u8.wrap (shrK .u32 y1 8))), (u8 (IntKind.u8.wrap (shrK .u32 y1 16))), (u8 (IntKind.u8.wrap (shrK .u32 y1 24)))] : List UInt8)).length := List.length_append
  refine xB 1 [] [(2, vs A8 (y4 ++ ([(u8 (IntKind.u8.wrap y1)), (u8 (IntKind.u8.wrap (shrK .u32 y1 8))), (u8 (IntKind.u8.wrap (shrK .u32 y1 16))), (u8 (IntKind.u8.wrap (shrK .u32 y1 24)))] : List UInt8)) c8)] ?_
  refine xRe ?_
  refine wpq_then ?_
  have eS := (Option.some.inj hS).symm
  subst eS
  exact xRet [some 1] [2] (e3.trans e6) ⟨A8, c8, k8, by kernel_rfl, by kernel_rfl, h8⟩ (fun _ _ h => h)

def o14_L0 (f : Frame) (s19 : (List UInt8) × Nat) : Option (Ctl ((List UInt8) × Nat) ((List UInt8))) :=
  (cond (decide (((s19.2 : Nat) : Int) < 8)) (grd (decide (0 ≤ (IntKind.i64.wrap (8 * ((s19.2 : Nat) : Int))))) (grd (decide (((s19.1).length + (([(u8 (IntKind.u8.wrap (shrK .i64 f.cycle (IntKind.i64.wrap (8 * ((s19.2 : Nat) : Int))))))] : List UInt8)).length) * 1 ≤ 140737488355328)) (grd (decide (((s19.2 : Nat) : Int) + 1 ≤ 9223372036854775807)) (some (Ctl.go (((s19.1 ++ ([(u8 (IntKind.u8.wrap (shrK .i64 f.cycle (IntKind.i64.wrap (8 * ((s19.2 : Nat) : Int))))))] : List UInt8)) : List UInt8), (s19.2 + 1))))))) (some (Ctl.done ((s19.1 : List UInt8)))))
def o14 (f : Frame) : Option ((List UInt8) × Int) :=
  (cond (decide ((((f.payload).length : Nat) : Int) > 1000)) (some ((([] : List UInt8), (3 : Int)))) (grd (decide (0 ≤ f.label ∧ f.label ≤ 255)) (grd (decide (0 ≤ f.from_ ∧ f.from_ ≤ 255)) (bindO (τ := (List UInt8)) (loopO (σ := (List UInt8) × Nat) (ρ := (List UInt8)) fuelN (o14_L0 f) ((([(u8 f.label), (u8 f.from_)] : List UInt8) : List UInt8), 0)) fun t6 => (grd (decide (((t6).length + (([(u8 (IntKind.u8.wrap (((f.payload).length : Nat) : Int))), (u8 (IntKind.u8.wrap (shrK .i64 (((f.payload).length : Nat) : Int) 8)))] : List UInt8)).length) * 1 ≤ 140737488355328)) (grd (decide ((((t6 ++ ([(u8 (IntKind.u8.wrap (((f.payload).length : Nat) : Int))), (u8 (IntKind.u8.wrap (shrK .i64 (((f.payload).length : Nat) : Int) 8)))] : List UInt8))).length + (f.payload).length) * 1 ≤ 140737488355328)) (bindO (τ := (List UInt8)) (o32 (((t6 ++ ([(u8 (IntKind.u8.wrap (((f.payload).length : Nat) : Int))), (u8 (IntKind.u8.wrap (shrK .i64 (((f.payload).length : Nat) : Int) 8)))] : List UInt8)) ++ f.payload) : List UInt8)) fun y14 => (some (((y14 : List UInt8), (0 : Int)))))))))))
set_option maxRecDepth 100000 in
theorem c14 (g : Gh) (f : Frame) (Af_payload : Option Addr) (cf_payload : Nat) (ff_payload : Arr g.r tyU8 Af_payload cf_payload f.payload) {r : (List UInt8) × Int} (hS : o14 f = some r) :
    Ctr Try.prog 14 [Value.agg #[vy f.label, vy f.from_, vi f.cycle, vs Af_payload f.payload cf_payload]] g [] (fun v ψ o => ∃ (Ar_0 : Option Addr) (cr_0 : Nat) (kr_0 : Option Bk), v = Value.tuple #[vs Ar_0 r.1 cr_0, vi r.2] ∧ o = [kr_0] ∧ Buf ψ tyU8 5 (.slice Ar_0 (r.1).length cr_0) kr_0 r.1) := by
  unfold o14 at hS
  refine xFn Try.f14 (Try.f14.body.getD .skip) 45 ?_
  have nff_payload := ff_payload.len
  refine xSq ?_
  refine xRg ?_
  refine xE eB ?_
  rintro _ _ _ - ⟨b1, rfl, rfl, rfl⟩
  refine xB 2 [] [(1, vp b1 0)] ?_
  refine xRe ?_
  refine wpq_then ?_
  refine xSq ?_
  refine xSq ?_
  refine xRg ?_
  refine xB 4 [(1, 0)] [(1, vp b1 0), (10, vb (decide ((((f.payload).length : Nat) : Int) > 1000)))] ?_
  refine xRe ?_
  refine wpq_then ?_
  refine xCd (decide ((((f.payload).length : Nat) : Int) > 1000)) (fun h2 => ?_) (fun h2 => ?_)
  · have hS := cond_T h2 hS
    have h2p := of_decide_eq_true h2
    refine xSq ?_
    refine xRg ?_
    refine xB 2 [] [(2, Value.slice none 0 0), (3, vi 3)] ?_
    refine xRe ?_
    refine wpq_then ?_
    have eS := (Option.some.inj hS).symm
    subst eS
    exact xRet [none] [2, 3] (Gh.le.refl _) ⟨none, 0, none, by kernel_rfl, by kernel_rfl, Buf.nil⟩ (fun _ _ h => h)
  · have hS := cond_F h2 hS
    have h2p := of_decide_eq_false h2
    refine xSk ?_
    refine wpq_then ?_
    refine xSub [(1, vp b1 0)] ?_
    refine xSq ?_
    refine xRg ?_
    refine xB 4 [(1, 0), (3, 0)] [(1, vp b1 0), (12, vy f.label), (14, vy f.from_)] ?_
    obtain ⟨q3, hS⟩ := grd_T hS
    have q3p := of_decide_eq_true q3
    obtain ⟨q4, hS⟩ := grd_T hS
    have q4p := of_decide_eq_true q4
    refine xE (eBs (T := tyU8) (p := g.b) (et := 5) (xs := ([(u8 f.label), (u8 f.from_)] : List UInt8)) (reps_cons (c := [vy f.label]) (u8_rep (by omega)) (reps_cons (c := [vy f.from_]) (u8_rep (by omega)) reps_nil)) (by simp)) ?_
    rintro _ _ _ - ⟨A5, c5, k5, rfl, rfl, rfl, h5⟩
    refine xB 1 [] [(1, vp b1 0), (4, vs A5 ([(u8 f.label), (u8 f.from_)] : List UInt8) c5)] ?_
    refine xRe ?_
    refine wpq_then ?_
    refine xSq ?_
    refine xSq ?_
    refine xRg ?_
    refine xB 1 [] [(1, vp b1 0), (4, vs A5 ([(u8 f.label), (u8 f.from_)] : List UInt8) c5), (16, vi 0)] ?_
    refine xRe ?_
    refine wpq_then ?_
    refine xBindO hS (fun g own sl t6 => ∃ (A6_0 : Option Addr) (c6_0 : Nat) (k6_0 : Option Bk), own = [some ⟨b1, 24, (cFrame f Af_payload cf_payload)⟩, k6_0] ∧ sl = [(1, vp b1 0), (4, vs A6_0 t6 c6_0)] ∧ Buf g.b tyU8 5 (.slice A6_0 (t6).length c6_0) k6_0 t6) ?_ ?_
    · rintro g7 _ _ t6 e8 ⟨A6_0, c6_0, k6_0, rfl, rfl, h6_0⟩ hS
      have nh6_0 := h6_0.len
      refine wpq_then ?_
      refine xSq ?_
      refine xRg ?_
      refine xB 4 [(1, 0)] [(1, vp b1 0), (4, vs A6_0 t6 c6_0), (6, vi (((f.payload).length : Nat) : Int))] ?_
      refine xRe ?_
      refine wpq_then ?_
      refine xSq ?_
      refine xRg ?_
      have z13 := u8_in_ (((f.payload).length : Nat) : Int)
      have z14 := u8_in_ (shrK .i64 (((f.payload).length : Nat) : Int) 8)
      refine xB 6 [] [(1, vp b1 0), (4, vs A6_0 t6 c6_0), (32, vs A6_0 t6 c6_0), (34, vy (IntKind.u8.wrap (((f.payload).length : Nat) : Int))), (37, vy (IntKind.u8.wrap (shrK .i64 (((f.payload).length : Nat) : Int) 8)))] ?_
      refine xE (eBs (T := tyU8) (p := g7.b) (et := 5) (xs := ([(u8 (IntKind.u8.wrap (((f.payload).length : Nat) : Int))), (u8 (IntKind.u8.wrap (shrK .i64 (((f.payload).length : Nat) : Int) 8)))] : List UInt8)) (reps_cons (c := [vy (IntKind.u8.wrap (((f.payload).length : Nat) : Int))]) (u8_rep (wrapU8_rng _)) (reps_cons (c := [vy (IntKind.u8.wrap (shrK .i64 (((f.payload).length : Nat) : Int) 8))]) (u8_rep (wrapU8_rng _)) reps_nil)) (by simp)) ?_
      rintro _ _ _ - ⟨A9, c9, k9, rfl, rfl, rfl, h9⟩
      obtain ⟨nw10, hp10, hs10⟩ := h9.srcO (g := g7)
      obtain ⟨q11, hS⟩ := grd_T hS
      have q11p := of_decide_eq_true q11
      refine xE (eApp (T := tyU8) (p := g7.b) (et := 5) (bytes := 1) (xs := (t6 : List UInt8)) (ys := (([(u8 (IntKind.u8.wrap (((f.payload).length : Nat) : Int))), (u8 (IntKind.u8.wrap (shrK .i64 (((f.payload).length : Nat) : Int) 8)))] : List UInt8) : List UInt8)) 2 h6_0 rfl (fun w hs => hs10 0 w _ hs (by kernel_rfl)) hp10 (by first | omega | (simp only [List.length_cons, List.length_nil] at *; omega)) (by first | omega | (simp only [List.length_cons, List.length_nil] at *; omega))) ?_
      rintro _ _ _ - ⟨A10, c10, k10, rfl, rfl, rfl, h10⟩
      have nh10 := h10.len
      have hz10 : ((t6 ++ ([(u8 (IntKind.u8.wrap (((f.payload).length : Nat) : Int))), (u8 (IntKind.u8.wrap (shrK .i64 (((f.payload).length : Nat) : Int) 8)))] : List UInt8)) : List UInt8).length = (t6).length + (([(u8 (IntKind.u8.wrap (((f.payload).length : Nat) : Int))), (u8 (IntKind.u8.wrap (shrK .i64 (((f.payload).length : Nat) : Int) 8)))] : List UInt8)).length := List.length_append
      refine xB 1 [] [(1, vp b1 0), (4, vs A10 (t6 ++ ([(u8 (IntKind.u8.wrap (((f.payload).length : Nat) : Int))), (u8 (IntKind.u8.wrap (shrK .i64 (((f.payload).length : Nat) : Int) 8)))] : List UInt8)) c10)] ?_
      refine xRe ?_
      refine wpq_then ?_
      refine xSq ?_
      refine xRg ?_
      refine xB 3 [(2, 1)] [(40, vs A10 (t6 ++ ([(u8 (IntKind.u8.wrap (((f.payload).length : Nat) : Int))), (u8 (IntKind.u8.wrap (shrK .i64 (((f.payload).length : Nat) : Int) 8)))] : List UInt8)) c10), (42, vs Af_payload f.payload cf_payload)] ?_
      have ff_payload := ff_payload.mono e8.r
      obtain ⟨nw12, hp12, hs12⟩ := ff_payload.srcR
      obtain ⟨q13, hS⟩ := grd_T hS
      have q13p := of_decide_eq_true q13
      refine xE (eApp (T := tyU8) (p := g7.b) (et := 5) (bytes := 1) (xs := ((t6 ++ ([(u8 (IntKind.u8.wrap (((f.payload).length : Nat) : Int))), (u8 (IntKind.u8.wrap (shrK .i64 (((f.payload).length : Nat) : Int) 8)))] : List UInt8)) : List UInt8)) (ys := (f.payload : List UInt8)) 2 h10 rfl (fun w hs => hs12 w _ hs) (flatU8.reps hp12) (by first | omega | (simp only [List.length_cons, List.length_nil] at *; omega)) (by first | omega | (simp only [List.length_cons, List.length_nil] at *; omega))) ?_
      rintro _ _ _ - ⟨A12, c12, k12, rfl, rfl, rfl, h12⟩
      have nh12 := h12.len
      have hz12 : (((t6 ++ ([(u8 (IntKind.u8.wrap (((f.payload).length : Nat) : Int))), (u8 (IntKind.u8.wrap (shrK .i64 (((f.payload).length : Nat) : Int) 8)))] : List UInt8)) ++ f.payload) : List UInt8).length = ((t6 ++ ([(u8 (IntKind.u8.wrap (((f.payload).length : Nat) : Int))), (u8 (IntKind.u8.wrap (shrK .i64 (((f.payload).length : Nat) : Int) 8)))] : List UInt8))).length + (f.payload).length := List.length_append
      obtain ⟨y14, hy14, hS⟩ := bindO_T hS
      refine xE (eC 0 (fun g' lr eb ln => c32 g' (((t6 ++ ([(u8 (IntKind.u8.wrap (((f.payload).length : Nat) : Int))), (u8 (IntKind.u8.wrap (shrK .i64 (((f.payload).length : Nat) : Int) 8)))] : List UInt8)) ++ f.payload) : List UInt8) A12 c12 (arr_of_buf h12 (Psi.le_b eb) (lentk 2 (by kernel_rfl) ln)) hy14)) ?_
      rintro _ g15 _ e16 ⟨_, rfl, A14_0, c14_0, k14_0, rfl, rfl, h14_0⟩
      have nh14_0 := h14_0.len
      refine xB 2 [] [(2, vs A14_0 y14 c14_0), (3, vi 0)] ?_
      refine xRe ?_
      refine wpq_then ?_
      have eS := (Option.some.inj hS).symm
      subst eS
      exact xRet [some 0] [2, 3] (e8.trans e16) ⟨A14_0, c14_0, k14_0, by kernel_rfl, by kernel_rfl, h14_0⟩ (fun _ _ h => h)
    · intro uu6 hS hN6
      refine xBl 0 ?_
      refine xSel [some 1, some 0] ?_
      refine xSub [(1, vp b1 0), (4, vs A5 ([(u8 f.label), (u8 f.from_)] : List UInt8) c5), (16, vi 0)] ?_
      refine xLo hS (fun g own sl s19 => ∃ (A19_0 : Option Addr) (c19_0 : Nat) (k19_0 : Option Bk), own = [some ⟨b1, 24, (cFrame f Af_payload cf_payload)⟩, k19_0] ∧ sl = [(1, vp b1 0), (4, vs A19_0 s19.1 c19_0), (16, vi ((s19.2 : Nat) : Int))] ∧ Buf g.b tyU8 5 (.slice A19_0 (s19.1).length c19_0) k19_0 s19.1) ⟨A5, c5, k5, by kernel_rfl, by kernel_rfl, h5⟩ ?_
      rintro g20 _ _ s19 uu19 e21 ⟨A19_0, c19_0, k19_0, rfl, rfl, h19_0⟩ hS Qr19 hN19 hD19
      have nh19_0 := h19_0.len
      unfold o14_L0 at hS
      refine xSq ?_
      refine xRg ?_
      refine xB 1 [] [(1, vp b1 0), (4, vs A19_0 s19.1 c19_0), (16, vi ((s19.2 : Nat) : Int)), (17, vb (decide (((s19.2 : Nat) : Int) < 8)))] ?_
      refine xRe ?_
      refine wpq_then ?_
      refine xSq ?_
      refine xCd (decide (((s19.2 : Nat) : Int) < 8)) (fun h22 => ?_) (fun h22 => ?_)
      · have hS := cond_T h22 hS
        have h22p := of_decide_eq_true h22
        refine xSk ?_
        refine wpq_then ?_
        refine xSub [(1, vp b1 0), (4, vs A19_0 s19.1 c19_0), (16, vi ((s19.2 : Nat) : Int))] ?_
        refine xSq ?_
        refine xBl 1 ?_
        refine xSq ?_
        refine xRg ?_
        refine xB 2 [] [(1, vp b1 0), (4, vs A19_0 s19.1 c19_0), (5, vi ((s19.2 : Nat) : Int)), (16, vi ((s19.2 : Nat) : Int))] ?_
        refine xRe ?_
        refine wpq_then ?_
        refine xRg ?_
        have z25 := i64_in_ (8 * ((s19.2 : Nat) : Int))
        obtain ⟨q23, hS⟩ := grd_T hS
        have q23p := of_decide_eq_true q23
        refine xB 5 [(2, 0)] [(1, vp b1 0), (4, vs A19_0 s19.1 c19_0), (16, vi ((s19.2 : Nat) : Int)), (19, vs A19_0 s19.1 c19_0), (21, vi f.cycle), (23, vi (IntKind.i64.wrap (8 * ((s19.2 : Nat) : Int))))] ?_
        refine xV (qShr .i64 .i64 (f.cycle) ((IntKind.i64.wrap (8 * ((s19.2 : Nat) : Int)))) (by omega)) ?_
        have z26 := u8_in_ (shrK .i64 f.cycle (IntKind.i64.wrap (8 * ((s19.2 : Nat) : Int))))
        refine xB 1 [] [(1, vp b1 0), (4, vs A19_0 s19.1 c19_0), (16, vi ((s19.2 : Nat) : Int)), (19, vs A19_0 s19.1 c19_0), (25, vy (IntKind.u8.wrap (shrK .i64 f.cycle (IntKind.i64.wrap (8 * ((s19.2 : Nat) : Int))))))] ?_
        refine xE (eBs (T := tyU8) (p := g20.b) (et := 5) (xs := ([(u8 (IntKind.u8.wrap (shrK .i64 f.cycle (IntKind.i64.wrap (8 * ((s19.2 : Nat) : Int))))))] : List UInt8)) (reps_cons (c := [vy (IntKind.u8.wrap (shrK .i64 f.cycle (IntKind.i64.wrap (8 * ((s19.2 : Nat) : Int)))))]) (u8_rep (wrapU8_rng _)) reps_nil) (by simp)) ?_
        rintro _ _ _ - ⟨A24, c24, k24, rfl, rfl, rfl, h24⟩
        obtain ⟨nw25, hp25, hs25⟩ := h24.srcO (g := g20)
        obtain ⟨q26, hS⟩ := grd_T hS
        have q26p := of_decide_eq_true q26
        refine xE (eApp (T := tyU8) (p := g20.b) (et := 5) (bytes := 1) (xs := (s19.1 : List UInt8)) (ys := (([(u8 (IntKind.u8.wrap (shrK .i64 f.cycle (IntKind.i64.wrap (8 * ((s19.2 : Nat) : Int))))))] : List UInt8) : List UInt8)) 2 h19_0 rfl (fun w hs => hs25 0 w _ hs (by kernel_rfl)) hp25 (by first | omega | (simp only [List.length_cons, List.length_nil] at *; omega)) (by first | omega | (simp only [List.length_cons, List.length_nil] at *; omega))) ?_
        rintro _ _ _ - ⟨A25, c25, k25, rfl, rfl, rfl, h25⟩
        have nh25 := h25.len
        have hz25 : ((s19.1 ++ ([(u8 (IntKind.u8.wrap (shrK .i64 f.cycle (IntKind.i64.wrap (8 * ((s19.2 : Nat) : Int))))))] : List UInt8)) : List UInt8).length = (s19.1).length + (([(u8 (IntKind.u8.wrap (shrK .i64 f.cycle (IntKind.i64.wrap (8 * ((s19.2 : Nat) : Int))))))] : List UInt8)).length := List.length_append
        refine xB 1 [] [(1, vp b1 0), (4, vs A25 (s19.1 ++ ([(u8 (IntKind.u8.wrap (shrK .i64 f.cycle (IntKind.i64.wrap (8 * ((s19.2 : Nat) : Int))))))] : List UInt8)) c25), (16, vi ((s19.2 : Nat) : Int))] ?_
        refine xRe ?_
        refine wpq_blockN ?_
        refine wpq_then ?_
        refine xRg ?_
        obtain ⟨q27, hS⟩ := grd_T hS
        have q27p := of_decide_eq_true q27
        refine xV (qAdd .i64 (((s19.2 : Nat) : Int)) (1) (wr64 (by omega))) ?_
        refine xB 1 [] [(1, vp b1 0), (4, vs A25 (s19.1 ++ ([(u8 (IntKind.u8.wrap (shrK .i64 f.cycle (IntKind.i64.wrap (8 * ((s19.2 : Nat) : Int))))))] : List UInt8)) c25), (16, vi (((s19.2 : Nat) : Int) + 1))] ?_
        refine xRe ?_
        refine wpq_thenN ?_
        refine xSel [some 1, some 2] ?_
        refine xSub [(1, vp b1 0), (4, vs A25 (s19.1 ++ ([(u8 (IntKind.u8.wrap (shrK .i64 f.cycle (IntKind.i64.wrap (8 * ((s19.2 : Nat) : Int))))))] : List UInt8)) c25), (16, vi (((s19.2 : Nat) : Int) + 1))] ?_
        have eS := (Option.some.inj hS).symm
        exact hN19 _ eS _ _ _ (Gh.le.refl _) ⟨A25, c25, k25, by kernel_rfl, by kernel_rfl, h25⟩
      · have hS := cond_F h22 hS
        have h22p := of_decide_eq_false h22
        refine xEx 0 ?_
        refine wpq_thenX ?_
        refine wpq_thenX ?_
        refine wpq_blockE ?_
        refine xSub [(1, vp b1 0), (4, vs A19_0 s19.1 c19_0)] ?_
        have eS := (Option.some.inj hS).symm
        have eS := (hD19 _ eS).symm
        exact hN6 _ eS _ _ _ e21 ⟨A19_0, c19_0, k19_0, by kernel_rfl, by kernel_rfl, h19_0⟩

def o26 (p : List UInt8) : Option ((List UInt8) × Int) :=
  (cond (decide (((((p).length : Nat) : Int) - 4) < 0)) (some ((([] : List UInt8), (4 : Int)))) (grd (decide (((((p).length : Nat) : Int) - 4) ≤ (((p).length : Nat) : Int))) (bindO (τ := Int) (o48 ((List.take (((((p).length : Nat) : Int) - 4)).toNat p) : List UInt8)) fun y4 => (grd (decide (0 ≤ ((((p).length : Nat) : Int) - 4) ∧ ((((p).length : Nat) : Int) - 4) < (((p).length : Nat) : Int))) (bindO (τ := Bool) (cond ((((List.getD p (((((p).length : Nat) : Int) - 4)).toNat 0).toNat : Int) != (IntKind.u8.wrap y4))) (some (true)) (grd (decide (0 ≤ (((((p).length : Nat) : Int) - 4) + 1) ∧ (((((p).length : Nat) : Int) - 4) + 1) < (((p).length : Nat) : Int))) (some (((List.getD p ((((((p).length : Nat) : Int) - 4) + 1)).toNat 0).toNat : Int) != (IntKind.u8.wrap (shrK .u32 y4 8)))))) fun t10 => (bindO (τ := Bool) (cond (t10) (some (true)) (grd (decide (0 ≤ (((((p).length : Nat) : Int) - 4) + 2) ∧ (((((p).length : Nat) : Int) - 4) + 2) < (((p).length : Nat) : Int))) (some (((List.getD p ((((((p).length : Nat) : Int) - 4) + 2)).toNat 0).toNat : Int) != (IntKind.u8.wrap (shrK .u32 y4 16)))))) fun t13 => (bindO (τ := Bool) (cond (t13) (some (true)) (grd (decide (0 ≤ (((((p).length : Nat) : Int) - 4) + 3) ∧ (((((p).length : Nat) : Int) - 4) + 3) < (((p).length : Nat) : Int))) (some (((List.getD p ((((((p).length : Nat) : Int) - 4) + 3)).toNat 0).toNat : Int) != (IntKind.u8.wrap (shrK .u32 y4 24)))))) fun t16 => (cond (t16) (some ((([] : List UInt8), (12 : Int)))) (grd (decide (((((p).length : Nat) : Int) - 4) ≤ (((p).length : Nat) : Int))) (letJ (τ := (List UInt8)) (o47 ((List.take (((((p).length : Nat) : Int) - 4)).toNat p) : List UInt8)) fun y22 => (some (((y22 : List UInt8), (0 : Int))))))))))))))
set_option maxRecDepth 100000 in
theorem c26 (g : Gh) (p : List UInt8) (Ap : Option Addr) (cp : Nat) (fp : Arr g.r tyU8 Ap cp p) {r : (List UInt8) × Int} (hS : o26 p = some r) :
    Ctr Try.prog 26 [vs Ap p cp] g [] (fun v ψ o => ∃ (Ar_0 : Option Addr) (cr_0 : Nat) (kr_0 : Option Bk), v = Value.tuple #[vs Ar_0 r.1 cr_0, vi r.2] ∧ o = [kr_0] ∧ Buf ψ tyU8 5 (.slice Ar_0 (r.1).length cr_0) kr_0 r.1) := by
  unfold o26 at hS
  refine xFn Try.f26 (Try.f26.body.getD .skip) 59 ?_
  have nfp := fp.len
  refine xSq ?_
  refine xRg ?_
  refine xB 2 [] [(0, vs Ap p cp)] ?_
  refine xRe ?_
  refine wpq_then ?_
  refine xSq ?_
  refine xRg ?_
  refine xB 2 [] [(0, vs Ap p cp), (7, vi (((p).length : Nat) : Int))] ?_
  refine xV (qSub .i64 ((((p).length : Nat) : Int)) (4) (wr64 (by omega))) ?_
  refine xB 1 [] [(0, vs Ap p cp), (4, vi ((((p).length : Nat) : Int) - 4))] ?_
  refine xRe ?_
  refine wpq_then ?_
  refine xSq ?_
  refine xSq ?_
  refine xRg ?_
  refine xB 2 [] [(0, vs Ap p cp), (4, vi ((((p).length : Nat) : Int) - 4)), (10, vb (decide (((((p).length : Nat) : Int) - 4) < 0)))] ?_
  refine xRe ?_
  refine wpq_then ?_
  refine xCd (decide (((((p).length : Nat) : Int) - 4) < 0)) (fun h1 => ?_) (fun h1 => ?_)
  · have hS := cond_T h1 hS
    have h1p := of_decide_eq_true h1
    refine xSq ?_
    refine xRg ?_
    refine xB 2 [] [(2, Value.slice none 0 0), (3, vi 4)] ?_
    refine xRe ?_
    refine wpq_then ?_
    have eS := (Option.some.inj hS).symm
    subst eS
    exact xRet [none] [2, 3] (Gh.le.refl _) ⟨none, 0, none, by kernel_rfl, by kernel_rfl, Buf.nil⟩ (fun _ _ h => h)
  · have hS := cond_F h1 hS
    have h1p := of_decide_eq_false h1
    refine xSk ?_
    refine wpq_then ?_
    refine xSub [(0, vs Ap p cp), (4, vi ((((p).length : Nat) : Int) - 4))] ?_
    refine xSq ?_
    refine xRg ?_
    obtain ⟨q2, hS⟩ := grd_T hS
    have q2p := of_decide_eq_true q2
    have ncapf3 := fp.cap
    have f3 : Arr g.r tyU8 (offA Ap cp 0 1) (cp - 0) (List.take (((((p).length : Nat) : Int) - 4)).toNat p) := fp.cut_to (((((p).length : Nat) : Int) - 4)).toNat (by omega)
    have nf3 := f3.len
    have hlf3 : (((((p).length : Nat) : Int) - 4)).toNat - 0 = ((List.take (((((p).length : Nat) : Int) - 4)).toNat p)).length := by simp only [List.length_take, List.length_drop] <;> omega
    have hvf3 : ((((List.take (((((p).length : Nat) : Int) - 4)).toNat p)).length : Nat) : Int) = ((((p).length : Nat) : Int) - 4) - 0 := by omega
    refine xB 2 [] [(0, vs Ap p cp), (4, vi ((((p).length : Nat) : Int) - 4)), (11, vs Ap p cp), (12, vi ((((p).length : Nat) : Int) - 4))] ?_
    refine xV (qSl (m := 1) (A := Ap) (len := (p).length) (c := cp) 0 (((((p).length : Nat) : Int) - 4)).toNat none (some ((((p).length : Nat) : Int) - 4)) ((List.take (((((p).length : Nat) : Int) - 4)).toNat p)).length rfl (show _ = _ by omega) (by omega) (by omega) hlf3) ?_
    obtain ⟨y4, hy4, hS⟩ := bindO_T hS
    refine xE (eC 0 (fun g' lr eb ln => c48 g' ((List.take (((((p).length : Nat) : Int) - 4)).toNat p) : List UInt8) (offA Ap cp 0 1) (cp - 0) (f3.mono lr) hy4)) ?_
    rintro _ g5 _ e6 ⟨_, rfl, rfl, rfl⟩
    refine xB 1 [] [(0, vs Ap p cp), (4, vi ((((p).length : Nat) : Int) - 4)), (5, Value.int .u32 y4)] ?_
    refine xRe ?_
    refine wpq_then ?_
    refine xSq ?_
    refine xSq ?_
    refine xRg ?_
    have fp := fp.mono e6.r
    obtain ⟨q8, hS⟩ := grd_T hS
    have q8p := of_decide_eq_true q8
    have i9 : (((((p).length : Nat) : Int) - 4)).toNat < (p).length := by omega
    obtain ⟨ad7, cs7, hA7, hr7, hc7⟩ := fp.at_ (get_getD (d := 0) i9)
    have hr7 : cs7 = [vy ((List.getD p (((((p).length : Nat) : Int) - 4)).toNat 0).toNat : Int)] := hr7
    subst hr7
    have nb7 := UInt8.toNat_lt (List.getD p (((((p).length : Nat) : Int) - 4)).toNat 0)
    refine xB 2 [] [(0, vs Ap p cp), (4, vi ((((p).length : Nat) : Int) - 4)), (5, Value.int .u32 y4), (15, vs Ap p cp), (16, vi ((((p).length : Nat) : Int) - 4))] ?_
    refine xV (qIx (((((p).length : Nat) : Int) - 4)).toNat 1 hA7 (show (((((p).length : Nat) : Int) - 4) : Int) = _ from by omega) i9) ?_
    refine xV (qLdP (Addr.add ad7 ((((((p).length : Nat) : Int) - 4)).toNat * 1)) 0 hc7) ?_
    have z1 := u8_in_ y4
    refine xB 4 [] [(0, vs Ap p cp), (4, vi ((((p).length : Nat) : Int) - 4)), (5, Value.int .u32 y4), (22, vb (((List.getD p (((((p).length : Nat) : Int) - 4)).toNat 0).toNat : Int) != (IntKind.u8.wrap y4)))] ?_
    refine xGJo hS 18 (fun g own sl t10 => own = [] ∧ sl = [(0, vs Ap p cp), (4, vi ((((p).length : Nat) : Int) - 4)), (5, Value.int .u32 y4), (32, vb t10)]) ?_ ?_
    · rintro g11 _ _ t10 e12 ⟨rfl, rfl⟩ hS
      refine xB 1 [] [(0, vs Ap p cp), (4, vi ((((p).length : Nat) : Int) - 4)), (5, Value.int .u32 y4), (33, vb t10)] ?_
      refine xGJo hS 29 (fun g own sl t13 => own = [] ∧ sl = [(0, vs Ap p cp), (4, vi ((((p).length : Nat) : Int) - 4)), (5, Value.int .u32 y4), (43, vb t13)]) ?_ ?_
      · rintro g14 _ _ t13 e15 ⟨rfl, rfl⟩ hS
        refine xB 1 [] [(0, vs Ap p cp), (4, vi ((((p).length : Nat) : Int) - 4)), (5, Value.int .u32 y4), (44, vb t13)] ?_
        refine xGJo hS 40 (fun g own sl t16 => own = [] ∧ sl = [(0, vs Ap p cp), (4, vi ((((p).length : Nat) : Int) - 4)), (54, vb t16)]) ?_ ?_
        · rintro g17 _ _ t16 e18 ⟨rfl, rfl⟩ hS
          refine xRe ?_
          refine wpq_then ?_
          refine xCd (t16) (fun h19 => ?_) (fun h19 => ?_)
          · have hS := cond_T h19 hS
            refine xSq ?_
            refine xRg ?_
            refine xB 2 [] [(2, Value.slice none 0 0), (3, vi 12)] ?_
            refine xRe ?_
            refine wpq_then ?_
            have eS := (Option.some.inj hS).symm
            subst eS
            exact xRet [none] [2, 3] (e6.trans (e12.trans (e15.trans e18))) ⟨none, 0, none, by kernel_rfl, by kernel_rfl, Buf.nil⟩ (fun _ _ h => h)
          · have hS := cond_F h19 hS
            refine xSk ?_
            refine wpq_then ?_
            refine xSub [(0, vs Ap p cp), (4, vi ((((p).length : Nat) : Int) - 4))] ?_
            refine xSq ?_
            refine xRg ?_
            have fp := fp.mono (e12.trans (e15.trans e18)).r
            obtain ⟨q20, hS⟩ := grd_T hS
            have q20p := of_decide_eq_true q20
            have ncapf21 := fp.cap
            have f21 : Arr g17.r tyU8 (offA Ap cp 0 1) (cp - 0) (List.take (((((p).length : Nat) : Int) - 4)).toNat p) := fp.cut_to (((((p).length : Nat) : Int) - 4)).toNat (by omega)
            have nf21 := f21.len
            have hlf21 : (((((p).length : Nat) : Int) - 4)).toNat - 0 = ((List.take (((((p).length : Nat) : Int) - 4)).toNat p)).length := by simp only [List.length_take, List.length_drop] <;> omega
            have hvf21 : ((((List.take (((((p).length : Nat) : Int) - 4)).toNat p)).length : Nat) : Int) = ((((p).length : Nat) : Int) - 4) - 0 := by omega
            refine xB 2 [] [(55, vs Ap p cp), (56, vi ((((p).length : Nat) : Int) - 4))] ?_
            refine xV (qSl (m := 1) (A := Ap) (len := (p).length) (c := cp) 0 (((((p).length : Nat) : Int) - 4)).toNat none (some ((((p).length : Nat) : Int) - 4)) ((List.take (((((p).length : Nat) : Int) - 4)).toNat p)).length rfl (show _ = _ by omega) (by omega) (by omega) hlf21) ?_
            obtain ⟨y22, hy22, hS⟩ := letJ_T hS
            refine xE (eC 0 (fun g' lr eb ln => c47 g' ((List.take (((((p).length : Nat) : Int) - 4)).toNat p) : List UInt8) (offA Ap cp 0 1) (cp - 0) (f21.mono lr) hy22)) ?_
            rintro _ g23 _ e24 ⟨_, rfl, A22_0, c22_0, k22_0, rfl, rfl, h22_0⟩
            have nh22_0 := h22_0.len
            refine xB 2 [] [(2, vs A22_0 y22 c22_0), (3, vi 0)] ?_
            refine xRe ?_
            refine wpq_then ?_
            have eS := (Option.some.inj hS).symm
            subst eS
            exact xRet [some 0] [2, 3] (e6.trans (e12.trans (e15.trans (e18.trans e24)))) ⟨A22_0, c22_0, k22_0, by kernel_rfl, by kernel_rfl, h22_0⟩ (fun _ _ h => h)
        · intro uu16 hS hN16
          refine wpq_split 44 (b := t13) (by kernel_rfl) (fun q25 => ?_) (fun q25 => ?_)
          · have hS := cond_T q25 hS
            refine xB 10 [] [(0, vs Ap p cp), (4, vi ((((p).length : Nat) : Int) - 4)), (54, vb true)] ?_
            refine xSub [(0, vs Ap p cp), (4, vi ((((p).length : Nat) : Int) - 4)), (54, vb true)] ?_
            exact hN16 _ (Option.some.inj hS).symm _ _ _ (Gh.le.refl _) ⟨by kernel_rfl, by kernel_rfl⟩
          · have hS := cond_F q25 hS
            refine xB 2 [] [(0, vs Ap p cp), (4, vi ((((p).length : Nat) : Int) - 4)), (5, Value.int .u32 y4), (44, vb false), (45, vs Ap p cp), (46, vi ((((p).length : Nat) : Int) - 4))] ?_
            refine xV (qAdd .i64 (((((p).length : Nat) : Int) - 4)) (3) (wr64 (by omega))) ?_
            have fp := fp.mono (e12.trans e15).r
            obtain ⟨q27, hS⟩ := grd_T hS
            have q27p := of_decide_eq_true q27
            have i28 : ((((((p).length : Nat) : Int) - 4) + 3)).toNat < (p).length := by omega
            obtain ⟨ad26, cs26, hA26, hr26, hc26⟩ := fp.at_ (get_getD (d := 0) i28)
            have hr26 : cs26 = [vy ((List.getD p ((((((p).length : Nat) : Int) - 4) + 3)).toNat 0).toNat : Int)] := hr26
            subst hr26
            have nb26 := UInt8.toNat_lt (List.getD p ((((((p).length : Nat) : Int) - 4) + 3)).toNat 0)
            refine xV (qIx ((((((p).length : Nat) : Int) - 4) + 3)).toNat 1 hA26 (show ((((((p).length : Nat) : Int) - 4) + 3) : Int) = _ from by omega) i28) ?_
            refine xV (qLdP (Addr.add ad26 (((((((p).length : Nat) : Int) - 4) + 3)).toNat * 1)) 0 hc26) ?_
            have z5 := u8_in_ (shrK .u32 y4 24)
            refine xB 5 [] [(0, vs Ap p cp), (4, vi ((((p).length : Nat) : Int) - 4)), (54, vb (((List.getD p ((((((p).length : Nat) : Int) - 4) + 3)).toNat 0).toNat : Int) != (IntKind.u8.wrap (shrK .u32 y4 24))))] ?_
            refine xSub [(0, vs Ap p cp), (4, vi ((((p).length : Nat) : Int) - 4)), (54, vb (((List.getD p ((((((p).length : Nat) : Int) - 4) + 3)).toNat 0).toNat : Int) != (IntKind.u8.wrap (shrK .u32 y4 24))))] ?_
            exact hN16 _ (Option.some.inj hS).symm _ _ _ (Gh.le.refl _) ⟨by kernel_rfl, by kernel_rfl⟩
      · intro uu13 hS hN13
        refine wpq_split 33 (b := t10) (by kernel_rfl) (fun q29 => ?_) (fun q29 => ?_)
        · have hS := cond_T q29 hS
          refine xB 10 [] [(0, vs Ap p cp), (4, vi ((((p).length : Nat) : Int) - 4)), (5, Value.int .u32 y4), (43, vb true)] ?_
          refine xSub [(0, vs Ap p cp), (4, vi ((((p).length : Nat) : Int) - 4)), (5, Value.int .u32 y4), (43, vb true)] ?_
          exact hN13 _ (Option.some.inj hS).symm _ _ _ (Gh.le.refl _) ⟨by kernel_rfl, by kernel_rfl⟩
        · have hS := cond_F q29 hS
          refine xB 2 [] [(0, vs Ap p cp), (4, vi ((((p).length : Nat) : Int) - 4)), (5, Value.int .u32 y4), (33, vb false), (34, vs Ap p cp), (35, vi ((((p).length : Nat) : Int) - 4))] ?_
          refine xV (qAdd .i64 (((((p).length : Nat) : Int) - 4)) (2) (wr64 (by omega))) ?_
          have fp := fp.mono e12.r
          obtain ⟨q31, hS⟩ := grd_T hS
          have q31p := of_decide_eq_true q31
          have i32 : ((((((p).length : Nat) : Int) - 4) + 2)).toNat < (p).length := by omega
          obtain ⟨ad30, cs30, hA30, hr30, hc30⟩ := fp.at_ (get_getD (d := 0) i32)
          have hr30 : cs30 = [vy ((List.getD p ((((((p).length : Nat) : Int) - 4) + 2)).toNat 0).toNat : Int)] := hr30
          subst hr30
          have nb30 := UInt8.toNat_lt (List.getD p ((((((p).length : Nat) : Int) - 4) + 2)).toNat 0)
          refine xV (qIx ((((((p).length : Nat) : Int) - 4) + 2)).toNat 1 hA30 (show ((((((p).length : Nat) : Int) - 4) + 2) : Int) = _ from by omega) i32) ?_
          refine xV (qLdP (Addr.add ad30 (((((((p).length : Nat) : Int) - 4) + 2)).toNat * 1)) 0 hc30) ?_
          have z6 := u8_in_ (shrK .u32 y4 16)
          refine xB 5 [] [(0, vs Ap p cp), (4, vi ((((p).length : Nat) : Int) - 4)), (5, Value.int .u32 y4), (43, vb (((List.getD p ((((((p).length : Nat) : Int) - 4) + 2)).toNat 0).toNat : Int) != (IntKind.u8.wrap (shrK .u32 y4 16))))] ?_
          refine xSub [(0, vs Ap p cp), (4, vi ((((p).length : Nat) : Int) - 4)), (5, Value.int .u32 y4), (43, vb (((List.getD p ((((((p).length : Nat) : Int) - 4) + 2)).toNat 0).toNat : Int) != (IntKind.u8.wrap (shrK .u32 y4 16))))] ?_
          exact hN13 _ (Option.some.inj hS).symm _ _ _ (Gh.le.refl _) ⟨by kernel_rfl, by kernel_rfl⟩
    · intro uu10 hS hN10
      refine wpq_split 22 (b := (((List.getD p (((((p).length : Nat) : Int) - 4)).toNat 0).toNat : Int) != (IntKind.u8.wrap y4))) (by kernel_rfl) (fun q33 => ?_) (fun q33 => ?_)
      · have hS := cond_T q33 hS
        have q33p : ¬ (((List.getD p (((((p).length : Nat) : Int) - 4)).toNat 0).toNat : Int) = (IntKind.u8.wrap y4)) := ne_of_bne_ q33
        refine xB 10 [] [(0, vs Ap p cp), (4, vi ((((p).length : Nat) : Int) - 4)), (5, Value.int .u32 y4), (32, vb true)] ?_
        refine xSub [(0, vs Ap p cp), (4, vi ((((p).length : Nat) : Int) - 4)), (5, Value.int .u32 y4), (32, vb true)] ?_
        exact hN10 _ (Option.some.inj hS).symm _ _ _ (Gh.le.refl _) ⟨by kernel_rfl, by kernel_rfl⟩
      · have hS := cond_F q33 hS
        have q33p : ((List.getD p (((((p).length : Nat) : Int) - 4)).toNat 0).toNat : Int) = (IntKind.u8.wrap y4) := eq_of_bne_false_ q33
        refine xB 2 [] [(0, vs Ap p cp), (4, vi ((((p).length : Nat) : Int) - 4)), (5, Value.int .u32 y4), (22, vb false), (23, vs Ap p cp), (24, vi ((((p).length : Nat) : Int) - 4))] ?_
        refine xV (qAdd .i64 (((((p).length : Nat) : Int) - 4)) (1) (wr64 (by omega))) ?_
        obtain ⟨q35, hS⟩ := grd_T hS
        have q35p := of_decide_eq_true q35
        have i36 : ((((((p).length : Nat) : Int) - 4) + 1)).toNat < (p).length := by omega
        obtain ⟨ad34, cs34, hA34, hr34, hc34⟩ := fp.at_ (get_getD (d := 0) i36)
        have hr34 : cs34 = [vy ((List.getD p ((((((p).length : Nat) : Int) - 4) + 1)).toNat 0).toNat : Int)] := hr34
        subst hr34
        have nb34 := UInt8.toNat_lt (List.getD p ((((((p).length : Nat) : Int) - 4) + 1)).toNat 0)
        refine xV (qIx ((((((p).length : Nat) : Int) - 4) + 1)).toNat 1 hA34 (show ((((((p).length : Nat) : Int) - 4) + 1) : Int) = _ from by omega) i36) ?_
        refine xV (qLdP (Addr.add ad34 (((((((p).length : Nat) : Int) - 4) + 1)).toNat * 1)) 0 hc34) ?_
        have z7 := u8_in_ (shrK .u32 y4 8)
        refine xB 5 [] [(0, vs Ap p cp), (4, vi ((((p).length : Nat) : Int) - 4)), (5, Value.int .u32 y4), (32, vb (((List.getD p ((((((p).length : Nat) : Int) - 4) + 1)).toNat 0).toNat : Int) != (IntKind.u8.wrap (shrK .u32 y4 8))))] ?_
        refine xSub [(0, vs Ap p cp), (4, vi ((((p).length : Nat) : Int) - 4)), (5, Value.int .u32 y4), (32, vb (((List.getD p ((((((p).length : Nat) : Int) - 4) + 1)).toNat 0).toNat : Int) != (IntKind.u8.wrap (shrK .u32 y4 8))))] ?_
        exact hN10 _ (Option.some.inj hS).symm _ _ _ (Gh.le.refl _) ⟨by kernel_rfl, by kernel_rfl⟩

def o16_L0 (y2 : (List UInt8) × Int) (s29 : Nat × Int) : Option (Ctl (Nat × Int) (Int)) :=
  (cond (decide (((s29.1 : Nat) : Int) < 8)) (grd (decide (2 + ((s29.1 : Nat) : Int) ≤ 9223372036854775807)) (grd (decide ((2 + s29.1) < (y2.1).length)) (grd (decide (0 ≤ (IntKind.i64.wrap (8 * ((s29.1 : Nat) : Int))))) (grd (decide (((s29.1 : Nat) : Int) + 1 ≤ 9223372036854775807)) (some (Ctl.go ((s29.1 + 1), (lorK .i64 s29.2 (IntKind.i64.wrap (shlK .u64 ((List.getD y2.1 (2 + s29.1) 0).toNat : Int) (IntKind.i64.wrap (8 * ((s29.1 : Nat) : Int))))))))))))) (some (Ctl.done (s29.2))))
def o16 (p : List UInt8) : Option (Frame × Int) :=
  (bindO (τ := (List UInt8) × Int) (o26 (p : List UInt8)) fun y2 => (cond ((y2.2 != 0)) (some (((⟨0, 0, 0, ([] : List UInt8)⟩ : Frame), (y2.2 : Int)))) (cond (decide ((((y2.1).length : Nat) : Int) < 12)) (some (((⟨0, 0, 0, ([] : List UInt8)⟩ : Frame), (4 : Int)))) (bindO (τ := Bool) (cond (decide ((IntKind.i64.wrap (((List.getD y2.1 10 0).toNat : Int) + (shlK .i64 ((List.getD y2.1 11 0).toNat : Int) 8))) > 1000)) (some (true)) (grd (decide (-9223372036854775808 ≤ 12 + (IntKind.i64.wrap (((List.getD y2.1 10 0).toNat : Int) + (shlK .i64 ((List.getD y2.1 11 0).toNat : Int) 8))) ∧ 12 + (IntKind.i64.wrap (((List.getD y2.1 10 0).toNat : Int) + (shlK .i64 ((List.getD y2.1 11 0).toNat : Int) 8))) ≤ 9223372036854775807)) (some ((((y2.1).length : Nat) : Int) != (12 + (IntKind.i64.wrap (((List.getD y2.1 10 0).toNat : Int) + (shlK .i64 ((List.getD y2.1 11 0).toNat : Int) 8)))))))) fun t11 => (cond (t11) (some (((⟨0, 0, 0, ([] : List UInt8)⟩ : Frame), (4 : Int)))) (bindO (τ := Int) (loopO (σ := Nat × Int) (ρ := Int) fuelN (o16_L0 y2) (0, 0)) fun t24 => (some (((⟨((List.getD y2.1 0 0).toNat : Int), ((List.getD y2.1 1 0).toNat : Int), t24, (List.drop 12 y2.1)⟩ : Frame), (0 : Int))))))))))
set_option maxRecDepth 100000 in
theorem c16 (g : Gh) (p : List UInt8) (Ap : Option Addr) (cp : Nat) (fp : Arr g.r tyU8 Ap cp p) {r : Frame × Int} (hS : o16 p = some r) :
    Ctr Try.prog 16 [vs Ap p cp] g [] (fun v ψ o => ∃ (Ar_0_payload : Option Addr) (cr_0_payload : Nat), v = Value.tuple #[Value.agg #[vy r.1.label, vy r.1.from_, vi r.1.cycle, vs Ar_0_payload r.1.payload cr_0_payload], vi r.2] ∧ o = [] ∧ Arr ψ tyU8 Ar_0_payload cr_0_payload r.1.payload) := by
  unfold o16 at hS
  refine xFn Try.f16 (Try.f16.body.getD .skip) 69 ?_
  have nfp := fp.len
  refine xSq ?_
  refine xRg ?_
  refine xE eB ?_
  rintro _ _ _ - ⟨b1, rfl, rfl, rfl⟩
  refine xB 1 [] [(0, vs Ap p cp), (2, vp b1 0)] ?_
  refine xRe ?_
  refine wpq_then ?_
  refine xSq ?_
  refine xRg ?_
  refine xB 1 [] [(0, vs Ap p cp), (2, vp b1 0), (9, vs Ap p cp)] ?_
  obtain ⟨y2, hy2, hS⟩ := bindO_T hS
  refine xE (eC 0 (fun g' lr eb ln => c26 g' (p : List UInt8) Ap cp (fp.mono lr) hy2)) ?_
  rintro _ g3 _ e4 ⟨_, rfl, A2_0, c2_0, k2_0, rfl, rfl, h2_0⟩
  have nh2_0 := h2_0.len
  refine xB 5 [] [(0, vs A2_0 y2.1 c2_0), (2, vp b1 0), (4, vi y2.2)] ?_
  refine xRe ?_
  refine wpq_then ?_
  refine xSq ?_
  refine xSq ?_
  refine xRg ?_
  refine xB 2 [] [(0, vs A2_0 y2.1 c2_0), (2, vp b1 0), (4, vi y2.2), (14, vb (y2.2 != 0))] ?_
  refine xRe ?_
  refine wpq_then ?_
  refine xCd ((y2.2 != 0)) (fun h5 => ?_) (fun h5 => ?_)
  · have hS := cond_T h5 hS
    have h5p : ¬ (y2.2 = 0) := ne_of_bne_ h5
    refine xSq ?_
    refine xRg ?_
    refine xBo 4 [(2, 1)] [k2_0, some ⟨b1, 24, (cFrame (⟨0, 0, 0, ([] : List UInt8)⟩ : Frame) none 0)⟩] [(2, vp b1 0), (3, vi y2.2)] ?_
    refine xRe ?_
    refine wpq_then ?_
    have eS := (Option.some.inj hS).symm
    subst eS
    exact xRetC [] [(2, 1)] e4 ⟨none, 0, by kernel_rfl, by kernel_rfl, Arr.nil⟩ (fun _ _ h => h)
  · have hS := cond_F h5 hS
    have h5p : y2.2 = 0 := eq_of_bne_false_ h5
    refine xSk ?_
    refine wpq_then ?_
    refine xSub [(0, vs A2_0 y2.1 c2_0), (2, vp b1 0)] ?_
    refine xSq ?_
    refine xSq ?_
    refine xRg ?_
    refine xB 3 [] [(0, vs A2_0 y2.1 c2_0), (2, vp b1 0), (19, vb (decide ((((y2.1).length : Nat) : Int) < 12)))] ?_
    refine xRe ?_
    refine wpq_then ?_
    refine xCd (decide ((((y2.1).length : Nat) : Int) < 12)) (fun h6 => ?_) (fun h6 => ?_)
    · have hS := cond_T h6 hS
      have h6p := of_decide_eq_true h6
      refine xSq ?_
      refine xRg ?_
      refine xBo 3 [(1, 1)] [k2_0, some ⟨b1, 24, (cFrame (⟨0, 0, 0, ([] : List UInt8)⟩ : Frame) none 0)⟩] [(2, vp b1 0), (3, vi 4)] ?_
      refine xRe ?_
      refine wpq_then ?_
      have eS := (Option.some.inj hS).symm
      subst eS
      exact xRetC [] [(2, 1)] e4 ⟨none, 0, by kernel_rfl, by kernel_rfl, Arr.nil⟩ (fun _ _ h => h)
    · have hS := cond_F h6 hS
      have h6p := of_decide_eq_false h6
      refine xSk ?_
      refine wpq_then ?_
      refine xSub [(0, vs A2_0 y2.1 c2_0), (2, vp b1 0)] ?_
      refine xSq ?_
      refine xDr 0 [2, 6] [10] [k2_0, some ⟨b1, 24, (cFrame (⟨0, 0, 0, ([] : List UInt8)⟩ : Frame) none 0)⟩] 11 (fun RG => ?_) (fun _ _ _ _ _ h => h)
      have i8 : 10 < (y2.1).length := by omega
      obtain ⟨kc7, cs7, hA7, hk7, hr7, hw7⟩ := h2_0.open_ i8 0
      obtain ⟨kb7, rfl⟩ : ∃ z, z = kc7 := ⟨_, rfl⟩
      subst hk7
      have hr7 : cs7 = [vy ((List.getD y2.1 10 0).toNat : Int)] := hr7
      subst hr7
      have nb7 := UInt8.toNat_lt (List.getD y2.1 10 0)
      refine xT 10 [0] [] [some 0, some 1] [(0, vs A2_0 y2.1 c2_0), (2, vp b1 0), (21, vs A2_0 y2.1 c2_0)] RG (Psi.le.refl _) ?_
      refine xTp 1 RG (fun _ => (qIxB 10 1 kb7.g hA7 rfl i8)) ?_
      refine xTv 2 [some 0, some 1] RG (Psi.le.refl _) (qLdB 10 1 0 0 hw7) ?_
      refine xTp 3 RG (fun _ => (qConv .u8 .i64 (((List.getD y2.1 10 0).toNat : Int)) (((List.getD y2.1 10 0).toNat : Int)) (wr64 (by omega)))) ?_
      have i10 : 11 < (y2.1).length := by omega
      obtain ⟨kc9, cs9, hA9, hk9, hr9, hw9⟩ := h2_0.open_ i10 0
      cases hk9
      have hr9 : cs9 = [vy ((List.getD y2.1 11 0).toNat : Int)] := hr9
      subst hr9
      have nb9 := UInt8.toNat_lt (List.getD y2.1 11 0)
      refine xT 6 [4] [] [some 0, some 1] [(0, vs A2_0 y2.1 c2_0), (2, vp b1 0), (24, vi ((List.getD y2.1 10 0).toNat : Int)), (25, vs A2_0 y2.1 c2_0)] RG (Psi.le.refl _) ?_
      refine xTp 5 RG (fun _ => (qIxB 11 1 kb7.g hA9 rfl i10)) ?_
      refine xTv 6 [some 0, some 1] RG (Psi.le.refl _) (qLdB 11 1 0 0 hw9) ?_
      refine xTp 7 RG (fun _ => (qConv .u8 .i64 (((List.getD y2.1 11 0).toNat : Int)) (((List.getD y2.1 11 0).toNat : Int)) (wr64 (by omega)))) ?_
      have z1 := i64_in_ (((List.getD y2.1 10 0).toNat : Int) + (shlK .i64 ((List.getD y2.1 11 0).toNat : Int) 8))
      refine xT 0 [8, 9, 10] [] [some 0, some 1] [(0, vs A2_0 y2.1 c2_0), (2, vp b1 0), (5, vi (IntKind.i64.wrap (((List.getD y2.1 10 0).toNat : Int) + (shlK .i64 ((List.getD y2.1 11 0).toNat : Int) 8))))] RG (Psi.le.refl _) ?_
      refine xAe (lds := [2, 6]) ?_
      refine wpq_then ?_
      refine xSq ?_
      refine xSq ?_
      refine xRg ?_
      refine xB 3 [] [(0, vs A2_0 y2.1 c2_0), (2, vp b1 0), (5, vi (IntKind.i64.wrap (((List.getD y2.1 10 0).toNat : Int) + (shlK .i64 ((List.getD y2.1 11 0).toNat : Int) 8)))), (33, vb (decide ((IntKind.i64.wrap (((List.getD y2.1 10 0).toNat : Int) + (shlK .i64 ((List.getD y2.1 11 0).toNat : Int) 8))) > 1000)))] ?_
      refine xGJo hS 9 (fun g own sl t11 => own = [some ⟨b1, 24, (cFrame (⟨0, 0, 0, ([] : List UInt8)⟩ : Frame) none 0)⟩, (some kb7)] ∧ sl = [(0, vs A2_0 y2.1 c2_0), (2, vp b1 0), (39, vb t11)]) ?_ ?_
      · rintro g12 _ _ t11 e13 ⟨rfl, rfl⟩ hS
        refine xRe ?_
        refine wpq_then ?_
        refine xCd (t11) (fun h14 => ?_) (fun h14 => ?_)
        · have hS := cond_T h14 hS
          refine xSq ?_
          refine xRg ?_
          refine xBo 3 [(1, 0)] [some ⟨b1, 24, (cFrame (⟨0, 0, 0, ([] : List UInt8)⟩ : Frame) none 0)⟩, (some kb7)] [(2, vp b1 0), (3, vi 4)] ?_
          refine xRe ?_
          refine wpq_then ?_
          have eS := (Option.some.inj hS).symm
          subst eS
          exact xRetC [] [(2, 0)] (e4.trans e13) ⟨none, 0, by kernel_rfl, by kernel_rfl, Arr.nil⟩ (fun _ _ h => h)
        · have hS := cond_F h14 hS
          refine xSk ?_
          refine wpq_then ?_
          refine xSub [(0, vs A2_0 y2.1 c2_0), (2, vp b1 0)] ?_
          refine xSq ?_
          have h2_0 := h2_0.mono e13.b
          refine wpq_freeze 1 (by kernel_rfl) h2_0 (fun g15 e16 f17 => ?_)
          refine xDr 0 [2, 5] [10, 8] [some ⟨b1, 24, (cFrame (⟨0, 0, 0, ([] : List UInt8)⟩ : Frame) none 0)⟩] 11 (fun RG => ?_) (fun _ _ _ _ _ h => h)
          have i19 : 0 < (y2.1).length := by omega
          obtain ⟨ad18, cs18, hA18, hr18, hc18⟩ := f17.at_ (get_getD (d := 0) i19)
          have hr18 : cs18 = [vy ((List.getD y2.1 0 0).toNat : Int)] := hr18
          subst hr18
          have nb18 := UInt8.toNat_lt (List.getD y2.1 0 0)
          refine xT 10 [0] [] [some 0] [(0, vs A2_0 y2.1 c2_0), (2, vp b1 0), (41, vs A2_0 y2.1 c2_0)] RG (Psi.le.refl _) ?_
          refine xTp 1 RG (fun _ => (qIx 0 1 hA18 rfl i19)) ?_
          refine xTv 2 [some 0] RG (Psi.le.refl _) (qLdP (Addr.add ad18 (0 * 1)) 0 (hc18.mono g15.br)) ?_
          have i21 : 1 < (y2.1).length := by omega
          obtain ⟨ad20, cs20, hA20, hr20, hc20⟩ := f17.at_ (get_getD (d := 0) i21)
          have hr20 : cs20 = [vy ((List.getD y2.1 1 0).toNat : Int)] := hr20
          subst hr20
          have nb20 := UInt8.toNat_lt (List.getD y2.1 1 0)
          refine xT 7 [3] [] [some 0] [(0, vs A2_0 y2.1 c2_0), (2, vp b1 0), (43, vy ((List.getD y2.1 0 0).toNat : Int)), (44, vs A2_0 y2.1 c2_0)] RG (Psi.le.refl _) ?_
          refine xTp 4 RG (fun _ => (qIx 1 1 hA20 rfl i21)) ?_
          refine xTv 5 [some 0] RG (Psi.le.refl _) (qLdP (Addr.add ad20 (1 * 1)) 0 (hc20.mono g15.br)) ?_
          have ncapf22 := f17.cap
          have f22 : Arr g15.b tyU8 (offA A2_0 c2_0 12 1) (c2_0 - 12) (List.drop 12 y2.1) := f17.cut_from 12 (by omega)
          have nf22 := f22.len
          have hlf22 : (y2.1).length - 12 = ((List.drop 12 y2.1)).length := by simp only [List.length_take, List.length_drop] <;> omega
          have hvf22 : ((((List.drop 12 y2.1)).length : Nat) : Int) = (((y2.1).length : Nat) : Int) - 12 := by omega
          refine xT 4 [6] [] [some 0] [(0, vs A2_0 y2.1 c2_0), (2, vp b1 0), (43, vy ((List.getD y2.1 0 0).toNat : Int)), (46, vy ((List.getD y2.1 1 0).toNat : Int)), (47, vs A2_0 y2.1 c2_0)] RG (Psi.le.refl _) ?_
          refine xTp 7 RG (fun _ => (qSl (m := 1) (A := A2_0) (len := (y2.1).length) (c := c2_0) 12 (y2.1).length (some 12) none ((List.drop 12 y2.1)).length rfl rfl (by omega) (by omega) hlf22)) ?_
          refine xT 2 [8] [] [some 0] [(0, vs A2_0 y2.1 c2_0), (2, vp b1 0), (49, Value.agg #[vy ((List.getD y2.1 0 0).toNat : Int), vy ((List.getD y2.1 1 0).toNat : Int), vi 0, vs (offA A2_0 c2_0 12 1) (List.drop 12 y2.1) (c2_0 - 12)])] RG (Psi.le.refl _) ?_
          refine xO1 (lds := [2, 5]) 9 ?_
          refine xIe (lds := [2, 5]) (Psi.le.refl _) eB ?_
          rintro _ _ _ - ⟨b23, rfl, rfl, rfl⟩
          refine kk [some 1] ?_
          refine xO1 (lds := [2, 5]) 10 ?_
          refine xId (lds := [2, 5]) (Psi.le.refl _) (eStL b23 0 0) ?_
          rintro _ _ _ - ⟨rfl, rfl⟩
          refine kf ?_
          refine xAe (lds := [2, 5]) ?_
          refine wpq_then ?_
          refine xSub [(0, vs A2_0 y2.1 c2_0), (2, vp b1 0), (6, vp b23 0)] ?_
          refine xSq ?_
          refine xSq ?_
          refine xRg ?_
          refine xB 1 [] [(0, vs A2_0 y2.1 c2_0), (2, vp b1 0), (6, vp b23 0), (50, vi 0)] ?_
          refine xRe ?_
          refine wpq_then ?_
          refine xBindO hS (fun g own sl t24 => own = [some ⟨b23, 24, (cFrame (⟨((List.getD y2.1 0 0).toNat : Int), ((List.getD y2.1 1 0).toNat : Int), t24, (List.drop 12 y2.1)⟩ : Frame) (offA A2_0 c2_0 12 1) (c2_0 - 12))⟩, some ⟨b1, 24, (cFrame (⟨0, 0, 0, ([] : List UInt8)⟩ : Frame) none 0)⟩] ∧ sl = [(2, vp b1 0), (6, vp b23 0)]) ?_ ?_
          · rintro g25 _ _ t24 e26 ⟨rfl, rfl⟩ hS
            refine wpq_then ?_
            refine xSq ?_
            refine xRg ?_
            refine xBo 3 [(0, 0), (1, 1)] [some ⟨b23, 24, (cFrame (⟨((List.getD y2.1 0 0).toNat : Int), ((List.getD y2.1 1 0).toNat : Int), t24, (List.drop 12 y2.1)⟩ : Frame) (offA A2_0 c2_0 12 1) (c2_0 - 12))⟩, some ⟨b1, 24, (cFrame (⟨((List.getD y2.1 0 0).toNat : Int), ((List.getD y2.1 1 0).toNat : Int), t24, (List.drop 12 y2.1)⟩ : Frame) (offA A2_0 c2_0 12 1) (c2_0 - 12))⟩] [(2, vp b1 0), (3, vi 0)] ?_
            refine xRe ?_
            refine wpq_then ?_
            have f22 := f22.mono e26.b
            have eS := (Option.some.inj hS).symm
            subst eS
            exact xRetC [] [(2, 1)] (e4.trans (e13.trans (e16.trans e26))) ⟨(offA A2_0 c2_0 12 1), (c2_0 - 12), by kernel_rfl, by kernel_rfl, f22⟩ (fun _ _ h => h)
          · intro uu24 hS hN24
            refine xBl 0 ?_
            refine xSel [some 0, some 1] ?_
            refine xSub [(0, vs A2_0 y2.1 c2_0), (2, vp b1 0), (6, vp b23 0), (50, vi 0)] ?_
            refine xLo hS (fun g own sl s29 => own = [some ⟨b23, 24, (cFrame (⟨((List.getD y2.1 0 0).toNat : Int), ((List.getD y2.1 1 0).toNat : Int), s29.2, (List.drop 12 y2.1)⟩ : Frame) (offA A2_0 c2_0 12 1) (c2_0 - 12))⟩, some ⟨b1, 24, (cFrame (⟨0, 0, 0, ([] : List UInt8)⟩ : Frame) none 0)⟩] ∧ sl = [(0, vs A2_0 y2.1 c2_0), (2, vp b1 0), (6, vp b23 0), (50, vi ((s29.1 : Nat) : Int))]) ⟨by kernel_rfl, by kernel_rfl⟩ ?_
            rintro g30 _ _ s29 uu29 e31 ⟨rfl, rfl⟩ hS Qr29 hN29 hD29
            unfold o16_L0 at hS
            refine xSq ?_
            refine xRg ?_
            refine xB 1 [] [(0, vs A2_0 y2.1 c2_0), (2, vp b1 0), (6, vp b23 0), (50, vi ((s29.1 : Nat) : Int)), (51, vb (decide (((s29.1 : Nat) : Int) < 8)))] ?_
            refine xRe ?_
            refine wpq_then ?_
            refine xSq ?_
            refine xCd (decide (((s29.1 : Nat) : Int) < 8)) (fun h32 => ?_) (fun h32 => ?_)
            · have hS := cond_T h32 hS
              have h32p := of_decide_eq_true h32
              refine xSk ?_
              refine wpq_then ?_
              refine xSub [(0, vs A2_0 y2.1 c2_0), (2, vp b1 0), (6, vp b23 0), (50, vi ((s29.1 : Nat) : Int))] ?_
              refine xSq ?_
              refine xBl 1 ?_
              refine xSq ?_
              refine xRg ?_
              refine xB 2 [] [(0, vs A2_0 y2.1 c2_0), (2, vp b1 0), (6, vp b23 0), (7, vi ((s29.1 : Nat) : Int)), (50, vi ((s29.1 : Nat) : Int))] ?_
              refine xRe ?_
              refine wpq_then ?_
              refine xDr 0 [1, 6] [14, 13] [some ⟨b23, 24, (cFrame (⟨((List.getD y2.1 0 0).toNat : Int), ((List.getD y2.1 1 0).toNat : Int), s29.2, (List.drop 12 y2.1)⟩ : Frame) (offA A2_0 c2_0 12 1) (c2_0 - 12))⟩, some ⟨b1, 24, (cFrame (⟨0, 0, 0, ([] : List UInt8)⟩ : Frame) none 0)⟩] 15 (fun RG => ?_) (fun _ _ _ _ _ h => h)
              obtain ⟨q33, hS⟩ := grd_T hS
              have q33p := of_decide_eq_true q33
              refine xT 11 [0, 1, 2, 3] [(1, 0)] [some 0, some 1] [(0, vs A2_0 y2.1 c2_0), (2, vp b1 0), (6, vp b23 0), (7, vi ((s29.1 : Nat) : Int)), (50, vi ((s29.1 : Nat) : Int)), (54, vi s29.2), (55, vs A2_0 y2.1 c2_0), (56, vi ((s29.1 : Nat) : Int))] RG (Psi.le.refl _) ?_
              refine xTp 4 RG (fun _ => (qAdd .i64 (2) (((s29.1 : Nat) : Int)) (wr64 (by omega)))) ?_
              have f17 := f17.mono e31.b
              obtain ⟨q35, hS⟩ := grd_T hS
              have q35p := of_decide_eq_true q35
              obtain ⟨ad34, cs34, hA34, hr34, hc34⟩ := f17.at_ (get_getD (d := 0) q35p)
              have hr34 : cs34 = [vy ((List.getD y2.1 (2 + s29.1) 0).toNat : Int)] := hr34
              subst hr34
              have nb34 := UInt8.toNat_lt (List.getD y2.1 (2 + s29.1) 0)
              refine xTp 5 RG (fun _ => (qIx (2 + s29.1) 1 hA34 rfl q35p)) ?_
              refine xTv 6 [some 0, some 1] RG (Psi.le.refl _) (qLdP (Addr.add ad34 ((2 + s29.1) * 1)) 0 (hc34.mono g30.br)) ?_
              refine xTp 7 RG (fun _ => (qConv .u8 .u64 (((List.getD y2.1 (2 + s29.1) 0).toNat : Int)) (((List.getD y2.1 (2 + s29.1) 0).toNat : Int)) (wr_u64 (by omega)))) ?_
              have z24 := i64_in_ (8 * ((s29.1 : Nat) : Int))
              obtain ⟨q36, hS⟩ := grd_T hS
              have q36p := of_decide_eq_true q36
              refine xT 5 [8, 9] [] [some 0, some 1] [(0, vs A2_0 y2.1 c2_0), (2, vp b1 0), (6, vp b23 0), (50, vi ((s29.1 : Nat) : Int)), (54, vi s29.2), (60, Value.int .u64 ((List.getD y2.1 (2 + s29.1) 0).toNat : Int)), (62, vi (IntKind.i64.wrap (8 * ((s29.1 : Nat) : Int))))] RG (Psi.le.refl _) ?_
              refine xTp 10 RG (fun _ => (qShl .u64 .i64 (((List.getD y2.1 (2 + s29.1) 0).toNat : Int)) ((IntKind.i64.wrap (8 * ((s29.1 : Nat) : Int)))) (by omega))) ?_
              have z25 := i64_in_ (shlK .u64 ((List.getD y2.1 (2 + s29.1) 0).toNat : Int) (IntKind.i64.wrap (8 * ((s29.1 : Nat) : Int))))
              refine xT 1 [11, 12, 13] [] [some 0, some 1] [(0, vs A2_0 y2.1 c2_0), (2, vp b1 0), (6, vp b23 0), (50, vi ((s29.1 : Nat) : Int)), (65, vi (lorK .i64 s29.2 (IntKind.i64.wrap (shlK .u64 ((List.getD y2.1 (2 + s29.1) 0).toNat : Int) (IntKind.i64.wrap (8 * ((s29.1 : Nat) : Int))))))), (66, vp b23 2)] RG (Psi.le.refl _) ?_
              refine xO1 (lds := [1, 6]) 14 ?_
              refine xId (lds := [1, 6]) (Psi.le.refl _) (eStL b23 2 0) ?_
              rintro _ _ _ - ⟨rfl, rfl⟩
              refine kf ?_
              refine xAe (lds := [1, 6]) ?_
              refine wpq_blockN ?_
              refine wpq_then ?_
              refine xSub [(0, vs A2_0 y2.1 c2_0), (2, vp b1 0), (6, vp b23 0), (50, vi ((s29.1 : Nat) : Int))] ?_
              refine xRg ?_
              obtain ⟨q37, hS⟩ := grd_T hS
              have q37p := of_decide_eq_true q37
              refine xV (qAdd .i64 (((s29.1 : Nat) : Int)) (1) (wr64 (by omega))) ?_
              refine xB 1 [] [(0, vs A2_0 y2.1 c2_0), (2, vp b1 0), (6, vp b23 0), (50, vi (((s29.1 : Nat) : Int) + 1))] ?_
              refine xRe ?_
              refine wpq_thenN ?_
              refine xSub [(0, vs A2_0 y2.1 c2_0), (2, vp b1 0), (6, vp b23 0), (50, vi (((s29.1 : Nat) : Int) + 1))] ?_
              have eS := (Option.some.inj hS).symm
              exact hN29 _ eS _ _ _ (Gh.le.refl _) ⟨by kernel_rfl, by kernel_rfl⟩
            · have hS := cond_F h32 hS
              have h32p := of_decide_eq_false h32
              refine xEx 0 ?_
              refine wpq_thenX ?_
              refine wpq_thenX ?_
              refine wpq_blockE ?_
              refine xSub [(2, vp b1 0), (6, vp b23 0)] ?_
              have eS := (Option.some.inj hS).symm
              have eS := (hD29 _ eS).symm
              exact hN24 _ eS _ _ _ e31 ⟨by kernel_rfl, by kernel_rfl⟩
      · intro uu11 hS hN11
        refine wpq_split 33 (b := decide ((IntKind.i64.wrap (((List.getD y2.1 10 0).toNat : Int) + (shlK .i64 ((List.getD y2.1 11 0).toNat : Int) 8))) > 1000)) (by kernel_rfl) (fun q38 => ?_) (fun q38 => ?_)
        · have hS := cond_T q38 hS
          have q38p := of_decide_eq_true q38
          refine xB 6 [] [(0, vs A2_0 y2.1 c2_0), (2, vp b1 0), (39, vb true)] ?_
          refine xSel [some 1, some 0] ?_
          refine xSub [(0, vs A2_0 y2.1 c2_0), (2, vp b1 0), (39, vb true)] ?_
          exact hN11 _ (Option.some.inj hS).symm _ _ _ (Gh.le.refl _) ⟨by kernel_rfl, by kernel_rfl⟩
        · have hS := cond_F q38 hS
          have q38p := of_decide_eq_false q38
          obtain ⟨q39, hS⟩ := grd_T hS
          have q39p := of_decide_eq_true q39
          refine xB 3 [] [(0, vs A2_0 y2.1 c2_0), (2, vp b1 0), (33, vb false), (35, vi (((y2.1).length : Nat) : Int)), (36, vi (IntKind.i64.wrap (((List.getD y2.1 10 0).toNat : Int) + (shlK .i64 ((List.getD y2.1 11 0).toNat : Int) 8))))] ?_
          refine xV (qAdd .i64 (12) ((IntKind.i64.wrap (((List.getD y2.1 10 0).toNat : Int) + (shlK .i64 ((List.getD y2.1 11 0).toNat : Int) 8)))) (wr64 (by omega))) ?_
          refine xB 2 [] [(0, vs A2_0 y2.1 c2_0), (2, vp b1 0), (39, vb ((((y2.1).length : Nat) : Int) != (12 + (IntKind.i64.wrap (((List.getD y2.1 10 0).toNat : Int) + (shlK .i64 ((List.getD y2.1 11 0).toNat : Int) 8))))))] ?_
          refine xSel [some 1, some 0] ?_
          refine xSub [(0, vs A2_0 y2.1 c2_0), (2, vp b1 0), (39, vb ((((y2.1).length : Nat) : Int) != (12 + (IntKind.i64.wrap (((List.getD y2.1 10 0).toNat : Int) + (shlK .i64 ((List.getD y2.1 11 0).toNat : Int) 8))))))] ?_
          exact hN11 _ (Option.some.inj hS).symm _ _ _ (Gh.le.refl _) ⟨by kernel_rfl, by kernel_rfl⟩

def o37_L0 (l : List Msg) (s9 : Nat × (List Bool)) : Option (Ctl (Nat × (List Bool)) (Ctl (Unit) (Int))) :=
  (cond (decide (((s9.1 : Nat) : Int) < (((l).length : Nat) : Int))) (cond (((((decide ((List.getD l s9.1 default).period < 1) || decide ((List.getD l s9.1 default).period > 32)) || ((landK .i64 (List.getD l s9.1 default).period ((List.getD l s9.1 default).period - 1)) != 0)) || decide ((List.getD l s9.1 default).length < 1)) || decide ((List.getD l s9.1 default).length > 1000))) (some (Ctl.done (Ctl.done ((1 : Int))))) (grd (decide (0 ≤ (List.getD l s9.1 default).label ∧ (List.getD l s9.1 default).label < 256)) (cond ((List.getD s9.2 ((List.getD l s9.1 default).label).toNat false)) (some (Ctl.done (Ctl.done ((7 : Int))))) (grd (decide (0 ≤ (List.getD l s9.1 default).label ∧ (List.getD l s9.1 default).label < 256)) (grd (decide (((s9.1 : Nat) : Int) + 1 ≤ 9223372036854775807)) (some (Ctl.go ((s9.1 + 1), ((List.set s9.2 ((List.getD l s9.1 default).label).toNat true) : List Bool))))))))) (some (Ctl.done (Ctl.go ()))))
def o37 (l : List Msg) : Option (Int) :=
  (cond (decide ((((l).length : Nat) : Int) > 32)) (some ((3 : Int))) (joinO (τ := Unit) (ρ := Int) (loopO (σ := Nat × (List Bool)) (ρ := Ctl (Unit) (Int)) fuelN (o37_L0 l) (0, ((List.replicate 256 false) : List Bool))) fun t4 => (some ((0 : Int)))))
set_option maxRecDepth 100000 in
theorem c37 (g : Gh) (l : List Msg) (Al : Option Addr) (cl : Nat) (fl : Arr g.r tyMsg Al cl l) {r : Int} (hS : o37 l = some r) :
    Ctr Try.prog 37 [vs Al l cl] g [] (fun v ψ o => v = vi r ∧ o = []) := by
  unfold o37 at hS
  refine xFn Try.f37 (Try.f37.body.getD .skip) 50 ?_
  have nfl := fl.len
  refine xSq ?_
  refine xRg ?_
  refine xB 1 [] [(0, vs Al l cl)] ?_
  refine xRe ?_
  refine wpq_then ?_
  refine xSq ?_
  refine xSq ?_
  refine xRg ?_
  refine xB 3 [] [(0, vs Al l cl), (8, vb (decide ((((l).length : Nat) : Int) > 32)))] ?_
  refine xRe ?_
  refine wpq_then ?_
  refine xCd (decide ((((l).length : Nat) : Int) > 32)) (fun h1 => ?_) (fun h1 => ?_)
  · have hS := cond_T h1 hS
    have h1p := of_decide_eq_true h1
    refine xSq ?_
    refine xRg ?_
    refine xB 1 [] [(2, vi 3)] ?_
    refine xRe ?_
    refine wpq_then ?_
    have eS := (Option.some.inj hS).symm
    subst eS
    exact xRet [] [2] (Gh.le.refl _) ⟨by kernel_rfl, by kernel_rfl⟩ (fun _ _ h => h)
  · have hS := cond_F h1 hS
    have h1p := of_decide_eq_false h1
    refine xSk ?_
    refine wpq_then ?_
    refine xSub [(0, vs Al l cl)] ?_
    refine xSq ?_
    refine xRg ?_
    refine xE eB ?_
    rintro _ _ _ - ⟨b2, rfl, rfl, rfl⟩
    refine wpq_name (T := tyB) (p := g.b) (et := 92) (v := .slice (some ⟨b2, 0, none⟩) 256 256) (xs := (List.replicate 256 false)) 0 (k := some ⟨b2, 92, (List.replicate 256 [vb false]).flatten⟩) (by kernel_rfl) (buf_zeros (show tyB.rep _ _ _ from rfl) (by decide)) (fun k3 h3 => ?_)
    have hz3 : 256 = ((List.replicate 256 false)).length := h3.leneq
    refine wpq_addnone ?_
    refine xRe ?_
    refine wpq_then ?_
    refine xSq ?_
    refine xSq ?_
    refine xRg ?_
    refine xB 3 [] [(3, vp b2 0), (9, vs Al l cl), (10, vi (((l).length : Nat) : Int)), (11, vi 0)] ?_
    refine xRe ?_
    refine wpq_then ?_
    refine xJoinO hS (fun g own sl t4 => own = [] ∧ sl = []) ?_ ?_
    · rintro g5 _ _ t4 e6 ⟨rfl, rfl⟩ hS
      refine wpq_then ?_
      refine xSq ?_
      refine xRg ?_
      refine xB 1 [] [(2, vi 0)] ?_
      refine xRe ?_
      refine wpq_then ?_
      have eS := (Option.some.inj hS).symm
      subst eS
      exact xRet [] [2] e6 ⟨by kernel_rfl, by kernel_rfl⟩ (fun _ _ h => h)
    · intro uu4 hS hN4 hD4
      refine xBl 0 ?_
      refine xSel [none, some 1] ?_
      refine xSub [(3, vp b2 0), (9, vs Al l cl), (10, vi (((l).length : Nat) : Int)), (11, vi 0)] ?_
      refine xLo hS (fun g own sl s9 => ∃ (k9_1 : Option Bk), own = [none, k9_1] ∧ sl = [(3, vp b2 0), (9, vs Al l cl), (10, vi (((l).length : Nat) : Int)), (11, vi ((s9.1 : Nat) : Int))] ∧ Buf g.b tyB 92 (.slice (some ⟨b2, 0, none⟩) (s9.2).length 256) k9_1 s9.2 ∧ 256 = (s9.2).length) ⟨k3, by kernel_rfl, by kernel_rfl, (Buf.re h3 hz3 rfl), hz3⟩ ?_
      rintro g10 _ _ s9 uu9 e11 ⟨k9_1, rfl, rfl, h9_1, hz9_v0⟩ hS Qr9 hN9 hD9
      have nh9_1 := h9_1.len
      unfold o37_L0 at hS
      refine xSq ?_
      refine xRg ?_
      refine xB 1 [] [(3, vp b2 0), (9, vs Al l cl), (10, vi (((l).length : Nat) : Int)), (11, vi ((s9.1 : Nat) : Int)), (12, vb (decide (((s9.1 : Nat) : Int) < (((l).length : Nat) : Int))))] ?_
      refine xRe ?_
      refine wpq_then ?_
      refine xSq ?_
      refine xCd (decide (((s9.1 : Nat) : Int) < (((l).length : Nat) : Int))) (fun h12 => ?_) (fun h12 => ?_)
      · have hS := cond_T h12 hS
        have h12p := of_decide_eq_true h12
        refine xSk ?_
        refine wpq_then ?_
        refine xSub [(3, vp b2 0), (9, vs Al l cl), (10, vi (((l).length : Nat) : Int)), (11, vi ((s9.1 : Nat) : Int))] ?_
        refine xSq ?_
        refine xBl 1 ?_
        refine xSq ?_
        refine xRg ?_
        have fl := fl.mono e11.r
        have i14 : s9.1 < (l).length := by omega
        obtain ⟨ad13, cs13, hA13, hr13, hc13⟩ := fl.at_ (get_getD (d := default) i14)
        obtain ⟨rfl⟩ := hr13
        refine xV (qIx s9.1 3 hA13 rfl i14) ?_
        refine xV (qLdP (Addr.add ad13 (s9.1 * 3)) 0 hc13) ?_
        refine xE eB ?_
        rintro _ _ _ - ⟨b15, rfl, rfl, rfl⟩
        refine xBo 1 [(3, 0)] [some ⟨b15, 70, [vy ((List.getD l s9.1 default).label), vi ((List.getD l s9.1 default).period), vi ((List.getD l s9.1 default).length)]⟩, none, k9_1] [(3, vp b2 0), (5, vp b15 0), (9, vs Al l cl), (10, vi (((l).length : Nat) : Int)), (11, vi ((s9.1 : Nat) : Int))] ?_
        refine xRe ?_
        refine wpq_then ?_
        refine xSq ?_
        refine xSq ?_
        refine xRg ?_
        refine xB 4 [(1, 0)] [(3, vp b2 0), (5, vp b15 0), (9, vs Al l cl), (10, vi (((l).length : Nat) : Int)), (11, vi ((s9.1 : Nat) : Int)), (18, vb (decide ((List.getD l s9.1 default).period < 1)))] ?_
        refine wpr_grp 8 [(3, vp b2 0), (5, vp b15 0), (9, vs Al l cl), (10, vi (((l).length : Nat) : Int)), (11, vi ((s9.1 : Nat) : Int)), (22, vb (decide ((List.getD l s9.1 default).period < 1) || decide ((List.getD l s9.1 default).period > 32)))] (fun hk3 => ?_) ?_
        · refine wpq_split 18 (b := decide ((List.getD l s9.1 default).period < 1)) (by kernel_rfl) (fun q16 => ?_) (fun q16 => ?_)
          · have q16p := of_decide_eq_true q16
            refine xB 4 [] [(3, vp b2 0), (5, vp b15 0), (9, vs Al l cl), (10, vi (((l).length : Nat) : Int)), (11, vi ((s9.1 : Nat) : Int)), (22, vb true)] ?_
            refine wpq_re 22 (v := vb true) (Value.bool ((decide ((List.getD l s9.1 default).period < 1) || decide ((List.getD l s9.1 default).period > 32)))) (by kernel_rfl) (re_or1 q16) ?_
            exact wpq_sub _ (by kernel_rfl) hk3
          · have q16p := of_decide_eq_false q16
            refine xB 4 [(5, 0)] [(3, vp b2 0), (5, vp b15 0), (9, vs Al l cl), (10, vi (((l).length : Nat) : Int)), (11, vi ((s9.1 : Nat) : Int)), (22, vb (decide ((List.getD l s9.1 default).period > 32)))] ?_
            refine wpq_re 22 (v := vb (decide ((List.getD l s9.1 default).period > 32))) (Value.bool ((decide ((List.getD l s9.1 default).period < 1) || decide ((List.getD l s9.1 default).period > 32)))) (by kernel_rfl) (re_or0 q16) ?_
            exact wpq_sub _ (by kernel_rfl) hk3
        · refine xB 1 [] [(3, vp b2 0), (5, vp b15 0), (9, vs Al l cl), (10, vi (((l).length : Nat) : Int)), (11, vi ((s9.1 : Nat) : Int)), (23, vb (decide ((List.getD l s9.1 default).period < 1) || decide ((List.getD l s9.1 default).period > 32)))] ?_
          refine wpr_grp 17 [(3, vp b2 0), (5, vp b15 0), (9, vs Al l cl), (10, vi (((l).length : Nat) : Int)), (11, vi ((s9.1 : Nat) : Int)), (31, vb ((decide ((List.getD l s9.1 default).period < 1) || decide ((List.getD l s9.1 default).period > 32)) || ((landK .i64 (List.getD l s9.1 default).period ((List.getD l s9.1 default).period - 1)) != 0)))] (fun hk8 => ?_) ?_
          · refine wpq_split 23 (b := (decide ((List.getD l s9.1 default).period < 1) || decide ((List.getD l s9.1 default).period > 32))) (by kernel_rfl) (fun q17 => ?_) (fun q17 => ?_)
            · refine xB 8 [] [(3, vp b2 0), (5, vp b15 0), (9, vs Al l cl), (10, vi (((l).length : Nat) : Int)), (11, vi ((s9.1 : Nat) : Int)), (31, vb true)] ?_
              refine wpq_re 31 (v := vb true) (Value.bool (((decide ((List.getD l s9.1 default).period < 1) || decide ((List.getD l s9.1 default).period > 32)) || ((landK .i64 (List.getD l s9.1 default).period ((List.getD l s9.1 default).period - 1)) != 0)))) (by kernel_rfl) (re_or1 q17) ?_
              exact wpq_sub _ (by kernel_rfl) hk8
            · have q17l := (or_false_ q17).1
              have q17r := (or_false_ q17).2
              have q17lp := of_decide_eq_false q17l
              have q17rp := of_decide_eq_false q17r
              refine xB 4 [(10, 0), (12, 0)] [(3, vp b2 0), (5, vp b15 0), (9, vs Al l cl), (10, vi (((l).length : Nat) : Int)), (11, vi ((s9.1 : Nat) : Int)), (23, vb false), (25, vi ((List.getD l s9.1 default).period)), (27, vi ((List.getD l s9.1 default).period))] ?_
              refine xV (qSub .i64 ((List.getD l s9.1 default).period) (1) (wr64 (by omega))) ?_
              refine xB 3 [] [(3, vp b2 0), (5, vp b15 0), (9, vs Al l cl), (10, vi (((l).length : Nat) : Int)), (11, vi ((s9.1 : Nat) : Int)), (31, vb ((landK .i64 (List.getD l s9.1 default).period ((List.getD l s9.1 default).period - 1)) != 0))] ?_
              refine wpq_re 31 (v := vb ((landK .i64 (List.getD l s9.1 default).period ((List.getD l s9.1 default).period - 1)) != 0)) (Value.bool (((decide ((List.getD l s9.1 default).period < 1) || decide ((List.getD l s9.1 default).period > 32)) || ((landK .i64 (List.getD l s9.1 default).period ((List.getD l s9.1 default).period - 1)) != 0)))) (by kernel_rfl) (re_or0 q17) ?_
              exact wpq_sub _ (by kernel_rfl) hk8
          · refine xB 1 [] [(3, vp b2 0), (5, vp b15 0), (9, vs Al l cl), (10, vi (((l).length : Nat) : Int)), (11, vi ((s9.1 : Nat) : Int)), (32, vb ((decide ((List.getD l s9.1 default).period < 1) || decide ((List.getD l s9.1 default).period > 32)) || ((landK .i64 (List.getD l s9.1 default).period ((List.getD l s9.1 default).period - 1)) != 0)))] ?_
            refine wpr_grp 22 [(3, vp b2 0), (5, vp b15 0), (9, vs Al l cl), (10, vi (((l).length : Nat) : Int)), (11, vi ((s9.1 : Nat) : Int)), (36, vb (((decide ((List.getD l s9.1 default).period < 1) || decide ((List.getD l s9.1 default).period > 32)) || ((landK .i64 (List.getD l s9.1 default).period ((List.getD l s9.1 default).period - 1)) != 0)) || decide ((List.getD l s9.1 default).length < 1)))] (fun hk17 => ?_) ?_
            · refine wpq_split 32 (b := ((decide ((List.getD l s9.1 default).period < 1) || decide ((List.getD l s9.1 default).period > 32)) || ((landK .i64 (List.getD l s9.1 default).period ((List.getD l s9.1 default).period - 1)) != 0))) (by kernel_rfl) (fun q18 => ?_) (fun q18 => ?_)
              · refine xB 4 [] [(3, vp b2 0), (5, vp b15 0), (9, vs Al l cl), (10, vi (((l).length : Nat) : Int)), (11, vi ((s9.1 : Nat) : Int)), (36, vb true)] ?_
                refine wpq_re 36 (v := vb true) (Value.bool ((((decide ((List.getD l s9.1 default).period < 1) || decide ((List.getD l s9.1 default).period > 32)) || ((landK .i64 (List.getD l s9.1 default).period ((List.getD l s9.1 default).period - 1)) != 0)) || decide ((List.getD l s9.1 default).length < 1)))) (by kernel_rfl) (re_or1 q18) ?_
                exact wpq_sub _ (by kernel_rfl) hk17
              · have q18l := (or_false_ q18).1
                have q18r := (or_false_ q18).2
                have q18ll := (or_false_ q18l).1
                have q18lr := (or_false_ q18l).2
                have q18llp := of_decide_eq_false q18ll
                have q18lrp := of_decide_eq_false q18lr
                have q18rp : (landK .i64 (List.getD l s9.1 default).period ((List.getD l s9.1 default).period - 1)) = 0 := eq_of_bne_false_ q18r
                refine xB 4 [(19, 0)] [(3, vp b2 0), (5, vp b15 0), (9, vs Al l cl), (10, vi (((l).length : Nat) : Int)), (11, vi ((s9.1 : Nat) : Int)), (36, vb (decide ((List.getD l s9.1 default).length < 1)))] ?_
                refine wpq_re 36 (v := vb (decide ((List.getD l s9.1 default).length < 1))) (Value.bool ((((decide ((List.getD l s9.1 default).period < 1) || decide ((List.getD l s9.1 default).period > 32)) || ((landK .i64 (List.getD l s9.1 default).period ((List.getD l s9.1 default).period - 1)) != 0)) || decide ((List.getD l s9.1 default).length < 1)))) (by kernel_rfl) (re_or0 q18) ?_
                exact wpq_sub _ (by kernel_rfl) hk17
            · refine xB 1 [] [(3, vp b2 0), (5, vp b15 0), (9, vs Al l cl), (10, vi (((l).length : Nat) : Int)), (11, vi ((s9.1 : Nat) : Int)), (37, vb (((decide ((List.getD l s9.1 default).period < 1) || decide ((List.getD l s9.1 default).period > 32)) || ((landK .i64 (List.getD l s9.1 default).period ((List.getD l s9.1 default).period - 1)) != 0)) || decide ((List.getD l s9.1 default).length < 1)))] ?_
              refine wpr_grp 27 [(3, vp b2 0), (5, vp b15 0), (9, vs Al l cl), (10, vi (((l).length : Nat) : Int)), (11, vi ((s9.1 : Nat) : Int)), (41, vb ((((decide ((List.getD l s9.1 default).period < 1) || decide ((List.getD l s9.1 default).period > 32)) || ((landK .i64 (List.getD l s9.1 default).period ((List.getD l s9.1 default).period - 1)) != 0)) || decide ((List.getD l s9.1 default).length < 1)) || decide ((List.getD l s9.1 default).length > 1000)))] (fun hk22 => ?_) ?_
              · refine wpq_split 37 (b := (((decide ((List.getD l s9.1 default).period < 1) || decide ((List.getD l s9.1 default).period > 32)) || ((landK .i64 (List.getD l s9.1 default).period ((List.getD l s9.1 default).period - 1)) != 0)) || decide ((List.getD l s9.1 default).length < 1))) (by kernel_rfl) (fun q19 => ?_) (fun q19 => ?_)
                · refine xB 4 [] [(3, vp b2 0), (5, vp b15 0), (9, vs Al l cl), (10, vi (((l).length : Nat) : Int)), (11, vi ((s9.1 : Nat) : Int)), (41, vb true)] ?_
                  refine wpq_re 41 (v := vb true) (Value.bool (((((decide ((List.getD l s9.1 default).period < 1) || decide ((List.getD l s9.1 default).period > 32)) || ((landK .i64 (List.getD l s9.1 default).period ((List.getD l s9.1 default).period - 1)) != 0)) || decide ((List.getD l s9.1 default).length < 1)) || decide ((List.getD l s9.1 default).length > 1000)))) (by kernel_rfl) (re_or1 q19) ?_
                  exact wpq_sub _ (by kernel_rfl) hk22
                · have q19l := (or_false_ q19).1
                  have q19r := (or_false_ q19).2
                  have q19ll := (or_false_ q19l).1
                  have q19lr := (or_false_ q19l).2
                  have q19lll := (or_false_ q19ll).1
                  have q19llr := (or_false_ q19ll).2
                  have q19lllp := of_decide_eq_false q19lll
                  have q19llrp := of_decide_eq_false q19llr
                  have q19lrp : (landK .i64 (List.getD l s9.1 default).period ((List.getD l s9.1 default).period - 1)) = 0 := eq_of_bne_false_ q19lr
                  have q19rp := of_decide_eq_false q19r
                  refine xB 4 [(24, 0)] [(3, vp b2 0), (5, vp b15 0), (9, vs Al l cl), (10, vi (((l).length : Nat) : Int)), (11, vi ((s9.1 : Nat) : Int)), (41, vb (decide ((List.getD l s9.1 default).length > 1000)))] ?_
                  refine wpq_re 41 (v := vb (decide ((List.getD l s9.1 default).length > 1000))) (Value.bool (((((decide ((List.getD l s9.1 default).period < 1) || decide ((List.getD l s9.1 default).period > 32)) || ((landK .i64 (List.getD l s9.1 default).period ((List.getD l s9.1 default).period - 1)) != 0)) || decide ((List.getD l s9.1 default).length < 1)) || decide ((List.getD l s9.1 default).length > 1000)))) (by kernel_rfl) (re_or0 q19) ?_
                  exact wpq_sub _ (by kernel_rfl) hk22
              · refine xRe ?_
                refine wpq_then ?_
                refine xCd (((((decide ((List.getD l s9.1 default).period < 1) || decide ((List.getD l s9.1 default).period > 32)) || ((landK .i64 (List.getD l s9.1 default).period ((List.getD l s9.1 default).period - 1)) != 0)) || decide ((List.getD l s9.1 default).length < 1)) || decide ((List.getD l s9.1 default).length > 1000))) (fun h20 => ?_) (fun h20 => ?_)
                · have hS := cond_T h20 hS
                  refine xSq ?_
                  refine xRg ?_
                  refine xB 1 [] [(2, vi 1)] ?_
                  refine xRe ?_
                  refine wpq_then ?_
                  have eS := (Option.some.inj hS).symm
                  have eS := (hD9 _ eS).symm
                  have eS := (hD4 _ eS).symm
                  subst eS
                  exact xRet [] [2] e11 ⟨by kernel_rfl, by kernel_rfl⟩ (fun _ _ h => h)
                · have hS := cond_F h20 hS
                  have h20l := (or_false_ h20).1
                  have h20r := (or_false_ h20).2
                  have h20ll := (or_false_ h20l).1
                  have h20lr := (or_false_ h20l).2
                  have h20lll := (or_false_ h20ll).1
                  have h20llr := (or_false_ h20ll).2
                  have h20llll := (or_false_ h20lll).1
                  have h20lllr := (or_false_ h20lll).2
                  have h20llllp := of_decide_eq_false h20llll
                  have h20lllrp := of_decide_eq_false h20lllr
                  have h20llrp : (landK .i64 (List.getD l s9.1 default).period ((List.getD l s9.1 default).period - 1)) = 0 := eq_of_bne_false_ h20llr
                  have h20lrp := of_decide_eq_false h20lr
                  have h20rp := of_decide_eq_false h20r
                  refine xSk ?_
                  refine wpq_then ?_
                  refine xSub [(3, vp b2 0), (5, vp b15 0), (9, vs Al l cl), (10, vi (((l).length : Nat) : Int)), (11, vi ((s9.1 : Nat) : Int))] ?_
                  refine xSq ?_
                  refine xSq ?_
                  refine xRg ?_
                  obtain ⟨q22, hS⟩ := grd_T hS
                  have q22p := of_decide_eq_true q22
                  have i23 : ((List.getD l s9.1 default).label).toNat < 256 := by omega
                  have i24 : ((List.getD l s9.1 default).label).toNat < (s9.2).length := by omega
                  obtain ⟨kc21, cs21, hA21, hk21, hr21, hw21⟩ := h9_1.open_ i24 false
                  obtain ⟨kb21, rfl⟩ : ∃ z, z = kc21 := ⟨_, rfl⟩
                  subst hk21
                  have hr21 : cs21 = [vb (List.getD s9.2 ((List.getD l s9.1 default).label).toNat false)] := hr21
                  subst hr21
                  refine xB 2 [(1, 0)] [(3, vp b2 0), (5, vp b15 0), (9, vs Al l cl), (10, vi (((l).length : Nat) : Int)), (11, vi ((s9.1 : Nat) : Int)), (43, vy ((List.getD l s9.1 default).label))] ?_
                  refine xV (qIxRA ((List.getD l s9.1 default).label).toNat 1 kb21.g hA21 (show ((List.getD l s9.1 default).label : Int) = _ from by omega) i23) ?_
                  refine xV (qLdB ((List.getD l s9.1 default).label).toNat 1 0 2 hw21) ?_
                  refine xRe ?_
                  refine wpq_then ?_
                  refine xSub [(3, vp b2 0), (5, vp b15 0), (9, vs Al l cl), (10, vi (((l).length : Nat) : Int)), (11, vi ((s9.1 : Nat) : Int)), (45, vb (List.getD s9.2 ((List.getD l s9.1 default).label).toNat false))] ?_
                  refine xCd ((List.getD s9.2 ((List.getD l s9.1 default).label).toNat false)) (fun h25 => ?_) (fun h25 => ?_)
                  · have hS := cond_T h25 hS
                    refine xSq ?_
                    refine xRg ?_
                    refine xB 1 [] [(2, vi 7)] ?_
                    refine xRe ?_
                    refine wpq_then ?_
                    have eS := (Option.some.inj hS).symm
                    have eS := (hD9 _ eS).symm
                    have eS := (hD4 _ eS).symm
                    subst eS
                    exact xRet [] [2] e11 ⟨by kernel_rfl, by kernel_rfl⟩ (fun _ _ h => h)
                  · have hS := cond_F h25 hS
                    refine xSk ?_
                    refine wpq_then ?_
                    refine xSub [(3, vp b2 0), (5, vp b15 0), (9, vs Al l cl), (10, vi (((l).length : Nat) : Int)), (11, vi ((s9.1 : Nat) : Int))] ?_
                    refine xRg ?_
                    obtain ⟨q27, hS⟩ := grd_T hS
                    have q27p := of_decide_eq_true q27
                    have i28 : ((List.getD l s9.1 default).label).toNat < 256 := by omega
                    have i29 : ((List.getD l s9.1 default).label).toNat < (s9.2).length := by omega
                    obtain ⟨kc26, cs26, hA26, hk26, hr26, hw26⟩ := h9_1.open_ i29 false
                    cases hk26
                    have hr26 : cs26 = [vb (List.getD s9.2 ((List.getD l s9.1 default).label).toNat false)] := hr26
                    subst hr26
                    refine xB 2 [(1, 0)] [(3, vp b2 0), (9, vs Al l cl), (10, vi (((l).length : Nat) : Int)), (11, vi ((s9.1 : Nat) : Int)), (47, vy ((List.getD l s9.1 default).label))] ?_
                    refine xV (qIxRA ((List.getD l s9.1 default).label).toNat 1 kb21.g hA26 (show ((List.getD l s9.1 default).label : Int) = _ from by omega) i28) ?_
                    refine xD (eStB ((List.getD l s9.1 default).label).toNat 1 0 2 [vb true] h9_1 rfl hw26 (show tyB.rep _ _ _ from rfl) i29) ?_
                    rintro _ _ _ - ⟨k30, rfl, rfl, h30⟩
                    have hz30 : (s9.2).length = ((List.set s9.2 ((List.getD l s9.1 default).label).toNat true)).length := by simp
                    have hz30_1 : 256 = ((List.set s9.2 ((List.getD l s9.1 default).label).toNat true)).length := hz9_v0.trans hz30
                    refine xRe ?_
                    refine wpq_blockN ?_
                    refine wpq_then ?_
                    refine xSub [(3, vp b2 0), (9, vs Al l cl), (10, vi (((l).length : Nat) : Int)), (11, vi ((s9.1 : Nat) : Int))] ?_
                    refine xRg ?_
                    obtain ⟨q31, hS⟩ := grd_T hS
                    have q31p := of_decide_eq_true q31
                    refine xV (qAdd .i64 (((s9.1 : Nat) : Int)) (1) (wr64 (by omega))) ?_
                    refine xB 1 [] [(3, vp b2 0), (9, vs Al l cl), (10, vi (((l).length : Nat) : Int)), (11, vi (((s9.1 : Nat) : Int) + 1))] ?_
                    refine xRe ?_
                    refine wpq_thenN ?_
                    refine xSel [none, some 2] ?_
                    refine xSub [(3, vp b2 0), (9, vs Al l cl), (10, vi (((l).length : Nat) : Int)), (11, vi (((s9.1 : Nat) : Int) + 1))] ?_
                    have eS := (Option.some.inj hS).symm
                    exact hN9 _ eS _ _ _ (Gh.le.refl _) ⟨k30, by kernel_rfl, by kernel_rfl, (Buf.re h30 hz30 rfl), hz30_1⟩
      · have hS := cond_F h12 hS
        have h12p := of_decide_eq_false h12
        refine xEx 0 ?_
        refine wpq_thenX ?_
        refine wpq_thenX ?_
        refine wpq_blockE ?_
        refine xSel [] ?_
        refine xSub [] ?_
        have eS := (Option.some.inj hS).symm
        have eS := (hD9 _ eS).symm
        exact hN4 _ eS _ _ _ e11 ⟨by kernel_rfl, by kernel_rfl⟩

def o67 (x : Int) : Option (Int) :=
  (letJ (τ := Int × Nat) (cond (decide (x ≥ 4294967296)) (((shrK .u64 x 32), 32)) ((x, 0))) fun t1 => (letJ (τ := Int × Nat) (cond (decide (t1.1 ≥ 65536)) (((shrK .u64 t1.1 16), (t1.2 + 16))) ((t1.1, t1.2))) fun t4 => (letJ (τ := Int × Nat) (cond (decide (t4.1 ≥ 256)) (((shrK .u64 t4.1 8), (t4.2 + 8))) ((t4.1, t4.2))) fun t7 => (grd (decide (0 ≤ (IntKind.u8.wrap t7.1) ∧ (IntKind.u8.wrap t7.1) < (((len8L).length : Nat) : Int))) (some (((((t7.2 : Nat) : Int) + (((List.getD (len8L : List UInt8) ((IntKind.u8.wrap t7.1)).toNat 0)).toNat : Int)) : Int)))))))
set_option maxRecDepth 100000 in
theorem c67 (g : Gh) (x : Int) {r : Int} (hS : o67 x = some r) :
    Ctr Try.prog 67 [Value.int .u64 x] g [] (fun v ψ o => v = vi r ∧ o = []) := by
  unfold o67 at hS
  refine xFn Try.f67 (Try.f67.body.getD .skip) 25 ?_
  refine xSq ?_
  refine xRg ?_
  refine xB 1 [] [(0, Value.int .u64 x), (2, vi 0)] ?_
  refine xRe ?_
  refine wpq_then ?_
  refine xSq ?_
  refine xSq ?_
  refine xRg ?_
  refine xB 2 [] [(0, Value.int .u64 x), (2, vi 0), (4, vb (decide (x ≥ 4294967296)))] ?_
  refine xRe ?_
  refine wpq_then ?_
  refine xLetJ hS (fun g own sl t1 => own = [] ∧ sl = [(0, Value.int .u64 t1.1), (2, vi ((t1.2 : Nat) : Int))] ∧ (0 ≤ t1.2 ∧ t1.2 ≤ 32)) ?_ ?_
  · rintro g2 _ _ t1 e3 ⟨rfl, rfl, ⟨r1_0l, r1_0r⟩⟩ hS
    refine wpq_then ?_
    refine xSq ?_
    refine xSq ?_
    refine xRg ?_
    refine xB 2 [] [(0, Value.int .u64 t1.1), (2, vi ((t1.2 : Nat) : Int)), (8, vb (decide (t1.1 ≥ 65536)))] ?_
    refine xRe ?_
    refine wpq_then ?_
    refine xLetJ hS (fun g own sl t4 => own = [] ∧ sl = [(0, Value.int .u64 t4.1), (2, vi ((t4.2 : Nat) : Int))] ∧ (0 ≤ t4.2 ∧ t4.2 ≤ 48)) ?_ ?_
    · rintro g5 _ _ t4 e6 ⟨rfl, rfl, ⟨r4_0l, r4_0r⟩⟩ hS
      refine wpq_then ?_
      refine xSq ?_
      refine xSq ?_
      refine xRg ?_
      refine xB 2 [] [(0, Value.int .u64 t4.1), (2, vi ((t4.2 : Nat) : Int)), (14, vb (decide (t4.1 ≥ 256)))] ?_
      refine xRe ?_
      refine wpq_then ?_
      refine xLetJ hS (fun g own sl t7 => own = [] ∧ sl = [(0, Value.int .u64 t7.1), (2, vi ((t7.2 : Nat) : Int))] ∧ (0 ≤ t7.2 ∧ t7.2 ≤ 56)) ?_ ?_
      · rintro g8 _ _ t7 e9 ⟨rfl, rfl, ⟨r7_0l, r7_0r⟩⟩ hS
        refine wpq_then ?_
        refine xSq ?_
        refine xRg ?_
        have z1 := u8_in_ t7.1
        obtain ⟨q10, hS⟩ := grd_T hS
        have q10p := of_decide_eq_true q10
        have i11 : ((IntKind.u8.wrap t7.1)).toNat < (len8L).length := by omega
        have nb12 := UInt8.toNat_lt (List.getD (len8L : List UInt8) ((IntKind.u8.wrap t7.1)).toNat 0)
        refine xB 3 [] [(2, vi ((t7.2 : Nat) : Int)), (19, vi ((t7.2 : Nat) : Int)), (21, vy (IntKind.u8.wrap t7.1))] ?_
        refine xV (qIxS ((IntKind.u8.wrap t7.1)).toNat (show ((IntKind.u8.wrap t7.1) : Int) = _ from by omega) i11) ?_
        refine xV (qConv .u8 .i64 ((((List.getD (len8L : List UInt8) ((IntKind.u8.wrap t7.1)).toNat 0)).toNat : Int)) ((((List.getD (len8L : List UInt8) ((IntKind.u8.wrap t7.1)).toNat 0)).toNat : Int)) (wr64 (by omega))) ?_
        refine xV (qAdd .i64 (((t7.2 : Nat) : Int)) ((((List.getD (len8L : List UInt8) ((IntKind.u8.wrap t7.1)).toNat 0)).toNat : Int)) (wr64 (by omega))) ?_
        refine xB 1 [] [(2, vi (((t7.2 : Nat) : Int) + (((List.getD (len8L : List UInt8) ((IntKind.u8.wrap t7.1)).toNat 0)).toNat : Int)))] ?_
        refine xRe ?_
        refine wpq_then ?_
        have eS := (Option.some.inj hS).symm
        subst eS
        exact xRet [] [2] (e3.trans (e6.trans e9)) ⟨by kernel_rfl, by kernel_rfl⟩ (fun _ _ h => h)
      · intro uu7 hS hN7
        refine xCd (decide (t4.1 ≥ 256)) (fun h13 => ?_) (fun h13 => ?_)
        · have hS := cond_T h13 hS
          have h13p := of_decide_eq_true h13
          refine xSq ?_
          refine xRg ?_
          refine xB 3 [] [(0, Value.int .u64 (shrK .u64 t4.1 8)), (2, vi ((t4.2 : Nat) : Int))] ?_
          refine xRe ?_
          refine wpq_then ?_
          refine xRg ?_
          refine xB 1 [] [(0, Value.int .u64 (shrK .u64 t4.1 8)), (2, vi ((t4.2 : Nat) : Int)), (17, vi ((t4.2 : Nat) : Int))] ?_
          refine xV (qAdd .i64 (((t4.2 : Nat) : Int)) (8) (wr64 (by omega))) ?_
          refine xB 1 [] [(0, Value.int .u64 (shrK .u64 t4.1 8)), (2, vi (((t4.2 : Nat) : Int) + 8))] ?_
          refine xRe ?_
          refine xSub [(0, Value.int .u64 (shrK .u64 t4.1 8)), (2, vi (((t4.2 : Nat) : Int) + 8))] ?_
          have eS := hS.symm
          exact hN7 _ eS _ _ _ (Gh.le.refl _) ⟨by kernel_rfl, by kernel_rfl, okI⟩
        · have hS := cond_F h13 hS
          have h13p := of_decide_eq_false h13
          refine xSk ?_
          refine xSub [(0, Value.int .u64 t4.1), (2, vi ((t4.2 : Nat) : Int))] ?_
          have eS := hS.symm
          exact hN7 _ eS _ _ _ (Gh.le.refl _) ⟨by kernel_rfl, by kernel_rfl, okI⟩
    · intro uu4 hS hN4
      refine xCd (decide (t1.1 ≥ 65536)) (fun h14 => ?_) (fun h14 => ?_)
      · have hS := cond_T h14 hS
        have h14p := of_decide_eq_true h14
        refine xSq ?_
        refine xRg ?_
        refine xB 3 [] [(0, Value.int .u64 (shrK .u64 t1.1 16)), (2, vi ((t1.2 : Nat) : Int))] ?_
        refine xRe ?_
        refine wpq_then ?_
        refine xRg ?_
        refine xB 1 [] [(0, Value.int .u64 (shrK .u64 t1.1 16)), (2, vi ((t1.2 : Nat) : Int)), (11, vi ((t1.2 : Nat) : Int))] ?_
        refine xV (qAdd .i64 (((t1.2 : Nat) : Int)) (16) (wr64 (by omega))) ?_
        refine xB 1 [] [(0, Value.int .u64 (shrK .u64 t1.1 16)), (2, vi (((t1.2 : Nat) : Int) + 16))] ?_
        refine xRe ?_
        refine xSub [(0, Value.int .u64 (shrK .u64 t1.1 16)), (2, vi (((t1.2 : Nat) : Int) + 16))] ?_
        have eS := hS.symm
        exact hN4 _ eS _ _ _ (Gh.le.refl _) ⟨by kernel_rfl, by kernel_rfl, okI⟩
      · have hS := cond_F h14 hS
        have h14p := of_decide_eq_false h14
        refine xSk ?_
        refine xSub [(0, Value.int .u64 t1.1), (2, vi ((t1.2 : Nat) : Int))] ?_
        have eS := hS.symm
        exact hN4 _ eS _ _ _ (Gh.le.refl _) ⟨by kernel_rfl, by kernel_rfl, okI⟩
  · intro uu1 hS hN1
    refine xCd (decide (x ≥ 4294967296)) (fun h15 => ?_) (fun h15 => ?_)
    · have hS := cond_T h15 hS
      have h15p := of_decide_eq_true h15
      refine xSq ?_
      refine xRg ?_
      refine xB 3 [] [(0, Value.int .u64 (shrK .u64 x 32))] ?_
      refine xRe ?_
      refine wpq_then ?_
      refine xRg ?_
      refine xB 1 [] [(0, Value.int .u64 (shrK .u64 x 32)), (2, vi 32)] ?_
      refine xRe ?_
      refine xSub [(0, Value.int .u64 (shrK .u64 x 32)), (2, vi 32)] ?_
      have eS := hS.symm
      exact hN1 _ eS _ _ _ (Gh.le.refl _) ⟨by kernel_rfl, by kernel_rfl, okI⟩
    · have hS := cond_F h15 hS
      have h15p := of_decide_eq_false h15
      refine xSk ?_
      refine xSub [(0, Value.int .u64 x), (2, vi 0)] ?_
      have eS := hS.symm
      exact hN1 _ eS _ _ _ (Gh.le.refl _) ⟨by kernel_rfl, by kernel_rfl, okI⟩

def o53 (x : Int) : Option (Int) :=
  (bindO (τ := Int) (o67 (x : Int)) fun y1 => (some ((y1 : Int))))
set_option maxRecDepth 100000 in
theorem c53 (g : Gh) (x : Int) {r : Int} (hS : o53 x = some r) :
    Ctr Try.prog 53 [Value.int .u64 x] g [] (fun v ψ o => v = vi r ∧ o = []) := by
  unfold o53 at hS
  refine xFn Try.f53 (Try.f53.body.getD .skip) 8 ?_
  refine xSq ?_
  refine xRg ?_
  refine xB 1 [] [(0, Value.int .u64 x)] ?_
  refine xRe ?_
  refine wpq_then ?_
  refine xSq ?_
  refine xCf ?_
  refine xSk ?_
  refine wpq_then ?_
  refine xSq ?_
  refine xRg ?_
  refine xB 1 [] [(6, Value.int .u64 x)] ?_
  obtain ⟨y1, hy1, hS⟩ := bindO_T hS
  refine xE (eC 0 (fun g' lr eb ln => c67 g' (x : Int) hy1)) ?_
  rintro _ g2 _ e3 ⟨_, rfl, rfl, rfl⟩
  refine xB 1 [] [(2, vi y1)] ?_
  refine xRe ?_
  refine wpq_then ?_
  have eS := (Option.some.inj hS).symm
  subst eS
  exact xRet [] [2] e3 ⟨by kernel_rfl, by kernel_rfl⟩ (fun _ _ h => h)

def o54 (x : Int) : Bool :=
  (((x != x)))
set_option maxRecDepth 100000 in
theorem c54 (g : Gh) (x : Int) {r : Bool} (hS : o54 x = r) :
    Ctr Try.prog 54 [vi x] g [] (fun v ψ o => v = vb r ∧ o = []) := by
  unfold o54 at hS
  refine xFn Try.f54 (Try.f54.body.getD .skip) 6 ?_
  refine xSq ?_
  refine xRg ?_
  refine xB 1 [] [(0, vi x)] ?_
  refine xRe ?_
  refine wpq_then ?_
  refine xSq ?_
  refine xRg ?_
  refine xB 4 [] [(2, vb (x != x))] ?_
  refine xRe ?_
  refine wpq_then ?_
  have eS := hS.symm
  subst eS
  exact xRet [] [2] (Gh.le.refl _) ⟨by kernel_rfl, by kernel_rfl⟩ (fun _ _ h => h)

def o41 (x : Int) (y : Int) : Int :=
  (letJ (τ := Bool) (o54 (x : Int)) fun y1 => (letJ (τ := Bool) (o54 (y : Int)) fun y4 => (cond (y1) (cond (y4) ((0 : Int)) ((-1 : Int))) (cond (y4) ((1 : Int)) (cond (decide (x < y)) ((-1 : Int)) (cond (decide (x > y)) ((1 : Int)) ((0 : Int))))))))
set_option maxRecDepth 100000 in
theorem c41 (g : Gh) (x : Int) (y : Int) {r : Int} (hS : o41 x y = r) :
    Ctr Try.prog 41 [vi x, vi y] g [] (fun v ψ o => v = vi r ∧ o = []) := by
  unfold o41 at hS
  refine xFn Try.f41 (Try.f41.body.getD .skip) 20 ?_
  refine xSq ?_
  refine xRg ?_
  refine xB 1 [] [(0, vi x), (1, vi y)] ?_
  refine xRe ?_
  refine wpq_then ?_
  refine xSq ?_
  refine xRg ?_
  refine xB 1 [] [(0, vi x), (1, vi y), (7, vi x)] ?_
  obtain ⟨y1, hy1, hS⟩ := letJ_T hS
  refine xE (eC 0 (fun g' lr eb ln => c54 g' (x : Int) hy1)) ?_
  rintro _ g2 _ e3 ⟨_, rfl, rfl, rfl⟩
  refine xB 1 [] [(0, vi x), (1, vi y), (5, vb y1)] ?_
  refine xRe ?_
  refine wpq_then ?_
  refine xSq ?_
  refine xRg ?_
  refine xB 1 [] [(0, vi x), (1, vi y), (5, vb y1), (9, vi y)] ?_
  obtain ⟨y4, hy4, hS⟩ := letJ_T hS
  refine xE (eC 0 (fun g' lr eb ln => c54 g' (y : Int) hy4)) ?_
  rintro _ g5 _ e6 ⟨_, rfl, rfl, rfl⟩
  refine xB 1 [] [(0, vi x), (1, vi y), (5, vb y1), (6, vb y4)] ?_
  refine xRe ?_
  refine wpq_then ?_
  refine xSq ?_
  refine xSq ?_
  refine xRg ?_
  refine xB 1 [] [(0, vi x), (1, vi y), (6, vb y4), (11, vb y1)] ?_
  refine xRe ?_
  refine wpq_then ?_
  refine xCd (y1) (fun h7 => ?_) (fun h7 => ?_)
  · have hS := cond_T h7 hS
    refine xSq ?_
    refine xSq ?_
    refine xRg ?_
    refine xB 1 [] [(12, vb y4)] ?_
    refine xRe ?_
    refine wpq_then ?_
    refine xCd (y4) (fun h8 => ?_) (fun h8 => ?_)
    · have hS := cond_T h8 hS
      refine xSq ?_
      refine xRg ?_
      refine xB 1 [] [(4, vi 0)] ?_
      refine xRe ?_
      refine wpq_then ?_
      have eS := hS.symm
      subst eS
      exact xRet [] [4] (e3.trans e6) ⟨by kernel_rfl, by kernel_rfl⟩ (fun _ _ h => h)
    · have hS := cond_F h8 hS
      refine xSk ?_
      refine wpq_then ?_
      refine xSub [] ?_
      refine xSq ?_
      refine xRg ?_
      refine xB 1 [] [(4, vi (-1))] ?_
      refine xRe ?_
      refine wpq_then ?_
      have eS := hS.symm
      subst eS
      exact xRet [] [4] (e3.trans e6) ⟨by kernel_rfl, by kernel_rfl⟩ (fun _ _ h => h)
  · have hS := cond_F h7 hS
    refine xSk ?_
    refine wpq_then ?_
    refine xSub [(0, vi x), (1, vi y), (6, vb y4)] ?_
    refine xSq ?_
    refine xSq ?_
    refine xRg ?_
    refine xB 1 [] [(0, vi x), (1, vi y), (13, vb y4)] ?_
    refine xRe ?_
    refine wpq_then ?_
    refine xCd (y4) (fun h9 => ?_) (fun h9 => ?_)
    · have hS := cond_T h9 hS
      refine xSq ?_
      refine xRg ?_
      refine xB 1 [] [(4, vi 1)] ?_
      refine xRe ?_
      refine wpq_then ?_
      have eS := hS.symm
      subst eS
      exact xRet [] [4] (e3.trans e6) ⟨by kernel_rfl, by kernel_rfl⟩ (fun _ _ h => h)
    · have hS := cond_F h9 hS
      refine xSk ?_
      refine wpq_then ?_
      refine xSub [(0, vi x), (1, vi y)] ?_
      refine xSq ?_
      refine xSq ?_
      refine xRg ?_
      refine xB 3 [] [(0, vi x), (1, vi y), (16, vb (decide (x < y)))] ?_
      refine xRe ?_
      refine wpq_then ?_
      refine xCd (decide (x < y)) (fun h10 => ?_) (fun h10 => ?_)
      · have hS := cond_T h10 hS
        have h10p := of_decide_eq_true h10
        refine xSq ?_
        refine xRg ?_
        refine xB 1 [] [(4, vi (-1))] ?_
        refine xRe ?_
        refine wpq_then ?_
        have eS := hS.symm
        subst eS
        exact xRet [] [4] (e3.trans e6) ⟨by kernel_rfl, by kernel_rfl⟩ (fun _ _ h => h)
      · have hS := cond_F h10 hS
        have h10p := of_decide_eq_false h10
        refine xSk ?_
        refine wpq_then ?_
        refine xSub [(0, vi x), (1, vi y)] ?_
        refine xSq ?_
        refine xSq ?_
        refine xRg ?_
        refine xB 3 [] [(19, vb (decide (x > y)))] ?_
        refine xRe ?_
        refine wpq_then ?_
        refine xCd (decide (x > y)) (fun h11 => ?_) (fun h11 => ?_)
        · have hS := cond_T h11 hS
          have h11p := of_decide_eq_true h11
          refine xSq ?_
          refine xRg ?_
          refine xB 1 [] [(4, vi 1)] ?_
          refine xRe ?_
          refine wpq_then ?_
          have eS := hS.symm
          subst eS
          exact xRet [] [4] (e3.trans e6) ⟨by kernel_rfl, by kernel_rfl⟩ (fun _ _ h => h)
        · have hS := cond_F h11 hS
          have h11p := of_decide_eq_false h11
          refine xSk ?_
          refine wpq_then ?_
          refine xSub [] ?_
          refine xSq ?_
          refine xRg ?_
          refine xB 1 [] [(4, vi 0)] ?_
          refine xRe ?_
          refine wpq_then ?_
          have eS := hS.symm
          subst eS
          exact xRet [] [4] (e3.trans e6) ⟨by kernel_rfl, by kernel_rfl⟩ (fun _ _ h => h)

def o55 (x : Int) : Bool :=
  (((x != x)))
set_option maxRecDepth 100000 in
theorem c55 (g : Gh) (x : Int) {r : Bool} (hS : o55 x = r) :
    Ctr Try.prog 55 [vy x] g [] (fun v ψ o => v = vb r ∧ o = []) := by
  unfold o55 at hS
  refine xFn Try.f55 (Try.f55.body.getD .skip) 6 ?_
  refine xSq ?_
  refine xRg ?_
  refine xB 1 [] [(0, vy x)] ?_
  refine xRe ?_
  refine wpq_then ?_
  refine xSq ?_
  refine xRg ?_
  refine xB 4 [] [(2, vb (x != x))] ?_
  refine xRe ?_
  refine wpq_then ?_
  have eS := hS.symm
  subst eS
  exact xRet [] [2] (Gh.le.refl _) ⟨by kernel_rfl, by kernel_rfl⟩ (fun _ _ h => h)

def o42 (x : Int) (y : Int) : Int :=
  (letJ (τ := Bool) (o55 (x : Int)) fun y1 => (letJ (τ := Bool) (o55 (y : Int)) fun y4 => (cond (y1) (cond (y4) ((0 : Int)) ((-1 : Int))) (cond (y4) ((1 : Int)) (cond (decide (x < y)) ((-1 : Int)) (cond (decide (x > y)) ((1 : Int)) ((0 : Int))))))))
set_option maxRecDepth 100000 in
theorem c42 (g : Gh) (x : Int) (y : Int) {r : Int} (hS : o42 x y = r) :
    Ctr Try.prog 42 [vy x, vy y] g [] (fun v ψ o => v = vi r ∧ o = []) := by
  unfold o42 at hS
  refine xFn Try.f42 (Try.f42.body.getD .skip) 20 ?_
  refine xSq ?_
  refine xRg ?_
  refine xB 1 [] [(0, vy x), (1, vy y)] ?_
  refine xRe ?_
  refine wpq_then ?_
  refine xSq ?_
  refine xRg ?_
  refine xB 1 [] [(0, vy x), (1, vy y), (7, vy x)] ?_
  obtain ⟨y1, hy1, hS⟩ := letJ_T hS
  refine xE (eC 0 (fun g' lr eb ln => c55 g' (x : Int) hy1)) ?_
  rintro _ g2 _ e3 ⟨_, rfl, rfl, rfl⟩
  refine xB 1 [] [(0, vy x), (1, vy y), (5, vb y1)] ?_
  refine xRe ?_
  refine wpq_then ?_
  refine xSq ?_
  refine xRg ?_
  refine xB 1 [] [(0, vy x), (1, vy y), (5, vb y1), (9, vy y)] ?_
  obtain ⟨y4, hy4, hS⟩ := letJ_T hS
  refine xE (eC 0 (fun g' lr eb ln => c55 g' (y : Int) hy4)) ?_
  rintro _ g5 _ e6 ⟨_, rfl, rfl, rfl⟩
  refine xB 1 [] [(0, vy x), (1, vy y), (5, vb y1), (6, vb y4)] ?_
  refine xRe ?_
  refine wpq_then ?_
  refine xSq ?_
  refine xSq ?_
  refine xRg ?_
  refine xB 1 [] [(0, vy x), (1, vy y), (6, vb y4), (11, vb y1)] ?_
  refine xRe ?_
  refine wpq_then ?_
  refine xCd (y1) (fun h7 => ?_) (fun h7 => ?_)
  · have hS := cond_T h7 hS
    refine xSq ?_
    refine xSq ?_
    refine xRg ?_
    refine xB 1 [] [(12, vb y4)] ?_
    refine xRe ?_
    refine wpq_then ?_
    refine xCd (y4) (fun h8 => ?_) (fun h8 => ?_)
    · have hS := cond_T h8 hS
      refine xSq ?_
      refine xRg ?_
      refine xB 1 [] [(4, vi 0)] ?_
      refine xRe ?_
      refine wpq_then ?_
      have eS := hS.symm
      subst eS
      exact xRet [] [4] (e3.trans e6) ⟨by kernel_rfl, by kernel_rfl⟩ (fun _ _ h => h)
    · have hS := cond_F h8 hS
      refine xSk ?_
      refine wpq_then ?_
      refine xSub [] ?_
      refine xSq ?_
      refine xRg ?_
      refine xB 1 [] [(4, vi (-1))] ?_
      refine xRe ?_
      refine wpq_then ?_
      have eS := hS.symm
      subst eS
      exact xRet [] [4] (e3.trans e6) ⟨by kernel_rfl, by kernel_rfl⟩ (fun _ _ h => h)
  · have hS := cond_F h7 hS
    refine xSk ?_
    refine wpq_then ?_
    refine xSub [(0, vy x), (1, vy y), (6, vb y4)] ?_
    refine xSq ?_
    refine xSq ?_
    refine xRg ?_
    refine xB 1 [] [(0, vy x), (1, vy y), (13, vb y4)] ?_
    refine xRe ?_
    refine wpq_then ?_
    refine xCd (y4) (fun h9 => ?_) (fun h9 => ?_)
    · have hS := cond_T h9 hS
      refine xSq ?_
      refine xRg ?_
      refine xB 1 [] [(4, vi 1)] ?_
      refine xRe ?_
      refine wpq_then ?_
      have eS := hS.symm
      subst eS
      exact xRet [] [4] (e3.trans e6) ⟨by kernel_rfl, by kernel_rfl⟩ (fun _ _ h => h)
    · have hS := cond_F h9 hS
      refine xSk ?_
      refine wpq_then ?_
      refine xSub [(0, vy x), (1, vy y)] ?_
      refine xSq ?_
      refine xSq ?_
      refine xRg ?_
      refine xB 3 [] [(0, vy x), (1, vy y), (16, vb (decide (x < y)))] ?_
      refine xRe ?_
      refine wpq_then ?_
      refine xCd (decide (x < y)) (fun h10 => ?_) (fun h10 => ?_)
      · have hS := cond_T h10 hS
        have h10p := of_decide_eq_true h10
        refine xSq ?_
        refine xRg ?_
        refine xB 1 [] [(4, vi (-1))] ?_
        refine xRe ?_
        refine wpq_then ?_
        have eS := hS.symm
        subst eS
        exact xRet [] [4] (e3.trans e6) ⟨by kernel_rfl, by kernel_rfl⟩ (fun _ _ h => h)
      · have hS := cond_F h10 hS
        have h10p := of_decide_eq_false h10
        refine xSk ?_
        refine wpq_then ?_
        refine xSub [(0, vy x), (1, vy y)] ?_
        refine xSq ?_
        refine xSq ?_
        refine xRg ?_
        refine xB 3 [] [(19, vb (decide (x > y)))] ?_
        refine xRe ?_
        refine wpq_then ?_
        refine xCd (decide (x > y)) (fun h11 => ?_) (fun h11 => ?_)
        · have hS := cond_T h11 hS
          have h11p := of_decide_eq_true h11
          refine xSq ?_
          refine xRg ?_
          refine xB 1 [] [(4, vi 1)] ?_
          refine xRe ?_
          refine wpq_then ?_
          have eS := hS.symm
          subst eS
          exact xRet [] [4] (e3.trans e6) ⟨by kernel_rfl, by kernel_rfl⟩ (fun _ _ h => h)
        · have hS := cond_F h11 hS
          have h11p := of_decide_eq_false h11
          refine xSk ?_
          refine wpq_then ?_
          refine xSub [] ?_
          refine xSq ?_
          refine xRg ?_
          refine xB 1 [] [(4, vi 0)] ?_
          refine xRe ?_
          refine wpq_then ?_
          have eS := hS.symm
          subst eS
          exact xRet [] [4] (e3.trans e6) ⟨by kernel_rfl, by kernel_rfl⟩ (fun _ _ h => h)

def o40_L0 (vals : List Int) (s6 : Nat) : Option (Ctl (Nat) (Ctl (Unit) (Int))) :=
  (cond (decide (((s6 : Nat) : Int) < (((vals).length : Nat) : Int))) (cond (((List.getD vals s6 0) != 0)) (some (Ctl.done (Ctl.done (((List.getD vals s6 0) : Int))))) (grd (decide (((s6 : Nat) : Int) + 1 ≤ 9223372036854775807)) (some (Ctl.go (s6 + 1))))) (some (Ctl.done (Ctl.go ()))))
def o40 (vals : List Int) : Option (Int) :=
  (joinO (τ := Unit) (ρ := Int) (loopO (σ := Nat) (ρ := Ctl (Unit) (Int)) fuelN (o40_L0 vals) (0)) fun t1 => (some ((0 : Int))))
set_option maxRecDepth 100000 in
theorem c40 (g : Gh) (vals : List Int) (Avals : Option Addr) (cvals : Nat) (fvals : Arr g.r (tyI .i64) Avals cvals vals) {r : Int} (hS : o40 vals = some r) :
    Ctr Try.prog 40 [vs Avals vals cvals] g [] (fun v ψ o => v = vi r ∧ o = []) := by
  unfold o40 at hS
  refine xFn Try.f40 (Try.f40.body.getD .skip) 18 ?_
  have nfvals := fvals.len
  refine xSq ?_
  refine xRg ?_
  refine xB 1 [] [(0, vs Avals vals cvals)] ?_
  refine xRe ?_
  refine wpq_then ?_
  refine xSq ?_
  refine xRg ?_
  refine xB 1 [] [(0, vs Avals vals cvals), (3, vi 0)] ?_
  refine xRe ?_
  refine wpq_then ?_
  refine xSq ?_
  refine xSq ?_
  refine xRg ?_
  refine xB 3 [] [(3, vi 0), (6, vs Avals vals cvals), (7, vi (((vals).length : Nat) : Int)), (8, vi 0)] ?_
  refine xRe ?_
  refine wpq_then ?_
  refine xJoinO hS (fun g own sl t1 => own = [] ∧ sl = [(3, vi 0)]) ?_ ?_
  · rintro g2 _ _ t1 e3 ⟨rfl, rfl⟩ hS
    refine wpq_then ?_
    refine xSq ?_
    refine xRg ?_
    refine xB 2 [] [(2, vi 0)] ?_
    refine xRe ?_
    refine wpq_then ?_
    have eS := (Option.some.inj hS).symm
    subst eS
    exact xRet [] [2] e3 ⟨by kernel_rfl, by kernel_rfl⟩ (fun _ _ h => h)
  · intro uu1 hS hN1 hD1
    refine xBl 0 ?_
    refine xSub [(3, vi 0), (6, vs Avals vals cvals), (7, vi (((vals).length : Nat) : Int)), (8, vi 0)] ?_
    refine xLo hS (fun g own sl s6 => own = [] ∧ sl = [(3, vi 0), (6, vs Avals vals cvals), (7, vi (((vals).length : Nat) : Int)), (8, vi ((s6 : Nat) : Int))]) ⟨by kernel_rfl, by kernel_rfl⟩ ?_
    rintro g7 _ _ s6 uu6 e8 ⟨rfl, rfl⟩ hS Qr6 hN6 hD6
    unfold o40_L0 at hS
    refine xSq ?_
    refine xRg ?_
    refine xB 1 [] [(3, vi 0), (6, vs Avals vals cvals), (7, vi (((vals).length : Nat) : Int)), (8, vi ((s6 : Nat) : Int)), (9, vb (decide (((s6 : Nat) : Int) < (((vals).length : Nat) : Int))))] ?_
    refine xRe ?_
    refine wpq_then ?_
    refine xSq ?_
    refine xCd (decide (((s6 : Nat) : Int) < (((vals).length : Nat) : Int))) (fun h9 => ?_) (fun h9 => ?_)
    · have hS := cond_T h9 hS
      have h9p := of_decide_eq_true h9
      refine xSk ?_
      refine wpq_then ?_
      refine xSub [(3, vi 0), (6, vs Avals vals cvals), (7, vi (((vals).length : Nat) : Int)), (8, vi ((s6 : Nat) : Int))] ?_
      refine xSq ?_
      refine xBl 1 ?_
      refine xSq ?_
      refine xRg ?_
      have fvals := fvals.mono e8.r
      have i11 : s6 < (vals).length := by omega
      obtain ⟨ad10, cs10, hA10, hr10, hc10⟩ := fvals.at_ (get_getD (d := 0) i11)
      have hr10 : cs10 = [vi (List.getD vals s6 0)] := hr10
      subst hr10
      refine xV (qIx s6 1 hA10 rfl i11) ?_
      refine xV (qLdP (Addr.add ad10 (s6 * 1)) 0 hc10) ?_
      refine xB 1 [] [(3, vi 0), (5, vi (List.getD vals s6 0)), (6, vs Avals vals cvals), (7, vi (((vals).length : Nat) : Int)), (8, vi ((s6 : Nat) : Int))] ?_
      refine xRe ?_
      refine wpq_then ?_
      refine xSq ?_
      refine xRg ?_
      refine xB 3 [] [(3, vi 0), (5, vi (List.getD vals s6 0)), (6, vs Avals vals cvals), (7, vi (((vals).length : Nat) : Int)), (8, vi ((s6 : Nat) : Int)), (14, vb ((List.getD vals s6 0) != 0))] ?_
      refine xRe ?_
      refine wpq_then ?_
      refine xCd (((List.getD vals s6 0) != 0)) (fun h12 => ?_) (fun h12 => ?_)
      · have hS := cond_T h12 hS
        have h12p : ¬ ((List.getD vals s6 0) = 0) := ne_of_bne_ h12
        refine xSq ?_
        refine xRg ?_
        refine xB 2 [] [(2, vi (List.getD vals s6 0))] ?_
        refine xRe ?_
        refine wpq_then ?_
        have eS := (Option.some.inj hS).symm
        have eS := (hD6 _ eS).symm
        have eS := (hD1 _ eS).symm
        subst eS
        exact xRet [] [2] e8 ⟨by kernel_rfl, by kernel_rfl⟩ (fun _ _ h => h)
      · have hS := cond_F h12 hS
        have h12p : (List.getD vals s6 0) = 0 := eq_of_bne_false_ h12
        refine xSk ?_
        refine wpq_blockN ?_
        refine wpq_then ?_
        refine xSub [(3, vi 0), (6, vs Avals vals cvals), (7, vi (((vals).length : Nat) : Int)), (8, vi ((s6 : Nat) : Int))] ?_
        refine xRg ?_
        obtain ⟨q13, hS⟩ := grd_T hS
        have q13p := of_decide_eq_true q13
        refine xV (qAdd .i64 (((s6 : Nat) : Int)) (1) (wr64 (by omega))) ?_
        refine xB 1 [] [(3, vi 0), (6, vs Avals vals cvals), (7, vi (((vals).length : Nat) : Int)), (8, vi (((s6 : Nat) : Int) + 1))] ?_
        refine xRe ?_
        refine wpq_thenN ?_
        refine xSub [(3, vi 0), (6, vs Avals vals cvals), (7, vi (((vals).length : Nat) : Int)), (8, vi (((s6 : Nat) : Int) + 1))] ?_
        have eS := (Option.some.inj hS).symm
        exact hN6 _ eS _ _ _ (Gh.le.refl _) ⟨by kernel_rfl, by kernel_rfl⟩
    · have hS := cond_F h9 hS
      have h9p := of_decide_eq_false h9
      refine xEx 0 ?_
      refine wpq_thenX ?_
      refine wpq_thenX ?_
      refine wpq_blockE ?_
      refine xSub [(3, vi 0)] ?_
      have eS := (Option.some.inj hS).symm
      have eS := (hD6 _ eS).symm
      exact hN1 _ eS _ _ _ e8 ⟨by kernel_rfl, by kernel_rfl⟩

def o39 (i : Int) (j : Int) (fv : List Msg) : Option (Int) :=
  (grd (decide (0 ≤ i ∧ i < (((fv).length : Nat) : Int))) (grd (decide (0 ≤ j ∧ j < (((fv).length : Nat) : Int))) (letJ (τ := Int) (o41 ((List.getD fv (i).toNat default).period : Int) ((List.getD fv (j).toNat default).period : Int)) fun y210 => (letJ (τ := Int) (o41 ((List.getD fv (j).toNat default).length : Int) ((List.getD fv (i).toNat default).length : Int)) fun y213 => (letJ (τ := Int) (o42 ((List.getD fv (i).toNat default).label : Int) ((List.getD fv (j).toNat default).label : Int)) fun y216 => (bindO (τ := Int) (o40 (([(y210 : Int), (y213 : Int), (y216 : Int)] : List Int) : List Int)) fun y220 => (some ((y220 : Int)))))))))
set_option maxRecDepth 100000 in
theorem c39 (g : Gh) (i : Int) (j : Int) (a_fv : Addr) (fv : List Msg) (Afv : Option Addr) (cfv : Nat) (hc_fv : Cells g.r a_fv [vs Afv fv cfv]) (ffv : ArrM g.r g.b tyMsg Afv cfv fv) {r : Int} (hS : o39 i j fv = some r) :
    Ctr Try.prog 39 [vi i, vi j, Value.pointer (some a_fv)] g [] (fun v ψ o => v = vi r ∧ o = []) := by
  unfold o39 at hS
  refine xFn Try.f39 (Try.f39.body.getD .skip) 33 ?_
  have nffv := ffv.len
  refine xSq ?_
  refine xRg ?_
  refine xB 1 [] [(0, vi i), (1, vi j), (2, Value.pointer (some a_fv))] ?_
  refine xRe ?_
  refine wpq_then ?_
  refine xSq ?_
  refine xDr 0 [0, 3, 4, 7] [11] [] 12 (fun RG => ?_) (fun _ _ _ _ _ h => h)
  refine xTv 0 [] RG (Psi.le.refl _) (qLdP a_fv 0 hc_fv) ?_
  obtain ⟨q2, hS⟩ := grd_T hS
  have q2p := of_decide_eq_true q2
  have i3 : (i).toNat < (fv).length := by omega
  obtain ⟨ad1, cs1, hA1, hr1, hc1⟩ := ffv.at_ (get_getD (d := default) i3)
  obtain ⟨rfl⟩ := hr1
  refine xT 10 [1] [] [] [(1, vi j), (2, Value.pointer (some a_fv)), (8, vs Afv fv cfv), (9, vi i)] RG (Psi.le.refl _) ?_
  refine xTp 2 RG (fun _ => (qIx (i).toNat 3 hA1 (show (i : Int) = _ from by omega) i3)) ?_
  refine xTv 3 [] RG (Psi.le.refl _) (qLdP (Addr.add ad1 ((i).toNat * 3)) 0 hc1) ?_
  refine xTv 4 [] RG (Psi.le.refl _) (qLdP a_fv 0 hc_fv) ?_
  obtain ⟨q5, hS⟩ := grd_T hS
  have q5p := of_decide_eq_true q5
  have i6 : (j).toNat < (fv).length := by omega
  obtain ⟨ad4, cs4, hA4, hr4, hc4⟩ := ffv.at_ (get_getD (d := default) i6)
  obtain ⟨rfl⟩ := hr4
  refine xT 6 [5] [] [] [(11, Value.agg #[vy ((List.getD fv (i).toNat default).label), vi ((List.getD fv (i).toNat default).period), vi ((List.getD fv (i).toNat default).length)]), (12, vs Afv fv cfv), (13, vi j)] RG (Psi.le.refl _) ?_
  refine xTp 6 RG (fun _ => (qIx (j).toNat 3 hA4 (show (j : Int) = _ from by omega) i6)) ?_
  refine xTv 7 [] RG (Psi.le.refl _) (qLdP (Addr.add ad4 ((j).toNat * 3)) 0 hc4) ?_
  refine wpa_meet (fun g own sl => ∃ (b8 : Nat) (b9 : Nat), own = [some ⟨b9, 70, [vy 0, vi 0, vi 0]⟩, some ⟨b8, 70, [vy 0, vi 0, vi 0]⟩] ∧ sl = [(6, vp b8 0), (7, vp b9 0), (11, Value.agg #[vy ((List.getD fv (i).toNat default).label), vi ((List.getD fv (i).toNat default).period), vi ((List.getD fv (i).toNat default).length)]), (15, Value.agg #[vy ((List.getD fv (j).toNat default).label), vi ((List.getD fv (j).toNat default).period), vi ((List.getD fv (j).toNat default).length)])]) 2 [true, true, true, true, true, true, true, true, true, true, false, false] ?_ (fun hD7 => ?_)
  · rintro g208 _ _ e209 ⟨b8, b9, rfl, rfl⟩
    refine xO1 (lds := [0, 3, 4, 7]) 10 ?_
    refine xId (lds := [0, 3, 4, 7]) e209.r (eStL b8 0 1) ?_
    rintro _ _ _ - ⟨rfl, rfl⟩
    refine kk [] ?_
    refine xO1 (lds := [0, 3, 4, 7]) 11 ?_
    refine xId (lds := [0, 3, 4, 7]) e209.r (eStL b9 0 0) ?_
    rintro _ _ _ - ⟨rfl, rfl⟩
    refine kf ?_
    refine xAe (lds := [0, 3, 4, 7]) ?_
    refine wpq_then ?_
    refine xSub [(6, vp b8 0), (7, vp b9 0)] ?_
    refine xSq ?_
    refine xDr 0 [1, 3, 6, 8, 11, 13] [17] [some ⟨b9, 70, [vy ((List.getD fv (j).toNat default).label), vi ((List.getD fv (j).toNat default).period), vi ((List.getD fv (j).toNat default).length)]⟩, some ⟨b8, 70, [vy ((List.getD fv (i).toNat default).label), vi ((List.getD fv (i).toNat default).period), vi ((List.getD fv (i).toNat default).length)]⟩] 18 (fun RG => ?_) (fun _ _ _ _ _ h => h)
    refine xT 6 [0, 1, 2, 3, 5, 6, 7, 8, 10, 11, 12, 13] [(1, 1), (3, 0), (6, 0), (8, 1), (11, 1), (13, 0)] [some 0, some 1] [(17, vi ((List.getD fv (i).toNat default).period)), (19, vi ((List.getD fv (j).toNat default).period)), (22, vi ((List.getD fv (j).toNat default).length)), (24, vi ((List.getD fv (i).toNat default).length)), (27, vy ((List.getD fv (i).toNat default).label)), (29, vy ((List.getD fv (j).toNat default).label))] RG (Psi.le.refl _) ?_
    obtain ⟨y210, hy210, hS⟩ := letJ_T hS
    refine xO1 (lds := [1, 3, 6, 8, 11, 13]) 4 ?_
    refine xIe (lds := [1, 3, 6, 8, 11, 13]) (Psi.le.refl _) (eC 0 (fun g' lr eb ln => c41 g' ((List.getD fv (i).toNat default).period : Int) ((List.getD fv (j).toNat default).period : Int) hy210)) ?_
    rintro _ g211 _ e212 ⟨_, rfl, rfl, rfl⟩
    refine kk [some 0, some 1] ?_
    obtain ⟨y213, hy213, hS⟩ := letJ_T hS
    refine xO1 (lds := [1, 3, 6, 8, 11, 13]) 9 ?_
    refine xIe (lds := [1, 3, 6, 8, 11, 13]) e212.r (eC 0 (fun g' lr eb ln => c41 g' ((List.getD fv (j).toNat default).length : Int) ((List.getD fv (i).toNat default).length : Int) hy213)) ?_
    rintro _ g214 _ e215 ⟨_, rfl, rfl, rfl⟩
    refine kk [some 0, some 1] ?_
    obtain ⟨y216, hy216, hS⟩ := letJ_T hS
    refine xO1 (lds := [1, 3, 6, 8, 11, 13]) 14 ?_
    refine xIe (lds := [1, 3, 6, 8, 11, 13]) (e212.trans e215).r (eC 0 (fun g' lr eb ln => c42 g' ((List.getD fv (i).toNat default).label : Int) ((List.getD fv (j).toNat default).label : Int) hy216)) ?_
    rintro _ g217 _ e218 ⟨_, rfl, rfl, rfl⟩
    refine kk [some 0, some 1] ?_
    refine xO1 (lds := [1, 3, 6, 8, 11, 13]) 15 ?_
    refine xIe (lds := [1, 3, 6, 8, 11, 13]) (e212.trans (e215.trans e218)).r (eBs (T := (tyI .i64)) (p := g217.b) (et := 3) (xs := ([(y210 : Int), (y213 : Int), (y216 : Int)] : List Int)) (reps_cons (c := [vi y210]) (show (tyI .i64).rep _ _ _ from rfl) (reps_cons (c := [vi y213]) (show (tyI .i64).rep _ _ _ from rfl) (reps_cons (c := [vi y216]) (show (tyI .i64).rep _ _ _ from rfl) reps_nil))) (by simp)) ?_
    rintro _ _ _ - ⟨A219, c219, k219, rfl, rfl, rfl, h219⟩
    refine kk [some 1, some 2] ?_
    obtain ⟨y220, hy220, hS⟩ := bindO_T hS
    refine xO1 (lds := [1, 3, 6, 8, 11, 13]) 16 ?_
    refine xIe (lds := [1, 3, 6, 8, 11, 13]) (e212.trans (e215.trans e218)).r (eC 0 (fun g' lr eb ln => c40 g' (([(y210 : Int), (y213 : Int), (y216 : Int)] : List Int) : List Int) A219 c219 (arr_of_buf h219 (Psi.le_b eb) (lentk 0 (by kernel_rfl) ln)) hy220)) ?_
    rintro _ g221 _ e222 ⟨_, rfl, rfl, rfl⟩
    refine kk [some 1, some 2] ?_
    refine xT 0 [17] [] [some 1, some 2] [(5, vi y220)] RG (e212.trans (e215.trans (e218.trans e222))).r ?_
    refine xAe (lds := [1, 3, 6, 8, 11, 13]) ?_
    refine wpq_then ?_
    have eS := (Option.some.inj hS).symm
    subst eS
    exact xRet [] [5] (e209.trans (e212.trans (e215.trans (e218.trans e222)))) ⟨by kernel_rfl, by kernel_rfl⟩ (fun _ _ h => h)
  · refine xO2 (lds := [0, 3, 4, 7]) 8 9 ?_ ?_
    · refine xIe (lds := [0, 3, 4, 7]) (Psi.le.refl _) eB ?_
      rintro _ _ _ - ⟨b223, rfl, rfl, rfl⟩
      refine kk [] ?_
      refine xO1 (lds := [0, 3, 4, 7]) 9 ?_
      refine xIe (lds := [0, 3, 4, 7]) (Psi.le.refl _) eB ?_
      rintro _ _ _ - ⟨b224, rfl, rfl, rfl⟩
      refine kk [] ?_
      refine xSub [(6, vp b223 0), (7, vp b224 0), (11, Value.agg #[vy ((List.getD fv (i).toNat default).label), vi ((List.getD fv (i).toNat default).period), vi ((List.getD fv (i).toNat default).length)]), (15, Value.agg #[vy ((List.getD fv (j).toNat default).label), vi ((List.getD fv (j).toNat default).period), vi ((List.getD fv (j).toNat default).length)])] ?_
      exact hD7 _ _ _ (Gh.le.refl _) ⟨b223, b224, by kernel_rfl, by kernel_rfl⟩
    · refine xIe (lds := [0, 3, 4, 7]) (Psi.le.refl _) eB ?_
      rintro _ _ _ - ⟨b225, rfl, rfl, rfl⟩
      refine kk [] ?_
      refine xO1 (lds := [0, 3, 4, 7]) 8 ?_
      refine xIe (lds := [0, 3, 4, 7]) (Psi.le.refl _) eB ?_
      rintro _ _ _ - ⟨b226, rfl, rfl, rfl⟩
      refine kk [] ?_
      refine xSel [some 1, some 0] ?_
      refine xSub [(6, vp b226 0), (7, vp b225 0), (11, Value.agg #[vy ((List.getD fv (i).toNat default).label), vi ((List.getD fv (i).toNat default).period), vi ((List.getD fv (i).toNat default).length)]), (15, Value.agg #[vy ((List.getD fv (j).toNat default).label), vi ((List.getD fv (j).toNat default).period), vi ((List.getD fv (j).toNat default).length)])] ?_
      exact hD7 _ _ _ (Gh.le.refl _) ⟨b226, b225, by kernel_rfl, by kernel_rfl⟩

def o58f39_L1 (a : Int) (cmpc : List Msg) (s18 : (List Int) × Int) : Option (Ctl ((List Int) × Int) ((List Int))) :=
  (bindO (τ := Bool) (cond (decide (s18.2 > a)) (grd (decide (0 ≤ s18.2 ∧ s18.2 < (((s18.1).length : Nat) : Int))) (grd (decide (0 ≤ (IntKind.i64.wrap (s18.2 - 1)) ∧ (IntKind.i64.wrap (s18.2 - 1)) < (((s18.1).length : Nat) : Int))) (bindO (τ := Int) (o39 ((List.getD s18.1 (s18.2).toNat 0) : Int) ((List.getD s18.1 ((IntKind.i64.wrap (s18.2 - 1))).toNat 0) : Int) (cmpc : List Msg)) fun y47 => (some (decide (y47 < 0)))))) (some (false))) fun t21 => (cond (t21) (grd (decide (0 ≤ (IntKind.i64.wrap (s18.2 - 1)) ∧ (IntKind.i64.wrap (s18.2 - 1)) < (((s18.1).length : Nat) : Int))) (grd (decide (0 ≤ s18.2 ∧ s18.2 < (((s18.1).length : Nat) : Int))) (grd (decide (0 ≤ s18.2 ∧ s18.2 < (((s18.1).length : Nat) : Int))) (grd (decide (0 ≤ (IntKind.i64.wrap (s18.2 - 1)) ∧ (IntKind.i64.wrap (s18.2 - 1)) < ((((List.set s18.1 (s18.2).toNat ((List.getD s18.1 ((IntKind.i64.wrap (s18.2 - 1))).toNat 0) : Int))).length : Nat) : Int))) (some (Ctl.go (((List.set (List.set s18.1 (s18.2).toNat ((List.getD s18.1 ((IntKind.i64.wrap (s18.2 - 1))).toNat 0) : Int)) ((IntKind.i64.wrap (s18.2 - 1))).toNat ((List.getD s18.1 (s18.2).toNat 0) : Int)) : List Int), (IntKind.i64.wrap (s18.2 - 1))))))))) (some (Ctl.done ((s18.1 : List Int))))))
def o58f39_L0 (a : Int) (b : Int) (cmpc : List Msg) (s6 : (List Int) × Int) : Option (Ctl ((List Int) × Int) ((List Int))) :=
  (cond (decide (s6.2 < b)) (bindO (τ := (List Int)) (bindO (τ := (List Int)) (loopO (σ := (List Int) × Int) (ρ := (List Int)) fuelN (o58f39_L1 a cmpc) ((s6.1 : List Int), s6.2)) fun t13 => (some ((t13 : List Int)))) fun t10 => (some (Ctl.go ((t10 : List Int), (IntKind.i64.wrap (s6.2 + 1)))))) (some (Ctl.done ((s6.1 : List Int)))))
def o58f39 (data : List Int) (a : Int) (b : Int) (cmpc : List Msg) : Option ((List Int)) :=
  (bindO (τ := (List Int)) (loopO (σ := (List Int) × Int) (ρ := (List Int)) fuelN (o58f39_L0 a b cmpc) ((data : List Int), (IntKind.i64.wrap (a + 1)))) fun t1 => (some ((t1 : List Int))))
set_option maxRecDepth 100000 in
theorem c58f39 (g : Gh) (data : List Int) (Adata : Option Addr) (cdata : Nat) (kdata : Option Bk) (a : Int) (b : Int) (a_cmpc : Addr) (cmpc : List Msg) (Acmpc : Option Addr) (ccmpc : Nat) (hdata : Buf g.b (tyI .i64) 3 (.slice Adata (data).length cdata) kdata data) (hc_cmpc : Cells g.r a_cmpc [vs Acmpc cmpc ccmpc]) (fcmpc : ArrM g.r g.b tyMsg Acmpc ccmpc cmpc) {r : (List Int)} (hS : o58f39 data a b cmpc = some r) :
    Ctr Try.prog 58 [vs Adata data cdata, vi a, vi b, Value.func (.func 39) #[] #[Value.pointer (some a_cmpc)]] g [kdata, none] (fun v ψ o => ∃ (ko_data : Option Bk), v = Value.tuple #[] ∧ o = [ko_data] ∧ Buf ψ (tyI .i64) 3 (.slice Adata (data).length cdata) ko_data r) := by
  unfold o58f39 at hS
  refine xFn Try.f58 (Try.f58.body.getD .skip) 53 ?_
  have nhdata := hdata.len
  have nfcmpc := fcmpc.len
  refine xSq ?_
  refine xRg ?_
  have z1 := i64_in_ (a + 1)
  refine xB 3 [] [(0, vs Adata data cdata), (1, vi a), (2, vi b), (3, Value.func (.func 39) #[] #[Value.pointer (some a_cmpc)]), (8, vi (IntKind.i64.wrap (a + 1)))] ?_
  refine xRe ?_
  refine wpq_then ?_
  refine xBindO hS (fun g own sl t1 => ∃ (k1_0 : Option Bk), own = [none, k1_0] ∧ sl = [] ∧ Buf g.b (tyI .i64) 3 (.slice Adata (t1).length cdata) k1_0 t1 ∧ (data).length = (t1).length) ?_ ?_
  · rintro g2 _ _ t1 e3 ⟨k1_0, rfl, rfl, h1_0, hz1_v0⟩ hS
    have nh1_0 := h1_0.len
    have eS := (Option.some.inj hS).symm
    subst eS
    exact xFin [some 1] [] e3 ⟨k1_0, by kernel_rfl, by kernel_rfl, (Buf.re h1_0 hz1_v0.symm rfl)⟩
  · intro uu1 hS hN1
    refine xBl 0 ?_
    refine xSel [none, some 0] ?_
    refine xSub [(0, vs Adata data cdata), (1, vi a), (2, vi b), (3, Value.func (.func 39) #[] #[Value.pointer (some a_cmpc)]), (8, vi (IntKind.i64.wrap (a + 1)))] ?_
    refine xLo hS (fun g own sl s6 => ∃ (k6_0 : Option Bk), own = [none, k6_0] ∧ sl = [(0, vs Adata s6.1 cdata), (1, vi a), (2, vi b), (3, Value.func (.func 39) #[] #[Value.pointer (some a_cmpc)]), (8, vi s6.2)] ∧ Buf g.b (tyI .i64) 3 (.slice Adata (s6.1).length cdata) k6_0 s6.1 ∧ (data).length = (s6.1).length) ⟨kdata, by kernel_rfl, by kernel_rfl, hdata, rfl⟩ ?_
    rintro g7 _ _ s6 uu6 e8 ⟨k6_0, rfl, rfl, h6_0, hz6_v0⟩ hS Qr6 hN6 hD6
    have nh6_0 := h6_0.len
    unfold o58f39_L0 at hS
    refine xSq ?_
    refine xSq ?_
    refine xRg ?_
    refine xB 3 [] [(0, vs Adata s6.1 cdata), (1, vi a), (2, vi b), (3, Value.func (.func 39) #[] #[Value.pointer (some a_cmpc)]), (8, vi s6.2), (14, vb (decide (s6.2 < b)))] ?_
    refine xRe ?_
    refine wpq_then ?_
    refine xCd (decide (s6.2 < b)) (fun h9 => ?_) (fun h9 => ?_)
    · have hS := cond_T h9 hS
      have h9p := of_decide_eq_true h9
      refine xSk ?_
      refine wpq_then ?_
      refine xSub [(0, vs Adata s6.1 cdata), (1, vi a), (2, vi b), (3, Value.func (.func 39) #[] #[Value.pointer (some a_cmpc)]), (8, vi s6.2)] ?_
      refine xSq ?_
      refine xBindO hS (fun g own sl t10 => ∃ (k10_0 : Option Bk), own = [none, k10_0] ∧ sl = [(0, vs Adata t10 cdata), (1, vi a), (2, vi b), (3, Value.func (.func 39) #[] #[Value.pointer (some a_cmpc)]), (8, vi s6.2)] ∧ Buf g.b (tyI .i64) 3 (.slice Adata (t10).length cdata) k10_0 t10 ∧ (data).length = (t10).length) ?_ ?_
      · rintro g11 _ _ t10 e12 ⟨k10_0, rfl, rfl, h10_0, hz10_v0⟩ hS
        have nh10_0 := h10_0.len
        refine wpq_then ?_
        refine xRg ?_
        have z469 := i64_in_ (s6.2 + 1)
        refine xB 3 [] [(0, vs Adata t10 cdata), (1, vi a), (2, vi b), (3, Value.func (.func 39) #[] #[Value.pointer (some a_cmpc)]), (8, vi (IntKind.i64.wrap (s6.2 + 1)))] ?_
        refine xRe ?_
        refine wpq_thenN ?_
        refine xSel [none, some 1] ?_
        refine xSub [(0, vs Adata t10 cdata), (1, vi a), (2, vi b), (3, Value.func (.func 39) #[] #[Value.pointer (some a_cmpc)]), (8, vi (IntKind.i64.wrap (s6.2 + 1)))] ?_
        have eS := (Option.some.inj hS).symm
        exact hN6 _ eS _ _ _ e12 ⟨k10_0, by kernel_rfl, by kernel_rfl, h10_0, hz10_v0⟩
      · intro uu10 hS hN10
        refine xBl 1 ?_
        refine xSq ?_
        refine xRg ?_
        refine xB 2 [] [(0, vs Adata s6.1 cdata), (1, vi a), (2, vi b), (3, Value.func (.func 39) #[] #[Value.pointer (some a_cmpc)]), (8, vi s6.2), (9, vi s6.2)] ?_
        refine xRe ?_
        refine wpq_then ?_
        refine xBindO hS (fun g own sl t13 => ∃ (k13_0 : Option Bk), own = [none, k13_0] ∧ sl = [(0, vs Adata t13 cdata), (1, vi a), (2, vi b), (3, Value.func (.func 39) #[] #[Value.pointer (some a_cmpc)]), (8, vi s6.2)] ∧ Buf g.b (tyI .i64) 3 (.slice Adata (t13).length cdata) k13_0 t13 ∧ (data).length = (t13).length) ?_ ?_
        · rintro g14 _ _ t13 e15 ⟨k13_0, rfl, rfl, h13_0, hz13_v0⟩ hS
          have nh13_0 := h13_0.len
          refine wpq_blockN ?_
          refine xSel [none, some 1] ?_
          refine xSub [(0, vs Adata t13 cdata), (1, vi a), (2, vi b), (3, Value.func (.func 39) #[] #[Value.pointer (some a_cmpc)]), (8, vi s6.2)] ?_
          have eS := (Option.some.inj hS).symm
          exact hN10 _ eS _ _ _ e15 ⟨k13_0, by kernel_rfl, by kernel_rfl, h13_0, hz13_v0⟩
        · intro uu13 hS hN13
          refine xBl 2 ?_
          refine xSel [none, some 1] ?_
          refine xSub [(0, vs Adata s6.1 cdata), (1, vi a), (2, vi b), (3, Value.func (.func 39) #[] #[Value.pointer (some a_cmpc)]), (8, vi s6.2), (9, vi s6.2)] ?_
          refine xLo hS (fun g own sl s18 => ∃ (k18_0 : Option Bk), own = [none, k18_0] ∧ sl = [(0, vs Adata s18.1 cdata), (1, vi a), (2, vi b), (3, Value.func (.func 39) #[] #[Value.pointer (some a_cmpc)]), (8, vi s6.2), (9, vi s18.2)] ∧ Buf g.b (tyI .i64) 3 (.slice Adata (s18.1).length cdata) k18_0 s18.1 ∧ (data).length = (s18.1).length) ⟨k6_0, by kernel_rfl, by kernel_rfl, h6_0, hz6_v0⟩ ?_
          rintro g19 _ _ s18 uu18 e20 ⟨k18_0, rfl, rfl, h18_0, hz18_v0⟩ hS Qr18 hN18 hD18
          have nh18_0 := h18_0.len
          unfold o58f39_L1 at hS
          refine xSq ?_
          refine xSq ?_
          refine xDr 0 [8, 13] [] [k18_0] 17 (fun RG => ?_) (fun _ _ _ _ _ h => h)
          refine xT 13 [0, 1, 2, 3] [] [some 1] [(0, vs Adata s18.1 cdata), (1, vi a), (2, vi b), (3, Value.func (.func 39) #[] #[Value.pointer (some a_cmpc)]), (8, vi s6.2), (9, vi s18.2), (21, vb (decide (s18.2 > a)))] RG (Psi.le.refl _) ?_
          refine xGJoA hS 0 [true, true, true, true, true, true, true, true, true, true, true, true, true, true, true, true, true] (fun g own sl t21 => own = [none, k18_0] ∧ sl = [(0, vs Adata s18.1 cdata), (1, vi a), (2, vi b), (3, Value.func (.func 39) #[] #[Value.pointer (some a_cmpc)]), (8, vi s6.2), (9, vi s18.2), (34, vb t21)]) ?_ ?_
          · rintro g22 _ _ t21 e23 ⟨rfl, rfl⟩ hS
            refine xAe (lds := [8, 13]) ?_
            refine wpq_then ?_
            refine xCd (t21) (fun h24 => ?_) (fun h24 => ?_)
            · have hS := cond_T h24 hS
              refine xSk ?_
              refine wpq_then ?_
              refine xSub [(0, vs Adata s18.1 cdata), (1, vi a), (2, vi b), (3, Value.func (.func 39) #[] #[Value.pointer (some a_cmpc)]), (8, vi s6.2), (9, vi s18.2)] ?_
              refine xSq ?_
              refine xBl 3 ?_
              refine xDr 0 [9, 13] [15, 17, 14, 16] [k18_0] 18 (fun RG => ?_) (fun _ _ _ _ _ h => h)
              have z508 := i64_in_ (s18.2 - 1)
              have z509 := i64_in_ (s18.2 - 1)
              have h18_0 := h18_0.mono e23.b
              obtain ⟨q26, hS⟩ := grd_T hS
              have q26p := of_decide_eq_true q26
              have i27 : ((IntKind.i64.wrap (s18.2 - 1))).toNat < (s18.1).length := by omega
              obtain ⟨kc25, cs25, hA25, hk25, hr25, hw25⟩ := h18_0.open_ i27 0
              obtain ⟨kb25, rfl⟩ : ∃ z, z = kc25 := ⟨_, rfl⟩
              subst hk25
              have hr25 : cs25 = [vi (List.getD s18.1 ((IntKind.i64.wrap (s18.2 - 1))).toNat 0)] := hr25
              subst hr25
              refine xT 10 [0, 1, 2, 3, 4, 5, 6, 7] [] [some 1] [(0, vs Adata s18.1 cdata), (1, vi a), (2, vi b), (3, Value.func (.func 39) #[] #[Value.pointer (some a_cmpc)]), (8, vi s6.2), (9, vi s18.2), (37, vs Adata s18.1 cdata), (38, vi s18.2), (39, vs Adata s18.1 cdata), (41, vi (IntKind.i64.wrap (s18.2 - 1))), (42, vs Adata s18.1 cdata), (44, vi (IntKind.i64.wrap (s18.2 - 1)))] RG (Psi.le.refl _) ?_
              refine xTp 8 RG (fun _ => (qIxB ((IntKind.i64.wrap (s18.2 - 1))).toNat 1 kb25.g hA25 (show ((IntKind.i64.wrap (s18.2 - 1)) : Int) = _ from by omega) i27)) ?_
              refine xTv 9 [some 1] RG (Psi.le.refl _) (qLdB ((IntKind.i64.wrap (s18.2 - 1))).toNat 1 0 0 hw25) ?_
              obtain ⟨q29, hS⟩ := grd_T hS
              have q29p := of_decide_eq_true q29
              have i30 : (s18.2).toNat < (s18.1).length := by omega
              obtain ⟨kc28, cs28, hA28, hk28, hr28, hw28⟩ := h18_0.open_ i30 0
              cases hk28
              have hr28 : cs28 = [vi (List.getD s18.1 (s18.2).toNat 0)] := hr28
              subst hr28
              refine xT 6 [10, 11] [] [some 1] [(0, vs Adata s18.1 cdata), (1, vi a), (2, vi b), (3, Value.func (.func 39) #[] #[Value.pointer (some a_cmpc)]), (8, vi s6.2), (9, vi s18.2), (37, vs Adata s18.1 cdata), (38, vi s18.2), (39, vs Adata s18.1 cdata), (41, vi (IntKind.i64.wrap (s18.2 - 1))), (46, vi (List.getD s18.1 ((IntKind.i64.wrap (s18.2 - 1))).toNat 0)), (47, vs Adata s18.1 cdata), (48, vi s18.2)] RG (Psi.le.refl _) ?_
              refine xTp 12 RG (fun _ => (qIxB (s18.2).toNat 1 kb25.g hA28 (show (s18.2 : Int) = _ from by omega) i30)) ?_
              refine xTv 13 [some 1] RG (Psi.le.refl _) (qLdB (s18.2).toNat 1 0 0 hw28) ?_
              obtain ⟨q32, hS⟩ := grd_T hS
              have q32p := of_decide_eq_true q32
              have i33 : (s18.2).toNat < (s18.1).length := by omega
              obtain ⟨kc31, cs31, hA31, hk31, hr31, hw31⟩ := h18_0.open_ i33 0
              cases hk31
              have hr31 : cs31 = [vi (List.getD s18.1 (s18.2).toNat 0)] := hr31
              subst hr31
              refine xTp 14 RG (fun _ => (qIxB (s18.2).toNat 1 kb25.g hA31 (show (s18.2 : Int) = _ from by omega) i33)) ?_
              refine xO1 (lds := [9, 13]) 15 ?_
              refine xId (lds := [9, 13]) (Psi.le.refl _) (eStB (s18.2).toNat 1 0 1 [vi (List.getD s18.1 ((IntKind.i64.wrap (s18.2 - 1))).toNat 0)] h18_0 rfl hw31 (show (tyI .i64).rep _ _ _ from rfl) i33) ?_
              rintro _ _ _ - ⟨k34, rfl, rfl, h34⟩
              refine kf ?_
              have hz34 : (s18.1).length = ((List.set s18.1 (s18.2).toNat ((List.getD s18.1 ((IntKind.i64.wrap (s18.2 - 1))).toNat 0) : Int))).length := by simp
              have hz34_1 : (data).length = ((List.set s18.1 (s18.2).toNat ((List.getD s18.1 ((IntKind.i64.wrap (s18.2 - 1))).toNat 0) : Int))).length := hz18_v0.trans hz34
              obtain ⟨q36, hS⟩ := grd_T hS
              have q36p := of_decide_eq_true q36
              have i37 : ((IntKind.i64.wrap (s18.2 - 1))).toNat < ((List.set s18.1 (s18.2).toNat ((List.getD s18.1 ((IntKind.i64.wrap (s18.2 - 1))).toNat 0) : Int))).length := by omega
              have i38 : ((IntKind.i64.wrap (s18.2 - 1))).toNat < (s18.1).length := by have := hz34; omega
              obtain ⟨kc35, cs35, hA35, hk35, hr35, hw35⟩ := h34.open_ i37 0
              obtain ⟨kb35, rfl⟩ : ∃ z, z = kc35 := ⟨_, rfl⟩
              subst hk35
              have hr35 : cs35 = [vi (List.getD (List.set s18.1 (s18.2).toNat ((List.getD s18.1 ((IntKind.i64.wrap (s18.2 - 1))).toNat 0) : Int)) ((IntKind.i64.wrap (s18.2 - 1))).toNat 0)] := hr35
              subst hr35
              refine xTp 16 RG (fun _ => (qIxB ((IntKind.i64.wrap (s18.2 - 1))).toNat 1 kb35.g hA35 (show ((IntKind.i64.wrap (s18.2 - 1)) : Int) = _ from by omega) i38)) ?_
              refine xO1 (lds := [9, 13]) 17 ?_
              refine xId (lds := [9, 13]) (Psi.le.refl _) (eStB ((IntKind.i64.wrap (s18.2 - 1))).toNat 1 0 1 [vi (List.getD s18.1 (s18.2).toNat 0)] h34 rfl hw35 (show (tyI .i64).rep _ _ _ from rfl) i37) ?_
              rintro _ _ _ - ⟨k39, rfl, rfl, h39⟩
              refine kf ?_
              have hz39 : (s18.1).length = ((List.set (List.set s18.1 (s18.2).toNat ((List.getD s18.1 ((IntKind.i64.wrap (s18.2 - 1))).toNat 0) : Int)) ((IntKind.i64.wrap (s18.2 - 1))).toNat ((List.getD s18.1 (s18.2).toNat 0) : Int))).length := hz34.trans (by simp)
              have hz39_1 : (data).length = ((List.set (List.set s18.1 (s18.2).toNat ((List.getD s18.1 ((IntKind.i64.wrap (s18.2 - 1))).toNat 0) : Int)) ((IntKind.i64.wrap (s18.2 - 1))).toNat ((List.getD s18.1 (s18.2).toNat 0) : Int))).length := hz34_1.trans (hz34.symm.trans hz39)
              refine xAe (lds := [9, 13]) ?_
              refine wpq_blockN ?_
              refine wpq_then ?_
              refine xSub [(0, Value.slice Adata ((s18.1).length) cdata), (1, vi a), (2, vi b), (3, Value.func (.func 39) #[] #[Value.pointer (some a_cmpc)]), (8, vi s6.2), (9, vi s18.2)] ?_
              refine xRg ?_
              have z510 := i64_in_ (s18.2 - 1)
              refine xB 3 [] [(0, Value.slice Adata ((s18.1).length) cdata), (1, vi a), (2, vi b), (3, Value.func (.func 39) #[] #[Value.pointer (some a_cmpc)]), (8, vi s6.2), (9, vi (IntKind.i64.wrap (s18.2 - 1)))] ?_
              refine xRe ?_
              refine wpq_thenN ?_
              refine wpq_re 0 (v := Value.slice Adata ((s18.1).length) cdata) (vs Adata (List.set (List.set s18.1 (s18.2).toNat ((List.getD s18.1 ((IntKind.i64.wrap (s18.2 - 1))).toNat 0) : Int)) ((IntKind.i64.wrap (s18.2 - 1))).toNat ((List.getD s18.1 (s18.2).toNat 0) : Int)) cdata) (by kernel_rfl) (congrArg (fun z => Value.slice Adata z cdata) hz39) ?_
              have h39 := Buf.re h39 hz39 (rfl : (List.set (List.set s18.1 (s18.2).toNat ((List.getD s18.1 ((IntKind.i64.wrap (s18.2 - 1))).toNat 0) : Int)) ((IntKind.i64.wrap (s18.2 - 1))).toNat ((List.getD s18.1 (s18.2).toNat 0) : Int)) = _)
              refine xSel [none, some 1] ?_
              refine xSub [(0, vs Adata (List.set (List.set s18.1 (s18.2).toNat ((List.getD s18.1 ((IntKind.i64.wrap (s18.2 - 1))).toNat 0) : Int)) ((IntKind.i64.wrap (s18.2 - 1))).toNat ((List.getD s18.1 (s18.2).toNat 0) : Int)) cdata), (1, vi a), (2, vi b), (3, Value.func (.func 39) #[] #[Value.pointer (some a_cmpc)]), (8, vi s6.2), (9, vi (IntKind.i64.wrap (s18.2 - 1)))] ?_
              have eS := (Option.some.inj hS).symm
              exact hN18 _ eS _ _ _ e23 ⟨k39, by kernel_rfl, by kernel_rfl, h39, hz39_1⟩
            · have hS := cond_F h24 hS
              refine xEx 2 ?_
              refine wpq_thenX ?_
              refine wpq_thenX ?_
              refine wpq_blockE ?_
              have h18_0 := h18_0.mono e23.b
              refine xSel [none, some 1] ?_
              refine xSub [(0, vs Adata s18.1 cdata), (1, vi a), (2, vi b), (3, Value.func (.func 39) #[] #[Value.pointer (some a_cmpc)]), (8, vi s6.2)] ?_
              have eS := (Option.some.inj hS).symm
              have eS := (hD18 _ eS).symm
              exact hN13 _ eS _ _ _ (e20.trans e23) ⟨k18_0, by kernel_rfl, by kernel_rfl, h18_0, hz18_v0⟩
          · intro uu21 hS hN21
            refine wpq_split 21 (b := decide (s18.2 > a)) (by kernel_rfl) (fun q40 => ?_) (fun q40 => ?_)
            · have hS := cond_T q40 hS
              have q40p := of_decide_eq_true q40
              obtain ⟨q42, hS⟩ := grd_T hS
              have q42p := of_decide_eq_true q42
              have i43 : (s18.2).toNat < (s18.1).length := by omega
              obtain ⟨kc41, cs41, hA41, hk41, hr41, hw41⟩ := h18_0.open_ i43 0
              obtain ⟨kb41, rfl⟩ : ∃ z, z = kc41 := ⟨_, rfl⟩
              subst hk41
              have hr41 : cs41 = [vi (List.getD s18.1 (s18.2).toNat 0)] := hr41
              subst hr41
              refine xT 10 [4, 5, 6] [] [some 1] [(0, vs Adata s18.1 cdata), (1, vi a), (2, vi b), (3, Value.func (.func 39) #[] #[Value.pointer (some a_cmpc)]), (8, vi s6.2), (9, vi s18.2), (21, vb true), (22, Value.func (.func 39) #[] #[Value.pointer (some a_cmpc)]), (23, vs Adata s18.1 cdata), (24, vi s18.2)] RG (Psi.le.refl _) ?_
              refine xTp 7 RG (fun _ => (qIxB (s18.2).toNat 1 kb41.g hA41 (show (s18.2 : Int) = _ from by omega) i43)) ?_
              refine xTv 8 [some 1] RG (Psi.le.refl _) (qLdB (s18.2).toNat 1 0 0 hw41) ?_
              have z511 := i64_in_ (s18.2 - 1)
              obtain ⟨q45, hS⟩ := grd_T hS
              have q45p := of_decide_eq_true q45
              have i46 : ((IntKind.i64.wrap (s18.2 - 1))).toNat < (s18.1).length := by omega
              obtain ⟨kc44, cs44, hA44, hk44, hr44, hw44⟩ := h18_0.open_ i46 0
              cases hk44
              have hr44 : cs44 = [vi (List.getD s18.1 ((IntKind.i64.wrap (s18.2 - 1))).toNat 0)] := hr44
              subst hr44
              refine xT 5 [9, 10, 11] [] [some 1] [(0, vs Adata s18.1 cdata), (1, vi a), (2, vi b), (3, Value.func (.func 39) #[] #[Value.pointer (some a_cmpc)]), (8, vi s6.2), (9, vi s18.2), (21, vb true), (22, Value.func (.func 39) #[] #[Value.pointer (some a_cmpc)]), (26, vi (List.getD s18.1 (s18.2).toNat 0)), (27, vs Adata s18.1 cdata), (29, vi (IntKind.i64.wrap (s18.2 - 1)))] RG (Psi.le.refl _) ?_
              refine xTp 12 RG (fun _ => (qIxB ((IntKind.i64.wrap (s18.2 - 1))).toNat 1 kb41.g hA44 (show ((IntKind.i64.wrap (s18.2 - 1)) : Int) = _ from by omega) i46)) ?_
              refine xTv 13 [some 1] RG (Psi.le.refl _) (qLdB ((IntKind.i64.wrap (s18.2 - 1))).toNat 1 0 0 hw44) ?_
              have hc_cmpc := hc_cmpc.mono (e8.trans e20).r
              have fcmpc := fcmpc.mono (e8.trans e20).r (e8.trans e20).b
              obtain ⟨y47, hy47, hS⟩ := bindO_T hS
              refine xO1 (lds := [8, 13]) 14 ?_
              refine xIe (lds := [8, 13]) (Psi.le.refl _) (eC 0 (fun g' lr eb ln => c39 g' ((List.getD s18.1 (s18.2).toNat 0) : Int) ((List.getD s18.1 ((IntKind.i64.wrap (s18.2 - 1))).toNat 0) : Int) a_cmpc (cmpc : List Msg) Acmpc ccmpc (hc_cmpc.mono lr) (ArrM.lent fcmpc lr eb) hy47)) ?_
              rintro _ g48 _ e49 ⟨_, rfl, rfl, rfl⟩
              refine kk [some 1] ?_
              refine xT 0 [15, 16] [] [some 1] [(0, vs Adata s18.1 cdata), (1, vi a), (2, vi b), (3, Value.func (.func 39) #[] #[Value.pointer (some a_cmpc)]), (8, vi s6.2), (9, vi s18.2), (34, vb (decide (y47 < 0)))] RG e49.r ?_
              refine xSel [none, some 1] ?_
              refine xSub [(0, vs Adata s18.1 cdata), (1, vi a), (2, vi b), (3, Value.func (.func 39) #[] #[Value.pointer (some a_cmpc)]), (8, vi s6.2), (9, vi s18.2), (34, vb (decide (y47 < 0)))] ?_
              exact hN21 _ (Option.some.inj hS).symm _ _ _ e49 ⟨by kernel_rfl, by kernel_rfl⟩
            · have hS := cond_F q40 hS
              have q40p := of_decide_eq_false q40
              refine xT 3 [4, 5, 6, 7, 8, 9, 10, 11, 12, 13] [] [some 1] [(0, vs Adata s18.1 cdata), (1, vi a), (2, vi b), (3, Value.func (.func 39) #[] #[Value.pointer (some a_cmpc)]), (8, vi s6.2), (9, vi s18.2), (21, vb false), (22, undef), (26, undef), (31, undef)] RG (Psi.le.refl _) ?_
              refine xO1 (lds := [8, 13]) 14 ?_
              refine xIb (lds := [8, 13]) [] ?_
              refine xT 0 [15, 16] [] [some 1] [(0, vs Adata s18.1 cdata), (1, vi a), (2, vi b), (3, Value.func (.func 39) #[] #[Value.pointer (some a_cmpc)]), (8, vi s6.2), (9, vi s18.2), (34, vb false)] RG (Psi.le.refl _) ?_
              refine xSel [none, some 1] ?_
              refine xSub [(0, vs Adata s18.1 cdata), (1, vi a), (2, vi b), (3, Value.func (.func 39) #[] #[Value.pointer (some a_cmpc)]), (8, vi s6.2), (9, vi s18.2), (34, vb false)] ?_
              exact hN21 _ (Option.some.inj hS).symm _ _ _ (Gh.le.refl _) ⟨by kernel_rfl, by kernel_rfl⟩
    · have hS := cond_F h9 hS
      have h9p := of_decide_eq_false h9
      refine xEx 0 ?_
      refine wpq_thenX ?_
      refine wpq_thenX ?_
      refine wpq_blockE ?_
      refine xSel [none, some 1] ?_
      refine xSub [] ?_
      have eS := (Option.some.inj hS).symm
      have eS := (hD6 _ eS).symm
      exact hN1 _ eS _ _ _ e8 ⟨k6_0, by kernel_rfl, by kernel_rfl, h6_0, hz6_v0⟩

def o70f39_L0 (hi : Int) (first : Int) (cmpc : List Msg) (s6 : (List Int) × Int) : Option (Ctl ((List Int) × Int) (Ctl ((List Int)) ((List Int)))) :=
  (cond (decide ((IntKind.i64.wrap ((IntKind.i64.wrap (2 * s6.2)) + 1)) ≥ hi)) (some (Ctl.done (Ctl.go (s6.1 : List Int)))) (bindO (τ := Bool) (cond (decide ((IntKind.i64.wrap ((IntKind.i64.wrap ((IntKind.i64.wrap (2 * s6.2)) + 1)) + 1)) < hi)) (grd (decide (0 ≤ (IntKind.i64.wrap (first + (IntKind.i64.wrap ((IntKind.i64.wrap (2 * s6.2)) + 1)))) ∧ (IntKind.i64.wrap (first + (IntKind.i64.wrap ((IntKind.i64.wrap (2 * s6.2)) + 1)))) < (((s6.1).length : Nat) : Int))) (grd (decide (0 ≤ (IntKind.i64.wrap ((IntKind.i64.wrap (first + (IntKind.i64.wrap ((IntKind.i64.wrap (2 * s6.2)) + 1)))) + 1)) ∧ (IntKind.i64.wrap ((IntKind.i64.wrap (first + (IntKind.i64.wrap ((IntKind.i64.wrap (2 * s6.2)) + 1)))) + 1)) < (((s6.1).length : Nat) : Int))) (bindO (τ := Int) (o39 ((List.getD s6.1 ((IntKind.i64.wrap (first + (IntKind.i64.wrap ((IntKind.i64.wrap (2 * s6.2)) + 1))))).toNat 0) : Int) ((List.getD s6.1 ((IntKind.i64.wrap ((IntKind.i64.wrap (first + (IntKind.i64.wrap ((IntKind.i64.wrap (2 * s6.2)) + 1)))) + 1))).toNat 0) : Int) (cmpc : List Msg)) fun y49 => (some (decide (y49 < 0)))))) (some (false))) fun t10 => (letJ (τ := Int) (cond (t10) ((IntKind.i64.wrap ((IntKind.i64.wrap ((IntKind.i64.wrap (2 * s6.2)) + 1)) + 1))) ((IntKind.i64.wrap ((IntKind.i64.wrap (2 * s6.2)) + 1)))) fun t13 => (grd (decide (0 ≤ (IntKind.i64.wrap (first + s6.2)) ∧ (IntKind.i64.wrap (first + s6.2)) < (((s6.1).length : Nat) : Int))) (grd (decide (0 ≤ (IntKind.i64.wrap (first + t13)) ∧ (IntKind.i64.wrap (first + t13)) < (((s6.1).length : Nat) : Int))) (bindO (τ := Int) (o39 ((List.getD s6.1 ((IntKind.i64.wrap (first + s6.2))).toNat 0) : Int) ((List.getD s6.1 ((IntKind.i64.wrap (first + t13))).toNat 0) : Int) (cmpc : List Msg)) fun y22 => (cond ((!decide (y22 < 0))) (some (Ctl.done (Ctl.done ((s6.1 : List Int))))) (grd (decide (0 ≤ (IntKind.i64.wrap (first + t13)) ∧ (IntKind.i64.wrap (first + t13)) < (((s6.1).length : Nat) : Int))) (grd (decide (0 ≤ (IntKind.i64.wrap (first + s6.2)) ∧ (IntKind.i64.wrap (first + s6.2)) < (((s6.1).length : Nat) : Int))) (grd (decide (0 ≤ (IntKind.i64.wrap (first + s6.2)) ∧ (IntKind.i64.wrap (first + s6.2)) < (((s6.1).length : Nat) : Int))) (grd (decide (0 ≤ (IntKind.i64.wrap (first + t13)) ∧ (IntKind.i64.wrap (first + t13)) < ((((List.set s6.1 ((IntKind.i64.wrap (first + s6.2))).toNat ((List.getD s6.1 ((IntKind.i64.wrap (first + t13))).toNat 0) : Int))).length : Nat) : Int))) (some (Ctl.go (((List.set (List.set s6.1 ((IntKind.i64.wrap (first + s6.2))).toNat ((List.getD s6.1 ((IntKind.i64.wrap (first + t13))).toNat 0) : Int)) ((IntKind.i64.wrap (first + t13))).toNat ((List.getD s6.1 ((IntKind.i64.wrap (first + s6.2))).toNat 0) : Int)) : List Int), t13))))))))))))))
def o70f39 (data : List Int) (lo : Int) (hi : Int) (first : Int) (cmpc : List Msg) : Option ((List Int)) :=
  (joinO (τ := (List Int)) (ρ := (List Int)) (loopO (σ := (List Int) × Int) (ρ := Ctl ((List Int)) ((List Int))) fuelN (o70f39_L0 hi first cmpc) ((data : List Int), lo)) fun t1 => (some ((t1 : List Int))))
set_option maxRecDepth 100000 in
theorem c70f39 (g : Gh) (data : List Int) (Adata : Option Addr) (cdata : Nat) (kdata : Option Bk) (lo : Int) (hi : Int) (first : Int) (a_cmpc : Addr) (cmpc : List Msg) (Acmpc : Option Addr) (ccmpc : Nat) (hdata : Buf g.b (tyI .i64) 3 (.slice Adata (data).length cdata) kdata data) (hc_cmpc : Cells g.r a_cmpc [vs Acmpc cmpc ccmpc]) (fcmpc : ArrM g.r g.b tyMsg Acmpc ccmpc cmpc) {r : (List Int)} (hS : o70f39 data lo hi first cmpc = some r) :
    Ctr Try.prog 70 [vs Adata data cdata, vi lo, vi hi, vi first, Value.func (.func 39) #[] #[Value.pointer (some a_cmpc)]] g [kdata, none] (fun v ψ o => ∃ (ko_data : Option Bk), v = Value.tuple #[] ∧ o = [ko_data] ∧ Buf ψ (tyI .i64) 3 (.slice Adata (data).length cdata) ko_data r) := by
  unfold o70f39 at hS
  refine xFn Try.f70 (Try.f70.body.getD .skip) 82 ?_
  have nhdata := hdata.len
  have nfcmpc := fcmpc.len
  refine xSq ?_
  refine xRg ?_
  refine xB 2 [] [(0, vs Adata data cdata), (2, vi hi), (3, vi first), (4, Value.func (.func 39) #[] #[Value.pointer (some a_cmpc)]), (10, vi lo)] ?_
  refine xRe ?_
  refine wpq_then ?_
  refine xJoinO hS (fun g own sl t1 => ∃ (k1_0 : Option Bk), own = [none, k1_0] ∧ sl = [] ∧ Buf g.b (tyI .i64) 3 (.slice Adata (t1).length cdata) k1_0 t1 ∧ (data).length = (t1).length) ?_ ?_
  · rintro g2 _ _ t1 e3 ⟨k1_0, rfl, rfl, h1_0, hz1_v0⟩ hS
    have nh1_0 := h1_0.len
    have eS := (Option.some.inj hS).symm
    subst eS
    exact xFin [some 1] [] e3 ⟨k1_0, by kernel_rfl, by kernel_rfl, (Buf.re h1_0 hz1_v0.symm rfl)⟩
  · intro uu1 hS hN1 hD1
    refine xBl 0 ?_
    refine xSel [none, some 0] ?_
    refine xSub [(0, vs Adata data cdata), (2, vi hi), (3, vi first), (4, Value.func (.func 39) #[] #[Value.pointer (some a_cmpc)]), (10, vi lo)] ?_
    refine xLo hS (fun g own sl s6 => ∃ (k6_0 : Option Bk), own = [none, k6_0] ∧ sl = [(0, vs Adata s6.1 cdata), (2, vi hi), (3, vi first), (4, Value.func (.func 39) #[] #[Value.pointer (some a_cmpc)]), (10, vi s6.2)] ∧ Buf g.b (tyI .i64) 3 (.slice Adata (s6.1).length cdata) k6_0 s6.1 ∧ (data).length = (s6.1).length) ⟨kdata, by kernel_rfl, by kernel_rfl, hdata, rfl⟩ ?_
    rintro g7 _ _ s6 uu6 e8 ⟨k6_0, rfl, rfl, h6_0, hz6_v0⟩ hS Qr6 hN6 hD6
    have nh6_0 := h6_0.len
    unfold o70f39_L0 at hS
    refine xBl 1 ?_
    refine xSq ?_
    refine xRg ?_
    have z188 := i64_in_ (2 * s6.2)
    have z189 := i64_in_ ((IntKind.i64.wrap (2 * s6.2)) + 1)
    refine xB 4 [] [(0, vs Adata s6.1 cdata), (2, vi hi), (3, vi first), (4, Value.func (.func 39) #[] #[Value.pointer (some a_cmpc)]), (10, vi s6.2), (11, vi (IntKind.i64.wrap ((IntKind.i64.wrap (2 * s6.2)) + 1)))] ?_
    refine xRe ?_
    refine wpq_then ?_
    refine xSq ?_
    refine xSq ?_
    refine xRg ?_
    refine xB 3 [] [(0, vs Adata s6.1 cdata), (2, vi hi), (3, vi first), (4, Value.func (.func 39) #[] #[Value.pointer (some a_cmpc)]), (10, vi s6.2), (11, vi (IntKind.i64.wrap ((IntKind.i64.wrap (2 * s6.2)) + 1))), (18, vb (decide ((IntKind.i64.wrap ((IntKind.i64.wrap (2 * s6.2)) + 1)) ≥ hi)))] ?_
    refine xRe ?_
    refine wpq_then ?_
    refine xCd (decide ((IntKind.i64.wrap ((IntKind.i64.wrap (2 * s6.2)) + 1)) ≥ hi)) (fun h9 => ?_) (fun h9 => ?_)
    · have hS := cond_T h9 hS
      have h9p := of_decide_eq_true h9
      refine xEx 0 ?_
      refine wpq_thenX ?_
      refine wpq_blockX (by kernel_rfl) ?_
      refine wpq_thenX ?_
      refine wpq_blockE ?_
      refine xSel [none, some 1] ?_
      refine xSub [] ?_
      have eS := (Option.some.inj hS).symm
      have eS := (hD6 _ eS).symm
      exact hN1 _ eS _ _ _ e8 ⟨k6_0, by kernel_rfl, by kernel_rfl, h6_0, hz6_v0⟩
    · have hS := cond_F h9 hS
      have h9p := of_decide_eq_false h9
      refine xSk ?_
      refine wpq_then ?_
      refine xSub [(0, vs Adata s6.1 cdata), (2, vi hi), (3, vi first), (4, Value.func (.func 39) #[] #[Value.pointer (some a_cmpc)]), (10, vi s6.2), (11, vi (IntKind.i64.wrap ((IntKind.i64.wrap (2 * s6.2)) + 1)))] ?_
      refine xSq ?_
      refine xSq ?_
      refine xDr 0 [11, 18] [] [k6_0] 22 (fun RG => ?_) (fun _ _ _ _ _ h => h)
      have z190 := i64_in_ ((IntKind.i64.wrap ((IntKind.i64.wrap (2 * s6.2)) + 1)) + 1)
      refine xT 17 [0, 1, 2, 3, 4] [] [some 1] [(0, vs Adata s6.1 cdata), (2, vi hi), (3, vi first), (4, Value.func (.func 39) #[] #[Value.pointer (some a_cmpc)]), (10, vi s6.2), (11, vi (IntKind.i64.wrap ((IntKind.i64.wrap (2 * s6.2)) + 1))), (23, vb (decide ((IntKind.i64.wrap ((IntKind.i64.wrap ((IntKind.i64.wrap (2 * s6.2)) + 1)) + 1)) < hi)))] RG (Psi.le.refl _) ?_
      refine xGJoA hS 0 [true, true, true, true, true, true, true, true, true, true, true, true, true, true, true, true, true, true, true, true, true, true] (fun g own sl t10 => own = [none, k6_0] ∧ sl = [(0, vs Adata s6.1 cdata), (2, vi hi), (3, vi first), (4, Value.func (.func 39) #[] #[Value.pointer (some a_cmpc)]), (10, vi s6.2), (11, vi (IntKind.i64.wrap ((IntKind.i64.wrap (2 * s6.2)) + 1))), (40, vb t10)]) ?_ ?_
      · rintro g11 _ _ t10 e12 ⟨rfl, rfl⟩ hS
        refine xAe (lds := [11, 18]) ?_
        refine wpq_then ?_
        refine xLetJ hS (fun g own sl t13 => own = [none, k6_0] ∧ sl = [(0, vs Adata s6.1 cdata), (2, vi hi), (3, vi first), (4, Value.func (.func 39) #[] #[Value.pointer (some a_cmpc)]), (10, vi s6.2), (11, vi t13)]) ?_ ?_
        · rintro g14 _ _ t13 e15 ⟨rfl, rfl⟩ hS
          refine wpq_then ?_
          refine xSq ?_
          refine xSq ?_
          refine xDr 0 [6, 12] [] [k6_0] 16 (fun RG => ?_) (fun _ _ _ _ _ h => h)
          have z195 := i64_in_ (first + s6.2)
          have h6_0 := h6_0.mono (e12.trans e15).b
          obtain ⟨q17, hS⟩ := grd_T hS
          have q17p := of_decide_eq_true q17
          have i18 : ((IntKind.i64.wrap (first + s6.2))).toNat < (s6.1).length := by omega
          obtain ⟨kc16, cs16, hA16, hk16, hr16, hw16⟩ := h6_0.open_ i18 0
          obtain ⟨kb16, rfl⟩ : ∃ z, z = kc16 := ⟨_, rfl⟩
          subst hk16
          have hr16 : cs16 = [vi (List.getD s6.1 ((IntKind.i64.wrap (first + s6.2))).toNat 0)] := hr16
          subst hr16
          refine xT 11 [0, 1, 2, 3, 4] [] [some 1] [(0, vs Adata s6.1 cdata), (2, vi hi), (3, vi first), (4, Value.func (.func 39) #[] #[Value.pointer (some a_cmpc)]), (10, vi s6.2), (11, vi t13), (43, Value.func (.func 39) #[] #[Value.pointer (some a_cmpc)]), (44, vs Adata s6.1 cdata), (47, vi (IntKind.i64.wrap (first + s6.2)))] RG (Psi.le.refl _) ?_
          refine xTp 5 RG (fun _ => (qIxB ((IntKind.i64.wrap (first + s6.2))).toNat 1 kb16.g hA16 (show ((IntKind.i64.wrap (first + s6.2)) : Int) = _ from by omega) i18)) ?_
          refine xTv 6 [some 1] RG (Psi.le.refl _) (qLdB ((IntKind.i64.wrap (first + s6.2))).toNat 1 0 0 hw16) ?_
          have z196 := i64_in_ (first + t13)
          obtain ⟨q20, hS⟩ := grd_T hS
          have q20p := of_decide_eq_true q20
          have i21 : ((IntKind.i64.wrap (first + t13))).toNat < (s6.1).length := by omega
          obtain ⟨kc19, cs19, hA19, hk19, hr19, hw19⟩ := h6_0.open_ i21 0
          cases hk19
          have hr19 : cs19 = [vi (List.getD s6.1 ((IntKind.i64.wrap (first + t13))).toNat 0)] := hr19
          subst hr19
          refine xT 5 [7, 8, 9, 10] [] [some 1] [(0, vs Adata s6.1 cdata), (2, vi hi), (3, vi first), (4, Value.func (.func 39) #[] #[Value.pointer (some a_cmpc)]), (10, vi s6.2), (11, vi t13), (43, Value.func (.func 39) #[] #[Value.pointer (some a_cmpc)]), (49, vi (List.getD s6.1 ((IntKind.i64.wrap (first + s6.2))).toNat 0)), (50, vs Adata s6.1 cdata), (53, vi (IntKind.i64.wrap (first + t13)))] RG (Psi.le.refl _) ?_
          refine xTp 11 RG (fun _ => (qIxB ((IntKind.i64.wrap (first + t13))).toNat 1 kb16.g hA19 (show ((IntKind.i64.wrap (first + t13)) : Int) = _ from by omega) i21)) ?_
          refine xTv 12 [some 1] RG (Psi.le.refl _) (qLdB ((IntKind.i64.wrap (first + t13))).toNat 1 0 0 hw19) ?_
          have hc_cmpc := hc_cmpc.mono (e8.trans (e12.trans e15)).r
          have fcmpc := fcmpc.mono (e8.trans (e12.trans e15)).r (e8.trans (e12.trans e15)).b
          obtain ⟨y22, hy22, hS⟩ := bindO_T hS
          refine xO1 (lds := [6, 12]) 13 ?_
          refine xIe (lds := [6, 12]) (Psi.le.refl _) (eC 0 (fun g' lr eb ln => c39 g' ((List.getD s6.1 ((IntKind.i64.wrap (first + s6.2))).toNat 0) : Int) ((List.getD s6.1 ((IntKind.i64.wrap (first + t13))).toNat 0) : Int) a_cmpc (cmpc : List Msg) Acmpc ccmpc (hc_cmpc.mono lr) (ArrM.lent fcmpc lr eb) hy22)) ?_
          rintro _ g23 _ e24 ⟨_, rfl, rfl, rfl⟩
          refine kk [some 1] ?_
          refine xT 0 [14, 15] [] [some 1] [(0, vs Adata s6.1 cdata), (2, vi hi), (3, vi first), (4, Value.func (.func 39) #[] #[Value.pointer (some a_cmpc)]), (10, vi s6.2), (11, vi t13), (58, vb (!decide (y22 < 0)))] RG e24.r ?_
          refine xAe (lds := [6, 12]) ?_
          refine wpq_then ?_
          refine xCd ((!decide (y22 < 0))) (fun h25 => ?_) (fun h25 => ?_)
          · have hS := cond_T h25 hS
            have h25n := not_eq_true_ h25
            have h25np := of_decide_eq_false h25n
            have h6_0 := h6_0.mono e24.b
            have eS := (Option.some.inj hS).symm
            have eS := (hD6 _ eS).symm
            have eS := (hD1 _ eS).symm
            subst eS
            exact xRet [some 1] [] (e8.trans (e12.trans (e15.trans e24))) ⟨(some kb16), by kernel_rfl, by kernel_rfl, (Buf.re h6_0 hz6_v0.symm rfl)⟩ (fun _ _ h => h)
          · have hS := cond_F h25 hS
            have h25n := not_eq_false_ h25
            have h25np := of_decide_eq_true h25n
            refine xSk ?_
            refine wpq_then ?_
            refine xSub [(0, vs Adata s6.1 cdata), (2, vi hi), (3, vi first), (4, Value.func (.func 39) #[] #[Value.pointer (some a_cmpc)]), (10, vi s6.2), (11, vi t13)] ?_
            refine xSq ?_
            refine xDr 0 [13, 19] [21, 23, 20, 22] [(some kb16)] 24 (fun RG => ?_) (fun _ _ _ _ _ h => h)
            have z197 := i64_in_ (first + s6.2)
            have z198 := i64_in_ (first + t13)
            have z199 := i64_in_ (first + t13)
            have h6_0 := h6_0.mono e24.b
            obtain ⟨q27, hS⟩ := grd_T hS
            have q27p := of_decide_eq_true q27
            have i28 : ((IntKind.i64.wrap (first + t13))).toNat < (s6.1).length := by omega
            obtain ⟨kc26, cs26, hA26, hk26, hr26, hw26⟩ := h6_0.open_ i28 0
            cases hk26
            have hr26 : cs26 = [vi (List.getD s6.1 ((IntKind.i64.wrap (first + t13))).toNat 0)] := hr26
            subst hr26
            refine xT 12 [0, 1, 2, 3, 4, 5, 6, 7, 8, 9, 10, 11] [] [some 1] [(0, vs Adata s6.1 cdata), (2, vi hi), (3, vi first), (4, Value.func (.func 39) #[] #[Value.pointer (some a_cmpc)]), (10, vi s6.2), (11, vi t13), (59, vs Adata s6.1 cdata), (62, vi (IntKind.i64.wrap (first + s6.2))), (63, vs Adata s6.1 cdata), (66, vi (IntKind.i64.wrap (first + t13))), (67, vs Adata s6.1 cdata), (70, vi (IntKind.i64.wrap (first + t13)))] RG (Psi.le.refl _) ?_
            refine xTp 12 RG (fun _ => (qIxB ((IntKind.i64.wrap (first + t13))).toNat 1 kb16.g hA26 (show ((IntKind.i64.wrap (first + t13)) : Int) = _ from by omega) i28)) ?_
            refine xTv 13 [some 1] RG (Psi.le.refl _) (qLdB ((IntKind.i64.wrap (first + t13))).toNat 1 0 0 hw26) ?_
            have z200 := i64_in_ (first + s6.2)
            obtain ⟨q30, hS⟩ := grd_T hS
            have q30p := of_decide_eq_true q30
            have i31 : ((IntKind.i64.wrap (first + s6.2))).toNat < (s6.1).length := by omega
            obtain ⟨kc29, cs29, hA29, hk29, hr29, hw29⟩ := h6_0.open_ i31 0
            cases hk29
            have hr29 : cs29 = [vi (List.getD s6.1 ((IntKind.i64.wrap (first + s6.2))).toNat 0)] := hr29
            subst hr29
            refine xT 6 [14, 15, 16, 17] [] [some 1] [(0, vs Adata s6.1 cdata), (2, vi hi), (3, vi first), (4, Value.func (.func 39) #[] #[Value.pointer (some a_cmpc)]), (11, vi t13), (59, vs Adata s6.1 cdata), (62, vi (IntKind.i64.wrap (first + s6.2))), (63, vs Adata s6.1 cdata), (66, vi (IntKind.i64.wrap (first + t13))), (72, vi (List.getD s6.1 ((IntKind.i64.wrap (first + t13))).toNat 0)), (73, vs Adata s6.1 cdata), (76, vi (IntKind.i64.wrap (first + s6.2)))] RG (Psi.le.refl _) ?_
            refine xTp 18 RG (fun _ => (qIxB ((IntKind.i64.wrap (first + s6.2))).toNat 1 kb16.g hA29 (show ((IntKind.i64.wrap (first + s6.2)) : Int) = _ from by omega) i31)) ?_
            refine xTv 19 [some 1] RG (Psi.le.refl _) (qLdB ((IntKind.i64.wrap (first + s6.2))).toNat 1 0 0 hw29) ?_
            obtain ⟨q33, hS⟩ := grd_T hS
            have q33p := of_decide_eq_true q33
            have i34 : ((IntKind.i64.wrap (first + s6.2))).toNat < (s6.1).length := by omega
            obtain ⟨kc32, cs32, hA32, hk32, hr32, hw32⟩ := h6_0.open_ i34 0
            cases hk32
            have hr32 : cs32 = [vi (List.getD s6.1 ((IntKind.i64.wrap (first + s6.2))).toNat 0)] := hr32
            subst hr32
            refine xTp 20 RG (fun _ => (qIxB ((IntKind.i64.wrap (first + s6.2))).toNat 1 kb16.g hA32 (show ((IntKind.i64.wrap (first + s6.2)) : Int) = _ from by omega) i34)) ?_
            refine xO1 (lds := [13, 19]) 21 ?_
            refine xId (lds := [13, 19]) (Psi.le.refl _) (eStB ((IntKind.i64.wrap (first + s6.2))).toNat 1 0 1 [vi (List.getD s6.1 ((IntKind.i64.wrap (first + t13))).toNat 0)] h6_0 rfl hw32 (show (tyI .i64).rep _ _ _ from rfl) i34) ?_
            rintro _ _ _ - ⟨k35, rfl, rfl, h35⟩
            refine kf ?_
            have hz35 : (s6.1).length = ((List.set s6.1 ((IntKind.i64.wrap (first + s6.2))).toNat ((List.getD s6.1 ((IntKind.i64.wrap (first + t13))).toNat 0) : Int))).length := by simp
            have hz35_1 : (data).length = ((List.set s6.1 ((IntKind.i64.wrap (first + s6.2))).toNat ((List.getD s6.1 ((IntKind.i64.wrap (first + t13))).toNat 0) : Int))).length := hz6_v0.trans hz35
            obtain ⟨q37, hS⟩ := grd_T hS
            have q37p := of_decide_eq_true q37
            have i38 : ((IntKind.i64.wrap (first + t13))).toNat < ((List.set s6.1 ((IntKind.i64.wrap (first + s6.2))).toNat ((List.getD s6.1 ((IntKind.i64.wrap (first + t13))).toNat 0) : Int))).length := by omega
            have i39 : ((IntKind.i64.wrap (first + t13))).toNat < (s6.1).length := by have := hz35; omega
            obtain ⟨kc36, cs36, hA36, hk36, hr36, hw36⟩ := h35.open_ i38 0
            obtain ⟨kb36, rfl⟩ : ∃ z, z = kc36 := ⟨_, rfl⟩
            subst hk36
            have hr36 : cs36 = [vi (List.getD (List.set s6.1 ((IntKind.i64.wrap (first + s6.2))).toNat ((List.getD s6.1 ((IntKind.i64.wrap (first + t13))).toNat 0) : Int)) ((IntKind.i64.wrap (first + t13))).toNat 0)] := hr36
            subst hr36
            refine xTp 22 RG (fun _ => (qIxB ((IntKind.i64.wrap (first + t13))).toNat 1 kb36.g hA36 (show ((IntKind.i64.wrap (first + t13)) : Int) = _ from by omega) i39)) ?_
            refine xO1 (lds := [13, 19]) 23 ?_
            refine xId (lds := [13, 19]) (Psi.le.refl _) (eStB ((IntKind.i64.wrap (first + t13))).toNat 1 0 1 [vi (List.getD s6.1 ((IntKind.i64.wrap (first + s6.2))).toNat 0)] h35 rfl hw36 (show (tyI .i64).rep _ _ _ from rfl) i38) ?_
            rintro _ _ _ - ⟨k40, rfl, rfl, h40⟩
            refine kf ?_
            have hz40 : (s6.1).length = ((List.set (List.set s6.1 ((IntKind.i64.wrap (first + s6.2))).toNat ((List.getD s6.1 ((IntKind.i64.wrap (first + t13))).toNat 0) : Int)) ((IntKind.i64.wrap (first + t13))).toNat ((List.getD s6.1 ((IntKind.i64.wrap (first + s6.2))).toNat 0) : Int))).length := hz35.trans (by simp)
            have hz40_1 : (data).length = ((List.set (List.set s6.1 ((IntKind.i64.wrap (first + s6.2))).toNat ((List.getD s6.1 ((IntKind.i64.wrap (first + t13))).toNat 0) : Int)) ((IntKind.i64.wrap (first + t13))).toNat ((List.getD s6.1 ((IntKind.i64.wrap (first + s6.2))).toNat 0) : Int))).length := hz35_1.trans (hz35.symm.trans hz40)
            refine xAe (lds := [13, 19]) ?_
            refine wpq_then ?_
            refine xSub [(0, Value.slice Adata ((s6.1).length) cdata), (2, vi hi), (3, vi first), (4, Value.func (.func 39) #[] #[Value.pointer (some a_cmpc)]), (11, vi t13)] ?_
            refine xRg ?_
            refine xB 2 [] [(0, Value.slice Adata ((s6.1).length) cdata), (2, vi hi), (3, vi first), (4, Value.func (.func 39) #[] #[Value.pointer (some a_cmpc)]), (10, vi t13)] ?_
            refine xRe ?_
            refine wpq_blockN ?_
            refine wpq_thenN ?_
            refine wpq_re 0 (v := Value.slice Adata ((s6.1).length) cdata) (vs Adata (List.set (List.set s6.1 ((IntKind.i64.wrap (first + s6.2))).toNat ((List.getD s6.1 ((IntKind.i64.wrap (first + t13))).toNat 0) : Int)) ((IntKind.i64.wrap (first + t13))).toNat ((List.getD s6.1 ((IntKind.i64.wrap (first + s6.2))).toNat 0) : Int)) cdata) (by kernel_rfl) (congrArg (fun z => Value.slice Adata z cdata) hz40) ?_
            have h40 := Buf.re h40 hz40 (rfl : (List.set (List.set s6.1 ((IntKind.i64.wrap (first + s6.2))).toNat ((List.getD s6.1 ((IntKind.i64.wrap (first + t13))).toNat 0) : Int)) ((IntKind.i64.wrap (first + t13))).toNat ((List.getD s6.1 ((IntKind.i64.wrap (first + s6.2))).toNat 0) : Int)) = _)
            refine xSel [none, some 1] ?_
            refine xSub [(0, vs Adata (List.set (List.set s6.1 ((IntKind.i64.wrap (first + s6.2))).toNat ((List.getD s6.1 ((IntKind.i64.wrap (first + t13))).toNat 0) : Int)) ((IntKind.i64.wrap (first + t13))).toNat ((List.getD s6.1 ((IntKind.i64.wrap (first + s6.2))).toNat 0) : Int)) cdata), (2, vi hi), (3, vi first), (4, Value.func (.func 39) #[] #[Value.pointer (some a_cmpc)]), (10, vi t13)] ?_
            have eS := (Option.some.inj hS).symm
            exact hN6 _ eS _ _ _ (e12.trans (e15.trans e24)) ⟨k40, by kernel_rfl, by kernel_rfl, h40, hz40_1⟩
        · intro uu13 hS hN13
          refine xCd (t10) (fun h41 => ?_) (fun h41 => ?_)
          · have hS := cond_T h41 hS
            refine xRg ?_
            have z201 := i64_in_ ((IntKind.i64.wrap ((IntKind.i64.wrap (2 * s6.2)) + 1)) + 1)
            refine xB 3 [] [(0, vs Adata s6.1 cdata), (2, vi hi), (3, vi first), (4, Value.func (.func 39) #[] #[Value.pointer (some a_cmpc)]), (10, vi s6.2), (11, vi (IntKind.i64.wrap ((IntKind.i64.wrap ((IntKind.i64.wrap (2 * s6.2)) + 1)) + 1)))] ?_
            refine xRe ?_
            refine xSel [none, some 1] ?_
            refine xSub [(0, vs Adata s6.1 cdata), (2, vi hi), (3, vi first), (4, Value.func (.func 39) #[] #[Value.pointer (some a_cmpc)]), (10, vi s6.2), (11, vi (IntKind.i64.wrap ((IntKind.i64.wrap ((IntKind.i64.wrap (2 * s6.2)) + 1)) + 1)))] ?_
            have eS := hS.symm
            exact hN13 _ eS _ _ _ (Gh.le.refl _) ⟨by kernel_rfl, by kernel_rfl⟩
          · have hS := cond_F h41 hS
            refine xSk ?_
            refine xSel [none, some 1] ?_
            refine xSub [(0, vs Adata s6.1 cdata), (2, vi hi), (3, vi first), (4, Value.func (.func 39) #[] #[Value.pointer (some a_cmpc)]), (10, vi s6.2), (11, vi (IntKind.i64.wrap ((IntKind.i64.wrap (2 * s6.2)) + 1)))] ?_
            have eS := hS.symm
            exact hN13 _ eS _ _ _ (Gh.le.refl _) ⟨by kernel_rfl, by kernel_rfl⟩
      · intro uu10 hS hN10
        refine wpq_split 23 (b := decide ((IntKind.i64.wrap ((IntKind.i64.wrap ((IntKind.i64.wrap (2 * s6.2)) + 1)) + 1)) < hi)) (by kernel_rfl) (fun q42 => ?_) (fun q42 => ?_)
        · have hS := cond_T q42 hS
          have q42p := of_decide_eq_true q42
          have z202 := i64_in_ (first + (IntKind.i64.wrap ((IntKind.i64.wrap (2 * s6.2)) + 1)))
          obtain ⟨q44, hS⟩ := grd_T hS
          have q44p := of_decide_eq_true q44
          have i45 : ((IntKind.i64.wrap (first + (IntKind.i64.wrap ((IntKind.i64.wrap (2 * s6.2)) + 1))))).toNat < (s6.1).length := by omega
          obtain ⟨kc43, cs43, hA43, hk43, hr43, hw43⟩ := h6_0.open_ i45 0
          obtain ⟨kb43, rfl⟩ : ∃ z, z = kc43 := ⟨_, rfl⟩
          subst hk43
          have hr43 : cs43 = [vi (List.getD s6.1 ((IntKind.i64.wrap (first + (IntKind.i64.wrap ((IntKind.i64.wrap (2 * s6.2)) + 1))))).toNat 0)] := hr43
          subst hr43
          refine xT 12 [5, 6, 7, 8, 9] [] [some 1] [(0, vs Adata s6.1 cdata), (2, vi hi), (3, vi first), (4, Value.func (.func 39) #[] #[Value.pointer (some a_cmpc)]), (10, vi s6.2), (11, vi (IntKind.i64.wrap ((IntKind.i64.wrap (2 * s6.2)) + 1))), (23, vb true), (24, Value.func (.func 39) #[] #[Value.pointer (some a_cmpc)]), (25, vs Adata s6.1 cdata), (28, vi (IntKind.i64.wrap (first + (IntKind.i64.wrap ((IntKind.i64.wrap (2 * s6.2)) + 1)))))] RG (Psi.le.refl _) ?_
          refine xTp 10 RG (fun _ => (qIxB ((IntKind.i64.wrap (first + (IntKind.i64.wrap ((IntKind.i64.wrap (2 * s6.2)) + 1))))).toNat 1 kb43.g hA43 (show ((IntKind.i64.wrap (first + (IntKind.i64.wrap ((IntKind.i64.wrap (2 * s6.2)) + 1)))) : Int) = _ from by omega) i45)) ?_
          refine xTv 11 [some 1] RG (Psi.le.refl _) (qLdB ((IntKind.i64.wrap (first + (IntKind.i64.wrap ((IntKind.i64.wrap (2 * s6.2)) + 1))))).toNat 1 0 0 hw43) ?_
          have z203 := i64_in_ (first + (IntKind.i64.wrap ((IntKind.i64.wrap (2 * s6.2)) + 1)))
          have z204 := i64_in_ ((IntKind.i64.wrap (first + (IntKind.i64.wrap ((IntKind.i64.wrap (2 * s6.2)) + 1)))) + 1)
          obtain ⟨q47, hS⟩ := grd_T hS
          have q47p := of_decide_eq_true q47
          have i48 : ((IntKind.i64.wrap ((IntKind.i64.wrap (first + (IntKind.i64.wrap ((IntKind.i64.wrap (2 * s6.2)) + 1)))) + 1))).toNat < (s6.1).length := by omega
          obtain ⟨kc46, cs46, hA46, hk46, hr46, hw46⟩ := h6_0.open_ i48 0
          cases hk46
          have hr46 : cs46 = [vi (List.getD s6.1 ((IntKind.i64.wrap ((IntKind.i64.wrap (first + (IntKind.i64.wrap ((IntKind.i64.wrap (2 * s6.2)) + 1)))) + 1))).toNat 0)] := hr46
          subst hr46
          refine xT 5 [12, 13, 14, 15, 16] [] [some 1] [(0, vs Adata s6.1 cdata), (2, vi hi), (3, vi first), (4, Value.func (.func 39) #[] #[Value.pointer (some a_cmpc)]), (10, vi s6.2), (11, vi (IntKind.i64.wrap ((IntKind.i64.wrap (2 * s6.2)) + 1))), (23, vb true), (24, Value.func (.func 39) #[] #[Value.pointer (some a_cmpc)]), (30, vi (List.getD s6.1 ((IntKind.i64.wrap (first + (IntKind.i64.wrap ((IntKind.i64.wrap (2 * s6.2)) + 1))))).toNat 0)), (31, vs Adata s6.1 cdata), (35, vi (IntKind.i64.wrap ((IntKind.i64.wrap (first + (IntKind.i64.wrap ((IntKind.i64.wrap (2 * s6.2)) + 1)))) + 1)))] RG (Psi.le.refl _) ?_
          refine xTp 17 RG (fun _ => (qIxB ((IntKind.i64.wrap ((IntKind.i64.wrap (first + (IntKind.i64.wrap ((IntKind.i64.wrap (2 * s6.2)) + 1)))) + 1))).toNat 1 kb43.g hA46 (show ((IntKind.i64.wrap ((IntKind.i64.wrap (first + (IntKind.i64.wrap ((IntKind.i64.wrap (2 * s6.2)) + 1)))) + 1)) : Int) = _ from by omega) i48)) ?_
          refine xTv 18 [some 1] RG (Psi.le.refl _) (qLdB ((IntKind.i64.wrap ((IntKind.i64.wrap (first + (IntKind.i64.wrap ((IntKind.i64.wrap (2 * s6.2)) + 1)))) + 1))).toNat 1 0 0 hw46) ?_
          have hc_cmpc := hc_cmpc.mono e8.r
          have fcmpc := fcmpc.mono e8.r e8.b
          obtain ⟨y49, hy49, hS⟩ := bindO_T hS
          refine xO1 (lds := [11, 18]) 19 ?_
          refine xIe (lds := [11, 18]) (Psi.le.refl _) (eC 0 (fun g' lr eb ln => c39 g' ((List.getD s6.1 ((IntKind.i64.wrap (first + (IntKind.i64.wrap ((IntKind.i64.wrap (2 * s6.2)) + 1))))).toNat 0) : Int) ((List.getD s6.1 ((IntKind.i64.wrap ((IntKind.i64.wrap (first + (IntKind.i64.wrap ((IntKind.i64.wrap (2 * s6.2)) + 1)))) + 1))).toNat 0) : Int) a_cmpc (cmpc : List Msg) Acmpc ccmpc (hc_cmpc.mono lr) (ArrM.lent fcmpc lr eb) hy49)) ?_
          rintro _ g50 _ e51 ⟨_, rfl, rfl, rfl⟩
          refine kk [some 1] ?_
          refine xT 0 [20, 21] [] [some 1] [(0, vs Adata s6.1 cdata), (2, vi hi), (3, vi first), (4, Value.func (.func 39) #[] #[Value.pointer (some a_cmpc)]), (10, vi s6.2), (11, vi (IntKind.i64.wrap ((IntKind.i64.wrap (2 * s6.2)) + 1))), (40, vb (decide (y49 < 0)))] RG e51.r ?_
          refine xSel [none, some 1] ?_
          refine xSub [(0, vs Adata s6.1 cdata), (2, vi hi), (3, vi first), (4, Value.func (.func 39) #[] #[Value.pointer (some a_cmpc)]), (10, vi s6.2), (11, vi (IntKind.i64.wrap ((IntKind.i64.wrap (2 * s6.2)) + 1))), (40, vb (decide (y49 < 0)))] ?_
          exact hN10 _ (Option.some.inj hS).symm _ _ _ e51 ⟨by kernel_rfl, by kernel_rfl⟩
        · have hS := cond_F q42 hS
          have q42p := of_decide_eq_false q42
          refine xT 3 [5, 6, 7, 8, 9, 10, 11, 12, 13, 14, 15, 16, 17, 18] [] [some 1] [(0, vs Adata s6.1 cdata), (2, vi hi), (3, vi first), (4, Value.func (.func 39) #[] #[Value.pointer (some a_cmpc)]), (10, vi s6.2), (11, vi (IntKind.i64.wrap ((IntKind.i64.wrap (2 * s6.2)) + 1))), (23, vb false), (24, undef), (30, undef), (37, undef)] RG (Psi.le.refl _) ?_
          refine xO1 (lds := [11, 18]) 19 ?_
          refine xIb (lds := [11, 18]) [] ?_
          refine xT 0 [20, 21] [] [some 1] [(0, vs Adata s6.1 cdata), (2, vi hi), (3, vi first), (4, Value.func (.func 39) #[] #[Value.pointer (some a_cmpc)]), (10, vi s6.2), (11, vi (IntKind.i64.wrap ((IntKind.i64.wrap (2 * s6.2)) + 1))), (40, vb false)] RG (Psi.le.refl _) ?_
          refine xSel [none, some 1] ?_
          refine xSub [(0, vs Adata s6.1 cdata), (2, vi hi), (3, vi first), (4, Value.func (.func 39) #[] #[Value.pointer (some a_cmpc)]), (10, vi s6.2), (11, vi (IntKind.i64.wrap ((IntKind.i64.wrap (2 * s6.2)) + 1))), (40, vb false)] ?_
          exact hN10 _ (Option.some.inj hS).symm _ _ _ (Gh.le.refl _) ⟨by kernel_rfl, by kernel_rfl⟩

end Go.Proofs.Ytmcgofgpcnlljaa
