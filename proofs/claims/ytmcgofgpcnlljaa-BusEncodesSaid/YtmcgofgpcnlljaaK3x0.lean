/-
Walks, printed by wip/gen. Conditions: each theorem's own.
-/
import Derived.Test.YtmcgofgpcnlljaaB3
namespace Go.Proofs.Ytmcgofgpcnlljaa
set_option linter.unusedVariables false
set_option linter.unusedSimpArgs false
open Go.RowKit
def o13 (f : Frame) : Frame :=
  (({ f with payload := (List.take ((minI (((f.payload).length : Nat) : Int) 1010)).toNat f.payload) }))
set_option maxRecDepth 100000 in
theorem c13 (g : Gh) (f : Frame) (Af_payload : Option Addr) (cf_payload : Nat) (ff_payload : Arr g.b tyU8 Af_payload cf_payload f.payload) {r : Frame} (hS : o13 f = r) :
    Ctr Try.prog 13 [Value.agg #[vy f.label, vy f.from_, vi f.cycle, vs Af_payload f.payload cf_payload]] g [] (fun v ψ o => ∃ (Ar_0_payload : Option Addr) (cr_0_payload : Nat), v = Value.agg #[vy r.label, vy r.from_, vi r.cycle, vs Ar_0_payload r.payload cr_0_payload] ∧ o = [] ∧ Arr ψ tyU8 Ar_0_payload cr_0_payload r.payload) := by
  unfold o13 at hS
  refine xFn Try.f13 (Try.f13.body.getD .skip) 12 ?_
  have nff_payload := ff_payload.len
  refine xSq ?_
  refine xRg ?_
  refine xE eB ?_
  rintro _ _ _ - ⟨b1, rfl, rfl, rfl⟩
  refine xE eB ?_
  rintro _ _ _ - ⟨b2, rfl, rfl, rfl⟩
  refine xRe ?_
  refine wpq_then ?_
  refine xSub [(1, vp b1 0), (2, vp b2 0)] ?_
  refine xSq ?_
  refine xRg ?_
  have z1 := minI_spec (((f.payload).length : Nat) : Int) 1010
  have ncapf3 := ff_payload.cap
  have f3 : Arr g.b tyU8 (offA Af_payload cf_payload 0 1) (cf_payload - 0) (List.take ((minI (((f.payload).length : Nat) : Int) 1010)).toNat f.payload) := ff_payload.cut_to ((minI (((f.payload).length : Nat) : Int) 1010)).toNat (by omega)
  have nf3 := f3.len
  have hlf3 : ((minI (((f.payload).length : Nat) : Int) 1010)).toNat - 0 = ((List.take ((minI (((f.payload).length : Nat) : Int) 1010)).toNat f.payload)).length := by simp only [List.length_take, List.length_drop] <;> omega
  have hvf3 : ((((List.take ((minI (((f.payload).length : Nat) : Int) 1010)).toNat f.payload)).length : Nat) : Int) = (minI (((f.payload).length : Nat) : Int) 1010) - 0 := by omega
  refine xB 6 [(1, 1), (3, 1)] [(1, vp b1 0), (2, vp b2 0), (4, vs Af_payload f.payload cf_payload), (8, vi (minI (((f.payload).length : Nat) : Int) 1010))] ?_
  refine xV (qSl (m := 1) (A := Af_payload) (len := (f.payload).length) (c := cf_payload) 0 ((minI (((f.payload).length : Nat) : Int) 1010)).toNat none (some (minI (((f.payload).length : Nat) : Int) 1010)) ((List.take ((minI (((f.payload).length : Nat) : Int) 1010)).toNat f.payload)).length rfl (show _ = _ by omega) (by omega) (by omega) hlf3) ?_
  refine xBo 2 [(8, 1)] [some ⟨b2, 24, (cFrame (⟨0, 0, 0, ([] : List UInt8)⟩ : Frame) none 0)⟩, some ⟨b1, 24, (cFrame ({ f with payload := (List.take ((minI (((f.payload).length : Nat) : Int) 1010)).toNat f.payload) }) (offA Af_payload cf_payload 0 1) (cf_payload - 0))⟩] [(1, vp b1 0), (2, vp b2 0)] ?_
  refine xRe ?_
  refine wpq_then ?_
  refine xSq ?_
  refine xRg ?_
  refine xBo 2 [(0, 1), (1, 0)] [some ⟨b2, 24, (cFrame ({ f with payload := (List.take ((minI (((f.payload).length : Nat) : Int) 1010)).toNat f.payload) }) (offA Af_payload cf_payload 0 1) (cf_payload - 0))⟩, some ⟨b1, 24, (cFrame ({ f with payload := (List.take ((minI (((f.payload).length : Nat) : Int) 1010)).toNat f.payload) }) (offA Af_payload cf_payload 0 1) (cf_payload - 0))⟩] [(2, vp b2 0)] ?_
  refine xRe ?_
  refine wpq_then ?_
  have eS := hS.symm
  subst eS
  exact xRetC [] [(2, 0)] (Gh.le.refl _) ⟨(offA Af_payload cf_payload 0 1), (cf_payload - 0), by kernel_rfl, by kernel_rfl, f3⟩ (fun _ _ h => h)

def o33_L0 (x : Int) (n : Int) (s6 : (List UInt8) × Nat) : Option (Ctl ((List UInt8) × Nat) ((List UInt8))) :=
  (cond (decide (((s6.2 : Nat) : Int) < n)) (grd (decide (0 ≤ (IntKind.i64.wrap (8 * ((s6.2 : Nat) : Int))))) (grd (decide (((s6.1).length + (([(u8 (IntKind.u8.wrap (shrK .u64 (IntKind.u64.wrap x) (IntKind.i64.wrap (8 * ((s6.2 : Nat) : Int))))))] : List UInt8)).length) * 1 ≤ 140737488355328)) (grd (decide (((s6.2 : Nat) : Int) + 1 ≤ 9223372036854775807)) (some (Ctl.go (((s6.1 ++ ([(u8 (IntKind.u8.wrap (shrK .u64 (IntKind.u64.wrap x) (IntKind.i64.wrap (8 * ((s6.2 : Nat) : Int))))))] : List UInt8)) : List UInt8), (s6.2 + 1))))))) (some (Ctl.done ((s6.1 : List UInt8)))))
def o33 (x : Int) (n : Int) : Option ((List UInt8)) :=
  (bindO (τ := (List UInt8)) (loopO (σ := (List UInt8) × Nat) (ρ := (List UInt8)) fuelN (o33_L0 x n) (([] : List UInt8), 0)) fun t1 => (some ((t1 : List UInt8))))
set_option maxRecDepth 100000 in
theorem c33 (g : Gh) (x : Int) (n : Int) {r : (List UInt8)} (hS : o33 x n = some r) :
    Ctr Try.prog 33 [vi x, vi n] g [] (fun v ψ o => ∃ (Ar_0 : Option Addr) (cr_0 : Nat) (kr_0 : Option Bk), v = vs Ar_0 r cr_0 ∧ o = [kr_0] ∧ Buf ψ tyU8 5 (.slice Ar_0 (r).length cr_0) kr_0 r) := by
  unfold o33 at hS
  refine xFn Try.f33 (Try.f33.body.getD .skip) 22 ?_
  refine xSq ?_
  refine xRg ?_
  refine xB 1 [] [(0, vi x), (1, vi n)] ?_
  refine xRe ?_
  refine wpq_then ?_
  refine xSq ?_
  refine xRg ?_
  refine xB 1 [] [(0, vi x), (1, vi n), (5, Value.slice none 0 0)] ?_
  refine xRe ?_
  refine wpq_then ?_
  refine xSq ?_
  refine xSq ?_
  refine xRg ?_
  refine xB 1 [] [(0, vi x), (1, vi n), (5, Value.slice none 0 0), (6, vi 0)] ?_
  refine xRe ?_
  refine wpq_then ?_
  refine xBindO hS (fun g own sl t1 => ∃ (A1_0 : Option Addr) (c1_0 : Nat) (k1_0 : Option Bk), own = [k1_0] ∧ sl = [(5, vs A1_0 t1 c1_0)] ∧ Buf g.b tyU8 5 (.slice A1_0 (t1).length c1_0) k1_0 t1) ?_ ?_
  · rintro g2 _ _ t1 e3 ⟨A1_0, c1_0, k1_0, rfl, rfl, h1_0⟩ hS
    have nh1_0 := h1_0.len
    refine wpq_then ?_
    refine xSq ?_
    refine xRg ?_
    refine xB 2 [] [(4, vs A1_0 t1 c1_0)] ?_
    refine xRe ?_
    refine wpq_then ?_
    have eS := (Option.some.inj hS).symm
    subst eS
    exact xRet [some 0] [4] e3 ⟨A1_0, c1_0, k1_0, by kernel_rfl, by kernel_rfl, h1_0⟩ (fun _ _ h => h)
  · intro uu1 hS hN1
    refine xBl 0 ?_
    refine xSel [none] ?_
    refine xSub [(0, vi x), (1, vi n), (5, Value.slice none 0 0), (6, vi 0)] ?_
    refine xLo hS (fun g own sl s6 => ∃ (A6_0 : Option Addr) (c6_0 : Nat) (k6_0 : Option Bk), own = [k6_0] ∧ sl = [(0, vi x), (1, vi n), (5, vs A6_0 s6.1 c6_0), (6, vi ((s6.2 : Nat) : Int))] ∧ Buf g.b tyU8 5 (.slice A6_0 (s6.1).length c6_0) k6_0 s6.1) ⟨none, 0, none, by kernel_rfl, by kernel_rfl, Buf.nil⟩ ?_
    rintro g7 _ _ s6 uu6 e8 ⟨A6_0, c6_0, k6_0, rfl, rfl, h6_0⟩ hS Qr6 hN6 hD6
    have nh6_0 := h6_0.len
    unfold o33_L0 at hS
    refine xSq ?_
    refine xSq ?_
    refine xRg ?_
    refine xB 3 [] [(0, vi x), (1, vi n), (5, vs A6_0 s6.1 c6_0), (6, vi ((s6.2 : Nat) : Int)), (9, vb (decide (((s6.2 : Nat) : Int) < n)))] ?_
    refine xRe ?_
    refine wpq_then ?_
    refine xCd (decide (((s6.2 : Nat) : Int) < n)) (fun h9 => ?_) (fun h9 => ?_)
    · have hS := cond_T h9 hS
      have h9p := of_decide_eq_true h9
      refine xSk ?_
      refine wpq_then ?_
      refine xSub [(0, vi x), (1, vi n), (5, vs A6_0 s6.1 c6_0), (6, vi ((s6.2 : Nat) : Int))] ?_
      refine xSq ?_
      refine xBl 1 ?_
      refine xRg ?_
      have z34 := u64_in_ x
      have z35 := i64_in_ (8 * ((s6.2 : Nat) : Int))
      obtain ⟨q10, hS⟩ := grd_T hS
      have q10p := of_decide_eq_true q10
      refine xB 5 [] [(0, vi x), (1, vi n), (5, vs A6_0 s6.1 c6_0), (6, vi ((s6.2 : Nat) : Int)), (12, vs A6_0 s6.1 c6_0), (14, Value.int .u64 (IntKind.u64.wrap x)), (16, vi (IntKind.i64.wrap (8 * ((s6.2 : Nat) : Int))))] ?_
      refine xV (qShr .u64 .i64 ((IntKind.u64.wrap x)) ((IntKind.i64.wrap (8 * ((s6.2 : Nat) : Int)))) (by omega)) ?_
      have z36 := u8_in_ (shrK .u64 (IntKind.u64.wrap x) (IntKind.i64.wrap (8 * ((s6.2 : Nat) : Int))))
      refine xB 1 [] [(0, vi x), (1, vi n), (5, vs A6_0 s6.1 c6_0), (6, vi ((s6.2 : Nat) : Int)), (12, vs A6_0 s6.1 c6_0), (18, vy (IntKind.u8.wrap (shrK .u64 (IntKind.u64.wrap x) (IntKind.i64.wrap (8 * ((s6.2 : Nat) : Int))))))] ?_
      refine xE (eBs (T := tyU8) (p := g7.b) (et := 5) (xs := ([(u8 (IntKind.u8.wrap (shrK .u64 (IntKind.u64.wrap x) (IntKind.i64.wrap (8 * ((s6.2 : Nat) : Int))))))] : List UInt8)) (reps_cons (c := [vy (IntKind.u8.wrap (shrK .u64 (IntKind.u64.wrap x) (IntKind.i64.wrap (8 * ((s6.2 : Nat) : Int)))))]) (u8_rep (wrapU8_rng _)) reps_nil) (by simp)) ?_
      rintro _ _ _ - ⟨A11, c11, k11, rfl, rfl, rfl, h11⟩
      obtain ⟨nw12, hp12, hs12⟩ := h11.srcO (g := g7)
      obtain ⟨q13, hS⟩ := grd_T hS
      have q13p := of_decide_eq_true q13
      refine xE (eApp (T := tyU8) (p := g7.b) (et := 5) (bytes := 1) (xs := (s6.1 : List UInt8)) (ys := (([(u8 (IntKind.u8.wrap (shrK .u64 (IntKind.u64.wrap x) (IntKind.i64.wrap (8 * ((s6.2 : Nat) : Int))))))] : List UInt8) : List UInt8)) 1 h6_0 rfl (fun w hs => hs12 0 w _ hs (by kernel_rfl)) hp12 (by first | omega | (simp only [List.length_cons, List.length_nil] at *; omega)) (by first | omega | (simp only [List.length_cons, List.length_nil] at *; omega))) ?_
      rintro _ _ _ - ⟨A12, c12, k12, rfl, rfl, rfl, h12⟩
      have nh12 := h12.len
      have hz12 : ((s6.1 ++ ([(u8 (IntKind.u8.wrap (shrK .u64 (IntKind.u64.wrap x) (IntKind.i64.wrap (8 * ((s6.2 : Nat) : Int))))))] : List UInt8)) : List UInt8).length = (s6.1).length + (([(u8 (IntKind.u8.wrap (shrK .u64 (IntKind.u64.wrap x) (IntKind.i64.wrap (8 * ((s6.2 : Nat) : Int))))))] : List UInt8)).length := List.length_append
      refine xB 1 [] [(0, vi x), (1, vi n), (5, vs A12 (s6.1 ++ ([(u8 (IntKind.u8.wrap (shrK .u64 (IntKind.u64.wrap x) (IntKind.i64.wrap (8 * ((s6.2 : Nat) : Int))))))] : List UInt8)) c12), (6, vi ((s6.2 : Nat) : Int))] ?_
      refine xRe ?_
      refine wpq_blockN ?_
      refine wpq_then ?_
      refine xRg ?_
      obtain ⟨q14, hS⟩ := grd_T hS
      have q14p := of_decide_eq_true q14
      refine xB 1 [] [(0, vi x), (1, vi n), (5, vs A12 (s6.1 ++ ([(u8 (IntKind.u8.wrap (shrK .u64 (IntKind.u64.wrap x) (IntKind.i64.wrap (8 * ((s6.2 : Nat) : Int))))))] : List UInt8)) c12), (6, vi ((s6.2 : Nat) : Int)), (10, vi ((s6.2 : Nat) : Int))] ?_
      refine xV (qAdd .i64 (((s6.2 : Nat) : Int)) (1) (wr64 (by omega))) ?_
      refine xB 1 [] [(0, vi x), (1, vi n), (5, vs A12 (s6.1 ++ ([(u8 (IntKind.u8.wrap (shrK .u64 (IntKind.u64.wrap x) (IntKind.i64.wrap (8 * ((s6.2 : Nat) : Int))))))] : List UInt8)) c12), (6, vi (((s6.2 : Nat) : Int) + 1))] ?_
      refine xRe ?_
      refine wpq_thenN ?_
      refine xSel [some 1] ?_
      refine xSub [(0, vi x), (1, vi n), (5, vs A12 (s6.1 ++ ([(u8 (IntKind.u8.wrap (shrK .u64 (IntKind.u64.wrap x) (IntKind.i64.wrap (8 * ((s6.2 : Nat) : Int))))))] : List UInt8)) c12), (6, vi (((s6.2 : Nat) : Int) + 1))] ?_
      have eS := (Option.some.inj hS).symm
      exact hN6 _ eS _ _ _ (Gh.le.refl _) ⟨A12, c12, k12, by kernel_rfl, by kernel_rfl, h12⟩
    · have hS := cond_F h9 hS
      have h9p := of_decide_eq_false h9
      refine xEx 0 ?_
      refine wpq_thenX ?_
      refine wpq_thenX ?_
      refine wpq_blockE ?_
      refine xSub [(5, vs A6_0 s6.1 c6_0)] ?_
      have eS := (Option.some.inj hS).symm
      have eS := (hD6 _ eS).symm
      exact hN1 _ eS _ _ _ e8 ⟨A6_0, c6_0, k6_0, by kernel_rfl, by kernel_rfl, h6_0⟩

def o69_L0 (s6 : Int × Nat) : Option (Ctl (Int × Nat) (Int)) :=
  (cond (decide (((s6.2 : Nat) : Int) < 8)) (letJ (τ := Int) (cond (((landK .u32 s6.1 1) == 1)) ((lxorK .u32 (shrK .u32 s6.1 1) 3988292384)) ((shrK .u32 s6.1 1))) fun t10 => (grd (decide (((s6.2 : Nat) : Int) + 1 ≤ 9223372036854775807)) (some (Ctl.go (t10, (s6.2 + 1)))))) (some (Ctl.done (s6.1))))
def o69 (r_ : Int) (b : Int) : Option (Int) :=
  (bindO (τ := Int) (loopO (σ := Int × Nat) (ρ := Int) fuelN (o69_L0) ((lxorK .u32 r_ (IntKind.u32.wrap b)), 0)) fun t1 => (some ((t1 : Int))))
set_option maxRecDepth 100000 in
theorem c69 (g : Gh) (r_ : Int) (b : Int) {r : Int} (hS : o69 r_ b = some r) :
    Ctr Try.prog 69 [Value.int .u32 r_, vy b] g [] (fun v ψ o => v = Value.int .u32 r ∧ o = []) := by
  unfold o69 at hS
  refine xFn Try.f69 (Try.f69.body.getD .skip) 24 ?_
  refine xSq ?_
  refine xRg ?_
  refine xB 1 [] [(0, Value.int .u32 r_), (1, vy b)] ?_
  refine xRe ?_
  refine wpq_then ?_
  refine xSq ?_
  refine xRg ?_
  have z1 := u32_in_ b
  refine xB 5 [] [(0, Value.int .u32 (lxorK .u32 r_ (IntKind.u32.wrap b)))] ?_
  refine xRe ?_
  refine wpq_then ?_
  refine xSq ?_
  refine xSq ?_
  refine xRg ?_
  refine xB 1 [] [(0, Value.int .u32 (lxorK .u32 r_ (IntKind.u32.wrap b))), (5, vi 0)] ?_
  refine xRe ?_
  refine wpq_then ?_
  refine xBindO hS (fun g own sl t1 => own = [] ∧ sl = [(0, Value.int .u32 t1)]) ?_ ?_
  · rintro g2 _ _ t1 e3 ⟨rfl, rfl⟩ hS
    refine wpq_then ?_
    refine xSq ?_
    refine xRg ?_
    refine xB 2 [] [(4, Value.int .u32 t1)] ?_
    refine xRe ?_
    refine wpq_then ?_
    have eS := (Option.some.inj hS).symm
    subst eS
    exact xRet [] [4] e3 ⟨by kernel_rfl, by kernel_rfl⟩ (fun _ _ h => h)
  · intro uu1 hS hN1
    refine xBl 0 ?_
    refine xSub [(0, Value.int .u32 (lxorK .u32 r_ (IntKind.u32.wrap b))), (5, vi 0)] ?_
    refine xLo hS (fun g own sl s6 => own = [] ∧ sl = [(0, Value.int .u32 s6.1), (5, vi ((s6.2 : Nat) : Int))]) ⟨by kernel_rfl, by kernel_rfl⟩ ?_
    rintro g7 _ _ s6 uu6 e8 ⟨rfl, rfl⟩ hS Qr6 hN6 hD6
    unfold o69_L0 at hS
    refine xSq ?_
    refine xSq ?_
    refine xRg ?_
    refine xB 2 [] [(0, Value.int .u32 s6.1), (5, vi ((s6.2 : Nat) : Int)), (12, vb (decide (((s6.2 : Nat) : Int) < 8)))] ?_
    refine xRe ?_
    refine wpq_then ?_
    refine xCd (decide (((s6.2 : Nat) : Int) < 8)) (fun h9 => ?_) (fun h9 => ?_)
    · have hS := cond_T h9 hS
      have h9p := of_decide_eq_true h9
      refine xSk ?_
      refine wpq_then ?_
      refine xSub [(0, Value.int .u32 s6.1), (5, vi ((s6.2 : Nat) : Int))] ?_
      refine xSq ?_
      refine xBl 1 ?_
      refine xSq ?_
      refine xRg ?_
      refine xB 3 [] [(0, Value.int .u32 s6.1), (5, vi ((s6.2 : Nat) : Int)), (6, Value.int .u32 (landK .u32 s6.1 1))] ?_
      refine xRe ?_
      refine wpq_then ?_
      refine xSq ?_
      refine xRg ?_
      refine xB 3 [] [(0, Value.int .u32 (shrK .u32 s6.1 1)), (5, vi ((s6.2 : Nat) : Int)), (6, Value.int .u32 (landK .u32 s6.1 1))] ?_
      refine xRe ?_
      refine wpq_then ?_
      refine xSq ?_
      refine xRg ?_
      refine xB 2 [] [(0, Value.int .u32 (shrK .u32 s6.1 1)), (5, vi ((s6.2 : Nat) : Int)), (20, vb ((landK .u32 s6.1 1) == 1))] ?_
      refine xRe ?_
      refine wpq_then ?_
      refine xLetJ hS (fun g own sl t10 => own = [] ∧ sl = [(0, Value.int .u32 t10), (5, vi ((s6.2 : Nat) : Int))]) ?_ ?_
      · rintro g11 _ _ t10 e12 ⟨rfl, rfl⟩ hS
        refine wpq_blockN ?_
        refine wpq_then ?_
        refine xRg ?_
        obtain ⟨q13, hS⟩ := grd_T hS
        have q13p := of_decide_eq_true q13
        refine xB 1 [] [(0, Value.int .u32 t10), (5, vi ((s6.2 : Nat) : Int)), (13, vi ((s6.2 : Nat) : Int))] ?_
        refine xV (qAdd .i64 (((s6.2 : Nat) : Int)) (1) (wr64 (by omega))) ?_
        refine xB 1 [] [(0, Value.int .u32 t10), (5, vi (((s6.2 : Nat) : Int) + 1))] ?_
        refine xRe ?_
        refine wpq_thenN ?_
        refine xSub [(0, Value.int .u32 t10), (5, vi (((s6.2 : Nat) : Int) + 1))] ?_
        have eS := (Option.some.inj hS).symm
        exact hN6 _ eS _ _ _ e12 ⟨by kernel_rfl, by kernel_rfl⟩
      · intro uu10 hS hN10
        refine xCd (((landK .u32 s6.1 1) == 1)) (fun h14 => ?_) (fun h14 => ?_)
        · have hS := cond_T h14 hS
          have h14p : (landK .u32 s6.1 1) = 1 := eq_of_beq h14
          refine xRg ?_
          refine xB 3 [] [(0, Value.int .u32 (lxorK .u32 (shrK .u32 s6.1 1) 3988292384)), (5, vi ((s6.2 : Nat) : Int))] ?_
          refine xRe ?_
          refine xSub [(0, Value.int .u32 (lxorK .u32 (shrK .u32 s6.1 1) 3988292384)), (5, vi ((s6.2 : Nat) : Int))] ?_
          have eS := hS.symm
          exact hN10 _ eS _ _ _ (Gh.le.refl _) ⟨by kernel_rfl, by kernel_rfl⟩
        · have hS := cond_F h14 hS
          have h14p : ¬ ((landK .u32 s6.1 1) = 1) := ne_of_beq_false_ h14
          refine xSk ?_
          refine xSub [(0, Value.int .u32 (shrK .u32 s6.1 1)), (5, vi ((s6.2 : Nat) : Int))] ?_
          have eS := hS.symm
          exact hN10 _ eS _ _ _ (Gh.le.refl _) ⟨by kernel_rfl, by kernel_rfl⟩
    · have hS := cond_F h9 hS
      have h9p := of_decide_eq_false h9
      refine xEx 0 ?_
      refine wpq_thenX ?_
      refine wpq_thenX ?_
      refine wpq_blockE ?_
      refine xSub [(0, Value.int .u32 s6.1)] ?_
      have eS := (Option.some.inj hS).symm
      have eS := (hD6 _ eS).symm
      exact hN1 _ eS _ _ _ e8 ⟨by kernel_rfl, by kernel_rfl⟩

def o57_L0 (p : List UInt8) (s6 : Int × Nat) : Option (Ctl (Int × Nat) (Int)) :=
  (cond (decide (((s6.2 : Nat) : Int) < (((p).length : Nat) : Int))) (bindO (τ := Int) (o69 (s6.1 : Int) (((List.getD p s6.2 0).toNat : Int) : Int)) fun y12 => (grd (decide (((s6.2 : Nat) : Int) + 1 ≤ 9223372036854775807)) (some (Ctl.go (y12, (s6.2 + 1)))))) (some (Ctl.done (s6.1))))
def o57 (sum : Int) (p : List UInt8) : Option (Int) :=
  (bindO (τ := Int) (loopO (σ := Int × Nat) (ρ := Int) fuelN (o57_L0 p) ((lxorK .u32 4294967295 sum), 0)) fun t1 => (some (((lxorK .u32 4294967295 t1) : Int))))
set_option maxRecDepth 100000 in
theorem c57 (g : Gh) (sum : Int) (p : List UInt8) (Ap : Option Addr) (cp : Nat) (fp : Arr g.r tyU8 Ap cp p) {r : Int} (hS : o57 sum p = some r) :
    Ctr Try.prog 57 [Value.int .u32 sum, vs Ap p cp] g [] (fun v ψ o => v = Value.int .u32 r ∧ o = []) := by
  unfold o57 at hS
  refine xFn Try.f57 (Try.f57.body.getD .skip) 22 ?_
  have nfp := fp.len
  refine xSq ?_
  refine xRg ?_
  refine xB 1 [] [(0, Value.int .u32 sum), (1, vs Ap p cp)] ?_
  refine xRe ?_
  refine wpq_then ?_
  refine xSq ?_
  refine xRg ?_
  refine xB 3 [] [(1, vs Ap p cp), (5, Value.int .u32 (lxorK .u32 4294967295 sum))] ?_
  refine xRe ?_
  refine wpq_then ?_
  refine xSq ?_
  refine xSq ?_
  refine xRg ?_
  refine xB 3 [] [(5, Value.int .u32 (lxorK .u32 4294967295 sum)), (10, vs Ap p cp), (11, vi (((p).length : Nat) : Int)), (12, vi 0)] ?_
  refine xRe ?_
  refine wpq_then ?_
  refine xBindO hS (fun g own sl t1 => own = [] ∧ sl = [(5, Value.int .u32 t1)]) ?_ ?_
  · rintro g2 _ _ t1 e3 ⟨rfl, rfl⟩ hS
    refine wpq_then ?_
    refine xSq ?_
    refine xRg ?_
    refine xB 3 [] [(4, Value.int .u32 (lxorK .u32 4294967295 t1))] ?_
    refine xRe ?_
    refine wpq_then ?_
    have eS := (Option.some.inj hS).symm
    subst eS
    exact xRet [] [4] e3 ⟨by kernel_rfl, by kernel_rfl⟩ (fun _ _ h => h)
  · intro uu1 hS hN1
    refine xBl 0 ?_
    refine xSub [(5, Value.int .u32 (lxorK .u32 4294967295 sum)), (10, vs Ap p cp), (11, vi (((p).length : Nat) : Int)), (12, vi 0)] ?_
    refine xLo hS (fun g own sl s6 => own = [] ∧ sl = [(5, Value.int .u32 s6.1), (10, vs Ap p cp), (11, vi (((p).length : Nat) : Int)), (12, vi ((s6.2 : Nat) : Int))]) ⟨by kernel_rfl, by kernel_rfl⟩ ?_
    rintro g7 _ _ s6 uu6 e8 ⟨rfl, rfl⟩ hS Qr6 hN6 hD6
    unfold o57_L0 at hS
    refine xSq ?_
    refine xRg ?_
    refine xB 1 [] [(5, Value.int .u32 s6.1), (10, vs Ap p cp), (11, vi (((p).length : Nat) : Int)), (12, vi ((s6.2 : Nat) : Int)), (13, vb (decide (((s6.2 : Nat) : Int) < (((p).length : Nat) : Int))))] ?_
    refine xRe ?_
    refine wpq_then ?_
    refine xSq ?_
    refine xCd (decide (((s6.2 : Nat) : Int) < (((p).length : Nat) : Int))) (fun h9 => ?_) (fun h9 => ?_)
    · have hS := cond_T h9 hS
      have h9p := of_decide_eq_true h9
      refine xSk ?_
      refine wpq_then ?_
      refine xSub [(5, Value.int .u32 s6.1), (10, vs Ap p cp), (11, vi (((p).length : Nat) : Int)), (12, vi ((s6.2 : Nat) : Int))] ?_
      refine xSq ?_
      refine xBl 1 ?_
      refine xSq ?_
      refine xRg ?_
      have fp := fp.mono e8.r
      have i11 : s6.2 < (p).length := by omega
      obtain ⟨ad10, cs10, hA10, hr10, hc10⟩ := fp.at_ (get_getD (d := 0) i11)
      have hr10 : cs10 = [vy ((List.getD p s6.2 0).toNat : Int)] := hr10
      subst hr10
      have nb10 := UInt8.toNat_lt (List.getD p s6.2 0)
      refine xV (qIx s6.2 1 hA10 rfl i11) ?_
      refine xV (qLdP (Addr.add ad10 (s6.2 * 1)) 0 hc10) ?_
      refine xB 1 [] [(5, Value.int .u32 s6.1), (7, vy ((List.getD p s6.2 0).toNat : Int)), (10, vs Ap p cp), (11, vi (((p).length : Nat) : Int)), (12, vi ((s6.2 : Nat) : Int))] ?_
      refine xRe ?_
      refine wpq_then ?_
      refine xRg ?_
      refine xB 2 [] [(5, Value.int .u32 s6.1), (10, vs Ap p cp), (11, vi (((p).length : Nat) : Int)), (12, vi ((s6.2 : Nat) : Int)), (16, Value.int .u32 s6.1), (17, vy ((List.getD p s6.2 0).toNat : Int))] ?_
      obtain ⟨y12, hy12, hS⟩ := bindO_T hS
      refine xE (eC 0 (fun g' lr eb ln => c69 g' (s6.1 : Int) (((List.getD p s6.2 0).toNat : Int) : Int) hy12)) ?_
      rintro _ g13 _ e14 ⟨_, rfl, rfl, rfl⟩
      refine xB 1 [] [(5, Value.int .u32 y12), (10, vs Ap p cp), (11, vi (((p).length : Nat) : Int)), (12, vi ((s6.2 : Nat) : Int))] ?_
      refine xRe ?_
      refine wpq_blockN ?_
      refine wpq_then ?_
      refine xRg ?_
      obtain ⟨q15, hS⟩ := grd_T hS
      have q15p := of_decide_eq_true q15
      refine xV (qAdd .i64 (((s6.2 : Nat) : Int)) (1) (wr64 (by omega))) ?_
      refine xB 1 [] [(5, Value.int .u32 y12), (10, vs Ap p cp), (11, vi (((p).length : Nat) : Int)), (12, vi (((s6.2 : Nat) : Int) + 1))] ?_
      refine xRe ?_
      refine wpq_thenN ?_
      refine xSub [(5, Value.int .u32 y12), (10, vs Ap p cp), (11, vi (((p).length : Nat) : Int)), (12, vi (((s6.2 : Nat) : Int) + 1))] ?_
      have eS := (Option.some.inj hS).symm
      exact hN6 _ eS _ _ _ e14 ⟨by kernel_rfl, by kernel_rfl⟩
    · have hS := cond_F h9 hS
      have h9p := of_decide_eq_false h9
      refine xEx 0 ?_
      refine wpq_thenX ?_
      refine wpq_thenX ?_
      refine wpq_blockE ?_
      refine xSub [(5, Value.int .u32 s6.1)] ?_
      have eS := (Option.some.inj hS).symm
      have eS := (hD6 _ eS).symm
      exact hN1 _ eS _ _ _ e8 ⟨by kernel_rfl, by kernel_rfl⟩

def o51 (p : List UInt8) : Option (Int) :=
  (bindO (τ := Int) (o57 (0 : Int) (p : List UInt8)) fun y1 => (some ((y1 : Int))))
set_option maxRecDepth 100000 in
theorem c51 (g : Gh) (p : List UInt8) (Ap : Option Addr) (cp : Nat) (fp : Arr g.r tyU8 Ap cp p) {r : Int} (hS : o51 p = some r) :
    Ctr Try.prog 51 [vs Ap p cp] g [] (fun v ψ o => v = Value.int .u32 r ∧ o = []) := by
  unfold o51 at hS
  refine xFn Try.f51 (Try.f51.body.getD .skip) 5 ?_
  have nfp := fp.len
  refine xSq ?_
  refine xRg ?_
  refine xB 1 [] [(0, vs Ap p cp)] ?_
  refine xRe ?_
  refine wpq_then ?_
  refine xSq ?_
  refine xRg ?_
  refine xB 1 [] [(3, vs Ap p cp)] ?_
  obtain ⟨y1, hy1, hS⟩ := bindO_T hS
  refine xE (eC 0 (fun g' lr eb ln => c57 g' (0 : Int) (p : List UInt8) Ap cp (fp.mono lr) hy1)) ?_
  rintro _ g2 _ e3 ⟨_, rfl, rfl, rfl⟩
  refine xB 1 [] [(2, Value.int .u32 y1)] ?_
  refine xRe ?_
  refine wpq_then ?_
  have eS := (Option.some.inj hS).symm
  subst eS
  exact xRet [] [2] e3 ⟨by kernel_rfl, by kernel_rfl⟩ (fun _ _ h => h)

def o50 (x : Int) : (List UInt8) :=
  ((([(u8 (IntKind.u8.wrap x)), (u8 (IntKind.u8.wrap (shrK .u32 x 8))), (u8 (IntKind.u8.wrap (shrK .u32 x 16))), (u8 (IntKind.u8.wrap (shrK .u32 x 24)))] : List UInt8) : List UInt8))
set_option maxRecDepth 100000 in
theorem c50 (g : Gh) (x : Int) {r : (List UInt8)} (hS : o50 x = r) :
    Ctr Try.prog 50 [Value.int .u32 x] g [] (fun v ψ o => ∃ (Ar_0 : Option Addr) (cr_0 : Nat) (kr_0 : Option Bk), v = vs Ar_0 r cr_0 ∧ o = [kr_0] ∧ Buf ψ tyU8 5 (.slice Ar_0 (r).length cr_0) kr_0 r) := by
  unfold o50 at hS
  refine xFn Try.f50 (Try.f50.body.getD .skip) 15 ?_
  refine xSq ?_
  refine xRg ?_
  refine xB 1 [] [(0, Value.int .u32 x)] ?_
  refine xRe ?_
  refine wpq_then ?_
  refine xSq ?_
  refine xRg ?_
  have z1 := u8_in_ x
  have z2 := u8_in_ (shrK .u32 x 8)
  have z3 := u8_in_ (shrK .u32 x 16)
  have z4 := u8_in_ (shrK .u32 x 24)
  refine xB 11 [] [(4, vy (IntKind.u8.wrap x)), (7, vy (IntKind.u8.wrap (shrK .u32 x 8))), (10, vy (IntKind.u8.wrap (shrK .u32 x 16))), (13, vy (IntKind.u8.wrap (shrK .u32 x 24)))] ?_
  refine xE (eBs (T := tyU8) (p := g.b) (et := 5) (xs := ([(u8 (IntKind.u8.wrap x)), (u8 (IntKind.u8.wrap (shrK .u32 x 8))), (u8 (IntKind.u8.wrap (shrK .u32 x 16))), (u8 (IntKind.u8.wrap (shrK .u32 x 24)))] : List UInt8)) (reps_cons (c := [vy (IntKind.u8.wrap x)]) (u8_rep (wrapU8_rng _)) (reps_cons (c := [vy (IntKind.u8.wrap (shrK .u32 x 8))]) (u8_rep (wrapU8_rng _)) (reps_cons (c := [vy (IntKind.u8.wrap (shrK .u32 x 16))]) (u8_rep (wrapU8_rng _)) (reps_cons (c := [vy (IntKind.u8.wrap (shrK .u32 x 24))]) (u8_rep (wrapU8_rng _)) reps_nil)))) (by simp)) ?_
  rintro _ _ _ - ⟨A1, c1, k1, rfl, rfl, rfl, h1⟩
  refine xB 1 [] [(2, vs A1 ([(u8 (IntKind.u8.wrap x)), (u8 (IntKind.u8.wrap (shrK .u32 x 8))), (u8 (IntKind.u8.wrap (shrK .u32 x 16))), (u8 (IntKind.u8.wrap (shrK .u32 x 24)))] : List UInt8) c1)] ?_
  refine xRe ?_
  refine wpq_then ?_
  have eS := hS.symm
  subst eS
  exact xRet [some 0] [2] (Gh.le.refl _) ⟨A1, c1, k1, by kernel_rfl, by kernel_rfl, h1⟩ (fun _ _ h => h)

def o34 (p : List UInt8) : Option ((List UInt8)) :=
  (bindO (τ := Int) (o51 (p : List UInt8)) fun y3 => (letJ (τ := (List UInt8)) (o50 (y3 : Int)) fun y6 => (grd (decide (((p).length + (y6).length) * 1 ≤ 140737488355328)) (some (((p ++ y6) : List UInt8))))))
set_option maxRecDepth 100000 in
theorem c34 (g : Gh) (p : List UInt8) (Ap : Option Addr) (cp : Nat) (fp : Arr g.r tyU8 Ap cp p) {r : (List UInt8)} (hS : o34 p = some r) :
    Ctr Try.prog 34 [vs Ap p cp] g [] (fun v ψ o => ∃ (Ar_0 : Option Addr) (cr_0 : Nat) (kr_0 : Option Bk), v = vs Ar_0 r cr_0 ∧ o = [kr_0] ∧ Buf ψ tyU8 5 (.slice Ar_0 (r).length cr_0) kr_0 r) := by
  unfold o34 at hS
  refine xFn Try.f34 (Try.f34.body.getD .skip) 12 ?_
  have nfp := fp.len
  refine xSq ?_
  refine xRg ?_
  refine xB 1 [] [(0, vs Ap p cp)] ?_
  refine xRe ?_
  refine wpq_then ?_
  refine xSq ?_
  refine xRg ?_
  refine xE (eBs (T := tyU8) (p := g.b) (et := 5) (xs := ([] : List UInt8)) reps_nil (by simp)) ?_
  rintro _ _ _ - ⟨A1, c1, k1, rfl, rfl, rfl, h1⟩
  refine xB 1 [] [(0, vs Ap p cp), (4, vs A1 ([] : List UInt8) c1), (5, vs Ap p cp)] ?_
  obtain ⟨nw2, hp2, hs2⟩ := fp.srcR
  refine xE (eApp (T := tyU8) (p := g.b) (et := 5) (bytes := 1) (xs := ([] : List UInt8)) (ys := (p : List UInt8)) 0 h1 rfl (fun w hs => hs2 w _ hs) (flatU8.reps hp2) (by first | omega | (simp only [List.length_cons, List.length_nil] at *; omega)) (by first | omega | (simp only [List.length_cons, List.length_nil] at *; omega))) ?_
  rintro _ _ _ - ⟨A2, c2, k2, rfl, rfl, rfl, h2⟩
  have h2 : Buf g.b tyU8 5 (.slice A2 ((p : List UInt8)).length c2) k2 (p : List UInt8) := h2
  have nh2 := h2.len
  refine xB 1 [] [(0, vs Ap p cp), (3, vs A2 p c2)] ?_
  refine xRe ?_
  refine wpq_then ?_
  refine xSq ?_
  refine xRg ?_
  refine xB 2 [] [(7, vs A2 p c2), (8, vs Ap p cp)] ?_
  obtain ⟨y3, hy3, hS⟩ := bindO_T hS
  refine xE (eC 0 (fun g' lr eb ln => c51 g' (p : List UInt8) Ap cp (fp.mono lr) hy3)) ?_
  rintro _ g4 _ e5 ⟨_, rfl, rfl, rfl⟩
  obtain ⟨y6, hy6, hS⟩ := letJ_T hS
  refine xE (eC 0 (fun g' lr eb ln => c50 g' (y3 : Int) hy6)) ?_
  rintro _ g7 _ e8 ⟨_, rfl, A6_0, c6_0, k6_0, rfl, rfl, h6_0⟩
  have nh6_0 := h6_0.len
  have h2 := h2.mono (e5.trans e8).b
  obtain ⟨nw9, hp9, hs9⟩ := h6_0.srcO (g := g7)
  obtain ⟨q10, hS⟩ := grd_T hS
  have q10p := of_decide_eq_true q10
  refine xE (eApp (T := tyU8) (p := g7.b) (et := 5) (bytes := 1) (xs := (p : List UInt8)) (ys := (y6 : List UInt8)) 1 h2 rfl (fun w hs => hs9 0 w _ hs (by kernel_rfl)) hp9 (by first | omega | (simp only [List.length_cons, List.length_nil] at *; omega)) (by first | omega | (simp only [List.length_cons, List.length_nil] at *; omega))) ?_
  rintro _ _ _ - ⟨A9, c9, k9, rfl, rfl, rfl, h9⟩
  have nh9 := h9.len
  have hz9 : ((p ++ y6) : List UInt8).length = (p).length + (y6).length := List.length_append
  refine xB 1 [] [(2, vs A9 (p ++ y6) c9)] ?_
  refine xRe ?_
  refine wpq_then ?_
  have eS := (Option.some.inj hS).symm
  subst eS
  exact xRet [some 1] [2] (e5.trans e8) ⟨A9, c9, k9, by kernel_rfl, by kernel_rfl, h9⟩ (fun _ _ h => h)

def o15 (f : Frame) : Option ((List UInt8) × Int) :=
  (cond (decide ((((f.payload).length : Nat) : Int) > 1000)) (some ((([] : List UInt8), (3 : Int)))) (grd (decide (0 ≤ f.label ∧ f.label ≤ 255)) (grd (decide (0 ≤ f.from_ ∧ f.from_ ≤ 255)) (bindO (τ := (List UInt8)) (o33 (f.cycle : Int) (8 : Int)) fun y6 => (grd (decide (((([(u8 f.label), (u8 f.from_)] : List UInt8)).length + (y6).length) * 1 ≤ 140737488355328)) (bindO (τ := (List UInt8)) (o33 ((((f.payload).length : Nat) : Int) : Int) (2 : Int)) fun y11 => (grd (decide ((((([(u8 f.label), (u8 f.from_)] : List UInt8) ++ y6)).length + (y11).length) * 1 ≤ 140737488355328)) (grd (decide (((((([(u8 f.label), (u8 f.from_)] : List UInt8) ++ y6) ++ y11)).length + (f.payload).length) * 1 ≤ 140737488355328)) (bindO (τ := (List UInt8)) (o34 ((((([(u8 f.label), (u8 f.from_)] : List UInt8) ++ y6) ++ y11) ++ f.payload) : List UInt8)) fun y18 => (some (((y18 : List UInt8), (0 : Int)))))))))))))
set_option maxRecDepth 100000 in
theorem c15 (g : Gh) (f : Frame) (Af_payload : Option Addr) (cf_payload : Nat) (ff_payload : Arr g.r tyU8 Af_payload cf_payload f.payload) {r : (List UInt8) × Int} (hS : o15 f = some r) :
    Ctr Try.prog 15 [Value.agg #[vy f.label, vy f.from_, vi f.cycle, vs Af_payload f.payload cf_payload]] g [] (fun v ψ o => ∃ (Ar_0 : Option Addr) (cr_0 : Nat) (kr_0 : Option Bk), v = Value.tuple #[vs Ar_0 r.1 cr_0, vi r.2] ∧ o = [kr_0] ∧ Buf ψ tyU8 5 (.slice Ar_0 (r.1).length cr_0) kr_0 r.1) := by
  unfold o15 at hS
  refine xFn Try.f15 (Try.f15.body.getD .skip) 31 ?_
  have nff_payload := ff_payload.len
  refine xSq ?_
  refine xRg ?_
  refine xE eB ?_
  rintro _ _ _ - ⟨b1, rfl, rfl, rfl⟩
  refine xB 2 [] [(1, vp b1 0)] ?_
  refine xRe ?_
  refine wpq_then ?_
  refine xSq ?_
  refine xSq ?_
  refine xRg ?_
  refine xB 4 [(1, 0)] [(1, vp b1 0), (8, vb (decide ((((f.payload).length : Nat) : Int) > 1000)))] ?_
  refine xRe ?_
  refine wpq_then ?_
  refine xCd (decide ((((f.payload).length : Nat) : Int) > 1000)) (fun h2 => ?_) (fun h2 => ?_)
  · have hS := cond_T h2 hS
    have h2p := of_decide_eq_true h2
    refine xSq ?_
    refine xRg ?_
    refine xB 2 [] [(2, Value.slice none 0 0), (3, vi 3)] ?_
    refine xRe ?_
    refine wpq_then ?_
    have eS := (Option.some.inj hS).symm
    subst eS
    exact xRet [none] [2, 3] (Gh.le.refl _) ⟨none, 0, none, by kernel_rfl, by kernel_rfl, Buf.nil⟩ (fun _ _ h => h)
  · have hS := cond_F h2 hS
    have h2p := of_decide_eq_false h2
    refine xSk ?_
    refine wpq_then ?_
    refine xSub [(1, vp b1 0)] ?_
    refine xSq ?_
    refine xRg ?_
    refine xB 4 [(1, 0), (3, 0)] [(1, vp b1 0), (10, vy f.label), (12, vy f.from_)] ?_
    obtain ⟨q3, hS⟩ := grd_T hS
    have q3p := of_decide_eq_true q3
    obtain ⟨q4, hS⟩ := grd_T hS
    have q4p := of_decide_eq_true q4
    refine xE (eBs (T := tyU8) (p := g.b) (et := 5) (xs := ([(u8 f.label), (u8 f.from_)] : List UInt8)) (reps_cons (c := [vy f.label]) (u8_rep (by omega)) (reps_cons (c := [vy f.from_]) (u8_rep (by omega)) reps_nil)) (by simp)) ?_
    rintro _ _ _ - ⟨A5, c5, k5, rfl, rfl, rfl, h5⟩
    refine xB 1 [] [(1, vp b1 0), (4, vs A5 ([(u8 f.label), (u8 f.from_)] : List UInt8) c5)] ?_
    refine xRe ?_
    refine wpq_then ?_
    refine xSq ?_
    refine xRg ?_
    refine xB 3 [(2, 1)] [(1, vp b1 0), (4, vs A5 ([(u8 f.label), (u8 f.from_)] : List UInt8) c5), (14, vs A5 ([(u8 f.label), (u8 f.from_)] : List UInt8) c5), (16, vi f.cycle)] ?_
    obtain ⟨y6, hy6, hS⟩ := bindO_T hS
    refine xE (eC 0 (fun g' lr eb ln => c33 g' (f.cycle : Int) (8 : Int) hy6)) ?_
    rintro _ g7 _ e8 ⟨_, rfl, A6_0, c6_0, k6_0, rfl, rfl, h6_0⟩
    have nh6_0 := h6_0.len
    have h5 := h5.mono e8.b
    obtain ⟨nw9, hp9, hs9⟩ := h6_0.srcO (g := g7)
    obtain ⟨q10, hS⟩ := grd_T hS
    have q10p := of_decide_eq_true q10
    refine xE (eApp (T := tyU8) (p := g7.b) (et := 5) (bytes := 1) (xs := (([(u8 f.label), (u8 f.from_)] : List UInt8) : List UInt8)) (ys := (y6 : List UInt8)) 1 h5 rfl (fun w hs => hs9 0 w _ hs (by kernel_rfl)) hp9 (by first | omega | (simp only [List.length_cons, List.length_nil] at *; omega)) (by first | omega | (simp only [List.length_cons, List.length_nil] at *; omega))) ?_
    rintro _ _ _ - ⟨A9, c9, k9, rfl, rfl, rfl, h9⟩
    have nh9 := h9.len
    have hz9 : ((([(u8 f.label), (u8 f.from_)] : List UInt8) ++ y6) : List UInt8).length = (([(u8 f.label), (u8 f.from_)] : List UInt8)).length + (y6).length := List.length_append
    refine xB 1 [] [(1, vp b1 0), (4, vs A9 (([(u8 f.label), (u8 f.from_)] : List UInt8) ++ y6) c9)] ?_
    refine xRe ?_
    refine wpq_then ?_
    refine xSq ?_
    refine xRg ?_
    refine xB 4 [(2, 2)] [(1, vp b1 0), (4, vs A9 (([(u8 f.label), (u8 f.from_)] : List UInt8) ++ y6) c9), (19, vs A9 (([(u8 f.label), (u8 f.from_)] : List UInt8) ++ y6) c9), (22, vi (((f.payload).length : Nat) : Int))] ?_
    obtain ⟨y11, hy11, hS⟩ := bindO_T hS
    refine xE (eC 0 (fun g' lr eb ln => c33 g' ((((f.payload).length : Nat) : Int) : Int) (2 : Int) hy11)) ?_
    rintro _ g12 _ e13 ⟨_, rfl, A11_0, c11_0, k11_0, rfl, rfl, h11_0⟩
    have nh11_0 := h11_0.len
    have h9 := h9.mono e13.b
    obtain ⟨nw14, hp14, hs14⟩ := h11_0.srcO (g := g12)
    obtain ⟨q15, hS⟩ := grd_T hS
    have q15p := of_decide_eq_true q15
    refine xE (eApp (T := tyU8) (p := g12.b) (et := 5) (bytes := 1) (xs := ((([(u8 f.label), (u8 f.from_)] : List UInt8) ++ y6) : List UInt8)) (ys := (y11 : List UInt8)) 2 h9 rfl (fun w hs => hs14 0 w _ hs (by kernel_rfl)) hp14 (by first | omega | (simp only [List.length_cons, List.length_nil] at *; omega)) (by first | omega | (simp only [List.length_cons, List.length_nil] at *; omega))) ?_
    rintro _ _ _ - ⟨A14, c14, k14, rfl, rfl, rfl, h14⟩
    have nh14 := h14.len
    have hz14 : (((([(u8 f.label), (u8 f.from_)] : List UInt8) ++ y6) ++ y11) : List UInt8).length = ((([(u8 f.label), (u8 f.from_)] : List UInt8) ++ y6)).length + (y11).length := List.length_append
    refine xB 1 [] [(1, vp b1 0), (4, vs A14 ((([(u8 f.label), (u8 f.from_)] : List UInt8) ++ y6) ++ y11) c14)] ?_
    refine xRe ?_
    refine wpq_then ?_
    refine xSq ?_
    refine xRg ?_
    refine xB 3 [(2, 3)] [(4, vs A14 ((([(u8 f.label), (u8 f.from_)] : List UInt8) ++ y6) ++ y11) c14), (25, vs A14 ((([(u8 f.label), (u8 f.from_)] : List UInt8) ++ y6) ++ y11) c14), (27, vs Af_payload f.payload cf_payload)] ?_
    have ff_payload := ff_payload.mono (e8.trans e13).r
    obtain ⟨nw16, hp16, hs16⟩ := ff_payload.srcR
    obtain ⟨q17, hS⟩ := grd_T hS
    have q17p := of_decide_eq_true q17
    refine xE (eApp (T := tyU8) (p := g12.b) (et := 5) (bytes := 1) (xs := (((([(u8 f.label), (u8 f.from_)] : List UInt8) ++ y6) ++ y11) : List UInt8)) (ys := (f.payload : List UInt8)) 2 h14 rfl (fun w hs => hs16 w _ hs) (flatU8.reps hp16) (by first | omega | (simp only [List.length_cons, List.length_nil] at *; omega)) (by first | omega | (simp only [List.length_cons, List.length_nil] at *; omega))) ?_
    rintro _ _ _ - ⟨A16, c16, k16, rfl, rfl, rfl, h16⟩
    have nh16 := h16.len
    have hz16 : ((((([(u8 f.label), (u8 f.from_)] : List UInt8) ++ y6) ++ y11) ++ f.payload) : List UInt8).length = (((([(u8 f.label), (u8 f.from_)] : List UInt8) ++ y6) ++ y11)).length + (f.payload).length := List.length_append
    refine xB 1 [] [(4, vs A16 (((([(u8 f.label), (u8 f.from_)] : List UInt8) ++ y6) ++ y11) ++ f.payload) c16)] ?_
    refine xRe ?_
    refine wpq_then ?_
    refine xSq ?_
    refine xRg ?_
    refine xB 1 [] [(29, vs A16 (((([(u8 f.label), (u8 f.from_)] : List UInt8) ++ y6) ++ y11) ++ f.payload) c16)] ?_
    obtain ⟨y18, hy18, hS⟩ := bindO_T hS
    refine xE (eC 0 (fun g' lr eb ln => c34 g' ((((([(u8 f.label), (u8 f.from_)] : List UInt8) ++ y6) ++ y11) ++ f.payload) : List UInt8) A16 c16 (arr_of_buf h16 (Psi.le_b eb) (lentk 2 (by kernel_rfl) ln)) hy18)) ?_
    rintro _ g19 _ e20 ⟨_, rfl, A18_0, c18_0, k18_0, rfl, rfl, h18_0⟩
    have nh18_0 := h18_0.len
    refine xB 2 [] [(2, vs A18_0 y18 c18_0), (3, vi 0)] ?_
    refine xRe ?_
    refine wpq_then ?_
    have eS := (Option.some.inj hS).symm
    subst eS
    exact xRet [some 0] [2, 3] (e8.trans (e13.trans e20)) ⟨A18_0, c18_0, k18_0, by kernel_rfl, by kernel_rfl, h18_0⟩ (fun _ _ h => h)

def o17 (a : Frame) (b : Frame) : Bool :=
  ((((((a.label == b.label) && (a.from_ == b.from_)) && (a.cycle == b.cycle)) && (a.payload == b.payload))))
set_option maxRecDepth 100000 in
theorem c17 (g : Gh) (a : Frame) (Aa_payload : Option Addr) (ca_payload : Nat) (b : Frame) (Ab_payload : Option Addr) (cb_payload : Nat) (fa_payload : Arr g.r tyU8 Aa_payload ca_payload a.payload) (fb_payload : Arr g.r tyU8 Ab_payload cb_payload b.payload) {r : Bool} (hS : o17 a b = r) :
    Ctr Try.prog 17 [Value.agg #[vy a.label, vy a.from_, vi a.cycle, vs Aa_payload a.payload ca_payload], Value.agg #[vy b.label, vy b.from_, vi b.cycle, vs Ab_payload b.payload cb_payload]] g [] (fun v ψ o => v = vb r ∧ o = []) := by
  unfold o17 at hS
  refine xFn Try.f17 (Try.f17.body.getD .skip) 33 ?_
  have nfa_payload := fa_payload.len
  have nfb_payload := fb_payload.len
  refine xSq ?_
  refine xRg ?_
  refine xE eB ?_
  rintro _ _ _ - ⟨b1, rfl, rfl, rfl⟩
  refine xE eB ?_
  rintro _ _ _ - ⟨b2, rfl, rfl, rfl⟩
  refine xB 1 [] [(2, vp b1 0), (3, vp b2 0)] ?_
  refine xRe ?_
  refine wpq_then ?_
  refine xSq ?_
  refine xRg ?_
  refine xB 6 [(1, 1), (3, 0)] [(2, vp b1 0), (3, vp b2 0), (10, vb (a.label == b.label))] ?_
  refine wpr_grp 12 [(2, vp b1 0), (3, vp b2 0), (16, vb ((a.label == b.label) && (a.from_ == b.from_)))] (fun hk5 => ?_) ?_
  · refine wpq_split 10 (b := (a.label == b.label)) (by kernel_rfl) (fun q3 => ?_) (fun q3 => ?_)
    · have q3p : a.label = b.label := eq_of_beq q3
      refine xB 6 [(7, 1), (9, 0)] [(2, vp b1 0), (3, vp b2 0), (16, vb (a.from_ == b.from_))] ?_
      refine wpq_re 16 (v := vb (a.from_ == b.from_)) (Value.bool (((a.label == b.label) && (a.from_ == b.from_)))) (by kernel_rfl) (re_and1 q3) ?_
      exact wpq_sub _ (by kernel_rfl) hk5
    · have q3p : ¬ (a.label = b.label) := ne_of_beq_false_ q3
      refine xB 6 [] [(2, vp b1 0), (3, vp b2 0), (16, vb false)] ?_
      refine wpq_re 16 (v := vb false) (Value.bool (((a.label == b.label) && (a.from_ == b.from_)))) (by kernel_rfl) (re_and0 q3) ?_
      exact wpq_sub _ (by kernel_rfl) hk5
  · refine xB 1 [] [(2, vp b1 0), (3, vp b2 0), (17, vb ((a.label == b.label) && (a.from_ == b.from_)))] ?_
    refine wpr_grp 19 [(2, vp b1 0), (3, vp b2 0), (23, vb (((a.label == b.label) && (a.from_ == b.from_)) && (a.cycle == b.cycle)))] (fun hk12 => ?_) ?_
    · refine wpq_split 17 (b := ((a.label == b.label) && (a.from_ == b.from_))) (by kernel_rfl) (fun q4 => ?_) (fun q4 => ?_)
      · have q4l := (and_true_ q4).1
        have q4r := (and_true_ q4).2
        have q4lp : a.label = b.label := eq_of_beq q4l
        have q4rp : a.from_ = b.from_ := eq_of_beq q4r
        refine xB 6 [(14, 1), (16, 0)] [(2, vp b1 0), (3, vp b2 0), (23, vb (a.cycle == b.cycle))] ?_
        refine wpq_re 23 (v := vb (a.cycle == b.cycle)) (Value.bool ((((a.label == b.label) && (a.from_ == b.from_)) && (a.cycle == b.cycle)))) (by kernel_rfl) (re_and1 q4) ?_
        exact wpq_sub _ (by kernel_rfl) hk12
      · refine xB 6 [] [(2, vp b1 0), (3, vp b2 0), (23, vb false)] ?_
        refine wpq_re 23 (v := vb false) (Value.bool ((((a.label == b.label) && (a.from_ == b.from_)) && (a.cycle == b.cycle)))) (by kernel_rfl) (re_and0 q4) ?_
        exact wpq_sub _ (by kernel_rfl) hk12
    · refine xB 1 [] [(2, vp b1 0), (3, vp b2 0), (24, vb (((a.label == b.label) && (a.from_ == b.from_)) && (a.cycle == b.cycle)))] ?_
      refine wpr_grp 28 [(32, vb ((((a.label == b.label) && (a.from_ == b.from_)) && (a.cycle == b.cycle)) && (a.payload == b.payload)))] (fun hk19 => ?_) ?_
      · refine wpq_split 24 (b := (((a.label == b.label) && (a.from_ == b.from_)) && (a.cycle == b.cycle))) (by kernel_rfl) (fun q5 => ?_) (fun q5 => ?_)
        · have q5l := (and_true_ q5).1
          have q5r := (and_true_ q5).2
          have q5ll := (and_true_ q5l).1
          have q5lr := (and_true_ q5l).2
          have q5llp : a.label = b.label := eq_of_beq q5ll
          have q5lrp : a.from_ = b.from_ := eq_of_beq q5lr
          have q5rp : a.cycle = b.cycle := eq_of_beq q5r
          refine xB 2 [(21, 1)] [(3, vp b2 0), (24, vb true), (26, vs Aa_payload a.payload ca_payload)] ?_
          refine xV (qStr fa_payload) ?_
          refine xB 2 [(24, 0)] [(24, vb true), (27, vt a.payload), (29, vs Ab_payload b.payload cb_payload)] ?_
          refine xV (qStr fb_payload) ?_
          refine xV (qEqS (a.payload) (b.payload)) ?_
          refine xB 1 [] [(32, vb (a.payload == b.payload))] ?_
          refine wpq_re 32 (v := vb (a.payload == b.payload)) (Value.bool (((((a.label == b.label) && (a.from_ == b.from_)) && (a.cycle == b.cycle)) && (a.payload == b.payload)))) (by kernel_rfl) (re_and1 q5) ?_
          exact wpq_sub _ (by kernel_rfl) hk19
        · refine xB 8 [] [(32, vb false)] ?_
          refine wpq_re 32 (v := vb false) (Value.bool (((((a.label == b.label) && (a.from_ == b.from_)) && (a.cycle == b.cycle)) && (a.payload == b.payload)))) (by kernel_rfl) (re_and0 q5) ?_
          exact wpq_sub _ (by kernel_rfl) hk19
      · refine xB 1 [] [(4, vb ((((a.label == b.label) && (a.from_ == b.from_)) && (a.cycle == b.cycle)) && (a.payload == b.payload)))] ?_
        refine xRe ?_
        refine wpq_then ?_
        have eS := hS.symm
        subst eS
        exact xRet [] [4] (Gh.le.refl _) ⟨by kernel_rfl, by kernel_rfl⟩ (fun _ _ h => h)

def o3 (f : Frame) (n : Int) : Option (Bool) :=
  (bindO (τ := Bool) (o12) fun y2 => (cond ((!y2)) (some ((false))) (letJ (τ := Frame) (o13 f) fun y6 => (letJ (τ := (List UInt8)) (cond (((Int.tmod n 16) == 0)) (((List.replicate ((999 + ((IntKind.u16.wrap (Int.tdiv n 16)) % 3))).toNat (0 : UInt8)) : List UInt8)) ((y6.payload : List UInt8))) fun t9 => (bindO (τ := (List UInt8) × Int) (o14 ({ y6 with payload := t9 })) fun y12 => (bindO (τ := (List UInt8) × Int) (o15 ({ y6 with payload := t9 })) fun y15 => (cond (((!(y12.1 == y15.1)) || (y12.2 != y15.2))) (some ((false))) (cond ((y12.2 != 0)) (some ((decide ((((t9).length : Nat) : Int) > 1000)))) (bindO (τ := Frame × Int) (o16 (y12.1 : List UInt8)) fun y21 => (letJ (τ := Bool) (cond ((y21.2 == 0)) (letJ (τ := Bool) (o17 y21.1 ({ y6 with payload := t9 })) fun y29 => y29) (false)) fun t25 => (some ((t25)))))))))))))
set_option maxRecDepth 100000 in
theorem c3 (g : Gh) (f : Frame) (Af_payload : Option Addr) (cf_payload : Nat) (n : Int) (ff_payload : Arr g.b tyU8 Af_payload cf_payload f.payload) {r : Bool} (hS : o3 f n = some r) :
    Ctr Try.prog 3 [Value.agg #[vy f.label, vy f.from_, vi f.cycle, vs Af_payload f.payload cf_payload], Value.int .u16 n] g [] (fun v ψ o => v = vb r ∧ o = []) := by
  unfold o3 at hS
  refine xFn Try.f3 (Try.f3.body.getD .skip) 63 ?_
  have nff_payload := ff_payload.len
  refine xSq ?_
  refine xRg ?_
  refine xE eB ?_
  rintro _ _ _ - ⟨b1, rfl, rfl, rfl⟩
  refine xB 1 [] [(1, Value.int .u16 n), (2, vp b1 0)] ?_
  refine xRe ?_
  refine wpq_then ?_
  refine xSq ?_
  refine xSq ?_
  refine xRg ?_
  obtain ⟨y2, hy2, hS⟩ := bindO_T hS
  refine xE (eC 0 (fun g' lr eb ln => c12 g'  hy2)) ?_
  rintro _ g3 _ e4 ⟨_, rfl, rfl, rfl⟩
  refine xB 1 [] [(1, Value.int .u16 n), (2, vp b1 0), (12, vb (!y2))] ?_
  refine xRe ?_
  refine wpq_then ?_
  refine xCd ((!y2)) (fun h5 => ?_) (fun h5 => ?_)
  · have hS := cond_T h5 hS
    have h5n := not_eq_true_ h5
    refine xSq ?_
    refine xRg ?_
    refine xB 1 [] [(4, vb false)] ?_
    refine xRe ?_
    refine wpq_then ?_
    have eS := (Option.some.inj hS).symm
    subst eS
    exact xRet [] [4] e4 ⟨by kernel_rfl, by kernel_rfl⟩ (fun _ _ h => h)
  · have hS := cond_F h5 hS
    have h5n := not_eq_false_ h5
    refine xSk ?_
    refine wpq_then ?_
    refine xSub [(1, Value.int .u16 n), (2, vp b1 0)] ?_
    refine xSq ?_
    refine xRg ?_
    refine xB 1 [(0, 0)] [(1, Value.int .u16 n), (2, vp b1 0), (13, Value.agg #[vy f.label, vy f.from_, vi f.cycle, vs Af_payload f.payload cf_payload])] ?_
    have ff_payload := ff_payload.mono e4.b
    obtain ⟨y6, hy6, hS⟩ := letJ_T hS
    refine xE (eC 0 (fun g' lr eb ln => c13 g' f Af_payload cf_payload (by rw [eb]; exact ff_payload) hy6)) ?_
    rintro _ g7 _ e8 ⟨_, rfl, A6_0_payload, c6_0_payload, rfl, rfl, f6_0_payload⟩
    have nf6_0_payload := f6_0_payload.len
    refine xBo 1 [(2, 0)] [some ⟨b1, 24, (cFrame y6 A6_0_payload c6_0_payload)⟩] [(1, Value.int .u16 n), (2, vp b1 0)] ?_
    refine xRe ?_
    refine wpq_then ?_
    refine xSq ?_
    refine xSq ?_
    refine xRg ?_
    refine xB 1 [] [(1, Value.int .u16 n), (2, vp b1 0), (15, Value.int .u16 n)] ?_
    refine xV (qRem .u16 (n) (16) _ (by omega) rfl) ?_
    refine xB 1 [] [(1, Value.int .u16 n), (2, vp b1 0), (17, vb ((Int.tmod n 16) == 0))] ?_
    refine xRe ?_
    refine wpq_then ?_
    refine xLetJ hS (fun g own sl t9 => ∃ (A9_0 : Option Addr) (c9_0 : Nat), own = [some ⟨b1, 24, (cFrame ({ y6 with payload := t9 }) A9_0 c9_0)⟩] ∧ sl = [(2, vp b1 0)] ∧ Arr g.b tyU8 A9_0 c9_0 t9) ?_ ?_
    · rintro g10 _ _ t9 e11 ⟨A9_0, c9_0, rfl, rfl, f9_0⟩ hS
      have nf9_0 := f9_0.len
      refine wpq_then ?_
      refine xSq ?_
      refine xRg ?_
      refine xB 1 [(0, 0)] [(2, vp b1 0), (26, Value.agg #[vy y6.label, vy y6.from_, vi y6.cycle, vs A9_0 t9 c9_0])] ?_
      obtain ⟨y12, hy12, hS⟩ := bindO_T hS
      refine xE (eC 0 (fun g' lr eb ln => c14 g' ({ y6 with payload := t9 }) A9_0 c9_0 ((f9_0.mono g10.br).mono lr) hy12)) ?_
      rintro _ g13 _ e14 ⟨_, rfl, A12_0, c12_0, k12_0, rfl, rfl, h12_0⟩
      have nh12_0 := h12_0.len
      refine xB 5 [] [(2, vp b1 0), (5, vs A12_0 y12.1 c12_0), (6, vi y12.2)] ?_
      refine xRe ?_
      refine wpq_then ?_
      refine xSq ?_
      refine xRg ?_
      refine xB 1 [(0, 1)] [(2, vp b1 0), (5, vs A12_0 y12.1 c12_0), (6, vi y12.2), (31, Value.agg #[vy y6.label, vy y6.from_, vi y6.cycle, vs A9_0 t9 c9_0])] ?_
      have f9_0 := f9_0.mono e14.b
      obtain ⟨y15, hy15, hS⟩ := bindO_T hS
      refine xE (eC 0 (fun g' lr eb ln => c15 g' ({ y6 with payload := t9 }) A9_0 c9_0 ((f9_0.mono g13.br).mono lr) hy15)) ?_
      rintro _ g16 _ e17 ⟨_, rfl, A15_0, c15_0, k15_0, rfl, rfl, h15_0⟩
      have nh15_0 := h15_0.len
      refine xB 5 [] [(2, vp b1 0), (5, vs A12_0 y12.1 c12_0), (6, vi y12.2), (7, vs A15_0 y15.1 c15_0), (8, vi y15.2)] ?_
      refine xRe ?_
      refine wpq_then ?_
      refine xSq ?_
      refine xSq ?_
      refine xRg ?_
      have h12_0 := h12_0.mono e17.b
      refine xB 1 [] [(2, vp b1 0), (5, vs A12_0 y12.1 c12_0), (6, vi y12.2), (7, vs A15_0 y15.1 c15_0), (8, vi y15.2), (35, vs A12_0 y12.1 c12_0)] ?_
      refine xV (qStrB 1 h12_0) ?_
      refine xB 1 [] [(2, vp b1 0), (5, vs A12_0 y12.1 c12_0), (6, vi y12.2), (8, vi y15.2), (36, vt y12.1), (37, vs A15_0 y15.1 c15_0)] ?_
      refine xV (qStrB 0 h15_0) ?_
      refine xV (qNeS (y12.1) (y15.1)) ?_
      refine xB 1 [] [(2, vp b1 0), (5, vs A12_0 y12.1 c12_0), (6, vi y12.2), (8, vi y15.2), (40, vb (!(y12.1 == y15.1)))] ?_
      refine wpr_grp 10 [(2, vp b1 0), (5, vs A12_0 y12.1 c12_0), (6, vi y12.2), (44, vb ((!(y12.1 == y15.1)) || (y12.2 != y15.2)))] (fun hk5 => ?_) ?_
      · refine wpq_split 40 (b := (!(y12.1 == y15.1))) (by kernel_rfl) (fun q18 => ?_) (fun q18 => ?_)
        · have q18n := not_eq_true_ q18
          have q18np : ¬ (y12.1 = y15.1) := ne_of_beq_false_ q18n
          refine xB 4 [] [(2, vp b1 0), (5, vs A12_0 y12.1 c12_0), (6, vi y12.2), (44, vb true)] ?_
          refine wpq_re 44 (v := vb true) (Value.bool (((!(y12.1 == y15.1)) || (y12.2 != y15.2)))) (by kernel_rfl) (re_or1 q18) ?_
          exact wpq_sub _ (by kernel_rfl) hk5
        · have q18n := not_eq_false_ q18
          have q18np : y12.1 = y15.1 := eq_of_beq q18n
          refine xB 4 [] [(2, vp b1 0), (5, vs A12_0 y12.1 c12_0), (6, vi y12.2), (44, vb (y12.2 != y15.2))] ?_
          refine wpq_re 44 (v := vb (y12.2 != y15.2)) (Value.bool (((!(y12.1 == y15.1)) || (y12.2 != y15.2)))) (by kernel_rfl) (re_or0 q18) ?_
          exact wpq_sub _ (by kernel_rfl) hk5
      · refine xRe ?_
        refine wpq_then ?_
        refine xCd (((!(y12.1 == y15.1)) || (y12.2 != y15.2))) (fun h19 => ?_) (fun h19 => ?_)
        · have hS := cond_T h19 hS
          refine xSq ?_
          refine xRg ?_
          refine xB 1 [] [(4, vb false)] ?_
          refine xRe ?_
          refine wpq_then ?_
          have eS := (Option.some.inj hS).symm
          subst eS
          exact xRet [] [4] (e4.trans (e8.trans (e11.trans (e14.trans e17)))) ⟨by kernel_rfl, by kernel_rfl⟩ (fun _ _ h => h)
        · have hS := cond_F h19 hS
          have h19l := (or_false_ h19).1
          have h19r := (or_false_ h19).2
          have h19ln := not_eq_false_ h19l
          have h19lnp : y12.1 = y15.1 := eq_of_beq h19ln
          have h19rp : y12.2 = y15.2 := eq_of_bne_false_ h19r
          refine xSk ?_
          refine wpq_then ?_
          refine xSub [(2, vp b1 0), (5, vs A12_0 y12.1 c12_0), (6, vi y12.2)] ?_
          refine xSq ?_
          refine xSq ?_
          refine xRg ?_
          refine xB 2 [] [(2, vp b1 0), (5, vs A12_0 y12.1 c12_0), (46, vb (y12.2 != 0))] ?_
          refine xRe ?_
          refine wpq_then ?_
          refine xCd ((y12.2 != 0)) (fun h20 => ?_) (fun h20 => ?_)
          · have hS := cond_T h20 hS
            have h20p : ¬ (y12.2 = 0) := ne_of_bne_ h20
            refine xSq ?_
            refine xRg ?_
            refine xB 5 [(1, 2)] [(4, vb (decide ((((t9).length : Nat) : Int) > 1000)))] ?_
            refine xRe ?_
            refine wpq_then ?_
            have eS := (Option.some.inj hS).symm
            subst eS
            exact xRet [] [4] (e4.trans (e8.trans (e11.trans (e14.trans e17)))) ⟨by kernel_rfl, by kernel_rfl⟩ (fun _ _ h => h)
          · have hS := cond_F h20 hS
            have h20p : y12.2 = 0 := eq_of_bne_false_ h20
            refine xSk ?_
            refine wpq_then ?_
            refine xSub [(2, vp b1 0), (5, vs A12_0 y12.1 c12_0)] ?_
            refine xSq ?_
            refine xRg ?_
            refine xB 1 [] [(2, vp b1 0), (52, vs A12_0 y12.1 c12_0)] ?_
            obtain ⟨y21, hy21, hS⟩ := bindO_T hS
            refine xE (eC 0 (fun g' lr eb ln => c16 g' (y12.1 : List UInt8) A12_0 c12_0 (arr_of_buf h12_0 (Psi.le_b eb) (lentk 1 (by kernel_rfl) ln)) hy21)) ?_
            rintro _ g22 _ e23 ⟨_, rfl, A21_0_payload, c21_0_payload, rfl, rfl, f21_0_payload⟩
            have nf21_0_payload := f21_0_payload.len
            refine xB 3 [] [(2, vp b1 0), (54, Value.agg #[vy y21.1.label, vy y21.1.from_, vi y21.1.cycle, vs A21_0_payload y21.1.payload c21_0_payload]), (55, vi y21.2)] ?_
            refine xE eB ?_
            rintro _ _ _ - ⟨b24, rfl, rfl, rfl⟩
            refine xBo 2 [(6, 0)] [some ⟨b24, 24, (cFrame y21.1 A21_0_payload c21_0_payload)⟩, k15_0, k12_0, some ⟨b1, 24, (cFrame ({ y6 with payload := t9 }) A9_0 c9_0)⟩] [(2, vp b1 0), (9, vp b24 0), (10, vi y21.2)] ?_
            refine xRe ?_
            refine wpq_then ?_
            refine xSq ?_
            refine xRg ?_
            refine xB 3 [] [(2, vp b1 0), (9, vp b24 0), (58, vb (y21.2 == 0))] ?_
            refine xGJl hS 7 (fun g own sl t25 => own = [] ∧ sl = [(62, vb t25)]) ?_ ?_
            · rintro g26 _ _ t25 e27 ⟨rfl, rfl⟩ hS
              refine xB 1 [] [(4, vb t25)] ?_
              refine xRe ?_
              refine wpq_then ?_
              have eS := (Option.some.inj hS).symm
              subst eS
              exact xRet [] [4] (e4.trans (e8.trans (e11.trans (e14.trans (e17.trans (e23.trans e27)))))) ⟨by kernel_rfl, by kernel_rfl⟩ (fun _ _ h => h)
            · intro uu25 hS hN25
              refine wpq_split 58 (b := (y21.2 == 0)) (by kernel_rfl) (fun q28 => ?_) (fun q28 => ?_)
              · have hS := cond_T q28 hS
                have q28p : y21.2 = 0 := eq_of_beq q28
                refine xB 2 [(3, 0), (4, 3)] [(58, vb true), (59, Value.agg #[vy y21.1.label, vy y21.1.from_, vi y21.1.cycle, vs A21_0_payload y21.1.payload c21_0_payload]), (60, Value.agg #[vy y6.label, vy y6.from_, vi y6.cycle, vs A9_0 t9 c9_0])] ?_
                have f9_0 := f9_0.mono (e17.trans e23).b
                obtain ⟨y29, hy29, hS⟩ := letJ_T hS
                refine xE (eC 0 (fun g' lr eb ln => c17 g' y21.1 A21_0_payload c21_0_payload ({ y6 with payload := t9 }) A9_0 c9_0 ((f21_0_payload.mono g22.br).mono lr) ((f9_0.mono g22.br).mono lr) hy29)) ?_
                rintro _ g30 _ e31 ⟨_, rfl, rfl, rfl⟩
                refine xB 1 [] [(62, vb y29)] ?_
                refine xSel [] ?_
                refine xSub [(62, vb y29)] ?_
                exact hN25 _ hS.symm _ _ _ e31 ⟨by kernel_rfl, by kernel_rfl⟩
              · have hS := cond_F q28 hS
                have q28p : ¬ (y21.2 = 0) := ne_of_beq_false_ q28
                refine xB 4 [] [(62, vb false)] ?_
                refine xSel [] ?_
                refine xSub [(62, vb false)] ?_
                exact hN25 _ hS.symm _ _ _ (Gh.le.refl _) ⟨by kernel_rfl, by kernel_rfl⟩
    · intro uu9 hS hN9
      refine xCd (((Int.tmod n 16) == 0)) (fun h32 => ?_) (fun h32 => ?_)
      · have hS := cond_T h32 hS
        have h32p : (Int.tmod n 16) = 0 := eq_of_beq h32
        refine xRg ?_
        have z2 := u16_in_ (Int.tdiv n 16)
        refine xB 1 [] [(2, vp b1 0), (18, Value.int .u16 n)] ?_
        refine xV (qQuo .u16 (n) (16) _ (by omega) rfl) ?_
        refine xV (qConv .u16 .i64 ((IntKind.u16.wrap (Int.tdiv n 16))) ((IntKind.u16.wrap (Int.tdiv n 16))) (wr64 (by omega))) ?_
        refine xV (qRem .i64 ((IntKind.u16.wrap (Int.tdiv n 16))) (3) _ (by omega) (rem_pos_ (by omega))) ?_
        refine xV (qAdd .i64 (999) (((IntKind.u16.wrap (Int.tdiv n 16)) % 3)) (wr64 (by omega))) ?_
        refine xE (eMk (T := tyU8) (p := g7.b) (et := 5) (bytes := 1) (z := (0 : UInt8)) ((999 + ((IntKind.u16.wrap (Int.tdiv n 16)) % 3))).toNat (show ((999 + ((IntKind.u16.wrap (Int.tdiv n 16)) % 3)) : Int) = _ from by omega) (show tyU8.rep _ _ _ from rfl) (by omega) (by omega)) ?_
        rintro _ _ _ - ⟨A33, c33, k33, rfl, rfl, rfl, h33⟩
        have nh33 := h33.len
        have hlh33 : ((List.replicate ((999 + ((IntKind.u16.wrap (Int.tdiv n 16)) % 3))).toNat (0 : UInt8))).length = ((999 + ((IntKind.u16.wrap (Int.tdiv n 16)) % 3))).toNat := List.length_replicate
        refine xBo 2 [(7, 1)] [k33, some ⟨b1, 24, (cFrame ({ y6 with payload := (List.replicate ((999 + ((IntKind.u16.wrap (Int.tdiv n 16)) % 3))).toNat (0 : UInt8)) }) A33 c33)⟩] [(2, vp b1 0)] ?_
        refine xRe ?_
        refine wpq_freeze 0 (by kernel_rfl) h33 (fun g34 e35 f36 => ?_)
        refine xSel [some 1] ?_
        refine xSub [(2, vp b1 0)] ?_
        have eS := hS.symm
        exact hN9 _ eS _ _ _ e35 ⟨A33, c33, by kernel_rfl, by kernel_rfl, f36⟩
      · have hS := cond_F h32 hS
        have h32p : ¬ ((Int.tmod n 16) = 0) := ne_of_beq_false_ h32
        refine xSk ?_
        refine xSub [(2, vp b1 0)] ?_
        have eS := hS.symm
        exact hN9 _ eS _ _ _ (Gh.le.refl _) ⟨A6_0_payload, c6_0_payload, by kernel_rfl, by kernel_rfl, f6_0_payload⟩

end Go.Proofs.Ytmcgofgpcnlljaa
