/-
Walks, printed by wip/gen. Conditions: each theorem's own.
-/
import Derived.Test.YtmcgofgpcnlljaaB3
namespace Go.Proofs.Ytmcgofgpcnlljaa
set_option linter.unusedVariables false
set_option linter.unusedSimpArgs false
open Go.RowKit
def o13 (f : Frame) : Frame :=
  (({ f with payload := (List.take ((minI (((f.payload).length : Nat) : Int) 1010)).toNat f.payload) }))
set_option maxRecDepth 100000 in
theorem c13 (g : Gh) (f : Frame) (Af_payload : Option Addr) (cf_payload : Nat) (ff_payload : Arr g.b tyU8 Af_payload cf_payload f.payload) {r : Frame} (hS : o13 f = r) :
    Ctr Try.prog 13 [Value.agg #[vy f.label, vy f.from_, vi f.cycle, vs Af_payload f.payload cf_payload]] g [] (fun v ψ o => ∃ (Ar_0_payload : Option Addr) (cr_0_payload : Nat), v = Value.agg #[vy r.label, vy r.from_, vi r.cycle, vs Ar_0_payload r.payload cr_0_payload] ∧ o = [] ∧ Arr ψ tyU8 Ar_0_payload cr_0_payload r.payload) := by
  unfold o13 at hS
  refine xFn Try.f13 (Try.f13.body.getD .skip) 12 ?_
  have nff_payload := ff_payload.len
  refine xSq ?_
  refine xRg ?_
  refine xE eB ?_
  rintro _ _ _ - ⟨b1, rfl, rfl, rfl⟩
  refine xE eB ?_
  rintro _ _ _ - ⟨b2, rfl, rfl, rfl⟩
  refine xRe ?_
  refine wpq_then ?_
  refine xSub [(1, vp b1 0), (2, vp b2 0)] ?_
  refine xSq ?_
  refine xRg ?_
  have z1 := minI_spec (((f.payload).length : Nat) : Int) 1010
  have ncapf3 := ff_payload.cap
  have f3 : Arr g.b tyU8 (offA Af_payload cf_payload 0 1) (cf_payload - 0) (List.take ((minI (((f.payload).length : Nat) : Int) 1010)).toNat f.payload) := ff_payload.cut_to ((minI (((f.payload).length : Nat) : Int) 1010)).toNat (by omega)
  have nf3 := f3.len
  have hlf3 : ((minI (((f.payload).length : Nat) : Int) 1010)).toNat - 0 = ((List.take ((minI (((f.payload).length : Nat) : Int) 1010)).toNat f.payload)).length := by simp only [List.length_take, List.length_drop] <;> omega
  have hvf3 : ((((List.take ((minI (((f.payload).length : Nat) : Int) 1010)).toNat f.payload)).length : Nat) : Int) = (minI (((f.payload).length : Nat) : Int) 1010) - 0 := by omega
  refine xB 6 [(1, 1), (3, 1)] [(1, vp b1 0), (2, vp b2 0), (4, vs Af_payload f.payload cf_payload), (8, vi (minI (((f.payload).length : Nat) : Int) 1010))] ?_
  refine xV (qSl (m := 1) (A := Af_payload) (len := (f.payload).length) (c := cf_payload) 0 ((minI (((f.payload).length : Nat) : Int) 1010)).toNat none (some (minI (((f.payload).length : Nat) : Int) 1010)) ((List.take ((minI (((f.payload).length : Nat) : Int) 1010)).toNat f.payload)).length rfl (show _ = _ by omega) (by omega) (by omega) hlf3) ?_
  refine xBo 2 [(8, 1)] [some ⟨b2, 24, (cFrame (⟨0, 0, 0, ([] : List UInt8)⟩ : Frame) none 0)⟩, some ⟨b1, 24, (cFrame ({ f with payload := (List.take ((minI (((f.payload).length : Nat) : Int) 1010)).toNat f.payload) }) (offA Af_payload cf_payload 0 1) (cf_payload - 0))⟩] [(1, vp b1 0), (2, vp b2 0)] ?_
  refine xRe ?_
  refine wpq_then ?_
  refine xSq ?_
  refine xRg ?_
  refine xBo 2 [(0, 1), (1, 0)] [some ⟨b2, 24, (cFrame ({ f with payload := (List.take ((minI (((f.payload).length : Nat) : Int) 1010)).toNat f.payload) }) (offA Af_payload cf_payload 0 1) (cf_payload - 0))⟩, some ⟨b1, 24, (cFrame ({ f with payload := (List.take ((minI (((f.payload).length : Nat) : Int) 1010)).toNat f.payload) }) (offA Af_payload cf_payload 0 1) (cf_payload - 0))⟩] [(2, vp b2 0)] ?_
  refine xRe ?_
  refine wpq_then ?_
  have eS := hS.symm
  subst eS
  exact xRetC [] [(2, 0)] (Gh.le.refl _) ⟨(offA Af_payload cf_payload 0 1), (cf_payload - 0), by kernel_rfl, by kernel_rfl, f3⟩ (fun _ _ h => h)

def o22_L0 (p : List UInt8) (f : Fate) (s13 : (List UInt8) × Nat) : Option (Ctl ((List UInt8) × Nat) ((List UInt8))) :=
  (cond (decide (((s13.2 : Nat) : Int) < 32)) (grd (decide (-9223372036854775808 ≤ f.bit + ((s13.2 : Nat) : Int) ∧ f.bit + ((s13.2 : Nat) : Int) ≤ 9223372036854775807)) (bindO (τ := (List UInt8)) (cond (((((landK .u32 (shrK .u32 f.pattern ((s13.2 : Nat) : Int)) 1) == 1) && decide ((f.bit + ((s13.2 : Nat) : Int)) ≥ 0)) && decide ((f.bit + ((s13.2 : Nat) : Int)) < (8 * (((p).length : Nat) : Int))))) (grd (decide (0 ≤ ((f.bit + ((s13.2 : Nat) : Int)) / 8) ∧ ((f.bit + ((s13.2 : Nat) : Int)) / 8) < (((s13.1).length : Nat) : Int))) (grd (decide (0 ≤ ((f.bit + ((s13.2 : Nat) : Int)) / 8) ∧ ((f.bit + ((s13.2 : Nat) : Int)) / 8) < (((s13.1).length : Nat) : Int))) (some (((List.set s13.1 (((f.bit + ((s13.2 : Nat) : Int)) / 8)).toNat (u8 (lxorK .u8 ((List.getD s13.1 (((f.bit + ((s13.2 : Nat) : Int)) / 8)).toNat 0).toNat : Int) (shlK .u8 1 ((f.bit + ((s13.2 : Nat) : Int)) % 8))))) : List UInt8))))) (some ((s13.1 : List UInt8)))) fun t20 => (grd (decide (((s13.2 : Nat) : Int) + 1 ≤ 9223372036854775807)) (some (Ctl.go ((t20 : List UInt8), (s13.2 + 1))))))) (some (Ctl.done ((s13.1 : List UInt8)))))
def o22 (p : List UInt8) (f : Fate) : Option ((List UInt8) × Bool) :=
  (cond (f.lost) (some ((([] : List UInt8), (false)))) (letJ (τ := (List UInt8)) (o47 (p : List UInt8)) fun y3 => (cond ((decide (f.bit < -31) || decide (f.bit ≥ (8 * (((p).length : Nat) : Int))))) (some (((y3 : List UInt8), (true)))) (bindO (τ := (List UInt8)) (loopO (σ := (List UInt8) × Nat) (ρ := (List UInt8)) fuelN (o22_L0 p f) ((y3 : List UInt8), 0)) fun t8 => (some (((t8 : List UInt8), (true))))))))
set_option maxRecDepth 100000 in
theorem c22 (g : Gh) (p : List UInt8) (Ap : Option Addr) (cp : Nat) (f : Fate) (fp : Arr g.r tyU8 Ap cp p) {r : (List UInt8) × Bool} (hS : o22 p f = some r) :
    Ctr Try.prog 22 [vs Ap p cp, Value.agg #[vb f.lost, vi f.bit, Value.int .u32 f.pattern]] g [] (fun v ψ o => ∃ (Ar_0 : Option Addr) (cr_0 : Nat) (kr_0 : Option Bk), v = Value.tuple #[vs Ar_0 r.1 cr_0, vb r.2] ∧ o = [kr_0] ∧ Buf ψ tyU8 5 (.slice Ar_0 (r.1).length cr_0) kr_0 r.1) := by
  unfold o22 at hS
  refine xFn Try.f22 (Try.f22.body.getD .skip) 61 ?_
  have nfp := fp.len
  refine xSq ?_
  refine xRg ?_
  refine xE eB ?_
  rintro _ _ _ - ⟨b1, rfl, rfl, rfl⟩
  refine xB 2 [] [(0, vs Ap p cp), (3, vp b1 0)] ?_
  refine xRe ?_
  refine wpq_then ?_
  refine xSq ?_
  refine xSq ?_
  refine xRg ?_
  refine xB 2 [(1, 0)] [(0, vs Ap p cp), (3, vp b1 0), (10, vb f.lost)] ?_
  refine xRe ?_
  refine wpq_then ?_
  refine xCd (f.lost) (fun h2 => ?_) (fun h2 => ?_)
  · have hS := cond_T h2 hS
    refine xSq ?_
    refine xRg ?_
    refine xB 2 [] [(4, Value.slice none 0 0), (5, vb false)] ?_
    refine xRe ?_
    refine wpq_then ?_
    have eS := (Option.some.inj hS).symm
    subst eS
    exact xRet [none] [4, 5] (Gh.le.refl _) ⟨none, 0, none, by kernel_rfl, by kernel_rfl, Buf.nil⟩ (fun _ _ h => h)
  · have hS := cond_F h2 hS
    refine xSk ?_
    refine wpq_then ?_
    refine xSub [(0, vs Ap p cp), (3, vp b1 0)] ?_
    refine xSq ?_
    refine xRg ?_
    refine xB 1 [] [(0, vs Ap p cp), (3, vp b1 0), (11, vs Ap p cp)] ?_
    obtain ⟨y3, hy3, hS⟩ := letJ_T hS
    refine xE (eC 0 (fun g' lr eb ln => c47 g' (p : List UInt8) Ap cp (fp.mono lr) hy3)) ?_
    rintro _ g4 _ e5 ⟨_, rfl, A3_0, c3_0, k3_0, rfl, rfl, h3_0⟩
    have nh3_0 := h3_0.len
    refine xB 1 [] [(0, vs Ap p cp), (3, vp b1 0), (6, vs A3_0 y3 c3_0)] ?_
    refine xRe ?_
    refine wpq_then ?_
    refine xSq ?_
    refine xSq ?_
    refine xRg ?_
    refine xB 4 [(1, 1)] [(0, vs Ap p cp), (3, vp b1 0), (6, vs A3_0 y3 c3_0), (16, vb (decide (f.bit < -31)))] ?_
    refine wpr_grp 11 [(0, vs Ap p cp), (3, vp b1 0), (6, vs A3_0 y3 c3_0), (23, vb (decide (f.bit < -31) || decide (f.bit ≥ (8 * (((p).length : Nat) : Int)))))] (fun hk3 => ?_) ?_
    · refine wpq_split 16 (b := decide (f.bit < -31)) (by kernel_rfl) (fun q6 => ?_) (fun q6 => ?_)
      · have q6p := of_decide_eq_true q6
        refine xB 7 [] [(0, vs Ap p cp), (3, vp b1 0), (6, vs A3_0 y3 c3_0), (23, vb true)] ?_
        refine wpq_re 23 (v := vb true) (Value.bool ((decide (f.bit < -31) || decide (f.bit ≥ (8 * (((p).length : Nat) : Int)))))) (by kernel_rfl) (re_or1 q6) ?_
        exact wpq_sub _ (by kernel_rfl) hk3
      · have q6p := of_decide_eq_false q6
        refine xB 4 [(5, 1)] [(0, vs Ap p cp), (3, vp b1 0), (6, vs A3_0 y3 c3_0), (16, vb false), (18, vi f.bit), (20, vi (((p).length : Nat) : Int))] ?_
        refine xV (qMul .i64 (8) ((((p).length : Nat) : Int)) (wr64 (by omega))) ?_
        refine xB 2 [] [(0, vs Ap p cp), (3, vp b1 0), (6, vs A3_0 y3 c3_0), (23, vb (decide (f.bit ≥ (8 * (((p).length : Nat) : Int)))))] ?_
        refine wpq_re 23 (v := vb (decide (f.bit ≥ (8 * (((p).length : Nat) : Int))))) (Value.bool ((decide (f.bit < -31) || decide (f.bit ≥ (8 * (((p).length : Nat) : Int)))))) (by kernel_rfl) (re_or0 q6) ?_
        exact wpq_sub _ (by kernel_rfl) hk3
    · refine xRe ?_
      refine wpq_then ?_
      refine xCd ((decide (f.bit < -31) || decide (f.bit ≥ (8 * (((p).length : Nat) : Int))))) (fun h7 => ?_) (fun h7 => ?_)
      · have hS := cond_T h7 hS
        refine xSq ?_
        refine xRg ?_
        refine xB 3 [] [(4, vs A3_0 y3 c3_0), (5, vb true)] ?_
        refine xRe ?_
        refine wpq_then ?_
        have eS := (Option.some.inj hS).symm
        subst eS
        exact xRet [some 0] [4, 5] e5 ⟨A3_0, c3_0, k3_0, by kernel_rfl, by kernel_rfl, h3_0⟩ (fun _ _ h => h)
      · have hS := cond_F h7 hS
        have h7l := (or_false_ h7).1
        have h7r := (or_false_ h7).2
        have h7lp := of_decide_eq_false h7l
        have h7rp := of_decide_eq_false h7r
        refine xSk ?_
        refine wpq_then ?_
        refine xSub [(0, vs Ap p cp), (3, vp b1 0), (6, vs A3_0 y3 c3_0)] ?_
        refine xSq ?_
        refine xSq ?_
        refine xRg ?_
        refine xB 1 [] [(0, vs Ap p cp), (3, vp b1 0), (6, vs A3_0 y3 c3_0), (25, vi 0)] ?_
        refine xRe ?_
        refine wpq_then ?_
        refine xBindO hS (fun g own sl t8 => ∃ (k8_0 : Option Bk), own = [k8_0] ∧ sl = [(6, vs A3_0 t8 c3_0)] ∧ Buf g.b tyU8 5 (.slice A3_0 (t8).length c3_0) k8_0 t8) ?_ ?_
        · rintro g9 _ _ t8 e10 ⟨k8_0, rfl, rfl, h8_0⟩ hS
          have nh8_0 := h8_0.len
          refine wpq_then ?_
          refine xSq ?_
          refine xRg ?_
          refine xB 3 [] [(4, vs A3_0 t8 c3_0), (5, vb true)] ?_
          refine xRe ?_
          refine wpq_then ?_
          have eS := (Option.some.inj hS).symm
          subst eS
          exact xRet [some 0] [4, 5] (e5.trans e10) ⟨A3_0, c3_0, k8_0, by kernel_rfl, by kernel_rfl, h8_0⟩ (fun _ _ h => h)
        · intro uu8 hS hN8
          refine xBl 0 ?_
          refine xSel [some 1, some 0] ?_
          refine xSub [(0, vs Ap p cp), (3, vp b1 0), (6, vs A3_0 y3 c3_0), (25, vi 0)] ?_
          refine xLo hS (fun g own sl s13 => ∃ (k13_0 : Option Bk), own = [some ⟨b1, 51, [vb f.lost, vi f.bit, Value.int .u32 f.pattern]⟩, k13_0] ∧ sl = [(0, vs Ap p cp), (3, vp b1 0), (6, vs A3_0 s13.1 c3_0), (25, vi ((s13.2 : Nat) : Int))] ∧ Buf g.b tyU8 5 (.slice A3_0 (s13.1).length c3_0) k13_0 s13.1) ⟨k3_0, by kernel_rfl, by kernel_rfl, h3_0⟩ ?_
          rintro g14 _ _ s13 uu13 e15 ⟨k13_0, rfl, rfl, h13_0⟩ hS Qr13 hN13 hD13
          have nh13_0 := h13_0.len
          unfold o22_L0 at hS
          refine xSq ?_
          refine xRg ?_
          refine xB 1 [] [(0, vs Ap p cp), (3, vp b1 0), (6, vs A3_0 s13.1 c3_0), (25, vi ((s13.2 : Nat) : Int)), (26, vb (decide (((s13.2 : Nat) : Int) < 32)))] ?_
          refine xRe ?_
          refine wpq_then ?_
          refine xSq ?_
          refine xCd (decide (((s13.2 : Nat) : Int) < 32)) (fun h16 => ?_) (fun h16 => ?_)
          · have hS := cond_T h16 hS
            have h16p := of_decide_eq_true h16
            refine xSk ?_
            refine wpq_then ?_
            refine xSub [(0, vs Ap p cp), (3, vp b1 0), (6, vs A3_0 s13.1 c3_0), (25, vi ((s13.2 : Nat) : Int))] ?_
            refine xSq ?_
            refine xBl 1 ?_
            refine xSq ?_
            refine xRg ?_
            refine xB 2 [] [(0, vs Ap p cp), (3, vp b1 0), (6, vs A3_0 s13.1 c3_0), (7, vi ((s13.2 : Nat) : Int)), (25, vi ((s13.2 : Nat) : Int))] ?_
            refine xRe ?_
            refine wpq_then ?_
            refine xSq ?_
            refine xRg ?_
            obtain ⟨q17, hS⟩ := grd_T hS
            have q17p := of_decide_eq_true q17
            refine xB 3 [(1, 0)] [(0, vs Ap p cp), (3, vp b1 0), (6, vs A3_0 s13.1 c3_0), (7, vi ((s13.2 : Nat) : Int)), (25, vi ((s13.2 : Nat) : Int)), (29, vi f.bit), (30, vi ((s13.2 : Nat) : Int))] ?_
            refine xV (qAdd .i64 (f.bit) (((s13.2 : Nat) : Int)) (wr64 (by omega))) ?_
            refine xB 1 [] [(0, vs Ap p cp), (3, vp b1 0), (6, vs A3_0 s13.1 c3_0), (7, vi ((s13.2 : Nat) : Int)), (8, vi (f.bit + ((s13.2 : Nat) : Int))), (25, vi ((s13.2 : Nat) : Int))] ?_
            refine xRe ?_
            refine wpq_then ?_
            refine xSq ?_
            refine xRg ?_
            refine xB 3 [(1, 0)] [(0, vs Ap p cp), (3, vp b1 0), (6, vs A3_0 s13.1 c3_0), (8, vi (f.bit + ((s13.2 : Nat) : Int))), (25, vi ((s13.2 : Nat) : Int)), (33, Value.int .u32 f.pattern), (34, vi ((s13.2 : Nat) : Int))] ?_
            refine xV (qShr .u32 .i64 (f.pattern) (((s13.2 : Nat) : Int)) (by omega)) ?_
            refine xB 3 [] [(0, vs Ap p cp), (3, vp b1 0), (6, vs A3_0 s13.1 c3_0), (8, vi (f.bit + ((s13.2 : Nat) : Int))), (25, vi ((s13.2 : Nat) : Int)), (38, vb ((landK .u32 (shrK .u32 f.pattern ((s13.2 : Nat) : Int)) 1) == 1))] ?_
            refine wpr_grp 10 [(0, vs Ap p cp), (3, vp b1 0), (6, vs A3_0 s13.1 c3_0), (8, vi (f.bit + ((s13.2 : Nat) : Int))), (25, vi ((s13.2 : Nat) : Int)), (41, vb (((landK .u32 (shrK .u32 f.pattern ((s13.2 : Nat) : Int)) 1) == 1) && decide ((f.bit + ((s13.2 : Nat) : Int)) ≥ 0)))] (fun hk6 => ?_) ?_
            · refine wpq_split 38 (b := ((landK .u32 (shrK .u32 f.pattern ((s13.2 : Nat) : Int)) 1) == 1)) (by kernel_rfl) (fun q18 => ?_) (fun q18 => ?_)
              · have q18p : (landK .u32 (shrK .u32 f.pattern ((s13.2 : Nat) : Int)) 1) = 1 := eq_of_beq q18
                refine xB 3 [] [(0, vs Ap p cp), (3, vp b1 0), (6, vs A3_0 s13.1 c3_0), (8, vi (f.bit + ((s13.2 : Nat) : Int))), (25, vi ((s13.2 : Nat) : Int)), (41, vb (decide ((f.bit + ((s13.2 : Nat) : Int)) ≥ 0)))] ?_
                refine wpq_re 41 (v := vb (decide ((f.bit + ((s13.2 : Nat) : Int)) ≥ 0))) (Value.bool ((((landK .u32 (shrK .u32 f.pattern ((s13.2 : Nat) : Int)) 1) == 1) && decide ((f.bit + ((s13.2 : Nat) : Int)) ≥ 0)))) (by kernel_rfl) (re_and1 q18) ?_
                exact wpq_sub _ (by kernel_rfl) hk6
              · have q18p : ¬ ((landK .u32 (shrK .u32 f.pattern ((s13.2 : Nat) : Int)) 1) = 1) := ne_of_beq_false_ q18
                refine xB 3 [] [(0, vs Ap p cp), (3, vp b1 0), (6, vs A3_0 s13.1 c3_0), (8, vi (f.bit + ((s13.2 : Nat) : Int))), (25, vi ((s13.2 : Nat) : Int)), (41, vb false)] ?_
                refine wpq_re 41 (v := vb false) (Value.bool ((((landK .u32 (shrK .u32 f.pattern ((s13.2 : Nat) : Int)) 1) == 1) && decide ((f.bit + ((s13.2 : Nat) : Int)) ≥ 0)))) (by kernel_rfl) (re_and0 q18) ?_
                exact wpq_sub _ (by kernel_rfl) hk6
            · refine xB 1 [] [(0, vs Ap p cp), (3, vp b1 0), (6, vs A3_0 s13.1 c3_0), (8, vi (f.bit + ((s13.2 : Nat) : Int))), (25, vi ((s13.2 : Nat) : Int)), (42, vb (((landK .u32 (shrK .u32 f.pattern ((s13.2 : Nat) : Int)) 1) == 1) && decide ((f.bit + ((s13.2 : Nat) : Int)) ≥ 0)))] ?_
              refine wpr_grp 17 [(0, vs Ap p cp), (3, vp b1 0), (6, vs A3_0 s13.1 c3_0), (8, vi (f.bit + ((s13.2 : Nat) : Int))), (25, vi ((s13.2 : Nat) : Int)), (48, vb ((((landK .u32 (shrK .u32 f.pattern ((s13.2 : Nat) : Int)) 1) == 1) && decide ((f.bit + ((s13.2 : Nat) : Int)) ≥ 0)) && decide ((f.bit + ((s13.2 : Nat) : Int)) < (8 * (((p).length : Nat) : Int)))))] (fun hk10 => ?_) ?_
              · refine wpq_split 42 (b := (((landK .u32 (shrK .u32 f.pattern ((s13.2 : Nat) : Int)) 1) == 1) && decide ((f.bit + ((s13.2 : Nat) : Int)) ≥ 0))) (by kernel_rfl) (fun q19 => ?_) (fun q19 => ?_)
                · have q19l := (and_true_ q19).1
                  have q19r := (and_true_ q19).2
                  have q19lp : (landK .u32 (shrK .u32 f.pattern ((s13.2 : Nat) : Int)) 1) = 1 := eq_of_beq q19l
                  have q19rp := of_decide_eq_true q19r
                  refine xB 3 [] [(0, vs Ap p cp), (3, vp b1 0), (6, vs A3_0 s13.1 c3_0), (8, vi (f.bit + ((s13.2 : Nat) : Int))), (25, vi ((s13.2 : Nat) : Int)), (42, vb true), (43, vi (f.bit + ((s13.2 : Nat) : Int))), (45, vi (((p).length : Nat) : Int))] ?_
                  refine xV (qMul .i64 (8) ((((p).length : Nat) : Int)) (wr64 (by omega))) ?_
                  refine xB 2 [] [(0, vs Ap p cp), (3, vp b1 0), (6, vs A3_0 s13.1 c3_0), (8, vi (f.bit + ((s13.2 : Nat) : Int))), (25, vi ((s13.2 : Nat) : Int)), (48, vb (decide ((f.bit + ((s13.2 : Nat) : Int)) < (8 * (((p).length : Nat) : Int)))))] ?_
                  refine wpq_re 48 (v := vb (decide ((f.bit + ((s13.2 : Nat) : Int)) < (8 * (((p).length : Nat) : Int))))) (Value.bool (((((landK .u32 (shrK .u32 f.pattern ((s13.2 : Nat) : Int)) 1) == 1) && decide ((f.bit + ((s13.2 : Nat) : Int)) ≥ 0)) && decide ((f.bit + ((s13.2 : Nat) : Int)) < (8 * (((p).length : Nat) : Int)))))) (by kernel_rfl) (re_and1 q19) ?_
                  exact wpq_sub _ (by kernel_rfl) hk10
                · refine xB 6 [] [(0, vs Ap p cp), (3, vp b1 0), (6, vs A3_0 s13.1 c3_0), (8, vi (f.bit + ((s13.2 : Nat) : Int))), (25, vi ((s13.2 : Nat) : Int)), (48, vb false)] ?_
                  refine wpq_re 48 (v := vb false) (Value.bool (((((landK .u32 (shrK .u32 f.pattern ((s13.2 : Nat) : Int)) 1) == 1) && decide ((f.bit + ((s13.2 : Nat) : Int)) ≥ 0)) && decide ((f.bit + ((s13.2 : Nat) : Int)) < (8 * (((p).length : Nat) : Int)))))) (by kernel_rfl) (re_and0 q19) ?_
                  exact wpq_sub _ (by kernel_rfl) hk10
              · refine xRe ?_
                refine wpq_then ?_
                refine xBindO hS (fun g own sl t20 => ∃ (k20_0 : Option Bk), own = [some ⟨b1, 51, [vb f.lost, vi f.bit, Value.int .u32 f.pattern]⟩, k20_0] ∧ sl = [(0, vs Ap p cp), (3, vp b1 0), (6, vs A3_0 t20 c3_0), (25, vi ((s13.2 : Nat) : Int))] ∧ Buf g.b tyU8 5 (.slice A3_0 (t20).length c3_0) k20_0 t20) ?_ ?_
                · rintro g21 _ _ t20 e22 ⟨k20_0, rfl, rfl, h20_0⟩ hS
                  have nh20_0 := h20_0.len
                  refine wpq_blockN ?_
                  refine wpq_then ?_
                  refine xRg ?_
                  obtain ⟨q23, hS⟩ := grd_T hS
                  have q23p := of_decide_eq_true q23
                  refine xV (qAdd .i64 (((s13.2 : Nat) : Int)) (1) (wr64 (by omega))) ?_
                  refine xB 1 [] [(0, vs Ap p cp), (3, vp b1 0), (6, vs A3_0 t20 c3_0), (25, vi (((s13.2 : Nat) : Int) + 1))] ?_
                  refine xRe ?_
                  refine wpq_thenN ?_
                  refine xSub [(0, vs Ap p cp), (3, vp b1 0), (6, vs A3_0 t20 c3_0), (25, vi (((s13.2 : Nat) : Int) + 1))] ?_
                  have eS := (Option.some.inj hS).symm
                  exact hN13 _ eS _ _ _ e22 ⟨k20_0, by kernel_rfl, by kernel_rfl, h20_0⟩
                · intro uu20 hS hN20
                  refine xCd (((((landK .u32 (shrK .u32 f.pattern ((s13.2 : Nat) : Int)) 1) == 1) && decide ((f.bit + ((s13.2 : Nat) : Int)) ≥ 0)) && decide ((f.bit + ((s13.2 : Nat) : Int)) < (8 * (((p).length : Nat) : Int))))) (fun h24 => ?_) (fun h24 => ?_)
                  · have hS := cond_T h24 hS
                    have h24l := (and_true_ h24).1
                    have h24r := (and_true_ h24).2
                    have h24ll := (and_true_ h24l).1
                    have h24lr := (and_true_ h24l).2
                    have h24llp : (landK .u32 (shrK .u32 f.pattern ((s13.2 : Nat) : Int)) 1) = 1 := eq_of_beq h24ll
                    have h24lrp := of_decide_eq_true h24lr
                    have h24rp := of_decide_eq_true h24r
                    refine xDr 0 [4] [10, 8, 9] [some ⟨b1, 51, [vb f.lost, vi f.bit, Value.int .u32 f.pattern]⟩, k13_0] 11 (fun RG => ?_) (fun _ _ _ _ _ h => h)
                    refine xT 9 [0, 1] [] [some 0, some 1] [(0, vs Ap p cp), (3, vp b1 0), (6, vs A3_0 s13.1 c3_0), (8, vi (f.bit + ((s13.2 : Nat) : Int))), (25, vi ((s13.2 : Nat) : Int)), (49, vs A3_0 s13.1 c3_0), (50, vi (f.bit + ((s13.2 : Nat) : Int)))] RG (Psi.le.refl _) ?_
                    refine xTp 2 RG (fun _ => (qQuo .i64 ((f.bit + ((s13.2 : Nat) : Int))) (8) _ (by omega) (IntWalk.i64_quo _ _ (by omega)))) ?_
                    obtain ⟨q26, hS⟩ := grd_T hS
                    have q26p := of_decide_eq_true q26
                    have i27 : (((f.bit + ((s13.2 : Nat) : Int)) / 8)).toNat < (s13.1).length := by omega
                    obtain ⟨kc25, cs25, hA25, hk25, hr25, hw25⟩ := h13_0.open_ i27 0
                    obtain ⟨kb25, rfl⟩ : ∃ z, z = kc25 := ⟨_, rfl⟩
                    subst hk25
                    have hr25 : cs25 = [vy ((List.getD s13.1 (((f.bit + ((s13.2 : Nat) : Int)) / 8)).toNat 0).toNat : Int)] := hr25
                    subst hr25
                    have nb25 := UInt8.toNat_lt (List.getD s13.1 (((f.bit + ((s13.2 : Nat) : Int)) / 8)).toNat 0)
                    refine xTp 3 RG (fun _ => (qIxB (((f.bit + ((s13.2 : Nat) : Int)) / 8)).toNat 1 kb25.g hA25 (show (((f.bit + ((s13.2 : Nat) : Int)) / 8) : Int) = _ from by omega) i27)) ?_
                    refine xTv 4 [some 0, some 1] RG (Psi.le.refl _) (qLdB (((f.bit + ((s13.2 : Nat) : Int)) / 8)).toNat 1 0 1 hw25) ?_
                    refine xT 5 [5] [] [some 0, some 1] [(0, vs Ap p cp), (3, vp b1 0), (6, vs A3_0 s13.1 c3_0), (25, vi ((s13.2 : Nat) : Int)), (49, vs A3_0 s13.1 c3_0), (51, vi ((f.bit + ((s13.2 : Nat) : Int)) / 8)), (53, vy ((List.getD s13.1 (((f.bit + ((s13.2 : Nat) : Int)) / 8)).toNat 0).toNat : Int)), (54, vi (f.bit + ((s13.2 : Nat) : Int)))] RG (Psi.le.refl _) ?_
                    refine xTp 6 RG (fun _ => (qRem .i64 ((f.bit + ((s13.2 : Nat) : Int))) (8) _ (by omega) (rem_pos_ (by omega)))) ?_
                    refine xTp 7 RG (fun _ => (qShl .u8 .i64 (1) (((f.bit + ((s13.2 : Nat) : Int)) % 8)) (by omega))) ?_
                    obtain ⟨q29, hS⟩ := grd_T hS
                    have q29p := of_decide_eq_true q29
                    have i30 : (((f.bit + ((s13.2 : Nat) : Int)) / 8)).toNat < (s13.1).length := by omega
                    obtain ⟨kc28, cs28, hA28, hk28, hr28, hw28⟩ := h13_0.open_ i30 0
                    cases hk28
                    have hr28 : cs28 = [vy ((List.getD s13.1 (((f.bit + ((s13.2 : Nat) : Int)) / 8)).toNat 0).toNat : Int)] := hr28
                    subst hr28
                    have nb28 := UInt8.toNat_lt (List.getD s13.1 (((f.bit + ((s13.2 : Nat) : Int)) / 8)).toNat 0)
                    refine xT 2 [8] [] [some 0, some 1] [(0, vs Ap p cp), (3, vp b1 0), (6, vs A3_0 s13.1 c3_0), (25, vi ((s13.2 : Nat) : Int)), (49, vs A3_0 s13.1 c3_0), (51, vi ((f.bit + ((s13.2 : Nat) : Int)) / 8)), (57, vy (lxorK .u8 ((List.getD s13.1 (((f.bit + ((s13.2 : Nat) : Int)) / 8)).toNat 0).toNat : Int) (shlK .u8 1 ((f.bit + ((s13.2 : Nat) : Int)) % 8))))] RG (Psi.le.refl _) ?_
                    refine xTp 9 RG (fun _ => (qIxB (((f.bit + ((s13.2 : Nat) : Int)) / 8)).toNat 1 kb25.g hA28 (show (((f.bit + ((s13.2 : Nat) : Int)) / 8) : Int) = _ from by omega) i30)) ?_
                    refine xO1 (lds := [4]) 10 ?_
                    refine xId (lds := [4]) (Psi.le.refl _) (eStB (((f.bit + ((s13.2 : Nat) : Int)) / 8)).toNat 1 0 1 [vy (lxorK .u8 ((List.getD s13.1 (((f.bit + ((s13.2 : Nat) : Int)) / 8)).toNat 0).toNat : Int) (shlK .u8 1 ((f.bit + ((s13.2 : Nat) : Int)) % 8)))] h13_0 rfl hw28 (u8_rep (lxorU8 _ _)) i30) ?_
                    rintro _ _ _ - ⟨k31, rfl, rfl, h31⟩
                    refine kf ?_
                    have hz31 : (s13.1).length = ((List.set s13.1 (((f.bit + ((s13.2 : Nat) : Int)) / 8)).toNat (u8 (lxorK .u8 ((List.getD s13.1 (((f.bit + ((s13.2 : Nat) : Int)) / 8)).toNat 0).toNat : Int) (shlK .u8 1 ((f.bit + ((s13.2 : Nat) : Int)) % 8)))))).length := by simp
                    refine xAe (lds := [4]) ?_
                    refine wpq_re 6 (v := Value.slice A3_0 ((s13.1).length) c3_0) (vs A3_0 (List.set s13.1 (((f.bit + ((s13.2 : Nat) : Int)) / 8)).toNat (u8 (lxorK .u8 ((List.getD s13.1 (((f.bit + ((s13.2 : Nat) : Int)) / 8)).toNat 0).toNat : Int) (shlK .u8 1 ((f.bit + ((s13.2 : Nat) : Int)) % 8))))) c3_0) (by kernel_rfl) (congrArg (fun z => Value.slice A3_0 z c3_0) hz31) ?_
                    have h31 := Buf.re h31 hz31 (rfl : (List.set s13.1 (((f.bit + ((s13.2 : Nat) : Int)) / 8)).toNat (u8 (lxorK .u8 ((List.getD s13.1 (((f.bit + ((s13.2 : Nat) : Int)) / 8)).toNat 0).toNat : Int) (shlK .u8 1 ((f.bit + ((s13.2 : Nat) : Int)) % 8))))) = _)
                    refine wpq_re 49 (v := Value.slice A3_0 ((s13.1).length) c3_0) (vs A3_0 (List.set s13.1 (((f.bit + ((s13.2 : Nat) : Int)) / 8)).toNat (u8 (lxorK .u8 ((List.getD s13.1 (((f.bit + ((s13.2 : Nat) : Int)) / 8)).toNat 0).toNat : Int) (shlK .u8 1 ((f.bit + ((s13.2 : Nat) : Int)) % 8))))) c3_0) (by kernel_rfl) (congrArg (fun z => Value.slice A3_0 z c3_0) hz31) ?_
                    refine xSub [(0, vs Ap p cp), (3, vp b1 0), (6, vs A3_0 (List.set s13.1 (((f.bit + ((s13.2 : Nat) : Int)) / 8)).toNat (u8 (lxorK .u8 ((List.getD s13.1 (((f.bit + ((s13.2 : Nat) : Int)) / 8)).toNat 0).toNat : Int) (shlK .u8 1 ((f.bit + ((s13.2 : Nat) : Int)) % 8))))) c3_0), (25, vi ((s13.2 : Nat) : Int))] ?_
                    have eS := (Option.some.inj hS).symm
                    exact hN20 _ eS _ _ _ (Gh.le.refl _) ⟨k31, by kernel_rfl, by kernel_rfl, h31⟩
                  · have hS := cond_F h24 hS
                    refine xSk ?_
                    refine xSub [(0, vs Ap p cp), (3, vp b1 0), (6, vs A3_0 s13.1 c3_0), (25, vi ((s13.2 : Nat) : Int))] ?_
                    have eS := (Option.some.inj hS).symm
                    exact hN20 _ eS _ _ _ (Gh.le.refl _) ⟨k13_0, by kernel_rfl, by kernel_rfl, h13_0⟩
          · have hS := cond_F h16 hS
            have h16p := of_decide_eq_false h16
            refine xEx 0 ?_
            refine wpq_thenX ?_
            refine wpq_thenX ?_
            refine wpq_blockE ?_
            refine xSel [some 1] ?_
            refine xSub [(6, vs A3_0 s13.1 c3_0)] ?_
            have eS := (Option.some.inj hS).symm
            have eS := (hD13 _ eS).symm
            exact hN8 _ eS _ _ _ e15 ⟨k13_0, by kernel_rfl, by kernel_rfl, h13_0⟩

def o24 (p : List UInt8) (f : Fate) (label : Int) (from_ : Int) (cycle : Int) : Option (Frame × Bool) :=
  (bindO (τ := (List UInt8) × Bool) (o22 (p : List UInt8) f) fun y3 => (cond ((!y3.2)) (some (((⟨0, 0, 0, ([] : List UInt8)⟩ : Frame), (false)))) (bindO (τ := Frame × Int) (o16 (y3.1 : List UInt8)) fun y7 => (cond (((((y7.2 != 0) || (y7.1.label != label)) || (y7.1.from_ != from_)) || (y7.1.cycle != cycle))) (some (((⟨0, 0, 0, ([] : List UInt8)⟩ : Frame), (false)))) (some ((y7.1, (true))))))))
set_option maxRecDepth 100000 in
theorem c24 (g : Gh) (p : List UInt8) (Ap : Option Addr) (cp : Nat) (f : Fate) (label : Int) (from_ : Int) (cycle : Int) (fp : Arr g.r tyU8 Ap cp p) {r : Frame × Bool} (hS : o24 p f label from_ cycle = some r) :
    Ctr Try.prog 24 [vs Ap p cp, Value.agg #[vb f.lost, vi f.bit, Value.int .u32 f.pattern], vy label, vy from_, vi cycle] g [] (fun v ψ o => ∃ (Ar_0_payload : Option Addr) (cr_0_payload : Nat), v = Value.tuple #[Value.agg #[vy r.1.label, vy r.1.from_, vi r.1.cycle, vs Ar_0_payload r.1.payload cr_0_payload], vb r.2] ∧ o = [] ∧ Arr ψ tyU8 Ar_0_payload cr_0_payload r.1.payload) := by
  unfold o24 at hS
  refine xFn Try.f24 (Try.f24.body.getD .skip) 52 ?_
  have nfp := fp.len
  refine xSq ?_
  refine xRg ?_
  refine xE eB ?_
  rintro _ _ _ - ⟨b1, rfl, rfl, rfl⟩
  refine xE eB ?_
  rintro _ _ _ - ⟨b2, rfl, rfl, rfl⟩
  refine xB 1 [] [(0, vs Ap p cp), (2, vy label), (3, vy from_), (4, vi cycle), (6, vp b1 0), (10, vp b2 0)] ?_
  refine xRe ?_
  refine wpq_then ?_
  refine xSq ?_
  refine xRg ?_
  refine xB 2 [(1, 1)] [(2, vy label), (3, vy from_), (4, vi cycle), (10, vp b2 0), (17, vs Ap p cp), (18, Value.agg #[vb f.lost, vi f.bit, Value.int .u32 f.pattern])] ?_
  obtain ⟨y3, hy3, hS⟩ := bindO_T hS
  refine xE (eC 0 (fun g' lr eb ln => c22 g' (p : List UInt8) Ap cp f (fp.mono lr) hy3)) ?_
  rintro _ g4 _ e5 ⟨_, rfl, A3_0, c3_0, k3_0, rfl, rfl, h3_0⟩
  have nh3_0 := h3_0.len
  refine xB 5 [] [(2, vy label), (3, vy from_), (4, vi cycle), (10, vp b2 0), (12, vs A3_0 y3.1 c3_0), (13, vb y3.2)] ?_
  refine xRe ?_
  refine wpq_then ?_
  refine xSq ?_
  refine xSq ?_
  refine xRg ?_
  refine xB 2 [] [(2, vy label), (3, vy from_), (4, vi cycle), (10, vp b2 0), (12, vs A3_0 y3.1 c3_0), (23, vb (!y3.2))] ?_
  refine xRe ?_
  refine wpq_then ?_
  refine xCd ((!y3.2)) (fun h6 => ?_) (fun h6 => ?_)
  · have hS := cond_T h6 hS
    have h6n := not_eq_true_ h6
    refine xSq ?_
    refine xRg ?_
    refine xBo 3 [(1, 1)] [k3_0, some ⟨b2, 24, (cFrame (⟨0, 0, 0, ([] : List UInt8)⟩ : Frame) none 0)⟩, some ⟨b1, 51, [vb f.lost, vi f.bit, Value.int .u32 f.pattern]⟩] [(10, vp b2 0), (11, vb false)] ?_
    refine xRe ?_
    refine wpq_then ?_
    have eS := (Option.some.inj hS).symm
    subst eS
    exact xRetC [] [(10, 1)] e5 ⟨none, 0, by kernel_rfl, by kernel_rfl, Arr.nil⟩ (fun _ _ h => h)
  · have hS := cond_F h6 hS
    have h6n := not_eq_false_ h6
    refine xSk ?_
    refine wpq_then ?_
    refine xSub [(2, vy label), (3, vy from_), (4, vi cycle), (10, vp b2 0), (12, vs A3_0 y3.1 c3_0)] ?_
    refine xSq ?_
    refine xRg ?_
    refine xB 1 [] [(2, vy label), (3, vy from_), (4, vi cycle), (10, vp b2 0), (26, vs A3_0 y3.1 c3_0)] ?_
    obtain ⟨y7, hy7, hS⟩ := bindO_T hS
    refine xE (eC 0 (fun g' lr eb ln => c16 g' (y3.1 : List UInt8) A3_0 c3_0 (arr_of_buf h3_0 (Psi.le_b eb) (lentk 0 (by kernel_rfl) ln)) hy7)) ?_
    rintro _ g8 _ e9 ⟨_, rfl, A7_0_payload, c7_0_payload, rfl, rfl, f7_0_payload⟩
    have nf7_0_payload := f7_0_payload.len
    refine xB 3 [] [(2, vy label), (3, vy from_), (4, vi cycle), (10, vp b2 0), (28, Value.agg #[vy y7.1.label, vy y7.1.from_, vi y7.1.cycle, vs A7_0_payload y7.1.payload c7_0_payload]), (29, vi y7.2)] ?_
    refine xE eB ?_
    rintro _ _ _ - ⟨b10, rfl, rfl, rfl⟩
    refine xBo 2 [(6, 0)] [some ⟨b10, 24, (cFrame y7.1 A7_0_payload c7_0_payload)⟩, k3_0, some ⟨b2, 24, (cFrame (⟨0, 0, 0, ([] : List UInt8)⟩ : Frame) none 0)⟩, some ⟨b1, 51, [vb f.lost, vi f.bit, Value.int .u32 f.pattern]⟩] [(2, vy label), (3, vy from_), (4, vi cycle), (10, vp b2 0), (14, vp b10 0), (15, vi y7.2)] ?_
    refine xRe ?_
    refine wpq_then ?_
    refine xSq ?_
    refine xSq ?_
    refine xRg ?_
    refine xB 3 [] [(2, vy label), (3, vy from_), (4, vi cycle), (10, vp b2 0), (14, vp b10 0), (32, vb (y7.2 != 0))] ?_
    refine wpr_grp 8 [(3, vy from_), (4, vi cycle), (10, vp b2 0), (14, vp b10 0), (37, vb ((y7.2 != 0) || (y7.1.label != label)))] (fun hk2 => ?_) ?_
    · refine wpq_split 32 (b := (y7.2 != 0)) (by kernel_rfl) (fun q11 => ?_) (fun q11 => ?_)
      · have q11p : ¬ (y7.2 = 0) := ne_of_bne_ q11
        refine xB 5 [] [(3, vy from_), (4, vi cycle), (10, vp b2 0), (14, vp b10 0), (37, vb true)] ?_
        refine wpq_re 37 (v := vb true) (Value.bool (((y7.2 != 0) || (y7.1.label != label)))) (by kernel_rfl) (re_or1 q11) ?_
        exact wpq_sub _ (by kernel_rfl) hk2
      · have q11p : y7.2 = 0 := eq_of_bne_false_ q11
        refine xB 5 [(4, 0)] [(3, vy from_), (4, vi cycle), (10, vp b2 0), (14, vp b10 0), (37, vb (y7.1.label != label))] ?_
        refine wpq_re 37 (v := vb (y7.1.label != label)) (Value.bool (((y7.2 != 0) || (y7.1.label != label)))) (by kernel_rfl) (re_or0 q11) ?_
        exact wpq_sub _ (by kernel_rfl) hk2
    · refine xB 1 [] [(3, vy from_), (4, vi cycle), (10, vp b2 0), (14, vp b10 0), (38, vb ((y7.2 != 0) || (y7.1.label != label)))] ?_
      refine wpr_grp 14 [(4, vi cycle), (10, vp b2 0), (14, vp b10 0), (43, vb (((y7.2 != 0) || (y7.1.label != label)) || (y7.1.from_ != from_)))] (fun hk8 => ?_) ?_
      · refine wpq_split 38 (b := ((y7.2 != 0) || (y7.1.label != label))) (by kernel_rfl) (fun q12 => ?_) (fun q12 => ?_)
        · refine xB 5 [] [(4, vi cycle), (10, vp b2 0), (14, vp b10 0), (43, vb true)] ?_
          refine wpq_re 43 (v := vb true) (Value.bool ((((y7.2 != 0) || (y7.1.label != label)) || (y7.1.from_ != from_)))) (by kernel_rfl) (re_or1 q12) ?_
          exact wpq_sub _ (by kernel_rfl) hk8
        · have q12l := (or_false_ q12).1
          have q12r := (or_false_ q12).2
          have q12lp : y7.2 = 0 := eq_of_bne_false_ q12l
          have q12rp : y7.1.label = label := eq_of_bne_false_ q12r
          refine xB 5 [(10, 0)] [(4, vi cycle), (10, vp b2 0), (14, vp b10 0), (43, vb (y7.1.from_ != from_))] ?_
          refine wpq_re 43 (v := vb (y7.1.from_ != from_)) (Value.bool ((((y7.2 != 0) || (y7.1.label != label)) || (y7.1.from_ != from_)))) (by kernel_rfl) (re_or0 q12) ?_
          exact wpq_sub _ (by kernel_rfl) hk8
      · refine xB 1 [] [(4, vi cycle), (10, vp b2 0), (14, vp b10 0), (44, vb (((y7.2 != 0) || (y7.1.label != label)) || (y7.1.from_ != from_)))] ?_
        refine wpr_grp 20 [(10, vp b2 0), (14, vp b10 0), (49, vb ((((y7.2 != 0) || (y7.1.label != label)) || (y7.1.from_ != from_)) || (y7.1.cycle != cycle)))] (fun hk14 => ?_) ?_
        · refine wpq_split 44 (b := (((y7.2 != 0) || (y7.1.label != label)) || (y7.1.from_ != from_))) (by kernel_rfl) (fun q13 => ?_) (fun q13 => ?_)
          · refine xB 5 [] [(10, vp b2 0), (14, vp b10 0), (49, vb true)] ?_
            refine wpq_re 49 (v := vb true) (Value.bool (((((y7.2 != 0) || (y7.1.label != label)) || (y7.1.from_ != from_)) || (y7.1.cycle != cycle)))) (by kernel_rfl) (re_or1 q13) ?_
            exact wpq_sub _ (by kernel_rfl) hk14
          · have q13l := (or_false_ q13).1
            have q13r := (or_false_ q13).2
            have q13ll := (or_false_ q13l).1
            have q13lr := (or_false_ q13l).2
            have q13llp : y7.2 = 0 := eq_of_bne_false_ q13ll
            have q13lrp : y7.1.label = label := eq_of_bne_false_ q13lr
            have q13rp : y7.1.from_ = from_ := eq_of_bne_false_ q13r
            refine xB 5 [(16, 0)] [(10, vp b2 0), (14, vp b10 0), (49, vb (y7.1.cycle != cycle))] ?_
            refine wpq_re 49 (v := vb (y7.1.cycle != cycle)) (Value.bool (((((y7.2 != 0) || (y7.1.label != label)) || (y7.1.from_ != from_)) || (y7.1.cycle != cycle)))) (by kernel_rfl) (re_or0 q13) ?_
            exact wpq_sub _ (by kernel_rfl) hk14
        · refine xRe ?_
          refine wpq_then ?_
          refine xCd (((((y7.2 != 0) || (y7.1.label != label)) || (y7.1.from_ != from_)) || (y7.1.cycle != cycle))) (fun h14 => ?_) (fun h14 => ?_)
          · have hS := cond_T h14 hS
            refine xSq ?_
            refine xRg ?_
            refine xBo 3 [(1, 2)] [some ⟨b10, 24, (cFrame y7.1 A7_0_payload c7_0_payload)⟩, k3_0, some ⟨b2, 24, (cFrame (⟨0, 0, 0, ([] : List UInt8)⟩ : Frame) none 0)⟩, some ⟨b1, 51, [vb f.lost, vi f.bit, Value.int .u32 f.pattern]⟩] [(10, vp b2 0), (11, vb false)] ?_
            refine xRe ?_
            refine wpq_then ?_
            have eS := (Option.some.inj hS).symm
            subst eS
            exact xRetC [] [(10, 2)] (e5.trans e9) ⟨none, 0, by kernel_rfl, by kernel_rfl, Arr.nil⟩ (fun _ _ h => h)
          · have hS := cond_F h14 hS
            have h14l := (or_false_ h14).1
            have h14r := (or_false_ h14).2
            have h14ll := (or_false_ h14l).1
            have h14lr := (or_false_ h14l).2
            have h14lll := (or_false_ h14ll).1
            have h14llr := (or_false_ h14ll).2
            have h14lllp : y7.2 = 0 := eq_of_bne_false_ h14lll
            have h14llrp : y7.1.label = label := eq_of_bne_false_ h14llr
            have h14lrp : y7.1.from_ = from_ := eq_of_bne_false_ h14lr
            have h14rp : y7.1.cycle = cycle := eq_of_bne_false_ h14r
            refine xSk ?_
            refine wpq_then ?_
            refine xSub [(10, vp b2 0), (14, vp b10 0)] ?_
            refine xSq ?_
            refine xRg ?_
            refine xBo 3 [(0, 0), (1, 2)] [some ⟨b10, 24, (cFrame y7.1 A7_0_payload c7_0_payload)⟩, k3_0, some ⟨b2, 24, (cFrame y7.1 A7_0_payload c7_0_payload)⟩, some ⟨b1, 51, [vb f.lost, vi f.bit, Value.int .u32 f.pattern]⟩] [(10, vp b2 0), (11, vb true)] ?_
            refine xRe ?_
            refine wpq_then ?_
            have eS := (Option.some.inj hS).symm
            subst eS
            exact xRetC [] [(10, 2)] (e5.trans e9) ⟨A7_0_payload, c7_0_payload, by kernel_rfl, by kernel_rfl, f7_0_payload⟩ (fun _ _ h => h)

def o17 (a : Frame) (b : Frame) : Bool :=
  ((((((a.label == b.label) && (a.from_ == b.from_)) && (a.cycle == b.cycle)) && (a.payload == b.payload))))
set_option maxRecDepth 100000 in
theorem c17 (g : Gh) (a : Frame) (Aa_payload : Option Addr) (ca_payload : Nat) (b : Frame) (Ab_payload : Option Addr) (cb_payload : Nat) (fa_payload : Arr g.r tyU8 Aa_payload ca_payload a.payload) (fb_payload : Arr g.r tyU8 Ab_payload cb_payload b.payload) {r : Bool} (hS : o17 a b = r) :
    Ctr Try.prog 17 [Value.agg #[vy a.label, vy a.from_, vi a.cycle, vs Aa_payload a.payload ca_payload], Value.agg #[vy b.label, vy b.from_, vi b.cycle, vs Ab_payload b.payload cb_payload]] g [] (fun v ψ o => v = vb r ∧ o = []) := by
  unfold o17 at hS
  refine xFn Try.f17 (Try.f17.body.getD .skip) 33 ?_
  have nfa_payload := fa_payload.len
  have nfb_payload := fb_payload.len
  refine xSq ?_
  refine xRg ?_
  refine xE eB ?_
  rintro _ _ _ - ⟨b1, rfl, rfl, rfl⟩
  refine xE eB ?_
  rintro _ _ _ - ⟨b2, rfl, rfl, rfl⟩
  refine xB 1 [] [(2, vp b1 0), (3, vp b2 0)] ?_
  refine xRe ?_
  refine wpq_then ?_
  refine xSq ?_
  refine xRg ?_
  refine xB 6 [(1, 1), (3, 0)] [(2, vp b1 0), (3, vp b2 0), (10, vb (a.label == b.label))] ?_
  refine wpr_grp 12 [(2, vp b1 0), (3, vp b2 0), (16, vb ((a.label == b.label) && (a.from_ == b.from_)))] (fun hk5 => ?_) ?_
  · refine wpq_split 10 (b := (a.label == b.label)) (by kernel_rfl) (fun q3 => ?_) (fun q3 => ?_)
    · have q3p : a.label = b.label := eq_of_beq q3
      refine xB 6 [(7, 1), (9, 0)] [(2, vp b1 0), (3, vp b2 0), (16, vb (a.from_ == b.from_))] ?_
      refine wpq_re 16 (v := vb (a.from_ == b.from_)) (Value.bool (((a.label == b.label) && (a.from_ == b.from_)))) (by kernel_rfl) (re_and1 q3) ?_
      exact wpq_sub _ (by kernel_rfl) hk5
    · have q3p : ¬ (a.label = b.label) := ne_of_beq_false_ q3
      refine xB 6 [] [(2, vp b1 0), (3, vp b2 0), (16, vb false)] ?_
      refine wpq_re 16 (v := vb false) (Value.bool (((a.label == b.label) && (a.from_ == b.from_)))) (by kernel_rfl) (re_and0 q3) ?_
      exact wpq_sub _ (by kernel_rfl) hk5
  · refine xB 1 [] [(2, vp b1 0), (3, vp b2 0), (17, vb ((a.label == b.label) && (a.from_ == b.from_)))] ?_
    refine wpr_grp 19 [(2, vp b1 0), (3, vp b2 0), (23, vb (((a.label == b.label) && (a.from_ == b.from_)) && (a.cycle == b.cycle)))] (fun hk12 => ?_) ?_
    · refine wpq_split 17 (b := ((a.label == b.label) && (a.from_ == b.from_))) (by kernel_rfl) (fun q4 => ?_) (fun q4 => ?_)
      · have q4l := (and_true_ q4).1
        have q4r := (and_true_ q4).2
        have q4lp : a.label = b.label := eq_of_beq q4l
        have q4rp : a.from_ = b.from_ := eq_of_beq q4r
        refine xB 6 [(14, 1), (16, 0)] [(2, vp b1 0), (3, vp b2 0), (23, vb (a.cycle == b.cycle))] ?_
        refine wpq_re 23 (v := vb (a.cycle == b.cycle)) (Value.bool ((((a.label == b.label) && (a.from_ == b.from_)) && (a.cycle == b.cycle)))) (by kernel_rfl) (re_and1 q4) ?_
        exact wpq_sub _ (by kernel_rfl) hk12
      · refine xB 6 [] [(2, vp b1 0), (3, vp b2 0), (23, vb false)] ?_
        refine wpq_re 23 (v := vb false) (Value.bool ((((a.label == b.label) && (a.from_ == b.from_)) && (a.cycle == b.cycle)))) (by kernel_rfl) (re_and0 q4) ?_
        exact wpq_sub _ (by kernel_rfl) hk12
    · refine xB 1 [] [(2, vp b1 0), (3, vp b2 0), (24, vb (((a.label == b.label) && (a.from_ == b.from_)) && (a.cycle == b.cycle)))] ?_
      refine wpr_grp 28 [(32, vb ((((a.label == b.label) && (a.from_ == b.from_)) && (a.cycle == b.cycle)) && (a.payload == b.payload)))] (fun hk19 => ?_) ?_
      · refine wpq_split 24 (b := (((a.label == b.label) && (a.from_ == b.from_)) && (a.cycle == b.cycle))) (by kernel_rfl) (fun q5 => ?_) (fun q5 => ?_)
        · have q5l := (and_true_ q5).1
          have q5r := (and_true_ q5).2
          have q5ll := (and_true_ q5l).1
          have q5lr := (and_true_ q5l).2
          have q5llp : a.label = b.label := eq_of_beq q5ll
          have q5lrp : a.from_ = b.from_ := eq_of_beq q5lr
          have q5rp : a.cycle = b.cycle := eq_of_beq q5r
          refine xB 2 [(21, 1)] [(3, vp b2 0), (24, vb true), (26, vs Aa_payload a.payload ca_payload)] ?_
          refine xV (qStr fa_payload) ?_
          refine xB 2 [(24, 0)] [(24, vb true), (27, vt a.payload), (29, vs Ab_payload b.payload cb_payload)] ?_
          refine xV (qStr fb_payload) ?_
          refine xV (qEqS (a.payload) (b.payload)) ?_
          refine xB 1 [] [(32, vb (a.payload == b.payload))] ?_
          refine wpq_re 32 (v := vb (a.payload == b.payload)) (Value.bool (((((a.label == b.label) && (a.from_ == b.from_)) && (a.cycle == b.cycle)) && (a.payload == b.payload)))) (by kernel_rfl) (re_and1 q5) ?_
          exact wpq_sub _ (by kernel_rfl) hk19
        · refine xB 8 [] [(32, vb false)] ?_
          refine wpq_re 32 (v := vb false) (Value.bool (((((a.label == b.label) && (a.from_ == b.from_)) && (a.cycle == b.cycle)) && (a.payload == b.payload)))) (by kernel_rfl) (re_and0 q5) ?_
          exact wpq_sub _ (by kernel_rfl) hk19
      · refine xB 1 [] [(4, vb ((((a.label == b.label) && (a.from_ == b.from_)) && (a.cycle == b.cycle)) && (a.payload == b.payload)))] ?_
        refine xRe ?_
        refine wpq_then ?_
        have eS := hS.symm
        subst eS
        exact xRet [] [4] (Gh.le.refl _) ⟨by kernel_rfl, by kernel_rfl⟩ (fun _ _ h => h)

def o8 (x : Frame) (f : Fate) : Option (Bool) :=
  (bindO (τ := Bool) (o12) fun y3 => (cond ((!y3)) (some ((false))) (letJ (τ := Frame) (o13 x) fun y7 => (bindO (τ := (List UInt8) × Int) (o14 y7) fun y10 => (cond ((y10.2 != 0)) (some ((decide ((((y7.payload).length : Nat) : Int) > 1000)))) (bindO (τ := Frame × Bool) (o24 (y10.1 : List UInt8) f (y7.label : Int) (y7.from_ : Int) (y7.cycle : Int)) fun y14 => (cond (y14.2) (letJ (τ := Bool) (cond ((!f.lost)) (letJ (τ := Bool) (o17 y14.1 y7) fun y23 => y23) (false)) fun t19 => (some ((t19)))) (letJ (τ := Bool) (cond ((f.lost || (f.pattern != 0))) (letJ (τ := Bool) (o17 y14.1 (⟨0, 0, 0, ([] : List UInt8)⟩ : Frame)) fun y31 => y31) (false)) fun t27 => (some ((t27)))))))))))
set_option maxRecDepth 100000 in
theorem c8 (g : Gh) (x : Frame) (Ax_payload : Option Addr) (cx_payload : Nat) (f : Fate) (fx_payload : Arr g.b tyU8 Ax_payload cx_payload x.payload) {r : Bool} (hS : o8 x f = some r) :
    Ctr Try.prog 8 [Value.agg #[vy x.label, vy x.from_, vi x.cycle, vs Ax_payload x.payload cx_payload], Value.agg #[vb f.lost, vi f.bit, Value.int .u32 f.pattern]] g [] (fun v ψ o => v = vb r ∧ o = []) := by
  unfold o8 at hS
  refine xFn Try.f8 (Try.f8.body.getD .skip) 57 ?_
  have nfx_payload := fx_payload.len
  refine xSq ?_
  refine xRg ?_
  refine xE eB ?_
  rintro _ _ _ - ⟨b1, rfl, rfl, rfl⟩
  refine xE eB ?_
  rintro _ _ _ - ⟨b2, rfl, rfl, rfl⟩
  refine xB 1 [] [(2, vp b1 0), (3, vp b2 0)] ?_
  refine xRe ?_
  refine wpq_then ?_
  refine xSq ?_
  refine xSq ?_
  refine xRg ?_
  obtain ⟨y3, hy3, hS⟩ := bindO_T hS
  refine xE (eC 0 (fun g' lr eb ln => c12 g'  hy3)) ?_
  rintro _ g4 _ e5 ⟨_, rfl, rfl, rfl⟩
  refine xB 1 [] [(2, vp b1 0), (3, vp b2 0), (10, vb (!y3))] ?_
  refine xRe ?_
  refine wpq_then ?_
  refine xCd ((!y3)) (fun h6 => ?_) (fun h6 => ?_)
  · have hS := cond_T h6 hS
    have h6n := not_eq_true_ h6
    refine xSq ?_
    refine xRg ?_
    refine xB 1 [] [(4, vb false)] ?_
    refine xRe ?_
    refine wpq_then ?_
    have eS := (Option.some.inj hS).symm
    subst eS
    exact xRet [] [4] e5 ⟨by kernel_rfl, by kernel_rfl⟩ (fun _ _ h => h)
  · have hS := cond_F h6 hS
    have h6n := not_eq_false_ h6
    refine xSk ?_
    refine wpq_then ?_
    refine xSub [(2, vp b1 0), (3, vp b2 0)] ?_
    refine xSq ?_
    refine xRg ?_
    refine xB 1 [(0, 1)] [(2, vp b1 0), (3, vp b2 0), (11, Value.agg #[vy x.label, vy x.from_, vi x.cycle, vs Ax_payload x.payload cx_payload])] ?_
    have fx_payload := fx_payload.mono e5.b
    obtain ⟨y7, hy7, hS⟩ := letJ_T hS
    refine xE (eC 0 (fun g' lr eb ln => c13 g' x Ax_payload cx_payload (by rw [eb]; exact fx_payload) hy7)) ?_
    rintro _ g8 _ e9 ⟨_, rfl, A7_0_payload, c7_0_payload, rfl, rfl, f7_0_payload⟩
    have nf7_0_payload := f7_0_payload.len
    refine xBo 1 [(2, 1)] [some ⟨b2, 51, [vb f.lost, vi f.bit, Value.int .u32 f.pattern]⟩, some ⟨b1, 24, (cFrame y7 A7_0_payload c7_0_payload)⟩] [(2, vp b1 0), (3, vp b2 0)] ?_
    refine xRe ?_
    refine wpq_then ?_
    refine xSq ?_
    refine xRg ?_
    refine xB 1 [(0, 1)] [(2, vp b1 0), (3, vp b2 0), (14, Value.agg #[vy y7.label, vy y7.from_, vi y7.cycle, vs A7_0_payload y7.payload c7_0_payload])] ?_
    obtain ⟨y10, hy10, hS⟩ := bindO_T hS
    refine xE (eC 0 (fun g' lr eb ln => c14 g' y7 A7_0_payload c7_0_payload ((f7_0_payload.mono g8.br).mono lr) hy10)) ?_
    rintro _ g11 _ e12 ⟨_, rfl, A10_0, c10_0, k10_0, rfl, rfl, h10_0⟩
    have nh10_0 := h10_0.len
    refine xB 5 [] [(2, vp b1 0), (3, vp b2 0), (5, vs A10_0 y10.1 c10_0), (6, vi y10.2)] ?_
    refine xRe ?_
    refine wpq_then ?_
    refine xSq ?_
    refine xSq ?_
    refine xRg ?_
    refine xB 2 [] [(2, vp b1 0), (3, vp b2 0), (5, vs A10_0 y10.1 c10_0), (19, vb (y10.2 != 0))] ?_
    refine xRe ?_
    refine wpq_then ?_
    refine xCd ((y10.2 != 0)) (fun h13 => ?_) (fun h13 => ?_)
    · have hS := cond_T h13 hS
      have h13p : ¬ (y10.2 = 0) := ne_of_bne_ h13
      refine xSq ?_
      refine xRg ?_
      refine xB 5 [(1, 2)] [(4, vb (decide ((((y7.payload).length : Nat) : Int) > 1000)))] ?_
      refine xRe ?_
      refine wpq_then ?_
      have eS := (Option.some.inj hS).symm
      subst eS
      exact xRet [] [4] (e5.trans (e9.trans e12)) ⟨by kernel_rfl, by kernel_rfl⟩ (fun _ _ h => h)
    · have hS := cond_F h13 hS
      have h13p : y10.2 = 0 := eq_of_bne_false_ h13
      refine xSk ?_
      refine wpq_then ?_
      refine xSub [(2, vp b1 0), (3, vp b2 0), (5, vs A10_0 y10.1 c10_0)] ?_
      refine xSq ?_
      refine xRg ?_
      refine xB 8 [(1, 1), (3, 2), (5, 2), (7, 2)] [(2, vp b1 0), (3, vp b2 0), (25, vs A10_0 y10.1 c10_0), (26, Value.agg #[vb f.lost, vi f.bit, Value.int .u32 f.pattern]), (28, vy y7.label), (30, vy y7.from_), (32, vi y7.cycle)] ?_
      obtain ⟨y14, hy14, hS⟩ := bindO_T hS
      refine xE (eC 0 (fun g' lr eb ln => c24 g' (y10.1 : List UInt8) A10_0 c10_0 f (y7.label : Int) (y7.from_ : Int) (y7.cycle : Int) (arr_of_buf h10_0 (Psi.le_b eb) (lentk 0 (by kernel_rfl) ln)) hy14)) ?_
      rintro _ g15 _ e16 ⟨_, rfl, A14_0_payload, c14_0_payload, rfl, rfl, f14_0_payload⟩
      have nf14_0_payload := f14_0_payload.len
      refine xB 3 [] [(2, vp b1 0), (3, vp b2 0), (34, Value.agg #[vy y14.1.label, vy y14.1.from_, vi y14.1.cycle, vs A14_0_payload y14.1.payload c14_0_payload]), (35, vb y14.2)] ?_
      refine xE eB ?_
      rintro _ _ _ - ⟨b17, rfl, rfl, rfl⟩
      refine xBo 2 [(13, 0)] [some ⟨b17, 24, (cFrame y14.1 A14_0_payload c14_0_payload)⟩, k10_0, some ⟨b2, 51, [vb f.lost, vi f.bit, Value.int .u32 f.pattern]⟩, some ⟨b1, 24, (cFrame y7 A7_0_payload c7_0_payload)⟩] [(2, vp b1 0), (3, vp b2 0), (7, vp b17 0), (8, vb y14.2)] ?_
      refine xRe ?_
      refine wpq_then ?_
      refine xSq ?_
      refine xSq ?_
      refine xRg ?_
      refine xB 1 [] [(2, vp b1 0), (3, vp b2 0), (7, vp b17 0), (36, vb y14.2)] ?_
      refine xRe ?_
      refine wpq_then ?_
      refine xCd (y14.2) (fun h18 => ?_) (fun h18 => ?_)
      · have hS := cond_T h18 hS
        refine xSq ?_
        refine xRg ?_
        refine xB 4 [(1, 2)] [(2, vp b1 0), (7, vp b17 0), (40, vb (!f.lost))] ?_
        refine xGJl hS 8 (fun g own sl t19 => own = [] ∧ sl = [(44, vb t19)]) ?_ ?_
        · rintro g20 _ _ t19 e21 ⟨rfl, rfl⟩ hS
          refine xB 1 [] [(4, vb t19)] ?_
          refine xRe ?_
          refine wpq_then ?_
          have eS := (Option.some.inj hS).symm
          subst eS
          exact xRet [] [4] (e5.trans (e9.trans (e12.trans (e16.trans e21)))) ⟨by kernel_rfl, by kernel_rfl⟩ (fun _ _ h => h)
        · intro uu19 hS hN19
          refine wpq_split 40 (b := (!f.lost)) (by kernel_rfl) (fun q22 => ?_) (fun q22 => ?_)
          · have hS := cond_T q22 hS
            have q22n := not_eq_true_ q22
            refine xB 2 [(4, 0), (5, 3)] [(40, vb true), (41, Value.agg #[vy y14.1.label, vy y14.1.from_, vi y14.1.cycle, vs A14_0_payload y14.1.payload c14_0_payload]), (42, Value.agg #[vy y7.label, vy y7.from_, vi y7.cycle, vs A7_0_payload y7.payload c7_0_payload])] ?_
            have f7_0_payload := f7_0_payload.mono (e12.trans e16).b
            obtain ⟨y23, hy23, hS⟩ := letJ_T hS
            refine xE (eC 0 (fun g' lr eb ln => c17 g' y14.1 A14_0_payload c14_0_payload y7 A7_0_payload c7_0_payload ((f14_0_payload.mono g15.br).mono lr) ((f7_0_payload.mono g15.br).mono lr) hy23)) ?_
            rintro _ g24 _ e25 ⟨_, rfl, rfl, rfl⟩
            refine xB 1 [] [(44, vb y23)] ?_
            refine xSel [] ?_
            refine xSub [(44, vb y23)] ?_
            exact hN19 _ hS.symm _ _ _ e25 ⟨by kernel_rfl, by kernel_rfl⟩
          · have hS := cond_F q22 hS
            have q22n := not_eq_false_ q22
            refine xB 4 [] [(44, vb false)] ?_
            refine xSel [] ?_
            refine xSub [(44, vb false)] ?_
            exact hN19 _ hS.symm _ _ _ (Gh.le.refl _) ⟨by kernel_rfl, by kernel_rfl⟩
      · have hS := cond_F h18 hS
        refine xSk ?_
        refine wpq_then ?_
        refine xSub [(3, vp b2 0), (7, vp b17 0)] ?_
        refine xSq ?_
        refine xRg ?_
        refine xB 3 [(1, 2)] [(3, vp b2 0), (7, vp b17 0), (47, vb f.lost)] ?_
        refine wpr_grp 7 [(7, vp b17 0), (51, vb (f.lost || (f.pattern != 0)))] (fun hk2 => ?_) ?_
        · refine wpq_split 47 (b := f.lost) (by kernel_rfl) (fun q26 => ?_) (fun q26 => ?_)
          · refine xB 4 [] [(7, vp b17 0), (51, vb true)] ?_
            refine wpq_re 51 (v := vb true) (Value.bool ((f.lost || (f.pattern != 0)))) (by kernel_rfl) (re_or1 q26) ?_
            exact wpq_sub _ (by kernel_rfl) hk2
          · refine xB 4 [(4, 2)] [(7, vp b17 0), (51, vb (f.pattern != 0))] ?_
            refine wpq_re 51 (v := vb (f.pattern != 0)) (Value.bool ((f.lost || (f.pattern != 0)))) (by kernel_rfl) (re_or0 q26) ?_
            exact wpq_sub _ (by kernel_rfl) hk2
        · refine xB 1 [] [(7, vp b17 0), (52, vb (f.lost || (f.pattern != 0)))] ?_
          refine xGJl hS 12 (fun g own sl t27 => own = [] ∧ sl = [(56, vb t27)]) ?_ ?_
          · rintro g28 _ _ t27 e29 ⟨rfl, rfl⟩ hS
            refine xB 1 [] [(4, vb t27)] ?_
            refine xRe ?_
            refine wpq_then ?_
            have eS := (Option.some.inj hS).symm
            subst eS
            exact xRet [] [4] (e5.trans (e9.trans (e12.trans (e16.trans e29)))) ⟨by kernel_rfl, by kernel_rfl⟩ (fun _ _ h => h)
          · intro uu27 hS hN27
            refine wpq_split 52 (b := (f.lost || (f.pattern != 0))) (by kernel_rfl) (fun q30 => ?_) (fun q30 => ?_)
            · have hS := cond_T q30 hS
              refine xB 2 [(8, 0)] [(52, vb true), (53, Value.agg #[vy y14.1.label, vy y14.1.from_, vi y14.1.cycle, vs A14_0_payload y14.1.payload c14_0_payload]), (54, Value.agg #[vy 0, vy 0, vi 0, Value.slice none 0 0])] ?_
              obtain ⟨y31, hy31, hS⟩ := letJ_T hS
              refine xE (eC 0 (fun g' lr eb ln => c17 g' y14.1 A14_0_payload c14_0_payload (⟨0, 0, 0, ([] : List UInt8)⟩ : Frame) none 0 ((f14_0_payload.mono g15.br).mono lr) Arr.nil hy31)) ?_
              rintro _ g32 _ e33 ⟨_, rfl, rfl, rfl⟩
              refine xB 1 [] [(56, vb y31)] ?_
              refine xSel [] ?_
              refine xSub [(56, vb y31)] ?_
              exact hN27 _ hS.symm _ _ _ e33 ⟨by kernel_rfl, by kernel_rfl⟩
            · have hS := cond_F q30 hS
              have q30l := (or_false_ q30).1
              have q30r := (or_false_ q30).2
              have q30rp : f.pattern = 0 := eq_of_bne_false_ q30r
              refine xB 4 [] [(56, vb false)] ?_
              refine xSel [] ?_
              refine xSub [(56, vb false)] ?_
              exact hN27 _ hS.symm _ _ _ (Gh.le.refl _) ⟨by kernel_rfl, by kernel_rfl⟩

end Go.Proofs.Ytmcgofgpcnlljaa
