/-
Walks, printed by wip/gen. Conditions: each theorem's own.
-/
import Derived.Test.YtmcgofgpcnlljaaB3
namespace Go.Proofs.Ytmcgofgpcnlljaa
set_option linter.unusedVariables false
set_option linter.unusedSimpArgs false
open Go.RowKit
def o22_L0 (p : List UInt8) (f : Fate) (s13 : (List UInt8) × Nat) : Option (Ctl ((List UInt8) × Nat) ((List UInt8))) :=
  (cond (decide (((s13.2 : Nat) : Int) < 32)) (grd (decide (-9223372036854775808 ≤ f.bit + ((s13.2 : Nat) : Int) ∧ f.bit + ((s13.2 : Nat) : Int) ≤ 9223372036854775807)) (bindO (τ := (List UInt8)) (cond (((((landK .u32 (shrK .u32 f.pattern ((s13.2 : Nat) : Int)) 1) == 1) && decide ((f.bit + ((s13.2 : Nat) : Int)) ≥ 0)) && decide ((f.bit + ((s13.2 : Nat) : Int)) < (8 * (((p).length : Nat) : Int))))) (grd (decide (0 ≤ ((f.bit + ((s13.2 : Nat) : Int)) / 8) ∧ ((f.bit + ((s13.2 : Nat) : Int)) / 8) < (((s13.1).length : Nat) : Int))) (grd (decide (0 ≤ ((f.bit + ((s13.2 : Nat) : Int)) / 8) ∧ ((f.bit + ((s13.2 : Nat) : Int)) / 8) < (((s13.1).length : Nat) : Int))) (some (((List.set s13.1 (((f.bit + ((s13.2 : Nat) : Int)) / 8)).toNat (u8 (lxorK .u8 ((List.getD s13.1 (((f.bit + ((s13.2 : Nat) : Int)) / 8)).toNat 0).toNat : Int) (shlK .u8 1 ((f.bit + ((s13.2 : Nat) : Int)) % 8))))) : List UInt8))))) (some ((s13.1 : List UInt8)))) fun t20 => (grd (decide (((s13.2 : Nat) : Int) + 1 ≤ 9223372036854775807)) (some (Ctl.go ((t20 : List UInt8), (s13.2 + 1))))))) (some (Ctl.done ((s13.1 : List UInt8)))))
def o22 (p : List UInt8) (f : Fate) : Option ((List UInt8) × Bool) :=
  (cond (f.lost) (some ((([] : List UInt8), (false)))) (letJ (τ := (List UInt8)) (o47 (p : List UInt8)) fun y3 => (cond ((decide (f.bit < -31) || decide (f.bit ≥ (8 * (((p).length : Nat) : Int))))) (some (((y3 : List UInt8), (true)))) (bindO (τ := (List UInt8)) (loopO (σ := (List UInt8) × Nat) (ρ := (List UInt8)) fuelN (o22_L0 p f) ((y3 : List UInt8), 0)) fun t8 => (some (((t8 : List UInt8), (true))))))))
set_option maxRecDepth 100000 in
theorem c22 (g : Gh) (p : List UInt8) (Ap : Option Addr) (cp : Nat) (f : Fate) (fp : Arr g.r tyU8 Ap cp p) {r : (List UInt8) × Bool} (hS : o22 p f = some r) :
    Ctr Try.prog 22 [vs Ap p cp, Value.agg #[vb f.lost, vi f.bit, Value.int .u32 f.pattern]] g [] (fun v ψ o => ∃ (Ar_0 : Option Addr) (cr_0 : Nat) (kr_0 : Option Bk), v = Value.tuple #[vs Ar_0 r.1 cr_0, vb r.2] ∧ o = [kr_0] ∧ Buf ψ tyU8 5 (.slice Ar_0 (r.1).length cr_0) kr_0 r.1) := by
  unfold o22 at hS
  refine xFn Try.f22 (Try.f22.body.getD .skip) 61 ?_
  have nfp := fp.len
  refine xSq ?_
  refine xRg ?_
  refine xE eB ?_
  rintro _ _ _ - ⟨b1, rfl, rfl, rfl⟩
  refine xB 2 [] [(0, vs Ap p cp), (3, vp b1 0)] ?_
  refine xRe ?_
  refine wpq_then ?_
  refine xSq ?_
  refine xSq ?_
  refine xRg ?_
  refine xB 2 [(1, 0)] [(0, vs Ap p cp), (3, vp b1 0), (10, vb f.lost)] ?_
  refine xRe ?_
  refine wpq_then ?_
  refine xCd (f.lost) (fun h2 => ?_) (fun h2 => ?_)
  · have hS := cond_T h2 hS
    refine xSq ?_
    refine xRg ?_
    refine xB 2 [] [(4, Value.slice none 0 0), (5, vb false)] ?_
    refine xRe ?_
    refine wpq_then ?_
    have eS := (Option.some.inj hS).symm
    subst eS
    exact xRet [none] [4, 5] (Gh.le.refl _) ⟨none, 0, none, by kernel_rfl, by kernel_rfl, Buf.nil⟩ (fun _ _ h => h)
  · have hS := cond_F h2 hS
    refine xSk ?_
    refine wpq_then ?_
    refine xSub [(0, vs Ap p cp), (3, vp b1 0)] ?_
    refine xSq ?_
    refine xRg ?_
    refine xB 1 [] [(0, vs Ap p cp), (3, vp b1 0), (11, vs Ap p cp)] ?_
    obtain ⟨y3, hy3, hS⟩ := letJ_T hS
    refine xE (eC 0 (fun g' lr eb ln => c47 g' (p : List UInt8) Ap cp (fp.mono lr) hy3)) ?_
    rintro _ g4 _ e5 ⟨_, rfl, A3_0, c3_0, k3_0, rfl, rfl, h3_0⟩
    have nh3_0 := h3_0.len
    refine xB 1 [] [(0, vs Ap p cp), (3, vp b1 0), (6, vs A3_0 y3 c3_0)] ?_
    refine xRe ?_
    refine wpq_then ?_
    refine xSq ?_
    refine xSq ?_
    refine xRg ?_
    refine xB 4 [(1, 1)] [(0, vs Ap p cp), (3, vp b1 0), (6, vs A3_0 y3 c3_0), (16, vb (decide (f.bit < -31)))] ?_
    refine wpr_grp 11 [(0, vs Ap p cp), (3, vp b1 0), (6, vs A3_0 y3 c3_0), (23, vb (decide (f.bit < -31) || decide (f.bit ≥ (8 * (((p).length : Nat) : Int)))))] (fun hk3 => ?_) ?_
    · refine wpq_split 16 (b := decide (f.bit < -31)) (by kernel_rfl) (fun q6 => ?_) (fun q6 => ?_)
      · have q6p := of_decide_eq_true q6
        refine xB 7 [] [(0, vs Ap p cp), (3, vp b1 0), (6, vs A3_0 y3 c3_0), (23, vb true)] ?_
        refine wpq_re 23 (v := vb true) (Value.bool ((decide (f.bit < -31) || decide (f.bit ≥ (8 * (((p).length : Nat) : Int)))))) (by kernel_rfl) (re_or1 q6) ?_
        exact wpq_sub _ (by kernel_rfl) hk3
      · have q6p := of_decide_eq_false q6
        refine xB 4 [(5, 1)] [(0, vs Ap p cp), (3, vp b1 0), (6, vs A3_0 y3 c3_0), (16, vb false), (18, vi f.bit), (20, vi (((p).length : Nat) : Int))] ?_
        refine xV (qMul .i64 (8) ((((p).length : Nat) : Int)) (wr64 (by omega))) ?_
        refine xB 2 [] [(0, vs Ap p cp), (3, vp b1 0), (6, vs A3_0 y3 c3_0), (23, vb (decide (f.bit ≥ (8 * (((p).length : Nat) : Int)))))] ?_
        refine wpq_re 23 (v := vb (decide (f.bit ≥ (8 * (((p).length : Nat) : Int))))) (Value.bool ((decide (f.bit < -31) || decide (f.bit ≥ (8 * (((p).length : Nat) : Int)))))) (by kernel_rfl) (re_or0 q6) ?_
        exact wpq_sub _ (by kernel_rfl) hk3
    · refine xRe ?_
      refine wpq_then ?_
      refine xCd ((decide (f.bit < -31) || decide (f.bit ≥ (8 * (((p).length : Nat) : Int))))) (fun h7 => ?_) (fun h7 => ?_)
      · have hS := cond_T h7 hS
        refine xSq ?_
        refine xRg ?_
        refine xB 3 [] [(4, vs A3_0 y3 c3_0), (5, vb true)] ?_
        refine xRe ?_
        refine wpq_then ?_
        have eS := (Option.some.inj hS).symm
        subst eS
        exact xRet [some 0] [4, 5] e5 ⟨A3_0, c3_0, k3_0, by kernel_rfl, by kernel_rfl, h3_0⟩ (fun _ _ h => h)
      · have hS := cond_F h7 hS
        have h7l := (or_false_ h7).1
        have h7r := (or_false_ h7).2
        have h7lp := of_decide_eq_false h7l
        have h7rp := of_decide_eq_false h7r
        refine xSk ?_
        refine wpq_then ?_
        refine xSub [(0, vs Ap p cp), (3, vp b1 0), (6, vs A3_0 y3 c3_0)] ?_
        refine xSq ?_
        refine xSq ?_
        refine xRg ?_
        refine xB 1 [] [(0, vs Ap p cp), (3, vp b1 0), (6, vs A3_0 y3 c3_0), (25, vi 0)] ?_
        refine xRe ?_
        refine wpq_then ?_
        refine xBindO hS (fun g own sl t8 => ∃ (k8_0 : Option Bk), own = [k8_0] ∧ sl = [(6, vs A3_0 t8 c3_0)] ∧ Buf g.b tyU8 5 (.slice A3_0 (t8).length c3_0) k8_0 t8) ?_ ?_
        · rintro g9 _ _ t8 e10 ⟨k8_0, rfl, rfl, h8_0⟩ hS
          have nh8_0 := h8_0.len
          refine wpq_then ?_
          refine xSq ?_
          refine xRg ?_
          refine xB 3 [] [(4, vs A3_0 t8 c3_0), (5, vb true)] ?_
          refine xRe ?_
          refine wpq_then ?_
          have eS := (Option.some.inj hS).symm
          subst eS
          exact xRet [some 0] [4, 5] (e5.trans e10) ⟨A3_0, c3_0, k8_0, by kernel_rfl, by kernel_rfl, h8_0⟩ (fun _ _ h => h)
        · intro uu8 hS hN8
          refine xBl 0 ?_
          refine xSel [some 1, some 0] ?_
          refine xSub [(0, vs Ap p cp), (3, vp b1 0), (6, vs A3_0 y3 c3_0), (25, vi 0)] ?_
          refine xLo hS (fun g own sl s13 => ∃ (k13_0 : Option Bk), own = [some ⟨b1, 51, [vb f.lost, vi f.bit, Value.int .u32 f.pattern]⟩, k13_0] ∧ sl = [(0, vs Ap p cp), (3, vp b1 0), (6, vs A3_0 s13.1 c3_0), (25, vi ((s13.2 : Nat) : Int))] ∧ Buf g.b tyU8 5 (.slice A3_0 (s13.1).length c3_0) k13_0 s13.1) ⟨k3_0, by kernel_rfl, by kernel_rfl, h3_0⟩ ?_
          rintro g14 _ _ s13 uu13 e15 ⟨k13_0, rfl, rfl, h13_0⟩ hS Qr13 hN13 hD13
          have nh13_0 := h13_0.len
          unfold o22_L0 at hS
          refine xSq ?_
          refine xRg ?_
          refine xB 1 [] [(0, vs Ap p cp), (3, vp b1 0), (6, vs A3_0 s13.1 c3_0), (25, vi ((s13.2 : Nat) : Int)), (26, vb (decide (((s13.2 : Nat) : Int) < 32)))] ?_
          refine xRe ?_
          refine wpq_then ?_
          refine xSq ?_
          refine xCd (decide (((s13.2 : Nat) : Int) < 32)) (fun h16 => ?_) (fun h16 => ?_)
          · have hS := cond_T h16 hS
            have h16p := of_decide_eq_true h16
            refine xSk ?_
            refine wpq_then ?_
            refine xSub [(0, vs Ap p cp), (3, vp b1 0), (6, vs A3_0 s13.1 c3_0), (25, vi ((s13.2 : Nat) : Int))] ?_
            refine xSq ?_
            refine xBl 1 ?_
            refine xSq ?_
            refine xRg ?_
            refine xB 2 [] [(0, vs Ap p cp), (3, vp b1 0), (6, vs A3_0 s13.1 c3_0), (7, vi ((s13.2 : Nat) : Int)), (25, vi ((s13.2 : Nat) : Int))] ?_
            refine xRe ?_
            refine wpq_then ?_
            refine xSq ?_
            refine xRg ?_
            obtain ⟨q17, hS⟩ := grd_T hS
            have q17p := of_decide_eq_true q17
            refine xB 3 [(1, 0)] [(0, vs Ap p cp), (3, vp b1 0), (6, vs A3_0 s13.1 c3_0), (7, vi ((s13.2 : Nat) : Int)), (25, vi ((s13.2 : Nat) : Int)), (29, vi f.bit), (30, vi ((s13.2 : Nat) : Int))] ?_
            refine xV (qAdd .i64 (f.bit) (((s13.2 : Nat) : Int)) (wr64 (by omega))) ?_
            refine xB 1 [] [(0, vs Ap p cp), (3, vp b1 0), (6, vs A3_0 s13.1 c3_0), (7, vi ((s13.2 : Nat) : Int)), (8, vi (f.bit + ((s13.2 : Nat) : Int))), (25, vi ((s13.2 : Nat) : Int))] ?_
            refine xRe ?_
            refine wpq_then ?_
            refine xSq ?_
            refine xRg ?_
            refine xB 3 [(1, 0)] [(0, vs Ap p cp), (3, vp b1 0), (6, vs A3_0 s13.1 c3_0), (8, vi (f.bit + ((s13.2 : Nat) : Int))), (25, vi ((s13.2 : Nat) : Int)), (33, Value.int .u32 f.pattern), (34, vi ((s13.2 : Nat) : Int))] ?_
            refine xV (qShr .u32 .i64 (f.pattern) (((s13.2 : Nat) : Int)) (by omega)) ?_
            refine xB 3 [] [(0, vs Ap p cp), (3, vp b1 0), (6, vs A3_0 s13.1 c3_0), (8, vi (f.bit + ((s13.2 : Nat) : Int))), (25, vi ((s13.2 : Nat) : Int)), (38, vb ((landK .u32 (shrK .u32 f.pattern ((s13.2 : Nat) : Int)) 1) == 1))] ?_
            refine wpr_grp 10 [(0, vs Ap p cp), (3, vp b1 0), (6, vs A3_0 s13.1 c3_0), (8, vi (f.bit + ((s13.2 : Nat) : Int))), (25, vi ((s13.2 : Nat) : Int)), (41, vb (((landK .u32 (shrK .u32 f.pattern ((s13.2 : Nat) : Int)) 1) == 1) && decide ((f.bit + ((s13.2 : Nat) : Int)) ≥ 0)))] (fun hk6 => ?_) ?_
            · refine wpq_split 38 (b := ((landK .u32 (shrK .u32 f.pattern ((s13.2 : Nat) : Int)) 1) == 1)) (by kernel_rfl) (fun q18 => ?_) (fun q18 => ?_)
              · have q18p : (landK .u32 (shrK .u32 f.pattern ((s13.2 : Nat) : Int)) 1) = 1 := eq_of_beq q18
                refine xB 3 [] [(0, vs Ap p cp), (3, vp b1 0), (6, vs A3_0 s13.1 c3_0), (8, vi (f.bit + ((s13.2 : Nat) : Int))), (25, vi ((s13.2 : Nat) : Int)), (41, vb (decide ((f.bit + ((s13.2 : Nat) : Int)) ≥ 0)))] ?_
                refine wpq_re 41 (v := vb (decide ((f.bit + ((s13.2 : Nat) : Int)) ≥ 0))) (Value.bool ((((landK .u32 (shrK .u32 f.pattern ((s13.2 : Nat) : Int)) 1) == 1) && decide ((f.bit + ((s13.2 : Nat) : Int)) ≥ 0)))) (by kernel_rfl) (re_and1 q18) ?_
                exact wpq_sub _ (by kernel_rfl) hk6
              · have q18p : ¬ ((landK .u32 (shrK .u32 f.pattern ((s13.2 : Nat) : Int)) 1) = 1) := ne_of_beq_false_ q18
                refine xB 3 [] [(0, vs Ap p cp), (3, vp b1 0), (6, vs A3_0 s13.1 c3_0), (8, vi (f.bit + ((s13.2 : Nat) : Int))), (25, vi ((s13.2 : Nat) : Int)), (41, vb false)] ?_
                refine wpq_re 41 (v := vb false) (Value.bool ((((landK .u32 (shrK .u32 f.pattern ((s13.2 : Nat) : Int)) 1) == 1) && decide ((f.bit + ((s13.2 : Nat) : Int)) ≥ 0)))) (by kernel_rfl) (re_and0 q18) ?_
                exact wpq_sub _ (by kernel_rfl) hk6
            · refine xB 1 [] [(0, vs Ap p cp), (3, vp b1 0), (6, vs A3_0 s13.1 c3_0), (8, vi (f.bit + ((s13.2 : Nat) : Int))), (25, vi ((s13.2 : Nat) : Int)), (42, vb (((landK .u32 (shrK .u32 f.pattern ((s13.2 : Nat) : Int)) 1) == 1) && decide ((f.bit + ((s13.2 : Nat) : Int)) ≥ 0)))] ?_
              refine wpr_grp 17 [(0, vs Ap p cp), (3, vp b1 0), (6, vs A3_0 s13.1 c3_0), (8, vi (f.bit + ((s13.2 : Nat) : Int))), (25, vi ((s13.2 : Nat) : Int)), (48, vb ((((landK .u32 (shrK .u32 f.pattern ((s13.2 : Nat) : Int)) 1) == 1) && decide ((f.bit + ((s13.2 : Nat) : Int)) ≥ 0)) && decide ((f.bit + ((s13.2 : Nat) : Int)) < (8 * (((p).length : Nat) : Int)))))] (fun hk10 => ?_) ?_
              · refine wpq_split 42 (b := (((landK .u32 (shrK .u32 f.pattern ((s13.2 : Nat) : Int)) 1) == 1) && decide ((f.bit + ((s13.2 : Nat) : Int)) ≥ 0))) (by kernel_rfl) (fun q19 => ?_) (fun q19 => ?_)
                · have q19l := (and_true_ q19).1
                  have q19r := (and_true_ q19).2
                  have q19lp : (landK .u32 (shrK .u32 f.pattern ((s13.2 : Nat) : Int)) 1) = 1 := eq_of_beq q19l
                  have q19rp := of_decide_eq_true q19r
                  refine xB 3 [] [(0, vs Ap p cp), (3, vp b1 0), (6, vs A3_0 s13.1 c3_0), (8, vi (f.bit + ((s13.2 : Nat) : Int))), (25, vi ((s13.2 : Nat) : Int)), (42, vb true), (43, vi (f.bit + ((s13.2 : Nat) : Int))), (45, vi (((p).length : Nat) : Int))] ?_
                  refine xV (qMul .i64 (8) ((((p).length : Nat) : Int)) (wr64 (by omega))) ?_
                  refine xB 2 [] [(0, vs Ap p cp), (3, vp b1 0), (6, vs A3_0 s13.1 c3_0), (8, vi (f.bit + ((s13.2 : Nat) : Int))), (25, vi ((s13.2 : Nat) : Int)), (48, vb (decide ((f.bit + ((s13.2 : Nat) : Int)) < (8 * (((p).length : Nat) : Int)))))] ?_
                  refine wpq_re 48 (v := vb (decide ((f.bit + ((s13.2 : Nat) : Int)) < (8 * (((p).length : Nat) : Int))))) (Value.bool (((((landK .u32 (shrK .u32 f.pattern ((s13.2 : Nat) : Int)) 1) == 1) && decide ((f.bit + ((s13.2 : Nat) : Int)) ≥ 0)) && decide ((f.bit + ((s13.2 : Nat) : Int)) < (8 * (((p).length : Nat) : Int)))))) (by kernel_rfl) (re_and1 q19) ?_
                  exact wpq_sub _ (by kernel_rfl) hk10
                · refine xB 6 [] [(0, vs Ap p cp), (3, vp b1 0), (6, vs A3_0 s13.1 c3_0), (8, vi (f.bit + ((s13.2 : Nat) : Int))), (25, vi ((s13.2 : Nat) : Int)), (48, vb false)] ?_
                  refine wpq_re 48 (v := vb false) (Value.bool (((((landK .u32 (shrK .u32 f.pattern ((s13.2 : Nat) : Int)) 1) == 1) && decide ((f.bit + ((s13.2 : Nat) : Int)) ≥ 0)) && decide ((f.bit + ((s13.2 : Nat) : Int)) < (8 * (((p).length : Nat) : Int)))))) (by kernel_rfl) (re_and0 q19) ?_
                  exact wpq_sub _ (by kernel_rfl) hk10
              · refine xRe ?_
                refine wpq_then ?_
                refine xBindO hS (fun g own sl t20 => ∃ (k20_0 : Option Bk), own = [some ⟨b1, 51, [vb f.lost, vi f.bit, Value.int .u32 f.pattern]⟩, k20_0] ∧ sl = [(0, vs Ap p cp), (3, vp b1 0), (6, vs A3_0 t20 c3_0), (25, vi ((s13.2 : Nat) : Int))] ∧ Buf g.b tyU8 5 (.slice A3_0 (t20).length c3_0) k20_0 t20) ?_ ?_
                · rintro g21 _ _ t20 e22 ⟨k20_0, rfl, rfl, h20_0⟩ hS
                  have nh20_0 := h20_0.len
                  refine wpq_blockN ?_
                  refine wpq_then ?_
                  refine xRg ?_
                  obtain ⟨q23, hS⟩ := grd_T hS
                  have q23p := of_decide_eq_true q23
                  refine xV (qAdd .i64 (((s13.2 : Nat) : Int)) (1) (wr64 (by omega))) ?_
                  refine xB 1 [] [(0, vs Ap p cp), (3, vp b1 0), (6, vs A3_0 t20 c3_0), (25, vi (((s13.2 : Nat) : Int) + 1))] ?_
                  refine xRe ?_
                  refine wpq_thenN ?_
                  refine xSub [(0, vs Ap p cp), (3, vp b1 0), (6, vs A3_0 t20 c3_0), (25, vi (((s13.2 : Nat) : Int) + 1))] ?_
                  have eS := (Option.some.inj hS).symm
                  exact hN13 _ eS _ _ _ e22 ⟨k20_0, by kernel_rfl, by kernel_rfl, h20_0⟩
                · intro uu20 hS hN20
                  refine xCd (((((landK .u32 (shrK .u32 f.pattern ((s13.2 : Nat) : Int)) 1) == 1) && decide ((f.bit + ((s13.2 : Nat) : Int)) ≥ 0)) && decide ((f.bit + ((s13.2 : Nat) : Int)) < (8 * (((p).length : Nat) : Int))))) (fun h24 => ?_) (fun h24 => ?_)
                  · have hS := cond_T h24 hS
                    have h24l := (and_true_ h24).1
                    have h24r := (and_true_ h24).2
                    have h24ll := (and_true_ h24l).1
                    have h24lr := (and_true_ h24l).2
                    have h24llp : (landK .u32 (shrK .u32 f.pattern ((s13.2 : Nat) : Int)) 1) = 1 := eq_of_beq h24ll
                    have h24lrp := of_decide_eq_true h24lr
                    have h24rp := of_decide_eq_true h24r
                    refine xDr 0 [4] [10, 8, 9] [some ⟨b1, 51, [vb f.lost, vi f.bit, Value.int .u32 f.pattern]⟩, k13_0] 11 (fun RG => ?_) (fun _ _ _ _ _ h => h)
                    refine xT 9 [0, 1] [] [some 0, some 1] [(0, vs Ap p cp), (3, vp b1 0), (6, vs A3_0 s13.1 c3_0), (8, vi (f.bit + ((s13.2 : Nat) : Int))), (25, vi ((s13.2 : Nat) : Int)), (49, vs A3_0 s13.1 c3_0), (50, vi (f.bit + ((s13.2 : Nat) : Int)))] RG (Psi.le.refl _) ?_
                    refine xTp 2 RG (fun _ => (qQuo .i64 ((f.bit + ((s13.2 : Nat) : Int))) (8) _ (by omega) (IntWalk.i64_quo _ _ (by omega)))) ?_
                    obtain ⟨q26, hS⟩ := grd_T hS
                    have q26p := of_decide_eq_true q26
                    have i27 : (((f.bit + ((s13.2 : Nat) : Int)) / 8)).toNat < (s13.1).length := by omega
                    obtain ⟨kc25, cs25, hA25, hk25, hr25, hw25⟩ := h13_0.open_ i27 0
                    obtain ⟨kb25, rfl⟩ : ∃ z, z = kc25 := ⟨_, rfl⟩
                    subst hk25
                    have hr25 : cs25 = [vy ((List.getD s13.1 (((f.bit + ((s13.2 : Nat) : Int)) / 8)).toNat 0).toNat : Int)] := hr25
                    subst hr25
                    have nb25 := UInt8.toNat_lt (List.getD s13.1 (((f.bit + ((s13.2 : Nat) : Int)) / 8)).toNat 0)
                    refine xTp 3 RG (fun _ => (qIxB (((f.bit + ((s13.2 : Nat) : Int)) / 8)).toNat 1 kb25.g hA25 (show (((f.bit + ((s13.2 : Nat) : Int)) / 8) : Int) = _ from by omega) i27)) ?_
                    refine xTv 4 [some 0, some 1] RG (Psi.le.refl _) (qLdB (((f.bit + ((s13.2 : Nat) : Int)) / 8)).toNat 1 0 1 hw25) ?_
                    refine xT 5 [5] [] [some 0, some 1] [(0, vs Ap p cp), (3, vp b1 0), (6, vs A3_0 s13.1 c3_0), (25, vi ((s13.2 : Nat) : Int)), (49, vs A3_0 s13.1 c3_0), (51, vi ((f.bit + ((s13.2 : Nat) : Int)) / 8)), (53, vy ((List.getD s13.1 (((f.bit + ((s13.2 : Nat) : Int)) / 8)).toNat 0).toNat : Int)), (54, vi (f.bit + ((s13.2 : Nat) : Int)))] RG (Psi.le.refl _) ?_
                    refine xTp 6 RG (fun _ => (qRem .i64 ((f.bit + ((s13.2 : Nat) : Int))) (8) _ (by omega) (rem_pos_ (by omega)))) ?_
                    refine xTp 7 RG (fun _ => (qShl .u8 .i64 (1) (((f.bit + ((s13.2 : Nat) : Int)) % 8)) (by omega))) ?_
                    obtain ⟨q29, hS⟩ := grd_T hS
                    have q29p := of_decide_eq_true q29
                    have i30 : (((f.bit + ((s13.2 : Nat) : Int)) / 8)).toNat < (s13.1).length := by omega
                    obtain ⟨kc28, cs28, hA28, hk28, hr28, hw28⟩ := h13_0.open_ i30 0
                    cases hk28
                    have hr28 : cs28 = [vy ((List.getD s13.1 (((f.bit + ((s13.2 : Nat) : Int)) / 8)).toNat 0).toNat : Int)] := hr28
                    subst hr28
                    have nb28 := UInt8.toNat_lt (List.getD s13.1 (((f.bit + ((s13.2 : Nat) : Int)) / 8)).toNat 0)
                    refine xT 2 [8] [] [some 0, some 1] [(0, vs Ap p cp), (3, vp b1 0), (6, vs A3_0 s13.1 c3_0), (25, vi ((s13.2 : Nat) : Int)), (49, vs A3_0 s13.1 c3_0), (51, vi ((f.bit + ((s13.2 : Nat) : Int)) / 8)), (57, vy (lxorK .u8 ((List.getD s13.1 (((f.bit + ((s13.2 : Nat) : Int)) / 8)).toNat 0).toNat : Int) (shlK .u8 1 ((f.bit + ((s13.2 : Nat) : Int)) % 8))))] RG (Psi.le.refl _) ?_
                    refine xTp 9 RG (fun _ => (qIxB (((f.bit + ((s13.2 : Nat) : Int)) / 8)).toNat 1 kb25.g hA28 (show (((f.bit + ((s13.2 : Nat) : Int)) / 8) : Int) = _ from by omega) i30)) ?_
                    refine xO1 (lds := [4]) 10 ?_
                    refine xId (lds := [4]) (Psi.le.refl _) (eStB (((f.bit + ((s13.2 : Nat) : Int)) / 8)).toNat 1 0 1 [vy (lxorK .u8 ((List.getD s13.1 (((f.bit + ((s13.2 : Nat) : Int)) / 8)).toNat 0).toNat : Int) (shlK .u8 1 ((f.bit + ((s13.2 : Nat) : Int)) % 8)))] h13_0 rfl hw28 (u8_rep (lxorU8 _ _)) i30) ?_
                    rintro _ _ _ - ⟨k31, rfl, rfl, h31⟩
                    refine kf ?_
                    have hz31 : (s13.1).length = ((List.set s13.1 (((f.bit + ((s13.2 : Nat) : Int)) / 8)).toNat (u8 (lxorK .u8 ((List.getD s13.1 (((f.bit + ((s13.2 : Nat) : Int)) / 8)).toNat 0).toNat : Int) (shlK .u8 1 ((f.bit + ((s13.2 : Nat) : Int)) % 8)))))).length := by simp
                    refine xAe (lds := [4]) ?_
                    refine wpq_re 6 (v := Value.slice A3_0 ((s13.1).length) c3_0) (vs A3_0 (List.set s13.1 (((f.bit + ((s13.2 : Nat) : Int)) / 8)).toNat (u8 (lxorK .u8 ((List.getD s13.1 (((f.bit + ((s13.2 : Nat) : Int)) / 8)).toNat 0).toNat : Int) (shlK .u8 1 ((f.bit + ((s13.2 : Nat) : Int)) % 8))))) c3_0) (by kernel_rfl) (congrArg (fun z => Value.slice A3_0 z c3_0) hz31) ?_
                    have h31 := Buf.re h31 hz31 (rfl : (List.set s13.1 (((f.bit + ((s13.2 : Nat) : Int)) / 8)).toNat (u8 (lxorK .u8 ((List.getD s13.1 (((f.bit + ((s13.2 : Nat) : Int)) / 8)).toNat 0).toNat : Int) (shlK .u8 1 ((f.bit + ((s13.2 : Nat) : Int)) % 8))))) = _)
                    refine wpq_re 49 (v := Value.slice A3_0 ((s13.1).length) c3_0) (vs A3_0 (List.set s13.1 (((f.bit + ((s13.2 : Nat) : Int)) / 8)).toNat (u8 (lxorK .u8 ((List.getD s13.1 (((f.bit + ((s13.2 : Nat) : Int)) / 8)).toNat 0).toNat : Int) (shlK .u8 1 ((f.bit + ((s13.2 : Nat) : Int)) % 8))))) c3_0) (by kernel_rfl) (congrArg (fun z => Value.slice A3_0 z c3_0) hz31) ?_
                    refine xSub [(0, vs Ap p cp), (3, vp b1 0), (6, vs A3_0 (List.set s13.1 (((f.bit + ((s13.2 : Nat) : Int)) / 8)).toNat (u8 (lxorK .u8 ((List.getD s13.1 (((f.bit + ((s13.2 : Nat) : Int)) / 8)).toNat 0).toNat : Int) (shlK .u8 1 ((f.bit + ((s13.2 : Nat) : Int)) % 8))))) c3_0), (25, vi ((s13.2 : Nat) : Int))] ?_
                    have eS := (Option.some.inj hS).symm
                    exact hN20 _ eS _ _ _ (Gh.le.refl _) ⟨k31, by kernel_rfl, by kernel_rfl, h31⟩
                  · have hS := cond_F h24 hS
                    refine xSk ?_
                    refine xSub [(0, vs Ap p cp), (3, vp b1 0), (6, vs A3_0 s13.1 c3_0), (25, vi ((s13.2 : Nat) : Int))] ?_
                    have eS := (Option.some.inj hS).symm
                    exact hN20 _ eS _ _ _ (Gh.le.refl _) ⟨k13_0, by kernel_rfl, by kernel_rfl, h13_0⟩
          · have hS := cond_F h16 hS
            have h16p := of_decide_eq_false h16
            refine xEx 0 ?_
            refine wpq_thenX ?_
            refine wpq_thenX ?_
            refine wpq_blockE ?_
            refine xSel [some 1] ?_
            refine xSub [(6, vs A3_0 s13.1 c3_0)] ?_
            have eS := (Option.some.inj hS).symm
            have eS := (hD13 _ eS).symm
            exact hN8 _ eS _ _ _ e15 ⟨k13_0, by kernel_rfl, by kernel_rfl, h13_0⟩

def o23_L0 (p : List UInt8) (f : Fate) (s10 : (List UInt8) × Nat) : Option (Ctl ((List UInt8) × Nat) ((List UInt8))) :=
  (cond (decide (((s10.2 : Nat) : Int) < 32)) (bindO (τ := (List UInt8)) (cond (((((landK .u32 (shrK .u32 f.pattern ((s10.2 : Nat) : Int)) 1) == 1) && decide (f.bit ≥ (IntKind.i64.wrap (0 - ((s10.2 : Nat) : Int))))) && decide (f.bit < (IntKind.i64.wrap ((8 * (((p).length : Nat) : Int)) - ((s10.2 : Nat) : Int)))))) (grd (decide (-9223372036854775808 ≤ f.bit + ((s10.2 : Nat) : Int) ∧ f.bit + ((s10.2 : Nat) : Int) ≤ 9223372036854775807)) (grd (decide (0 ≤ (IntKind.i64.wrap (Int.tdiv (f.bit + ((s10.2 : Nat) : Int)) 8)) ∧ (IntKind.i64.wrap (Int.tdiv (f.bit + ((s10.2 : Nat) : Int)) 8)) < (((s10.1).length : Nat) : Int))) (grd (decide (0 ≤ (Int.tmod (f.bit + ((s10.2 : Nat) : Int)) 8))) (grd (decide (0 ≤ (IntKind.i64.wrap (Int.tdiv (f.bit + ((s10.2 : Nat) : Int)) 8)) ∧ (IntKind.i64.wrap (Int.tdiv (f.bit + ((s10.2 : Nat) : Int)) 8)) < (((s10.1).length : Nat) : Int))) (some (((List.set s10.1 ((IntKind.i64.wrap (Int.tdiv (f.bit + ((s10.2 : Nat) : Int)) 8))).toNat (u8 (lxorK .u8 ((List.getD s10.1 ((IntKind.i64.wrap (Int.tdiv (f.bit + ((s10.2 : Nat) : Int)) 8))).toNat 0).toNat : Int) (shlK .u8 1 (Int.tmod (f.bit + ((s10.2 : Nat) : Int)) 8))))) : List UInt8))))))) (some ((s10.1 : List UInt8)))) fun t16 => (grd (decide (((s10.2 : Nat) : Int) + 1 ≤ 9223372036854775807)) (some (Ctl.go ((t16 : List UInt8), (s10.2 + 1)))))) (some (Ctl.done ((s10.1 : List UInt8)))))
def o23 (p : List UInt8) (f : Fate) : Option ((List UInt8) × Bool) :=
  (cond (f.lost) (some ((([] : List UInt8), (false)))) (bindO (τ := (List UInt8)) (loopO (σ := (List UInt8) × Nat) (ρ := (List UInt8)) fuelN (o23_L0 p f) ((p : List UInt8), 0)) fun t5 => (some (((t5 : List UInt8), (true))))))
set_option maxRecDepth 100000 in
theorem c23 (g : Gh) (p : List UInt8) (Ap : Option Addr) (cp : Nat) (f : Fate) (fp : Arr g.r tyU8 Ap cp p) {r : (List UInt8) × Bool} (hS : o23 p f = some r) :
    Ctr Try.prog 23 [vs Ap p cp, Value.agg #[vb f.lost, vi f.bit, Value.int .u32 f.pattern]] g [] (fun v ψ o => ∃ (Ar_0 : Option Addr) (cr_0 : Nat) (kr_0 : Option Bk), v = Value.tuple #[vs Ar_0 r.1 cr_0, vb r.2] ∧ o = [kr_0] ∧ Buf ψ tyU8 5 (.slice Ar_0 (r.1).length cr_0) kr_0 r.1) := by
  unfold o23 at hS
  refine xFn Try.f23 (Try.f23.body.getD .skip) 59 ?_
  have nfp := fp.len
  refine xSq ?_
  refine xRg ?_
  refine xE eB ?_
  rintro _ _ _ - ⟨b1, rfl, rfl, rfl⟩
  refine xB 2 [] [(0, vs Ap p cp), (3, vp b1 0)] ?_
  refine xRe ?_
  refine wpq_then ?_
  refine xSq ?_
  refine xSq ?_
  refine xRg ?_
  refine xB 2 [(1, 0)] [(0, vs Ap p cp), (3, vp b1 0), (10, vb f.lost)] ?_
  refine xRe ?_
  refine wpq_then ?_
  refine xCd (f.lost) (fun h2 => ?_) (fun h2 => ?_)
  · have hS := cond_T h2 hS
    refine xSq ?_
    refine xRg ?_
    refine xB 2 [] [(4, Value.slice none 0 0), (5, vb false)] ?_
    refine xRe ?_
    refine wpq_then ?_
    have eS := (Option.some.inj hS).symm
    subst eS
    exact xRet [none] [4, 5] (Gh.le.refl _) ⟨none, 0, none, by kernel_rfl, by kernel_rfl, Buf.nil⟩ (fun _ _ h => h)
  · have hS := cond_F h2 hS
    refine xSk ?_
    refine wpq_then ?_
    refine xSub [(0, vs Ap p cp), (3, vp b1 0)] ?_
    refine xSq ?_
    refine xRg ?_
    refine xE (eBs (T := tyU8) (p := g.b) (et := 5) (xs := ([] : List UInt8)) reps_nil (by simp)) ?_
    rintro _ _ _ - ⟨A3, c3, k3, rfl, rfl, rfl, h3⟩
    refine xB 1 [] [(0, vs Ap p cp), (3, vp b1 0), (11, vs A3 ([] : List UInt8) c3), (12, vs Ap p cp)] ?_
    obtain ⟨nw4, hp4, hs4⟩ := fp.srcR
    refine xE (eApp (T := tyU8) (p := g.b) (et := 5) (bytes := 1) (xs := ([] : List UInt8)) (ys := (p : List UInt8)) 0 h3 rfl (fun w hs => hs4 w _ hs) (flatU8.reps hp4) (by first | omega | (simp only [List.length_cons, List.length_nil] at *; omega)) (by first | omega | (simp only [List.length_cons, List.length_nil] at *; omega))) ?_
    rintro _ _ _ - ⟨A4, c4, k4, rfl, rfl, rfl, h4⟩
    have h4 : Buf g.b tyU8 5 (.slice A4 ((p : List UInt8)).length c4) k4 (p : List UInt8) := h4
    have nh4 := h4.len
    refine xB 1 [] [(0, vs Ap p cp), (3, vp b1 0), (6, vs A4 p c4)] ?_
    refine xRe ?_
    refine wpq_then ?_
    refine xSq ?_
    refine xSq ?_
    refine xRg ?_
    refine xB 1 [] [(0, vs Ap p cp), (3, vp b1 0), (6, vs A4 p c4), (7, vi 0)] ?_
    refine xRe ?_
    refine wpq_then ?_
    refine xBindO hS (fun g own sl t5 => ∃ (k5_0 : Option Bk), own = [k5_0] ∧ sl = [(6, vs A4 t5 c4)] ∧ Buf g.b tyU8 5 (.slice A4 (t5).length c4) k5_0 t5) ?_ ?_
    · rintro g6 _ _ t5 e7 ⟨k5_0, rfl, rfl, h5_0⟩ hS
      have nh5_0 := h5_0.len
      refine wpq_then ?_
      refine xSq ?_
      refine xRg ?_
      refine xB 3 [] [(4, vs A4 t5 c4), (5, vb true)] ?_
      refine xRe ?_
      refine wpq_then ?_
      have eS := (Option.some.inj hS).symm
      subst eS
      exact xRet [some 0] [4, 5] e7 ⟨A4, c4, k5_0, by kernel_rfl, by kernel_rfl, h5_0⟩ (fun _ _ h => h)
    · intro uu5 hS hN5
      refine xBl 0 ?_
      refine xSel [some 1, some 0] ?_
      refine xSub [(0, vs Ap p cp), (3, vp b1 0), (6, vs A4 p c4), (7, vi 0)] ?_
      refine xLo hS (fun g own sl s10 => ∃ (k10_0 : Option Bk), own = [some ⟨b1, 51, [vb f.lost, vi f.bit, Value.int .u32 f.pattern]⟩, k10_0] ∧ sl = [(0, vs Ap p cp), (3, vp b1 0), (6, vs A4 s10.1 c4), (7, vi ((s10.2 : Nat) : Int))] ∧ Buf g.b tyU8 5 (.slice A4 (s10.1).length c4) k10_0 s10.1) ⟨k4, by kernel_rfl, by kernel_rfl, h4⟩ ?_
      rintro g11 _ _ s10 uu10 e12 ⟨k10_0, rfl, rfl, h10_0⟩ hS Qr10 hN10 hD10
      have nh10_0 := h10_0.len
      unfold o23_L0 at hS
      refine xSq ?_
      refine xSq ?_
      refine xRg ?_
      refine xB 2 [] [(0, vs Ap p cp), (3, vp b1 0), (6, vs A4 s10.1 c4), (7, vi ((s10.2 : Nat) : Int)), (15, vb (decide (((s10.2 : Nat) : Int) < 32)))] ?_
      refine xRe ?_
      refine wpq_then ?_
      refine xCd (decide (((s10.2 : Nat) : Int) < 32)) (fun h13 => ?_) (fun h13 => ?_)
      · have hS := cond_T h13 hS
        have h13p := of_decide_eq_true h13
        refine xSk ?_
        refine wpq_then ?_
        refine xSub [(0, vs Ap p cp), (3, vp b1 0), (6, vs A4 s10.1 c4), (7, vi ((s10.2 : Nat) : Int))] ?_
        refine xSq ?_
        refine xBl 1 ?_
        refine xSq ?_
        refine xRg ?_
        refine xB 3 [(1, 0)] [(0, vs Ap p cp), (3, vp b1 0), (6, vs A4 s10.1 c4), (7, vi ((s10.2 : Nat) : Int)), (19, Value.int .u32 f.pattern), (20, vi ((s10.2 : Nat) : Int))] ?_
        refine xV (qShr .u32 .i64 (f.pattern) (((s10.2 : Nat) : Int)) (by omega)) ?_
        refine xB 3 [] [(0, vs Ap p cp), (3, vp b1 0), (6, vs A4 s10.1 c4), (7, vi ((s10.2 : Nat) : Int)), (24, vb ((landK .u32 (shrK .u32 f.pattern ((s10.2 : Nat) : Int)) 1) == 1))] ?_
        refine wpr_grp 13 [(0, vs Ap p cp), (3, vp b1 0), (6, vs A4 s10.1 c4), (7, vi ((s10.2 : Nat) : Int)), (30, vb (((landK .u32 (shrK .u32 f.pattern ((s10.2 : Nat) : Int)) 1) == 1) && decide (f.bit ≥ (IntKind.i64.wrap (0 - ((s10.2 : Nat) : Int))))))] (fun hk6 => ?_) ?_
        · refine wpq_split 24 (b := ((landK .u32 (shrK .u32 f.pattern ((s10.2 : Nat) : Int)) 1) == 1)) (by kernel_rfl) (fun q14 => ?_) (fun q14 => ?_)
          · have q14p : (landK .u32 (shrK .u32 f.pattern ((s10.2 : Nat) : Int)) 1) = 1 := eq_of_beq q14
            refine xB 6 [(8, 0)] [(0, vs Ap p cp), (3, vp b1 0), (6, vs A4 s10.1 c4), (7, vi ((s10.2 : Nat) : Int)), (30, vb (decide (f.bit ≥ (IntKind.i64.wrap (0 - ((s10.2 : Nat) : Int))))))] ?_
            refine wpq_re 30 (v := vb (decide (f.bit ≥ (IntKind.i64.wrap (0 - ((s10.2 : Nat) : Int)))))) (Value.bool ((((landK .u32 (shrK .u32 f.pattern ((s10.2 : Nat) : Int)) 1) == 1) && decide (f.bit ≥ (IntKind.i64.wrap (0 - ((s10.2 : Nat) : Int))))))) (by kernel_rfl) (re_and1 q14) ?_
            exact wpq_sub _ (by kernel_rfl) hk6
          · have q14p : ¬ ((landK .u32 (shrK .u32 f.pattern ((s10.2 : Nat) : Int)) 1) = 1) := ne_of_beq_false_ q14
            refine xB 6 [] [(0, vs Ap p cp), (3, vp b1 0), (6, vs A4 s10.1 c4), (7, vi ((s10.2 : Nat) : Int)), (30, vb false)] ?_
            refine wpq_re 30 (v := vb false) (Value.bool ((((landK .u32 (shrK .u32 f.pattern ((s10.2 : Nat) : Int)) 1) == 1) && decide (f.bit ≥ (IntKind.i64.wrap (0 - ((s10.2 : Nat) : Int))))))) (by kernel_rfl) (re_and0 q14) ?_
            exact wpq_sub _ (by kernel_rfl) hk6
        · refine xB 1 [] [(0, vs Ap p cp), (3, vp b1 0), (6, vs A4 s10.1 c4), (7, vi ((s10.2 : Nat) : Int)), (31, vb (((landK .u32 (shrK .u32 f.pattern ((s10.2 : Nat) : Int)) 1) == 1) && decide (f.bit ≥ (IntKind.i64.wrap (0 - ((s10.2 : Nat) : Int))))))] ?_
          refine wpr_grp 23 [(0, vs Ap p cp), (3, vp b1 0), (6, vs A4 s10.1 c4), (7, vi ((s10.2 : Nat) : Int)), (40, vb ((((landK .u32 (shrK .u32 f.pattern ((s10.2 : Nat) : Int)) 1) == 1) && decide (f.bit ≥ (IntKind.i64.wrap (0 - ((s10.2 : Nat) : Int))))) && decide (f.bit < (IntKind.i64.wrap ((8 * (((p).length : Nat) : Int)) - ((s10.2 : Nat) : Int))))))] (fun hk13 => ?_) ?_
          · refine wpq_split 31 (b := (((landK .u32 (shrK .u32 f.pattern ((s10.2 : Nat) : Int)) 1) == 1) && decide (f.bit ≥ (IntKind.i64.wrap (0 - ((s10.2 : Nat) : Int)))))) (by kernel_rfl) (fun q15 => ?_) (fun q15 => ?_)
            · have q15l := (and_true_ q15).1
              have q15r := (and_true_ q15).2
              have q15lp : (landK .u32 (shrK .u32 f.pattern ((s10.2 : Nat) : Int)) 1) = 1 := eq_of_beq q15l
              have q15rp := of_decide_eq_true q15r
              refine xB 4 [(15, 0)] [(0, vs Ap p cp), (3, vp b1 0), (6, vs A4 s10.1 c4), (7, vi ((s10.2 : Nat) : Int)), (31, vb true), (33, vi f.bit), (35, vi (((p).length : Nat) : Int))] ?_
              refine xV (qMul .i64 (8) ((((p).length : Nat) : Int)) (wr64 (by omega))) ?_
              have z68 := i64_in_ ((8 * (((p).length : Nat) : Int)) - ((s10.2 : Nat) : Int))
              refine xB 4 [] [(0, vs Ap p cp), (3, vp b1 0), (6, vs A4 s10.1 c4), (7, vi ((s10.2 : Nat) : Int)), (40, vb (decide (f.bit < (IntKind.i64.wrap ((8 * (((p).length : Nat) : Int)) - ((s10.2 : Nat) : Int))))))] ?_
              refine wpq_re 40 (v := vb (decide (f.bit < (IntKind.i64.wrap ((8 * (((p).length : Nat) : Int)) - ((s10.2 : Nat) : Int)))))) (Value.bool (((((landK .u32 (shrK .u32 f.pattern ((s10.2 : Nat) : Int)) 1) == 1) && decide (f.bit ≥ (IntKind.i64.wrap (0 - ((s10.2 : Nat) : Int))))) && decide (f.bit < (IntKind.i64.wrap ((8 * (((p).length : Nat) : Int)) - ((s10.2 : Nat) : Int))))))) (by kernel_rfl) (re_and1 q15) ?_
              exact wpq_sub _ (by kernel_rfl) hk13
            · refine xB 9 [] [(0, vs Ap p cp), (3, vp b1 0), (6, vs A4 s10.1 c4), (7, vi ((s10.2 : Nat) : Int)), (40, vb false)] ?_
              refine wpq_re 40 (v := vb false) (Value.bool (((((landK .u32 (shrK .u32 f.pattern ((s10.2 : Nat) : Int)) 1) == 1) && decide (f.bit ≥ (IntKind.i64.wrap (0 - ((s10.2 : Nat) : Int))))) && decide (f.bit < (IntKind.i64.wrap ((8 * (((p).length : Nat) : Int)) - ((s10.2 : Nat) : Int))))))) (by kernel_rfl) (re_and0 q15) ?_
              exact wpq_sub _ (by kernel_rfl) hk13
          · refine xRe ?_
            refine wpq_then ?_
            refine xBindO hS (fun g own sl t16 => ∃ (k16_0 : Option Bk), own = [some ⟨b1, 51, [vb f.lost, vi f.bit, Value.int .u32 f.pattern]⟩, k16_0] ∧ sl = [(0, vs Ap p cp), (3, vp b1 0), (6, vs A4 t16 c4), (7, vi ((s10.2 : Nat) : Int))] ∧ Buf g.b tyU8 5 (.slice A4 (t16).length c4) k16_0 t16) ?_ ?_
            · rintro g17 _ _ t16 e18 ⟨k16_0, rfl, rfl, h16_0⟩ hS
              have nh16_0 := h16_0.len
              refine wpq_blockN ?_
              refine wpq_then ?_
              refine xRg ?_
              obtain ⟨q19, hS⟩ := grd_T hS
              have q19p := of_decide_eq_true q19
              refine xB 1 [] [(0, vs Ap p cp), (3, vp b1 0), (6, vs A4 t16 c4), (7, vi ((s10.2 : Nat) : Int)), (16, vi ((s10.2 : Nat) : Int))] ?_
              refine xV (qAdd .i64 (((s10.2 : Nat) : Int)) (1) (wr64 (by omega))) ?_
              refine xB 1 [] [(0, vs Ap p cp), (3, vp b1 0), (6, vs A4 t16 c4), (7, vi (((s10.2 : Nat) : Int) + 1))] ?_
              refine xRe ?_
              refine wpq_thenN ?_
              refine xSub [(0, vs Ap p cp), (3, vp b1 0), (6, vs A4 t16 c4), (7, vi (((s10.2 : Nat) : Int) + 1))] ?_
              have eS := (Option.some.inj hS).symm
              exact hN10 _ eS _ _ _ e18 ⟨k16_0, by kernel_rfl, by kernel_rfl, h16_0⟩
            · intro uu16 hS hN16
              refine xCd (((((landK .u32 (shrK .u32 f.pattern ((s10.2 : Nat) : Int)) 1) == 1) && decide (f.bit ≥ (IntKind.i64.wrap (0 - ((s10.2 : Nat) : Int))))) && decide (f.bit < (IntKind.i64.wrap ((8 * (((p).length : Nat) : Int)) - ((s10.2 : Nat) : Int)))))) (fun h20 => ?_) (fun h20 => ?_)
              · have hS := cond_T h20 hS
                have h20l := (and_true_ h20).1
                have h20r := (and_true_ h20).2
                have h20ll := (and_true_ h20l).1
                have h20lr := (and_true_ h20l).2
                have h20llp : (landK .u32 (shrK .u32 f.pattern ((s10.2 : Nat) : Int)) 1) = 1 := eq_of_beq h20ll
                have h20lrp := of_decide_eq_true h20lr
                have h20rp := of_decide_eq_true h20r
                refine xSq ?_
                refine xRg ?_
                obtain ⟨q21, hS⟩ := grd_T hS
                have q21p := of_decide_eq_true q21
                refine xB 3 [(1, 0)] [(0, vs Ap p cp), (3, vp b1 0), (6, vs A4 s10.1 c4), (7, vi ((s10.2 : Nat) : Int)), (42, vi f.bit), (43, vi ((s10.2 : Nat) : Int))] ?_
                refine xV (qAdd .i64 (f.bit) (((s10.2 : Nat) : Int)) (wr64 (by omega))) ?_
                refine xB 1 [] [(0, vs Ap p cp), (3, vp b1 0), (6, vs A4 s10.1 c4), (7, vi ((s10.2 : Nat) : Int)), (8, vi (f.bit + ((s10.2 : Nat) : Int)))] ?_
                refine xRe ?_
                refine wpq_then ?_
                refine xDr 0 [7] [13, 11, 12] [some ⟨b1, 51, [vb f.lost, vi f.bit, Value.int .u32 f.pattern]⟩, k10_0] 14 (fun RG => ?_) (fun _ _ _ _ _ h => h)
                have z71 := i64_in_ (Int.tdiv (f.bit + ((s10.2 : Nat) : Int)) 8)
                refine xT 12 [0, 1] [] [some 0, some 1] [(0, vs Ap p cp), (3, vp b1 0), (6, vs A4 s10.1 c4), (7, vi ((s10.2 : Nat) : Int)), (8, vi (f.bit + ((s10.2 : Nat) : Int))), (45, vs A4 s10.1 c4), (46, vi (f.bit + ((s10.2 : Nat) : Int)))] RG (Psi.le.refl _) ?_
                refine xTp 2 RG (fun _ => (qQuo .i64 ((f.bit + ((s10.2 : Nat) : Int))) (8) _ (by omega) rfl)) ?_
                have z72 := i64_in_ (Int.tdiv (f.bit + ((s10.2 : Nat) : Int)) 8)
                refine xT 9 [3, 4] [] [some 0, some 1] [(0, vs Ap p cp), (3, vp b1 0), (6, vs A4 s10.1 c4), (7, vi ((s10.2 : Nat) : Int)), (8, vi (f.bit + ((s10.2 : Nat) : Int))), (45, vs A4 s10.1 c4), (47, vi (IntKind.i64.wrap (Int.tdiv (f.bit + ((s10.2 : Nat) : Int)) 8))), (48, vs A4 s10.1 c4), (49, vi (f.bit + ((s10.2 : Nat) : Int)))] RG (Psi.le.refl _) ?_
                refine xTp 5 RG (fun _ => (qQuo .i64 ((f.bit + ((s10.2 : Nat) : Int))) (8) _ (by omega) rfl)) ?_
                obtain ⟨q23, hS⟩ := grd_T hS
                have q23p := of_decide_eq_true q23
                have i24 : ((IntKind.i64.wrap (Int.tdiv (f.bit + ((s10.2 : Nat) : Int)) 8))).toNat < (s10.1).length := by omega
                obtain ⟨kc22, cs22, hA22, hk22, hr22, hw22⟩ := h10_0.open_ i24 0
                obtain ⟨kb22, rfl⟩ : ∃ z, z = kc22 := ⟨_, rfl⟩
                subst hk22
                have hr22 : cs22 = [vy ((List.getD s10.1 ((IntKind.i64.wrap (Int.tdiv (f.bit + ((s10.2 : Nat) : Int)) 8))).toNat 0).toNat : Int)] := hr22
                subst hr22
                have nb22 := UInt8.toNat_lt (List.getD s10.1 ((IntKind.i64.wrap (Int.tdiv (f.bit + ((s10.2 : Nat) : Int)) 8))).toNat 0)
                refine xTp 6 RG (fun _ => (qIxB ((IntKind.i64.wrap (Int.tdiv (f.bit + ((s10.2 : Nat) : Int)) 8))).toNat 1 kb22.g hA22 (show ((IntKind.i64.wrap (Int.tdiv (f.bit + ((s10.2 : Nat) : Int)) 8)) : Int) = _ from by omega) i24)) ?_
                refine xTv 7 [some 0, some 1] RG (Psi.le.refl _) (qLdB ((IntKind.i64.wrap (Int.tdiv (f.bit + ((s10.2 : Nat) : Int)) 8))).toNat 1 0 1 hw22) ?_
                refine xT 5 [8] [] [some 0, some 1] [(0, vs Ap p cp), (3, vp b1 0), (6, vs A4 s10.1 c4), (7, vi ((s10.2 : Nat) : Int)), (45, vs A4 s10.1 c4), (47, vi (IntKind.i64.wrap (Int.tdiv (f.bit + ((s10.2 : Nat) : Int)) 8))), (52, vy ((List.getD s10.1 ((IntKind.i64.wrap (Int.tdiv (f.bit + ((s10.2 : Nat) : Int)) 8))).toNat 0).toNat : Int)), (53, vi (f.bit + ((s10.2 : Nat) : Int)))] RG (Psi.le.refl _) ?_
                refine xTp 9 RG (fun _ => (qRem .i64 ((f.bit + ((s10.2 : Nat) : Int))) (8) _ (by omega) rfl)) ?_
                obtain ⟨q25, hS⟩ := grd_T hS
                have q25p := of_decide_eq_true q25
                refine xTp 10 RG (fun _ => (qShl .u8 .i64 (1) ((Int.tmod (f.bit + ((s10.2 : Nat) : Int)) 8)) (by omega))) ?_
                obtain ⟨q27, hS⟩ := grd_T hS
                have q27p := of_decide_eq_true q27
                have i28 : ((IntKind.i64.wrap (Int.tdiv (f.bit + ((s10.2 : Nat) : Int)) 8))).toNat < (s10.1).length := by omega
                obtain ⟨kc26, cs26, hA26, hk26, hr26, hw26⟩ := h10_0.open_ i28 0
                cases hk26
                have hr26 : cs26 = [vy ((List.getD s10.1 ((IntKind.i64.wrap (Int.tdiv (f.bit + ((s10.2 : Nat) : Int)) 8))).toNat 0).toNat : Int)] := hr26
                subst hr26
                have nb26 := UInt8.toNat_lt (List.getD s10.1 ((IntKind.i64.wrap (Int.tdiv (f.bit + ((s10.2 : Nat) : Int)) 8))).toNat 0)
                refine xT 2 [11] [] [some 0, some 1] [(0, vs Ap p cp), (3, vp b1 0), (6, vs A4 s10.1 c4), (7, vi ((s10.2 : Nat) : Int)), (45, vs A4 s10.1 c4), (47, vi (IntKind.i64.wrap (Int.tdiv (f.bit + ((s10.2 : Nat) : Int)) 8))), (56, vy (lxorK .u8 ((List.getD s10.1 ((IntKind.i64.wrap (Int.tdiv (f.bit + ((s10.2 : Nat) : Int)) 8))).toNat 0).toNat : Int) (shlK .u8 1 (Int.tmod (f.bit + ((s10.2 : Nat) : Int)) 8))))] RG (Psi.le.refl _) ?_
                refine xTp 12 RG (fun _ => (qIxB ((IntKind.i64.wrap (Int.tdiv (f.bit + ((s10.2 : Nat) : Int)) 8))).toNat 1 kb22.g hA26 (show ((IntKind.i64.wrap (Int.tdiv (f.bit + ((s10.2 : Nat) : Int)) 8)) : Int) = _ from by omega) i28)) ?_
                refine xO1 (lds := [7]) 13 ?_
                refine xId (lds := [7]) (Psi.le.refl _) (eStB ((IntKind.i64.wrap (Int.tdiv (f.bit + ((s10.2 : Nat) : Int)) 8))).toNat 1 0 1 [vy (lxorK .u8 ((List.getD s10.1 ((IntKind.i64.wrap (Int.tdiv (f.bit + ((s10.2 : Nat) : Int)) 8))).toNat 0).toNat : Int) (shlK .u8 1 (Int.tmod (f.bit + ((s10.2 : Nat) : Int)) 8)))] h10_0 rfl hw26 (u8_rep (lxorU8 _ _)) i28) ?_
                rintro _ _ _ - ⟨k29, rfl, rfl, h29⟩
                refine kf ?_
                have hz29 : (s10.1).length = ((List.set s10.1 ((IntKind.i64.wrap (Int.tdiv (f.bit + ((s10.2 : Nat) : Int)) 8))).toNat (u8 (lxorK .u8 ((List.getD s10.1 ((IntKind.i64.wrap (Int.tdiv (f.bit + ((s10.2 : Nat) : Int)) 8))).toNat 0).toNat : Int) (shlK .u8 1 (Int.tmod (f.bit + ((s10.2 : Nat) : Int)) 8)))))).length := by simp
                refine xAe (lds := [7]) ?_
                refine wpq_re 6 (v := Value.slice A4 ((s10.1).length) c4) (vs A4 (List.set s10.1 ((IntKind.i64.wrap (Int.tdiv (f.bit + ((s10.2 : Nat) : Int)) 8))).toNat (u8 (lxorK .u8 ((List.getD s10.1 ((IntKind.i64.wrap (Int.tdiv (f.bit + ((s10.2 : Nat) : Int)) 8))).toNat 0).toNat : Int) (shlK .u8 1 (Int.tmod (f.bit + ((s10.2 : Nat) : Int)) 8))))) c4) (by kernel_rfl) (congrArg (fun z => Value.slice A4 z c4) hz29) ?_
                have h29 := Buf.re h29 hz29 (rfl : (List.set s10.1 ((IntKind.i64.wrap (Int.tdiv (f.bit + ((s10.2 : Nat) : Int)) 8))).toNat (u8 (lxorK .u8 ((List.getD s10.1 ((IntKind.i64.wrap (Int.tdiv (f.bit + ((s10.2 : Nat) : Int)) 8))).toNat 0).toNat : Int) (shlK .u8 1 (Int.tmod (f.bit + ((s10.2 : Nat) : Int)) 8))))) = _)
                refine wpq_re 45 (v := Value.slice A4 ((s10.1).length) c4) (vs A4 (List.set s10.1 ((IntKind.i64.wrap (Int.tdiv (f.bit + ((s10.2 : Nat) : Int)) 8))).toNat (u8 (lxorK .u8 ((List.getD s10.1 ((IntKind.i64.wrap (Int.tdiv (f.bit + ((s10.2 : Nat) : Int)) 8))).toNat 0).toNat : Int) (shlK .u8 1 (Int.tmod (f.bit + ((s10.2 : Nat) : Int)) 8))))) c4) (by kernel_rfl) (congrArg (fun z => Value.slice A4 z c4) hz29) ?_
                refine xSub [(0, vs Ap p cp), (3, vp b1 0), (6, vs A4 (List.set s10.1 ((IntKind.i64.wrap (Int.tdiv (f.bit + ((s10.2 : Nat) : Int)) 8))).toNat (u8 (lxorK .u8 ((List.getD s10.1 ((IntKind.i64.wrap (Int.tdiv (f.bit + ((s10.2 : Nat) : Int)) 8))).toNat 0).toNat : Int) (shlK .u8 1 (Int.tmod (f.bit + ((s10.2 : Nat) : Int)) 8))))) c4), (7, vi ((s10.2 : Nat) : Int))] ?_
                have eS := (Option.some.inj hS).symm
                exact hN16 _ eS _ _ _ (Gh.le.refl _) ⟨k29, by kernel_rfl, by kernel_rfl, h29⟩
              · have hS := cond_F h20 hS
                refine xSk ?_
                refine xSub [(0, vs Ap p cp), (3, vp b1 0), (6, vs A4 s10.1 c4), (7, vi ((s10.2 : Nat) : Int))] ?_
                have eS := (Option.some.inj hS).symm
                exact hN16 _ eS _ _ _ (Gh.le.refl _) ⟨k10_0, by kernel_rfl, by kernel_rfl, h10_0⟩
      · have hS := cond_F h13 hS
        have h13p := of_decide_eq_false h13
        refine xEx 0 ?_
        refine wpq_thenX ?_
        refine wpq_thenX ?_
        refine wpq_blockE ?_
        refine xSel [some 1] ?_
        refine xSub [(6, vs A4 s10.1 c4)] ?_
        have eS := (Option.some.inj hS).symm
        have eS := (hD10 _ eS).symm
        exact hN5 _ eS _ _ _ e12 ⟨k10_0, by kernel_rfl, by kernel_rfl, h10_0⟩

def o6_L0 (y7 : (List UInt8) × Bool) (s22 : (List UInt8) × Nat) : Option (Ctl ((List UInt8) × Nat) (Unit)) :=
  (cond (decide (((s22.2 : Nat) : Int) < (((y7.1).length : Nat) : Int))) (grd (decide (s22.2 < (s22.1).length)) (grd (decide (s22.2 < (s22.1).length)) (grd (decide (((s22.2 : Nat) : Int) + 1 ≤ 9223372036854775807)) (some (Ctl.go (((List.set s22.1 s22.2 (u8 (IntKind.u8.wrap (((List.getD s22.1 s22.2 0).toNat : Int) + 1)))) : List UInt8), (s22.2 + 1))))))) (some (Ctl.done (()))))
def o6 (p : List UInt8) (f : Fate) : Option (Bool) :=
  (bindO (τ := Bool) (o12) fun y2 => (cond ((!y2)) (some ((false))) (bindO (τ := (List UInt8) × Bool) (o22 ((List.take ((minI (((p).length : Nat) : Int) 100)).toNat p) : List UInt8) f) fun y7 => (bindO (τ := (List UInt8) × Bool) (o23 ((List.take ((minI (((p).length : Nat) : Int) 100)).toNat p) : List UInt8) f) fun y10 => (cond ((((!(y7.1 == y10.1)) || (!(y7.2 == y10.2))) || (y7.2 && ((((y7.1).length : Nat) : Int) != ((((List.take ((minI (((p).length : Nat) : Int) 100)).toNat p)).length : Nat) : Int))))) (some ((false))) (bindO (τ := Unit) (loopO (σ := (List UInt8) × Nat) (ρ := Unit) fuelN (o6_L0 y7) ((y7.1 : List UInt8), 0)) fun t17 => (some ((((List.take ((minI (((p).length : Nat) : Int) 100)).toNat p) == (List.take ((minI (((p).length : Nat) : Int) 100)).toNat p)))))))))))
set_option maxRecDepth 100000 in
theorem c6 (g : Gh) (p : List UInt8) (Ap : Option Addr) (cp : Nat) (f : Fate) (fp : Arr g.r tyU8 Ap cp p) {r : Bool} (hS : o6 p f = some r) :
    Ctr Try.prog 6 [vs Ap p cp, Value.agg #[vb f.lost, vi f.bit, Value.int .u32 f.pattern]] g [] (fun v ψ o => v = vb r ∧ o = []) := by
  unfold o6 at hS
  refine xFn Try.f6 (Try.f6.body.getD .skip) 68 ?_
  have nfp := fp.len
  refine xSq ?_
  refine xRg ?_
  refine xE eB ?_
  rintro _ _ _ - ⟨b1, rfl, rfl, rfl⟩
  refine xB 1 [] [(0, vs Ap p cp), (3, vp b1 0)] ?_
  refine xRe ?_
  refine wpq_then ?_
  refine xSq ?_
  refine xSq ?_
  refine xRg ?_
  obtain ⟨y2, hy2, hS⟩ := bindO_T hS
  refine xE (eC 0 (fun g' lr eb ln => c12 g'  hy2)) ?_
  rintro _ g3 _ e4 ⟨_, rfl, rfl, rfl⟩
  refine xB 1 [] [(0, vs Ap p cp), (3, vp b1 0), (12, vb (!y2))] ?_
  refine xRe ?_
  refine wpq_then ?_
  refine xCd ((!y2)) (fun h5 => ?_) (fun h5 => ?_)
  · have hS := cond_T h5 hS
    have h5n := not_eq_true_ h5
    refine xSq ?_
    refine xRg ?_
    refine xB 1 [] [(4, vb false)] ?_
    refine xRe ?_
    refine wpq_then ?_
    have eS := (Option.some.inj hS).symm
    subst eS
    exact xRet [] [4] e4 ⟨by kernel_rfl, by kernel_rfl⟩ (fun _ _ h => h)
  · have hS := cond_F h5 hS
    have h5n := not_eq_false_ h5
    refine xSk ?_
    refine wpq_then ?_
    refine xSub [(0, vs Ap p cp), (3, vp b1 0)] ?_
    refine xSq ?_
    refine xRg ?_
    have z1 := minI_spec (((p).length : Nat) : Int) 100
    have fp := fp.mono e4.r
    have ncapf6 := fp.cap
    have f6 : Arr g3.r tyU8 (offA Ap cp 0 1) (cp - 0) (List.take ((minI (((p).length : Nat) : Int) 100)).toNat p) := fp.cut_to ((minI (((p).length : Nat) : Int) 100)).toNat (by omega)
    have nf6 := f6.len
    have hlf6 : ((minI (((p).length : Nat) : Int) 100)).toNat - 0 = ((List.take ((minI (((p).length : Nat) : Int) 100)).toNat p)).length := by simp only [List.length_take, List.length_drop] <;> omega
    have hvf6 : ((((List.take ((minI (((p).length : Nat) : Int) 100)).toNat p)).length : Nat) : Int) = (minI (((p).length : Nat) : Int) 100) - 0 := by omega
    refine xB 4 [] [(0, vs Ap p cp), (3, vp b1 0), (13, vs Ap p cp), (16, vi (minI (((p).length : Nat) : Int) 100))] ?_
    refine xV (qSl (m := 1) (A := Ap) (len := (p).length) (c := cp) 0 ((minI (((p).length : Nat) : Int) 100)).toNat none (some (minI (((p).length : Nat) : Int) 100)) ((List.take ((minI (((p).length : Nat) : Int) 100)).toNat p)).length rfl (show _ = _ by omega) (by omega) (by omega) hlf6) ?_
    refine xB 1 [] [(0, vs (offA Ap cp 0 1) (List.take ((minI (((p).length : Nat) : Int) 100)).toNat p) (cp - 0)), (3, vp b1 0)] ?_
    refine xRe ?_
    refine wpq_then ?_
    refine xSq ?_
    refine xRg ?_
    refine xB 1 [] [(0, vs (offA Ap cp 0 1) (List.take ((minI (((p).length : Nat) : Int) 100)).toNat p) (cp - 0)), (3, vp b1 0), (18, vs (offA Ap cp 0 1) (List.take ((minI (((p).length : Nat) : Int) 100)).toNat p) (cp - 0))] ?_
    refine xV (qStr f6) ?_
    refine xB 1 [] [(0, vs (offA Ap cp 0 1) (List.take ((minI (((p).length : Nat) : Int) 100)).toNat p) (cp - 0)), (3, vp b1 0), (5, vt (List.take ((minI (((p).length : Nat) : Int) 100)).toNat p))] ?_
    refine xRe ?_
    refine wpq_then ?_
    refine xSq ?_
    refine xRg ?_
    refine xB 2 [(1, 0)] [(0, vs (offA Ap cp 0 1) (List.take ((minI (((p).length : Nat) : Int) 100)).toNat p) (cp - 0)), (3, vp b1 0), (5, vt (List.take ((minI (((p).length : Nat) : Int) 100)).toNat p)), (21, vs (offA Ap cp 0 1) (List.take ((minI (((p).length : Nat) : Int) 100)).toNat p) (cp - 0)), (22, Value.agg #[vb f.lost, vi f.bit, Value.int .u32 f.pattern])] ?_
    obtain ⟨y7, hy7, hS⟩ := bindO_T hS
    refine xE (eC 0 (fun g' lr eb ln => c22 g' ((List.take ((minI (((p).length : Nat) : Int) 100)).toNat p) : List UInt8) (offA Ap cp 0 1) (cp - 0) f (f6.mono lr) hy7)) ?_
    rintro _ g8 _ e9 ⟨_, rfl, A7_0, c7_0, k7_0, rfl, rfl, h7_0⟩
    have nh7_0 := h7_0.len
    refine xB 5 [] [(0, vs (offA Ap cp 0 1) (List.take ((minI (((p).length : Nat) : Int) 100)).toNat p) (cp - 0)), (3, vp b1 0), (5, vt (List.take ((minI (((p).length : Nat) : Int) 100)).toNat p)), (6, vs A7_0 y7.1 c7_0), (7, vb y7.2)] ?_
    refine xRe ?_
    refine wpq_then ?_
    refine xSq ?_
    refine xRg ?_
    refine xB 2 [(1, 1)] [(0, vs (offA Ap cp 0 1) (List.take ((minI (((p).length : Nat) : Int) 100)).toNat p) (cp - 0)), (5, vt (List.take ((minI (((p).length : Nat) : Int) 100)).toNat p)), (6, vs A7_0 y7.1 c7_0), (7, vb y7.2), (27, vs (offA Ap cp 0 1) (List.take ((minI (((p).length : Nat) : Int) 100)).toNat p) (cp - 0)), (28, Value.agg #[vb f.lost, vi f.bit, Value.int .u32 f.pattern])] ?_
    have f6 := f6.mono e9.r
    obtain ⟨y10, hy10, hS⟩ := bindO_T hS
    refine xE (eC 0 (fun g' lr eb ln => c23 g' ((List.take ((minI (((p).length : Nat) : Int) 100)).toNat p) : List UInt8) (offA Ap cp 0 1) (cp - 0) f (f6.mono lr) hy10)) ?_
    rintro _ g11 _ e12 ⟨_, rfl, A10_0, c10_0, k10_0, rfl, rfl, h10_0⟩
    have nh10_0 := h10_0.len
    refine xB 5 [] [(0, vs (offA Ap cp 0 1) (List.take ((minI (((p).length : Nat) : Int) 100)).toNat p) (cp - 0)), (5, vt (List.take ((minI (((p).length : Nat) : Int) 100)).toNat p)), (6, vs A7_0 y7.1 c7_0), (7, vb y7.2), (8, vs A10_0 y10.1 c10_0), (9, vb y10.2)] ?_
    refine xRe ?_
    refine wpq_then ?_
    refine xSq ?_
    refine xSq ?_
    refine xRg ?_
    have h7_0 := h7_0.mono e12.b
    refine xB 1 [] [(0, vs (offA Ap cp 0 1) (List.take ((minI (((p).length : Nat) : Int) 100)).toNat p) (cp - 0)), (5, vt (List.take ((minI (((p).length : Nat) : Int) 100)).toNat p)), (6, vs A7_0 y7.1 c7_0), (7, vb y7.2), (8, vs A10_0 y10.1 c10_0), (9, vb y10.2), (32, vs A7_0 y7.1 c7_0)] ?_
    refine xV (qStrB 1 h7_0) ?_
    refine xB 1 [] [(0, vs (offA Ap cp 0 1) (List.take ((minI (((p).length : Nat) : Int) 100)).toNat p) (cp - 0)), (5, vt (List.take ((minI (((p).length : Nat) : Int) 100)).toNat p)), (6, vs A7_0 y7.1 c7_0), (7, vb y7.2), (9, vb y10.2), (33, vt y7.1), (34, vs A10_0 y10.1 c10_0)] ?_
    refine xV (qStrB 0 h10_0) ?_
    refine xV (qNeS (y7.1) (y10.1)) ?_
    refine xB 1 [] [(0, vs (offA Ap cp 0 1) (List.take ((minI (((p).length : Nat) : Int) 100)).toNat p) (cp - 0)), (5, vt (List.take ((minI (((p).length : Nat) : Int) 100)).toNat p)), (6, vs A7_0 y7.1 c7_0), (7, vb y7.2), (9, vb y10.2), (37, vb (!(y7.1 == y10.1)))] ?_
    refine wpr_grp 10 [(0, vs (offA Ap cp 0 1) (List.take ((minI (((p).length : Nat) : Int) 100)).toNat p) (cp - 0)), (5, vt (List.take ((minI (((p).length : Nat) : Int) 100)).toNat p)), (6, vs A7_0 y7.1 c7_0), (7, vb y7.2), (41, vb ((!(y7.1 == y10.1)) || (!(y7.2 == y10.2))))] (fun hk5 => ?_) ?_
    · refine wpq_split 37 (b := (!(y7.1 == y10.1))) (by kernel_rfl) (fun q13 => ?_) (fun q13 => ?_)
      · have q13n := not_eq_true_ q13
        have q13np : ¬ (y7.1 = y10.1) := ne_of_beq_false_ q13n
        refine xB 4 [] [(0, vs (offA Ap cp 0 1) (List.take ((minI (((p).length : Nat) : Int) 100)).toNat p) (cp - 0)), (5, vt (List.take ((minI (((p).length : Nat) : Int) 100)).toNat p)), (6, vs A7_0 y7.1 c7_0), (7, vb y7.2), (41, vb true)] ?_
        refine wpq_re 41 (v := vb true) (Value.bool (((!(y7.1 == y10.1)) || (!(y7.2 == y10.2))))) (by kernel_rfl) (re_or1 q13) ?_
        exact wpq_sub _ (by kernel_rfl) hk5
      · have q13n := not_eq_false_ q13
        have q13np : y7.1 = y10.1 := eq_of_beq q13n
        refine xB 4 [] [(0, vs (offA Ap cp 0 1) (List.take ((minI (((p).length : Nat) : Int) 100)).toNat p) (cp - 0)), (5, vt (List.take ((minI (((p).length : Nat) : Int) 100)).toNat p)), (6, vs A7_0 y7.1 c7_0), (7, vb y7.2), (41, vb (!(y7.2 == y10.2)))] ?_
        refine wpq_re 41 (v := vb (!(y7.2 == y10.2))) (Value.bool (((!(y7.1 == y10.1)) || (!(y7.2 == y10.2))))) (by kernel_rfl) (re_or0 q13) ?_
        exact wpq_sub _ (by kernel_rfl) hk5
    · refine xB 1 [] [(0, vs (offA Ap cp 0 1) (List.take ((minI (((p).length : Nat) : Int) 100)).toNat p) (cp - 0)), (5, vt (List.take ((minI (((p).length : Nat) : Int) 100)).toNat p)), (6, vs A7_0 y7.1 c7_0), (7, vb y7.2), (42, vb ((!(y7.1 == y10.1)) || (!(y7.2 == y10.2))))] ?_
      refine wpr_grp 20 [(0, vs (offA Ap cp 0 1) (List.take ((minI (((p).length : Nat) : Int) 100)).toNat p) (cp - 0)), (5, vt (List.take ((minI (((p).length : Nat) : Int) 100)).toNat p)), (6, vs A7_0 y7.1 c7_0), (51, vb (((!(y7.1 == y10.1)) || (!(y7.2 == y10.2))) || (y7.2 && ((((y7.1).length : Nat) : Int) != ((((List.take ((minI (((p).length : Nat) : Int) 100)).toNat p)).length : Nat) : Int)))))] (fun hk10 => ?_) ?_
      · refine wpq_split 42 (b := ((!(y7.1 == y10.1)) || (!(y7.2 == y10.2)))) (by kernel_rfl) (fun q14 => ?_) (fun q14 => ?_)
        · refine xB 9 [] [(0, vs (offA Ap cp 0 1) (List.take ((minI (((p).length : Nat) : Int) 100)).toNat p) (cp - 0)), (5, vt (List.take ((minI (((p).length : Nat) : Int) 100)).toNat p)), (6, vs A7_0 y7.1 c7_0), (51, vb true)] ?_
          refine wpq_re 51 (v := vb true) (Value.bool ((((!(y7.1 == y10.1)) || (!(y7.2 == y10.2))) || (y7.2 && ((((y7.1).length : Nat) : Int) != ((((List.take ((minI (((p).length : Nat) : Int) 100)).toNat p)).length : Nat) : Int)))))) (by kernel_rfl) (re_or1 q14) ?_
          exact wpq_sub _ (by kernel_rfl) hk10
        · have q14l := (or_false_ q14).1
          have q14r := (or_false_ q14).2
          have q14ln := not_eq_false_ q14l
          have q14lnp : y7.1 = y10.1 := eq_of_beq q14ln
          have q14rn := not_eq_false_ q14r
          have q14rnp : y7.2 = y10.2 := eq_of_beq q14rn
          refine xB 2 [] [(0, vs (offA Ap cp 0 1) (List.take ((minI (((p).length : Nat) : Int) 100)).toNat p) (cp - 0)), (5, vt (List.take ((minI (((p).length : Nat) : Int) 100)).toNat p)), (6, vs A7_0 y7.1 c7_0), (42, vb false), (44, vb y7.2)] ?_
          refine wpr_grp 19 [(0, vs (offA Ap cp 0 1) (List.take ((minI (((p).length : Nat) : Int) 100)).toNat p) (cp - 0)), (5, vt (List.take ((minI (((p).length : Nat) : Int) 100)).toNat p)), (6, vs A7_0 y7.1 c7_0), (42, vb false), (50, vb (y7.2 && ((((y7.1).length : Nat) : Int) != ((((List.take ((minI (((p).length : Nat) : Int) 100)).toNat p)).length : Nat) : Int))))] (fun hk12 => ?_) ?_
          · refine wpq_split 44 (b := y7.2) (by kernel_rfl) (fun q15 => ?_) (fun q15 => ?_)
            · refine xB 6 [] [(0, vs (offA Ap cp 0 1) (List.take ((minI (((p).length : Nat) : Int) 100)).toNat p) (cp - 0)), (5, vt (List.take ((minI (((p).length : Nat) : Int) 100)).toNat p)), (6, vs A7_0 y7.1 c7_0), (42, vb false), (50, vb ((((y7.1).length : Nat) : Int) != ((((List.take ((minI (((p).length : Nat) : Int) 100)).toNat p)).length : Nat) : Int)))] ?_
              refine wpq_re 50 (v := vb ((((y7.1).length : Nat) : Int) != ((((List.take ((minI (((p).length : Nat) : Int) 100)).toNat p)).length : Nat) : Int))) (Value.bool ((y7.2 && ((((y7.1).length : Nat) : Int) != ((((List.take ((minI (((p).length : Nat) : Int) 100)).toNat p)).length : Nat) : Int))))) (by kernel_rfl) (re_and1 q15) ?_
              exact wpq_sub _ (by kernel_rfl) hk12
            · refine xB 6 [] [(0, vs (offA Ap cp 0 1) (List.take ((minI (((p).length : Nat) : Int) 100)).toNat p) (cp - 0)), (5, vt (List.take ((minI (((p).length : Nat) : Int) 100)).toNat p)), (6, vs A7_0 y7.1 c7_0), (42, vb false), (50, vb false)] ?_
              refine wpq_re 50 (v := vb false) (Value.bool ((y7.2 && ((((y7.1).length : Nat) : Int) != ((((List.take ((minI (((p).length : Nat) : Int) 100)).toNat p)).length : Nat) : Int))))) (by kernel_rfl) (re_and0 q15) ?_
              exact wpq_sub _ (by kernel_rfl) hk12
          · refine xB 1 [] [(0, vs (offA Ap cp 0 1) (List.take ((minI (((p).length : Nat) : Int) 100)).toNat p) (cp - 0)), (5, vt (List.take ((minI (((p).length : Nat) : Int) 100)).toNat p)), (6, vs A7_0 y7.1 c7_0), (51, vb (y7.2 && ((((y7.1).length : Nat) : Int) != ((((List.take ((minI (((p).length : Nat) : Int) 100)).toNat p)).length : Nat) : Int))))] ?_
            refine wpq_re 51 (v := vb (y7.2 && ((((y7.1).length : Nat) : Int) != ((((List.take ((minI (((p).length : Nat) : Int) 100)).toNat p)).length : Nat) : Int)))) (Value.bool ((((!(y7.1 == y10.1)) || (!(y7.2 == y10.2))) || (y7.2 && ((((y7.1).length : Nat) : Int) != ((((List.take ((minI (((p).length : Nat) : Int) 100)).toNat p)).length : Nat) : Int)))))) (by kernel_rfl) (re_or0 q14) ?_
            exact wpq_sub _ (by kernel_rfl) hk10
      · refine xRe ?_
        refine wpq_then ?_
        refine xCd ((((!(y7.1 == y10.1)) || (!(y7.2 == y10.2))) || (y7.2 && ((((y7.1).length : Nat) : Int) != ((((List.take ((minI (((p).length : Nat) : Int) 100)).toNat p)).length : Nat) : Int))))) (fun h16 => ?_) (fun h16 => ?_)
        · have hS := cond_T h16 hS
          refine xSq ?_
          refine xRg ?_
          refine xB 1 [] [(4, vb false)] ?_
          refine xRe ?_
          refine wpq_then ?_
          have eS := (Option.some.inj hS).symm
          subst eS
          exact xRet [] [4] (e4.trans (e9.trans e12)) ⟨by kernel_rfl, by kernel_rfl⟩ (fun _ _ h => h)
        · have hS := cond_F h16 hS
          have h16l := (or_false_ h16).1
          have h16r := (or_false_ h16).2
          have h16ll := (or_false_ h16l).1
          have h16lr := (or_false_ h16l).2
          have h16lln := not_eq_false_ h16ll
          have h16llnp : y7.1 = y10.1 := eq_of_beq h16lln
          have h16lrn := not_eq_false_ h16lr
          have h16lrnp : y7.2 = y10.2 := eq_of_beq h16lrn
          refine xSk ?_
          refine wpq_then ?_
          refine xSub [(0, vs (offA Ap cp 0 1) (List.take ((minI (((p).length : Nat) : Int) 100)).toNat p) (cp - 0)), (5, vt (List.take ((minI (((p).length : Nat) : Int) 100)).toNat p)), (6, vs A7_0 y7.1 c7_0)] ?_
          refine xSq ?_
          refine xSq ?_
          refine xRg ?_
          refine xB 3 [] [(0, vs (offA Ap cp 0 1) (List.take ((minI (((p).length : Nat) : Int) 100)).toNat p) (cp - 0)), (5, vt (List.take ((minI (((p).length : Nat) : Int) 100)).toNat p)), (6, vs A7_0 y7.1 c7_0), (53, vi (((y7.1).length : Nat) : Int)), (54, vi 0)] ?_
          refine xRe ?_
          refine wpq_then ?_
          refine xBindO hS (fun g own sl t17 => own = [] ∧ sl = [(0, vs (offA Ap cp 0 1) (List.take ((minI (((p).length : Nat) : Int) 100)).toNat p) (cp - 0)), (5, vt (List.take ((minI (((p).length : Nat) : Int) 100)).toNat p))]) ?_ ?_
          · rintro g18 _ _ t17 e19 ⟨rfl, rfl⟩ hS
            refine wpq_then ?_
            refine xSq ?_
            refine xRg ?_
            have f6 := f6.mono (e12.trans e19).r
            refine xB 1 [] [(5, vt (List.take ((minI (((p).length : Nat) : Int) 100)).toNat p)), (64, vs (offA Ap cp 0 1) (List.take ((minI (((p).length : Nat) : Int) 100)).toNat p) (cp - 0))] ?_
            refine xV (qStr f6) ?_
            refine xB 1 [] [(65, vt (List.take ((minI (((p).length : Nat) : Int) 100)).toNat p)), (66, vt (List.take ((minI (((p).length : Nat) : Int) 100)).toNat p))] ?_
            refine xV (qEqS ((List.take ((minI (((p).length : Nat) : Int) 100)).toNat p)) ((List.take ((minI (((p).length : Nat) : Int) 100)).toNat p))) ?_
            refine xB 1 [] [(4, vb ((List.take ((minI (((p).length : Nat) : Int) 100)).toNat p) == (List.take ((minI (((p).length : Nat) : Int) 100)).toNat p)))] ?_
            refine xRe ?_
            refine wpq_then ?_
            have eS := (Option.some.inj hS).symm
            subst eS
            exact xRet [] [4] (e4.trans (e9.trans (e12.trans e19))) ⟨by kernel_rfl, by kernel_rfl⟩ (fun _ _ h => h)
          · intro uu17 hS hN17
            refine xBl 0 ?_
            refine xSel [some 1] ?_
            refine xSub [(0, vs (offA Ap cp 0 1) (List.take ((minI (((p).length : Nat) : Int) 100)).toNat p) (cp - 0)), (5, vt (List.take ((minI (((p).length : Nat) : Int) 100)).toNat p)), (6, vs A7_0 y7.1 c7_0), (53, vi (((y7.1).length : Nat) : Int)), (54, vi 0)] ?_
            refine xLo hS (fun g own sl s22 => ∃ (k22_0 : Option Bk), own = [k22_0] ∧ sl = [(0, vs (offA Ap cp 0 1) (List.take ((minI (((p).length : Nat) : Int) 100)).toNat p) (cp - 0)), (5, vt (List.take ((minI (((p).length : Nat) : Int) 100)).toNat p)), (6, vs A7_0 s22.1 c7_0), (53, vi (((y7.1).length : Nat) : Int)), (54, vi ((s22.2 : Nat) : Int))] ∧ Buf g.b tyU8 5 (.slice A7_0 (s22.1).length c7_0) k22_0 s22.1) ⟨k7_0, by kernel_rfl, by kernel_rfl, h7_0⟩ ?_
            rintro g23 _ _ s22 uu22 e24 ⟨k22_0, rfl, rfl, h22_0⟩ hS Qr22 hN22 hD22
            have nh22_0 := h22_0.len
            unfold o6_L0 at hS
            refine xSq ?_
            refine xRg ?_
            refine xB 1 [] [(0, vs (offA Ap cp 0 1) (List.take ((minI (((p).length : Nat) : Int) 100)).toNat p) (cp - 0)), (5, vt (List.take ((minI (((p).length : Nat) : Int) 100)).toNat p)), (6, vs A7_0 s22.1 c7_0), (53, vi (((y7.1).length : Nat) : Int)), (54, vi ((s22.2 : Nat) : Int)), (55, vb (decide (((s22.2 : Nat) : Int) < (((y7.1).length : Nat) : Int))))] ?_
            refine xRe ?_
            refine wpq_then ?_
            refine xSq ?_
            refine xCd (decide (((s22.2 : Nat) : Int) < (((y7.1).length : Nat) : Int))) (fun h25 => ?_) (fun h25 => ?_)
            · have hS := cond_T h25 hS
              have h25p := of_decide_eq_true h25
              refine xSk ?_
              refine wpq_then ?_
              refine xSub [(0, vs (offA Ap cp 0 1) (List.take ((minI (((p).length : Nat) : Int) 100)).toNat p) (cp - 0)), (5, vt (List.take ((minI (((p).length : Nat) : Int) 100)).toNat p)), (6, vs A7_0 s22.1 c7_0), (53, vi (((y7.1).length : Nat) : Int)), (54, vi ((s22.2 : Nat) : Int))] ?_
              refine xSq ?_
              refine xBl 1 ?_
              refine xSq ?_
              refine xRg ?_
              refine xB 2 [] [(0, vs (offA Ap cp 0 1) (List.take ((minI (((p).length : Nat) : Int) 100)).toNat p) (cp - 0)), (5, vt (List.take ((minI (((p).length : Nat) : Int) 100)).toNat p)), (6, vs A7_0 s22.1 c7_0), (10, vi ((s22.2 : Nat) : Int)), (53, vi (((y7.1).length : Nat) : Int)), (54, vi ((s22.2 : Nat) : Int))] ?_
              refine xRe ?_
              refine wpq_then ?_
              refine xRg ?_
              obtain ⟨q27, hS⟩ := grd_T hS
              have q27p := of_decide_eq_true q27
              obtain ⟨kc26, cs26, hA26, hk26, hr26, hw26⟩ := h22_0.open_ q27p 0
              obtain ⟨kb26, rfl⟩ : ∃ z, z = kc26 := ⟨_, rfl⟩
              subst hk26
              have hr26 : cs26 = [vy ((List.getD s22.1 s22.2 0).toNat : Int)] := hr26
              subst hr26
              have nb26 := UInt8.toNat_lt (List.getD s22.1 s22.2 0)
              refine xB 2 [] [(0, vs (offA Ap cp 0 1) (List.take ((minI (((p).length : Nat) : Int) 100)).toNat p) (cp - 0)), (5, vt (List.take ((minI (((p).length : Nat) : Int) 100)).toNat p)), (6, vs A7_0 s22.1 c7_0), (53, vi (((y7.1).length : Nat) : Int)), (54, vi ((s22.2 : Nat) : Int)), (57, vs A7_0 s22.1 c7_0), (58, vi ((s22.2 : Nat) : Int))] ?_
              refine xV (qIxB s22.2 1 kb26.g hA26 rfl q27p) ?_
              refine xV (qLdB s22.2 1 0 0 hw26) ?_
              have z13 := u8_in_ (((List.getD s22.1 s22.2 0).toNat : Int) + 1)
              obtain ⟨q29, hS⟩ := grd_T hS
              have q29p := of_decide_eq_true q29
              obtain ⟨kc28, cs28, hA28, hk28, hr28, hw28⟩ := h22_0.open_ q29p 0
              cases hk28
              have hr28 : cs28 = [vy ((List.getD s22.1 s22.2 0).toNat : Int)] := hr28
              subst hr28
              have nb28 := UInt8.toNat_lt (List.getD s22.1 s22.2 0)
              refine xB 1 [] [(0, vs (offA Ap cp 0 1) (List.take ((minI (((p).length : Nat) : Int) 100)).toNat p) (cp - 0)), (5, vt (List.take ((minI (((p).length : Nat) : Int) 100)).toNat p)), (6, vs A7_0 s22.1 c7_0), (53, vi (((y7.1).length : Nat) : Int)), (54, vi ((s22.2 : Nat) : Int)), (57, vs A7_0 s22.1 c7_0), (58, vi ((s22.2 : Nat) : Int)), (61, vy (IntKind.u8.wrap (((List.getD s22.1 s22.2 0).toNat : Int) + 1)))] ?_
              refine xV (qIxB s22.2 1 kb26.g hA28 rfl q29p) ?_
              refine xD (eStB s22.2 1 0 0 [vy (IntKind.u8.wrap (((List.getD s22.1 s22.2 0).toNat : Int) + 1))] h22_0 rfl hw28 (u8_rep (wrapU8_rng _)) q29p) ?_
              rintro _ _ _ - ⟨k30, rfl, rfl, h30⟩
              have hz30 : (s22.1).length = ((List.set s22.1 s22.2 (u8 (IntKind.u8.wrap (((List.getD s22.1 s22.2 0).toNat : Int) + 1))))).length := by simp
              refine xRe ?_
              refine wpq_blockN ?_
              refine wpq_then ?_
              refine xSub [(0, vs (offA Ap cp 0 1) (List.take ((minI (((p).length : Nat) : Int) 100)).toNat p) (cp - 0)), (5, vt (List.take ((minI (((p).length : Nat) : Int) 100)).toNat p)), (6, Value.slice A7_0 ((s22.1).length) c7_0), (53, vi (((y7.1).length : Nat) : Int)), (54, vi ((s22.2 : Nat) : Int))] ?_
              refine xRg ?_
              obtain ⟨q31, hS⟩ := grd_T hS
              have q31p := of_decide_eq_true q31
              refine xV (qAdd .i64 (((s22.2 : Nat) : Int)) (1) (wr64 (by omega))) ?_
              refine xB 1 [] [(0, vs (offA Ap cp 0 1) (List.take ((minI (((p).length : Nat) : Int) 100)).toNat p) (cp - 0)), (5, vt (List.take ((minI (((p).length : Nat) : Int) 100)).toNat p)), (6, Value.slice A7_0 ((s22.1).length) c7_0), (53, vi (((y7.1).length : Nat) : Int)), (54, vi (((s22.2 : Nat) : Int) + 1))] ?_
              refine xRe ?_
              refine wpq_thenN ?_
              refine wpq_re 6 (v := Value.slice A7_0 ((s22.1).length) c7_0) (vs A7_0 (List.set s22.1 s22.2 (u8 (IntKind.u8.wrap (((List.getD s22.1 s22.2 0).toNat : Int) + 1)))) c7_0) (by kernel_rfl) (congrArg (fun z => Value.slice A7_0 z c7_0) hz30) ?_
              have h30 := Buf.re h30 hz30 (rfl : (List.set s22.1 s22.2 (u8 (IntKind.u8.wrap (((List.getD s22.1 s22.2 0).toNat : Int) + 1)))) = _)
              refine xSub [(0, vs (offA Ap cp 0 1) (List.take ((minI (((p).length : Nat) : Int) 100)).toNat p) (cp - 0)), (5, vt (List.take ((minI (((p).length : Nat) : Int) 100)).toNat p)), (6, vs A7_0 (List.set s22.1 s22.2 (u8 (IntKind.u8.wrap (((List.getD s22.1 s22.2 0).toNat : Int) + 1)))) c7_0), (53, vi (((y7.1).length : Nat) : Int)), (54, vi (((s22.2 : Nat) : Int) + 1))] ?_
              have eS := (Option.some.inj hS).symm
              exact hN22 _ eS _ _ _ (Gh.le.refl _) ⟨k30, by kernel_rfl, by kernel_rfl, h30⟩
            · have hS := cond_F h25 hS
              have h25p := of_decide_eq_false h25
              refine xEx 0 ?_
              refine wpq_thenX ?_
              refine wpq_thenX ?_
              refine wpq_blockE ?_
              refine xSel [] ?_
              refine xSub [(0, vs (offA Ap cp 0 1) (List.take ((minI (((p).length : Nat) : Int) 100)).toNat p) (cp - 0)), (5, vt (List.take ((minI (((p).length : Nat) : Int) 100)).toNat p))] ?_
              have eS := (Option.some.inj hS).symm
              have eS := (hD22 _ eS).symm
              exact hN17 _ eS _ _ _ e24 ⟨by kernel_rfl, by kernel_rfl⟩

end Go.Proofs.Ytmcgofgpcnlljaa
