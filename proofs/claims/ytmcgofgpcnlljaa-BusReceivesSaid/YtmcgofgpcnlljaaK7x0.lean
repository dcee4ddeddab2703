/-
Walks, printed by wip/gen. Conditions: each theorem's own.
-/
import Derived.Test.YtmcgofgpcnlljaaB3
namespace Go.Proofs.Ytmcgofgpcnlljaa
set_option linter.unusedVariables false
set_option linter.unusedSimpArgs false
open Go.RowKit
def o22_L0 (p : List UInt8) (f : Fate) (s13 : (List UInt8) × Nat) : Option (Ctl ((List UInt8) × Nat) ((List UInt8))) :=
  (cond (decide (((s13.2 : Nat) : Int) < 32)) (grd (decide (-9223372036854775808 ≤ f.bit + ((s13.2 : Nat) : Int) ∧ f.bit + ((s13.2 : Nat) : Int) ≤ 9223372036854775807)) (bindO (τ := (List UInt8)) (cond (((((landK .u32 (shrK .u32 f.pattern ((s13.2 : Nat) : Int)) 1) == 1) && decide ((f.bit + ((s13.2 : Nat) : Int)) ≥ 0)) && decide ((f.bit + ((s13.2 : Nat) : Int)) < (8 * (((p).length : Nat) : Int))))) (grd (decide (0 ≤ ((f.bit + ((s13.2 : Nat) : Int)) / 8) ∧ ((f.bit + ((s13.2 : Nat) : Int)) / 8) < (((s13.1).length : Nat) : Int))) (grd (decide (0 ≤ ((f.bit + ((s13.2 : Nat) : Int)) / 8) ∧ ((f.bit + ((s13.2 : Nat) : Int)) / 8) < (((s13.1).length : Nat) : Int))) (some (((List.set s13.1 (((f.bit + ((s13.2 : Nat) : Int)) / 8)).toNat (u8 (lxorK .u8 ((List.getD s13.1 (((f.bit + ((s13.2 : Nat) : Int)) / 8)).toNat 0).toNat : Int) (shlK .u8 1 ((f.bit + ((s13.2 : Nat) : Int)) % 8))))) : List UInt8))))) (some ((s13.1 : List UInt8)))) fun t20 => (grd (decide (((s13.2 : Nat) : Int) + 1 ≤ 9223372036854775807)) (some (Ctl.go ((t20 : List UInt8), (s13.2 + 1))))))) (some (Ctl.done ((s13.1 : List UInt8)))))
def o22 (p : List UInt8) (f : Fate) : Option ((List UInt8) × Bool) :=
  (cond (f.lost) (some ((([] : List UInt8), (false)))) (letJ (τ := (List UInt8)) (o47 (p : List UInt8)) fun y3 => (cond ((decide (f.bit < -31) || decide (f.bit ≥ (8 * (((p).length : Nat) : Int))))) (some (((y3 : List UInt8), (true)))) (bindO (τ := (List UInt8)) (loopO (σ := (List UInt8) × Nat) (ρ := (List UInt8)) fuelN (o22_L0 p f) ((y3 : List UInt8), 0)) fun t8 => (some (((t8 : List UInt8), (true))))))))
set_option maxRecDepth 100000 in
theorem c22 (g : Gh) (p : List UInt8) (Ap : Option Addr) (cp : Nat) (f : Fate) (fp : Arr g.r tyU8 Ap cp p) {r : (List UInt8) × Bool} (hS : o22 p f = some r) :
    Ctr Try.prog 22 [vs Ap p cp, Value.agg #[vb f.lost, vi f.bit, Value.int .u32 f.pattern]] g [] (fun v ψ o => ∃ (Ar_0 : Option Addr) (cr_0 : Nat) (kr_0 : Option Bk), v = Value.tuple #[vs Ar_0 r.1 cr_0, vb r.2] ∧ o = [kr_0] ∧ Buf ψ tyU8 5 (.slice Ar_0 (r.1).length cr_0) kr_0 r.1) := by
  unfold o22 at hS
  refine xFn Try.f22 (Try.f22.body.getD .skip) 61 ?_
  have nfp := fp.len
  refine xSq ?_
  refine xRg ?_
  refine xE eB ?_
  rintro _ _ _ - ⟨b1, rfl, rfl, rfl⟩
  refine xB 2 [] [(0, vs Ap p cp), (3, vp b1 0)] ?_
  refine xRe ?_
  refine wpq_then ?_
  refine xSq ?_
  refine xSq ?_
  refine xRg ?_
  refine xB 2 [(1, 0)] [(0, vs Ap p cp), (3, vp b1 0), (10, vb f.lost)] ?_
  refine xRe ?_
  refine wpq_then ?_
  refine xCd (f.lost) (fun h2 => ?_) (fun h2 => ?_)
  · have hS := cond_T h2 hS
    refine xSq ?_
    refine xRg ?_
    refine xB 2 [] [(4, Value.slice none 0 0), (5, vb false)] ?_
    refine xRe ?_
    refine wpq_then ?_
    have eS := (Option.some.inj hS).symm
    subst eS
    exact xRet [none] [4, 5] (Gh.le.refl _) ⟨none, 0, none, by kernel_rfl, by kernel_rfl, Buf.nil⟩ (fun _ _ h => h)
  · have hS := cond_F h2 hS
    refine xSk ?_
    refine wpq_then ?_
    refine xSub [(0, vs Ap p cp), (3, vp b1 0)] ?_
    refine xSq ?_
    refine xRg ?_
    refine xB 1 [] [(0, vs Ap p cp), (3, vp b1 0), (11, vs Ap p cp)] ?_
    obtain ⟨y3, hy3, hS⟩ := letJ_T hS
    refine xE (eC 0 (fun g' lr eb ln => c47 g' (p : List UInt8) Ap cp (fp.mono lr) hy3)) ?_
    rintro _ g4 _ e5 ⟨_, rfl, A3_0, c3_0, k3_0, rfl, rfl, h3_0⟩
    have nh3_0 := h3_0.len
    refine xB 1 [] [(0, vs Ap p cp), (3, vp b1 0), (6, vs A3_0 y3 c3_0)] ?_
    refine xRe ?_
    refine wpq_then ?_
    refine xSq ?_
    refine xSq ?_
    refine xRg ?_
    refine xB 4 [(1, 1)] [(0, vs Ap p cp), (3, vp b1 0), (6, vs A3_0 y3 c3_0), (16, vb (decide (f.bit < -31)))] ?_
    refine wpr_grp 11 [(0, vs Ap p cp), (3, vp b1 0), (6, vs A3_0 y3 c3_0), (23, vb (decide (f.bit < -31) || decide (f.bit ≥ (8 * (((p).length : Nat) : Int)))))] (fun hk3 => ?_) ?_
    · refine wpq_split 16 (b := decide (f.bit < -31)) (by kernel_rfl) (fun q6 => ?_) (fun q6 => ?_)
      · have q6p := of_decide_eq_true q6
        refine xB 7 [] [(0, vs Ap p cp), (3, vp b1 0), (6, vs A3_0 y3 c3_0), (23, vb true)] ?_
        refine wpq_re 23 (v := vb true) (Value.bool ((decide (f.bit < -31) || decide (f.bit ≥ (8 * (((p).length : Nat) : Int)))))) (by kernel_rfl) (re_or1 q6) ?_
        exact wpq_sub _ (by kernel_rfl) hk3
      · have q6p := of_decide_eq_false q6
        refine xB 4 [(5, 1)] [(0, vs Ap p cp), (3, vp b1 0), (6, vs A3_0 y3 c3_0), (16, vb false), (18, vi f.bit), (20, vi (((p).length : Nat) : Int))] ?_
        refine xV (qMul .i64 (8) ((((p).length : Nat) : Int)) (wr64 (by omega))) ?_
        refine xB 2 [] [(0, vs Ap p cp), (3, vp b1 0), (6, vs A3_0 y3 c3_0), (23, vb (decide (f.bit ≥ (8 * (((p).length : Nat) : Int)))))] ?_
        refine wpq_re 23 (v := vb (decide (f.bit ≥ (8 * (((p).length : Nat) : Int))))) (Value.bool ((decide (f.bit < -31) || decide (f.bit ≥ (8 * (((p).length : Nat) : Int)))))) (by kernel_rfl) (re_or0 q6) ?_
        exact wpq_sub _ (by kernel_rfl) hk3
    · refine xRe ?_
      refine wpq_then ?_
      refine xCd ((decide (f.bit < -31) || decide (f.bit ≥ (8 * (((p).length : Nat) : Int))))) (fun h7 => ?_) (fun h7 => ?_)
      · have hS := cond_T h7 hS
        refine xSq ?_
        refine xRg ?_
        refine xB 3 [] [(4, vs A3_0 y3 c3_0), (5, vb true)] ?_
        refine xRe ?_
        refine wpq_then ?_
        have eS := (Option.some.inj hS).symm
        subst eS
        exact xRet [some 0] [4, 5] e5 ⟨A3_0, c3_0, k3_0, by kernel_rfl, by kernel_rfl, h3_0⟩ (fun _ _ h => h)
      · have hS := cond_F h7 hS
        have h7l := (or_false_ h7).1
        have h7r := (or_false_ h7).2
        have h7lp := of_decide_eq_false h7l
        have h7rp := of_decide_eq_false h7r
        refine xSk ?_
        refine wpq_then ?_
        refine xSub [(0, vs Ap p cp), (3, vp b1 0), (6, vs A3_0 y3 c3_0)] ?_
        refine xSq ?_
        refine xSq ?_
        refine xRg ?_
        refine xB 1 [] [(0, vs Ap p cp), (3, vp b1 0), (6, vs A3_0 y3 c3_0), (25, vi 0)] ?_
        refine xRe ?_
        refine wpq_then ?_
        refine xBindO hS (fun g own sl t8 => ∃ (k8_0 : Option Bk), own = [k8_0] ∧ sl = [(6, vs A3_0 t8 c3_0)] ∧ Buf g.b tyU8 5 (.slice A3_0 (t8).length c3_0) k8_0 t8) ?_ ?_
        · rintro g9 _ _ t8 e10 ⟨k8_0, rfl, rfl, h8_0⟩ hS
          have nh8_0 := h8_0.len
          refine wpq_then ?_
          refine xSq ?_
          refine xRg ?_
          refine xB 3 [] [(4, vs A3_0 t8 c3_0), (5, vb true)] ?_
          refine xRe ?_
          refine wpq_then ?_
          have eS := (Option.some.inj hS).symm
          subst eS
          exact xRet [some 0] [4, 5] (e5.trans e10) ⟨A3_0, c3_0, k8_0, by kernel_rfl, by kernel_rfl, h8_0⟩ (fun _ _ h => h)
        · intro uu8 hS hN8
          refine xBl 0 ?_
          refine xSel [some 1, some 0] ?_
          refine xSub [(0, vs Ap p cp), (3, vp b1 0), (6, vs A3_0 y3 c3_0), (25, vi 0)] ?_
          refine xLo hS (fun g own sl s13 => ∃ (k13_0 : Option Bk), own = [some ⟨b1, 51, [vb f.lost, vi f.bit, Value.int .u32 f.pattern]⟩, k13_0] ∧ sl = [(0, vs Ap p cp), (3, vp b1 0), (6, vs A3_0 s13.1 c3_0), (25, vi ((s13.2 : Nat) : Int))] ∧ Buf g.b tyU8 5 (.slice A3_0 (s13.1).length c3_0) k13_0 s13.1) ⟨k3_0, by kernel_rfl, by kernel_rfl, h3_0⟩ ?_
          rintro g14 _ _ s13 uu13 e15 ⟨k13_0, rfl, rfl, h13_0⟩ hS Qr13 hN13 hD13
          have nh13_0 := h13_0.len
          unfold o22_L0 at hS
          refine xSq ?_
          refine xRg ?_
          refine xB 1 [] [(0, vs Ap p cp), (3, vp b1 0), (6, vs A3_0 s13.1 c3_0), (25, vi ((s13.2 : Nat) : Int)), (26, vb (decide (((s13.2 : Nat) : Int) < 32)))] ?_
          refine xRe ?_
          refine wpq_then ?_
          refine xSq ?_
          refine xCd (decide (((s13.2 : Nat) : Int) < 32)) (fun h16 => ?_) (fun h16 => ?_)
          · have hS := cond_T h16 hS
            have h16p := of_decide_eq_true h16
            refine xSk ?_
            refine wpq_then ?_
            refine xSub [(0, vs Ap p cp), (3, vp b1 0), (6, vs A3_0 s13.1 c3_0), (25, vi ((s13.2 : Nat) : Int))] ?_
            refine xSq ?_
            refine xBl 1 ?_
            refine xSq ?_
            refine xRg ?_
            refine xB 2 [] [(0, vs Ap p cp), (3, vp b1 0), (6, vs A3_0 s13.1 c3_0), (7, vi ((s13.2 : Nat) : Int)), (25, vi ((s13.2 : Nat) : Int))] ?_
            refine xRe ?_
            refine wpq_then ?_
            refine xSq ?_
            refine xRg ?_
            obtain ⟨q17, hS⟩ := grd_T hS
            have q17p := of_decide_eq_true q17
            refine xB 3 [(1, 0)] [(0, vs Ap p cp), (3, vp b1 0), (6, vs A3_0 s13.1 c3_0), (7, vi ((s13.2 : Nat) : Int)), (25, vi ((s13.2 : Nat) : Int)), (29, vi f.bit), (30, vi ((s13.2 : Nat) : Int))] ?_
            refine xV (qAdd .i64 (f.bit) (((s13.2 : Nat) : Int)) (wr64 (by omega))) ?_
            refine xB 1 [] [(0, vs Ap p cp), (3, vp b1 0), (6, vs A3_0 s13.1 c3_0), (7, vi ((s13.2 : Nat) : Int)), (8, vi (f.bit + ((s13.2 : Nat) : Int))), (25, vi ((s13.2 : Nat) : Int))] ?_
            refine xRe ?_
            refine wpq_then ?_
            refine xSq ?_
            refine xRg ?_
            refine xB 3 [(1, 0)] [(0, vs Ap p cp), (3, vp b1 0), (6, vs A3_0 s13.1 c3_0), (8, vi (f.bit + ((s13.2 : Nat) : Int))), (25, vi ((s13.2 : Nat) : Int)), (33, Value.int .u32 f.pattern), (34, vi ((s13.2 : Nat) : Int))] ?_
            refine xV (qShr .u32 .i64 (f.pattern) (((s13.2 : Nat) : Int)) (by omega)) ?_
            refine xB 3 [] [(0, vs Ap p cp), (3, vp b1 0), (6, vs A3_0 s13.1 c3_0), (8, vi (f.bit + ((s13.2 : Nat) : Int))), (25, vi ((s13.2 : Nat) : Int)), (38, vb ((landK .u32 (shrK .u32 f.pattern ((s13.2 : Nat) : Int)) 1) == 1))] ?_
            refine wpr_grp 10 [(0, vs Ap p cp), (3, vp b1 0), (6, vs A3_0 s13.1 c3_0), (8, vi (f.bit + ((s13.2 : Nat) : Int))), (25, vi ((s13.2 : Nat) : Int)), (41, vb (((landK .u32 (shrK .u32 f.pattern ((s13.2 : Nat) : Int)) 1) == 1) && decide ((f.bit + ((s13.2 : Nat) : Int)) ≥ 0)))] (fun hk6 => ?_) ?_
            · refine wpq_split 38 (b := ((landK .u32 (shrK .u32 f.pattern ((s13.2 : Nat) : Int)) 1) == 1)) (by kernel_rfl) (fun q18 => ?_) (fun q18 => ?_)
              · have q18p : (landK .u32 (shrK .u32 f.pattern ((s13.2 : Nat) : Int)) 1) = 1 := eq_of_beq q18
                refine xB 3 [] [(0, vs Ap p cp), (3, vp b1 0), (6, vs A3_0 s13.1 c3_0), (8, vi (f.bit + ((s13.2 : Nat) : Int))), (25, vi ((s13.2 : Nat) : Int)), (41, vb (decide ((f.bit + ((s13.2 : Nat) : Int)) ≥ 0)))] ?_
                refine wpq_re 41 (v := vb (decide ((f.bit + ((s13.2 : Nat) : Int)) ≥ 0))) (Value.bool ((((landK .u32 (shrK .u32 f.pattern ((s13.2 : Nat) : Int)) 1) == 1) && decide ((f.bit + ((s13.2 : Nat) : Int)) ≥ 0)))) (by kernel_rfl) (re_and1 q18) ?_
                exact wpq_sub _ (by kernel_rfl) hk6
              · have q18p : ¬ ((landK .u32 (shrK .u32 f.pattern ((s13.2 : Nat) : Int)) 1) = 1) := ne_of_beq_false_ q18
                refine xB 3 [] [(0, vs Ap p cp), (3, vp b1 0), (6, vs A3_0 s13.1 c3_0), (8, vi (f.bit + ((s13.2 : Nat) : Int))), (25, vi ((s13.2 : Nat) : Int)), (41, vb false)] ?_
                refine wpq_re 41 (v := vb false) (Value.bool ((((landK .u32 (shrK .u32 f.pattern ((s13.2 : Nat) : Int)) 1) == 1) && decide ((f.bit + ((s13.2 : Nat) : Int)) ≥ 0)))) (by kernel_rfl) (re_and0 q18) ?_
                exact wpq_sub _ (by kernel_rfl) hk6
            · refine xB 1 [] [(0, vs Ap p cp), (3, vp b1 0), (6, vs A3_0 s13.1 c3_0), (8, vi (f.bit + ((s13.2 : Nat) : Int))), (25, vi ((s13.2 : Nat) : Int)), (42, vb (((landK .u32 (shrK .u32 f.pattern ((s13.2 : Nat) : Int)) 1) == 1) && decide ((f.bit + ((s13.2 : Nat) : Int)) ≥ 0)))] ?_
              refine wpr_grp 17 [(0, vs Ap p cp), (3, vp b1 0), (6, vs A3_0 s13.1 c3_0), (8, vi (f.bit + ((s13.2 : Nat) : Int))), (25, vi ((s13.2 : Nat) : Int)), (48, vb ((((landK .u32 (shrK .u32 f.pattern ((s13.2 : Nat) : Int)) 1) == 1) && decide ((f.bit + ((s13.2 : Nat) : Int)) ≥ 0)) && decide ((f.bit + ((s13.2 : Nat) : Int)) < (8 * (((p).length : Nat) : Int)))))] (fun hk10 => ?_) ?_
              · refine wpq_split 42 (b := (((landK .u32 (shrK .u32 f.pattern ((s13.2 : Nat) : Int)) 1) == 1) && decide ((f.bit + ((s13.2 : Nat) : Int)) ≥ 0))) (by kernel_rfl) (fun q19 => ?_) (fun q19 => ?_)
                · have q19l := (and_true_ q19).1
                  have q19r := (and_true_ q19).2
                  have q19lp : (landK .u32 (shrK .u32 f.pattern ((s13.2 : Nat) : Int)) 1) = 1 := eq_of_beq q19l
                  have q19rp := of_decide_eq_true q19r
                  refine xB 3 [] [(0, vs Ap p cp), (3, vp b1 0), (6, vs A3_0 s13.1 c3_0), (8, vi (f.bit + ((s13.2 : Nat) : Int))), (25, vi ((s13.2 : Nat) : Int)), (42, vb true), (43, vi (f.bit + ((s13.2 : Nat) : Int))), (45, vi (((p).length : Nat) : Int))] ?_
                  refine xV (qMul .i64 (8) ((((p).length : Nat) : Int)) (wr64 (by omega))) ?_
                  refine xB 2 [] [(0, vs Ap p cp), (3, vp b1 0), (6, vs A3_0 s13.1 c3_0), (8, vi (f.bit + ((s13.2 : Nat) : Int))), (25, vi ((s13.2 : Nat) : Int)), (48, vb (decide ((f.bit + ((s13.2 : Nat) : Int)) < (8 * (((p).length : Nat) : Int)))))] ?_
                  refine wpq_re 48 (v := vb (decide ((f.bit + ((s13.2 : Nat) : Int)) < (8 * (((p).length : Nat) : Int))))) (Value.bool (((((landK .u32 (shrK .u32 f.pattern ((s13.2 : Nat) : Int)) 1) == 1) && decide ((f.bit + ((s13.2 : Nat) : Int)) ≥ 0)) && decide ((f.bit + ((s13.2 : Nat) : Int)) < (8 * (((p).length : Nat) : Int)))))) (by kernel_rfl) (re_and1 q19) ?_
                  exact wpq_sub _ (by kernel_rfl) hk10
                · refine xB 6 [] [(0, vs Ap p cp), (3, vp b1 0), (6, vs A3_0 s13.1 c3_0), (8, vi (f.bit + ((s13.2 : Nat) : Int))), (25, vi ((s13.2 : Nat) : Int)), (48, vb false)] ?_
                  refine wpq_re 48 (v := vb false) (Value.bool (((((landK .u32 (shrK .u32 f.pattern ((s13.2 : Nat) : Int)) 1) == 1) && decide ((f.bit + ((s13.2 : Nat) : Int)) ≥ 0)) && decide ((f.bit + ((s13.2 : Nat) : Int)) < (8 * (((p).length : Nat) : Int)))))) (by kernel_rfl) (re_and0 q19) ?_
                  exact wpq_sub _ (by kernel_rfl) hk10
              · refine xRe ?_
                refine wpq_then ?_
                refine xBindO hS (fun g own sl t20 => ∃ (k20_0 : Option Bk), own = [some ⟨b1, 51, [vb f.lost, vi f.bit, Value.int .u32 f.pattern]⟩, k20_0] ∧ sl = [(0, vs Ap p cp), (3, vp b1 0), (6, vs A3_0 t20 c3_0), (25, vi ((s13.2 : Nat) : Int))] ∧ Buf g.b tyU8 5 (.slice A3_0 (t20).length c3_0) k20_0 t20) ?_ ?_
                · rintro g21 _ _ t20 e22 ⟨k20_0, rfl, rfl, h20_0⟩ hS
                  have nh20_0 := h20_0.len
                  refine wpq_blockN ?_
                  refine wpq_then ?_
                  refine xRg ?_
                  obtain ⟨q23, hS⟩ := grd_T hS
                  have q23p := of_decide_eq_true q23
                  refine xV (qAdd .i64 (((s13.2 : Nat) : Int)) (1) (wr64 (by omega))) ?_
                  refine xB 1 [] [(0, vs Ap p cp), (3, vp b1 0), (6, vs A3_0 t20 c3_0), (25, vi (((s13.2 : Nat) : Int) + 1))] ?_
                  refine xRe ?_
                  refine wpq_thenN ?_
                  refine xSub [(0, vs Ap p cp), (3, vp b1 0), (6, vs A3_0 t20 c3_0), (25, vi (((s13.2 : Nat) : Int) + 1))] ?_
                  have eS := (Option.some.inj hS).symm
                  exact hN13 _ eS _ _ _ e22 ⟨k20_0, by kernel_rfl, by kernel_rfl, h20_0⟩
                · intro uu20 hS hN20
                  refine xCd (((((landK .u32 (shrK .u32 f.pattern ((s13.2 : Nat) : Int)) 1) == 1) && decide ((f.bit + ((s13.2 : Nat) : Int)) ≥ 0)) && decide ((f.bit + ((s13.2 : Nat) : Int)) < (8 * (((p).length : Nat) : Int))))) (fun h24 => ?_) (fun h24 => ?_)
                  · have hS := cond_T h24 hS
                    have h24l := (and_true_ h24).1
                    have h24r := (and_true_ h24).2
                    have h24ll := (and_true_ h24l).1
                    have h24lr := (and_true_ h24l).2
                    have h24llp : (landK .u32 (shrK .u32 f.pattern ((s13.2 : Nat) : Int)) 1) = 1 := eq_of_beq h24ll
                    have h24lrp := of_decide_eq_true h24lr
                    have h24rp := of_decide_eq_true h24r
                    refine xDr 0 [4] [10, 8, 9] [some ⟨b1, 51, [vb f.lost, vi f.bit, Value.int .u32 f.pattern]⟩, k13_0] 11 (fun RG => ?_) (fun _ _ _ _ _ h => h)
                    refine xT 9 [0, 1] [] [some 0, some 1] [(0, vs Ap p cp), (3, vp b1 0), (6, vs A3_0 s13.1 c3_0), (8, vi (f.bit + ((s13.2 : Nat) : Int))), (25, vi ((s13.2 : Nat) : Int)), (49, vs A3_0 s13.1 c3_0), (50, vi (f.bit + ((s13.2 : Nat) : Int)))] RG (Psi.le.refl _) ?_
                    refine xTp 2 RG (fun _ => (qQuo .i64 ((f.bit + ((s13.2 : Nat) : Int))) (8) _ (by omega) (IntWalk.i64_quo _ _ (by omega)))) ?_
                    obtain ⟨q26, hS⟩ := grd_T hS
                    have q26p := of_decide_eq_true q26
                    have i27 : (((f.bit + ((s13.2 : Nat) : Int)) / 8)).toNat < (s13.1).length := by omega
                    obtain ⟨kc25, cs25, hA25, hk25, hr25, hw25⟩ := h13_0.open_ i27 0
                    obtain ⟨kb25, rfl⟩ : ∃ z, z = kc25 := ⟨_, rfl⟩
                    subst hk25
                    have hr25 : cs25 = [vy ((List.getD s13.1 (((f.bit + ((s13.2 : Nat) : Int)) / 8)).toNat 0).toNat : Int)] := hr25
                    subst hr25
                    have nb25 := UInt8.toNat_lt (List.getD s13.1 (((f.bit + ((s13.2 : Nat) : Int)) / 8)).toNat 0)
                    refine xTp 3 RG (fun _ => (qIxB (((f.bit + ((s13.2 : Nat) : Int)) / 8)).toNat 1 kb25.g hA25 (show (((f.bit + ((s13.2 : Nat) : Int)) / 8) : Int) = _ from by omega) i27)) ?_
                    refine xTv 4 [some 0, some 1] RG (Psi.le.refl _) (qLdB (((f.bit + ((s13.2 : Nat) : Int)) / 8)).toNat 1 0 1 hw25) ?_
                    refine xT 5 [5] [] [some 0, some 1] [(0, vs Ap p cp), (3, vp b1 0), (6, vs A3_0 s13.1 c3_0), (25, vi ((s13.2 : Nat) : Int)), (49, vs A3_0 s13.1 c3_0), (51, vi ((f.bit + ((s13.2 : Nat) : Int)) / 8)), (53, vy ((List.getD s13.1 (((f.bit + ((s13.2 : Nat) : Int)) / 8)).toNat 0).toNat : Int)), (54, vi (f.bit + ((s13.2 : Nat) : Int)))] RG (Psi.le.refl _) ?_
                    refine xTp 6 RG (fun _ => (qRem .i64 ((f.bit + ((s13.2 : Nat) : Int))) (8) _ (by omega) (rem_pos_ (by omega)))) ?_
                    refine xTp 7 RG (fun _ => (qShl .u8 .i64 (1) (((f.bit + ((s13.2 : Nat) : Int)) % 8)) (by omega))) ?_
                    obtain ⟨q29, hS⟩ := grd_T hS
                    have q29p := of_decide_eq_true q29
                    have i30 : (((f.bit + ((s13.2 : Nat) : Int)) / 8)).toNat < (s13.1).length := by omega
                    obtain ⟨kc28, cs28, hA28, hk28, hr28, hw28⟩ := h13_0.open_ i30 0
                    cases hk28
                    have hr28 : cs28 = [vy ((List.getD s13.1 (((f.bit + ((s13.2 : Nat) : Int)) / 8)).toNat 0).toNat : Int)] := hr28
                    subst hr28
                    have nb28 := UInt8.toNat_lt (List.getD s13.1 (((f.bit + ((s13.2 : Nat) : Int)) / 8)).toNat 0)
                    refine xT 2 [8] [] [some 0, some 1] [(0, vs Ap p cp), (3, vp b1 0), (6, vs A3_0 s13.1 c3_0), (25, vi ((s13.2 : Nat) : Int)), (49, vs A3_0 s13.1 c3_0), (51, vi ((f.bit + ((s13.2 : Nat) : Int)) / 8)), (57, vy (lxorK .u8 ((List.getD s13.1 (((f.bit + ((s13.2 : Nat) : Int)) / 8)).toNat 0).toNat : Int) (shlK .u8 1 ((f.bit + ((s13.2 : Nat) : Int)) % 8))))] RG (Psi.le.refl _) ?_
                    refine xTp 9 RG (fun _ => (qIxB (((f.bit + ((s13.2 : Nat) : Int)) / 8)).toNat 1 kb25.g hA28 (show (((f.bit + ((s13.2 : Nat) : Int)) / 8) : Int) = _ from by omega) i30)) ?_
                    refine xO1 (lds := [4]) 10 ?_
                    refine xId (lds := [4]) (Psi.le.refl _) (eStB (((f.bit + ((s13.2 : Nat) : Int)) / 8)).toNat 1 0 1 [vy (lxorK .u8 ((List.getD s13.1 (((f.bit + ((s13.2 : Nat) : Int)) / 8)).toNat 0).toNat : Int) (shlK .u8 1 ((f.bit + ((s13.2 : Nat) : Int)) % 8)))] h13_0 rfl hw28 (u8_rep (lxorU8 _ _)) i30) ?_
                    rintro _ _ _ - ⟨k31, rfl, rfl, h31⟩
                    refine kf ?_
                    have hz31 : (s13.1).length = ((List.set s13.1 (((f.bit + ((s13.2 : Nat) : Int)) / 8)).toNat (u8 (lxorK .u8 ((List.getD s13.1 (((f.bit + ((s13.2 : Nat) : Int)) / 8)).toNat 0).toNat : Int) (shlK .u8 1 ((f.bit + ((s13.2 : Nat) : Int)) % 8)))))).length := by simp
                    refine xAe (lds := [4]) ?_
                    refine wpq_re 6 (v := Value.slice A3_0 ((s13.1).length) c3_0) (vs A3_0 (List.set s13.1 (((f.bit + ((s13.2 : Nat) : Int)) / 8)).toNat (u8 (lxorK .u8 ((List.getD s13.1 (((f.bit + ((s13.2 : Nat) : Int)) / 8)).toNat 0).toNat : Int) (shlK .u8 1 ((f.bit + ((s13.2 : Nat) : Int)) % 8))))) c3_0) (by kernel_rfl) (congrArg (fun z => Value.slice A3_0 z c3_0) hz31) ?_
                    have h31 := Buf.re h31 hz31 (rfl : (List.set s13.1 (((f.bit + ((s13.2 : Nat) : Int)) / 8)).toNat (u8 (lxorK .u8 ((List.getD s13.1 (((f.bit + ((s13.2 : Nat) : Int)) / 8)).toNat 0).toNat : Int) (shlK .u8 1 ((f.bit + ((s13.2 : Nat) : Int)) % 8))))) = _)
                    refine wpq_re 49 (v := Value.slice A3_0 ((s13.1).length) c3_0) (vs A3_0 (List.set s13.1 (((f.bit + ((s13.2 : Nat) : Int)) / 8)).toNat (u8 (lxorK .u8 ((List.getD s13.1 (((f.bit + ((s13.2 : Nat) : Int)) / 8)).toNat 0).toNat : Int) (shlK .u8 1 ((f.bit + ((s13.2 : Nat) : Int)) % 8))))) c3_0) (by kernel_rfl) (congrArg (fun z => Value.slice A3_0 z c3_0) hz31) ?_
                    refine xSub [(0, vs Ap p cp), (3, vp b1 0), (6, vs A3_0 (List.set s13.1 (((f.bit + ((s13.2 : Nat) : Int)) / 8)).toNat (u8 (lxorK .u8 ((List.getD s13.1 (((f.bit + ((s13.2 : Nat) : Int)) / 8)).toNat 0).toNat : Int) (shlK .u8 1 ((f.bit + ((s13.2 : Nat) : Int)) % 8))))) c3_0), (25, vi ((s13.2 : Nat) : Int))] ?_
                    have eS := (Option.some.inj hS).symm
                    exact hN20 _ eS _ _ _ (Gh.le.refl _) ⟨k31, by kernel_rfl, by kernel_rfl, h31⟩
                  · have hS := cond_F h24 hS
                    refine xSk ?_
                    refine xSub [(0, vs Ap p cp), (3, vp b1 0), (6, vs A3_0 s13.1 c3_0), (25, vi ((s13.2 : Nat) : Int))] ?_
                    have eS := (Option.some.inj hS).symm
                    exact hN20 _ eS _ _ _ (Gh.le.refl _) ⟨k13_0, by kernel_rfl, by kernel_rfl, h13_0⟩
          · have hS := cond_F h16 hS
            have h16p := of_decide_eq_false h16
            refine xEx 0 ?_
            refine wpq_thenX ?_
            refine wpq_thenX ?_
            refine wpq_blockE ?_
            refine xSel [some 1] ?_
            refine xSub [(6, vs A3_0 s13.1 c3_0)] ?_
            have eS := (Option.some.inj hS).symm
            have eS := (hD13 _ eS).symm
            exact hN8 _ eS _ _ _ e15 ⟨k13_0, by kernel_rfl, by kernel_rfl, h13_0⟩

def o24 (p : List UInt8) (f : Fate) (label : Int) (from_ : Int) (cycle : Int) : Option (Frame × Bool) :=
  (bindO (τ := (List UInt8) × Bool) (o22 (p : List UInt8) f) fun y3 => (cond ((!y3.2)) (some (((⟨0, 0, 0, ([] : List UInt8)⟩ : Frame), (false)))) (bindO (τ := Frame × Int) (o16 (y3.1 : List UInt8)) fun y7 => (cond (((((y7.2 != 0) || (y7.1.label != label)) || (y7.1.from_ != from_)) || (y7.1.cycle != cycle))) (some (((⟨0, 0, 0, ([] : List UInt8)⟩ : Frame), (false)))) (some ((y7.1, (true))))))))
set_option maxRecDepth 100000 in
theorem c24 (g : Gh) (p : List UInt8) (Ap : Option Addr) (cp : Nat) (f : Fate) (label : Int) (from_ : Int) (cycle : Int) (fp : Arr g.r tyU8 Ap cp p) {r : Frame × Bool} (hS : o24 p f label from_ cycle = some r) :
    Ctr Try.prog 24 [vs Ap p cp, Value.agg #[vb f.lost, vi f.bit, Value.int .u32 f.pattern], vy label, vy from_, vi cycle] g [] (fun v ψ o => ∃ (Ar_0_payload : Option Addr) (cr_0_payload : Nat), v = Value.tuple #[Value.agg #[vy r.1.label, vy r.1.from_, vi r.1.cycle, vs Ar_0_payload r.1.payload cr_0_payload], vb r.2] ∧ o = [] ∧ Arr ψ tyU8 Ar_0_payload cr_0_payload r.1.payload) := by
  unfold o24 at hS
  refine xFn Try.f24 (Try.f24.body.getD .skip) 52 ?_
  have nfp := fp.len
  refine xSq ?_
  refine xRg ?_
  refine xE eB ?_
  rintro _ _ _ - ⟨b1, rfl, rfl, rfl⟩
  refine xE eB ?_
  rintro _ _ _ - ⟨b2, rfl, rfl, rfl⟩
  refine xB 1 [] [(0, vs Ap p cp), (2, vy label), (3, vy from_), (4, vi cycle), (6, vp b1 0), (10, vp b2 0)] ?_
  refine xRe ?_
  refine wpq_then ?_
  refine xSq ?_
  refine xRg ?_
  refine xB 2 [(1, 1)] [(2, vy label), (3, vy from_), (4, vi cycle), (10, vp b2 0), (17, vs Ap p cp), (18, Value.agg #[vb f.lost, vi f.bit, Value.int .u32 f.pattern])] ?_
  obtain ⟨y3, hy3, hS⟩ := bindO_T hS
  refine xE (eC 0 (fun g' lr eb ln => c22 g' (p : List UInt8) Ap cp f (fp.mono lr) hy3)) ?_
  rintro _ g4 _ e5 ⟨_, rfl, A3_0, c3_0, k3_0, rfl, rfl, h3_0⟩
  have nh3_0 := h3_0.len
  refine xB 5 [] [(2, vy label), (3, vy from_), (4, vi cycle), (10, vp b2 0), (12, vs A3_0 y3.1 c3_0), (13, vb y3.2)] ?_
  refine xRe ?_
  refine wpq_then ?_
  refine xSq ?_
  refine xSq ?_
  refine xRg ?_
  refine xB 2 [] [(2, vy label), (3, vy from_), (4, vi cycle), (10, vp b2 0), (12, vs A3_0 y3.1 c3_0), (23, vb (!y3.2))] ?_
  refine xRe ?_
  refine wpq_then ?_
  refine xCd ((!y3.2)) (fun h6 => ?_) (fun h6 => ?_)
  · have hS := cond_T h6 hS
    have h6n := not_eq_true_ h6
    refine xSq ?_
    refine xRg ?_
    refine xBo 3 [(1, 1)] [k3_0, some ⟨b2, 24, (cFrame (⟨0, 0, 0, ([] : List UInt8)⟩ : Frame) none 0)⟩, some ⟨b1, 51, [vb f.lost, vi f.bit, Value.int .u32 f.pattern]⟩] [(10, vp b2 0), (11, vb false)] ?_
    refine xRe ?_
    refine wpq_then ?_
    have eS := (Option.some.inj hS).symm
    subst eS
    exact xRetC [] [(10, 1)] e5 ⟨none, 0, by kernel_rfl, by kernel_rfl, Arr.nil⟩ (fun _ _ h => h)
  · have hS := cond_F h6 hS
    have h6n := not_eq_false_ h6
    refine xSk ?_
    refine wpq_then ?_
    refine xSub [(2, vy label), (3, vy from_), (4, vi cycle), (10, vp b2 0), (12, vs A3_0 y3.1 c3_0)] ?_
    refine xSq ?_
    refine xRg ?_
    refine xB 1 [] [(2, vy label), (3, vy from_), (4, vi cycle), (10, vp b2 0), (26, vs A3_0 y3.1 c3_0)] ?_
    obtain ⟨y7, hy7, hS⟩ := bindO_T hS
    refine xE (eC 0 (fun g' lr eb ln => c16 g' (y3.1 : List UInt8) A3_0 c3_0 (arr_of_buf h3_0 (Psi.le_b eb) (lentk 0 (by kernel_rfl) ln)) hy7)) ?_
    rintro _ g8 _ e9 ⟨_, rfl, A7_0_payload, c7_0_payload, rfl, rfl, f7_0_payload⟩
    have nf7_0_payload := f7_0_payload.len
    refine xB 3 [] [(2, vy label), (3, vy from_), (4, vi cycle), (10, vp b2 0), (28, Value.agg #[vy y7.1.label, vy y7.1.from_, vi y7.1.cycle, vs A7_0_payload y7.1.payload c7_0_payload]), (29, vi y7.2)] ?_
    refine xE eB ?_
    rintro _ _ _ - ⟨b10, rfl, rfl, rfl⟩
    refine xBo 2 [(6, 0)] [some ⟨b10, 24, (cFrame y7.1 A7_0_payload c7_0_payload)⟩, k3_0, some ⟨b2, 24, (cFrame (⟨0, 0, 0, ([] : List UInt8)⟩ : Frame) none 0)⟩, some ⟨b1, 51, [vb f.lost, vi f.bit, Value.int .u32 f.pattern]⟩] [(2, vy label), (3, vy from_), (4, vi cycle), (10, vp b2 0), (14, vp b10 0), (15, vi y7.2)] ?_
    refine xRe ?_
    refine wpq_then ?_
    refine xSq ?_
    refine xSq ?_
    refine xRg ?_
    refine xB 3 [] [(2, vy label), (3, vy from_), (4, vi cycle), (10, vp b2 0), (14, vp b10 0), (32, vb (y7.2 != 0))] ?_
    refine wpr_grp 8 [(3, vy from_), (4, vi cycle), (10, vp b2 0), (14, vp b10 0), (37, vb ((y7.2 != 0) || (y7.1.label != label)))] (fun hk2 => ?_) ?_
    · refine wpq_split 32 (b := (y7.2 != 0)) (by kernel_rfl) (fun q11 => ?_) (fun q11 => ?_)
      · have q11p : ¬ (y7.2 = 0) := ne_of_bne_ q11
        refine xB 5 [] [(3, vy from_), (4, vi cycle), (10, vp b2 0), (14, vp b10 0), (37, vb true)] ?_
        refine wpq_re 37 (v := vb true) (Value.bool (((y7.2 != 0) || (y7.1.label != label)))) (by kernel_rfl) (re_or1 q11) ?_
        exact wpq_sub _ (by kernel_rfl) hk2
      · have q11p : y7.2 = 0 := eq_of_bne_false_ q11
        refine xB 5 [(4, 0)] [(3, vy from_), (4, vi cycle), (10, vp b2 0), (14, vp b10 0), (37, vb (y7.1.label != label))] ?_
        refine wpq_re 37 (v := vb (y7.1.label != label)) (Value.bool (((y7.2 != 0) || (y7.1.label != label)))) (by kernel_rfl) (re_or0 q11) ?_
        exact wpq_sub _ (by kernel_rfl) hk2
    · refine xB 1 [] [(3, vy from_), (4, vi cycle), (10, vp b2 0), (14, vp b10 0), (38, vb ((y7.2 != 0) || (y7.1.label != label)))] ?_
      refine wpr_grp 14 [(4, vi cycle), (10, vp b2 0), (14, vp b10 0), (43, vb (((y7.2 != 0) || (y7.1.label != label)) || (y7.1.from_ != from_)))] (fun hk8 => ?_) ?_
      · refine wpq_split 38 (b := ((y7.2 != 0) || (y7.1.label != label))) (by kernel_rfl) (fun q12 => ?_) (fun q12 => ?_)
        · refine xB 5 [] [(4, vi cycle), (10, vp b2 0), (14, vp b10 0), (43, vb true)] ?_
          refine wpq_re 43 (v := vb true) (Value.bool ((((y7.2 != 0) || (y7.1.label != label)) || (y7.1.from_ != from_)))) (by kernel_rfl) (re_or1 q12) ?_
          exact wpq_sub _ (by kernel_rfl) hk8
        · have q12l := (or_false_ q12).1
          have q12r := (or_false_ q12).2
          have q12lp : y7.2 = 0 := eq_of_bne_false_ q12l
          have q12rp : y7.1.label = label := eq_of_bne_false_ q12r
          refine xB 5 [(10, 0)] [(4, vi cycle), (10, vp b2 0), (14, vp b10 0), (43, vb (y7.1.from_ != from_))] ?_
          refine wpq_re 43 (v := vb (y7.1.from_ != from_)) (Value.bool ((((y7.2 != 0) || (y7.1.label != label)) || (y7.1.from_ != from_)))) (by kernel_rfl) (re_or0 q12) ?_
          exact wpq_sub _ (by kernel_rfl) hk8
      · refine xB 1 [] [(4, vi cycle), (10, vp b2 0), (14, vp b10 0), (44, vb (((y7.2 != 0) || (y7.1.label != label)) || (y7.1.from_ != from_)))] ?_
        refine wpr_grp 20 [(10, vp b2 0), (14, vp b10 0), (49, vb ((((y7.2 != 0) || (y7.1.label != label)) || (y7.1.from_ != from_)) || (y7.1.cycle != cycle)))] (fun hk14 => ?_) ?_
        · refine wpq_split 44 (b := (((y7.2 != 0) || (y7.1.label != label)) || (y7.1.from_ != from_))) (by kernel_rfl) (fun q13 => ?_) (fun q13 => ?_)
          · refine xB 5 [] [(10, vp b2 0), (14, vp b10 0), (49, vb true)] ?_
            refine wpq_re 49 (v := vb true) (Value.bool (((((y7.2 != 0) || (y7.1.label != label)) || (y7.1.from_ != from_)) || (y7.1.cycle != cycle)))) (by kernel_rfl) (re_or1 q13) ?_
            exact wpq_sub _ (by kernel_rfl) hk14
          · have q13l := (or_false_ q13).1
            have q13r := (or_false_ q13).2
            have q13ll := (or_false_ q13l).1
            have q13lr := (or_false_ q13l).2
            have q13llp : y7.2 = 0 := eq_of_bne_false_ q13ll
            have q13lrp : y7.1.label = label := eq_of_bne_false_ q13lr
            have q13rp : y7.1.from_ = from_ := eq_of_bne_false_ q13r
            refine xB 5 [(16, 0)] [(10, vp b2 0), (14, vp b10 0), (49, vb (y7.1.cycle != cycle))] ?_
            refine wpq_re 49 (v := vb (y7.1.cycle != cycle)) (Value.bool (((((y7.2 != 0) || (y7.1.label != label)) || (y7.1.from_ != from_)) || (y7.1.cycle != cycle)))) (by kernel_rfl) (re_or0 q13) ?_
            exact wpq_sub _ (by kernel_rfl) hk14
        · refine xRe ?_
          refine wpq_then ?_
          refine xCd (((((y7.2 != 0) || (y7.1.label != label)) || (y7.1.from_ != from_)) || (y7.1.cycle != cycle))) (fun h14 => ?_) (fun h14 => ?_)
          · have hS := cond_T h14 hS
            refine xSq ?_
            refine xRg ?_
            refine xBo 3 [(1, 2)] [some ⟨b10, 24, (cFrame y7.1 A7_0_payload c7_0_payload)⟩, k3_0, some ⟨b2, 24, (cFrame (⟨0, 0, 0, ([] : List UInt8)⟩ : Frame) none 0)⟩, some ⟨b1, 51, [vb f.lost, vi f.bit, Value.int .u32 f.pattern]⟩] [(10, vp b2 0), (11, vb false)] ?_
            refine xRe ?_
            refine wpq_then ?_
            have eS := (Option.some.inj hS).symm
            subst eS
            exact xRetC [] [(10, 2)] (e5.trans e9) ⟨none, 0, by kernel_rfl, by kernel_rfl, Arr.nil⟩ (fun _ _ h => h)
          · have hS := cond_F h14 hS
            have h14l := (or_false_ h14).1
            have h14r := (or_false_ h14).2
            have h14ll := (or_false_ h14l).1
            have h14lr := (or_false_ h14l).2
            have h14lll := (or_false_ h14ll).1
            have h14llr := (or_false_ h14ll).2
            have h14lllp : y7.2 = 0 := eq_of_bne_false_ h14lll
            have h14llrp : y7.1.label = label := eq_of_bne_false_ h14llr
            have h14lrp : y7.1.from_ = from_ := eq_of_bne_false_ h14lr
            have h14rp : y7.1.cycle = cycle := eq_of_bne_false_ h14r
            refine xSk ?_
            refine wpq_then ?_
            refine xSub [(10, vp b2 0), (14, vp b10 0)] ?_
            refine xSq ?_
            refine xRg ?_
            refine xBo 3 [(0, 0), (1, 2)] [some ⟨b10, 24, (cFrame y7.1 A7_0_payload c7_0_payload)⟩, k3_0, some ⟨b2, 24, (cFrame y7.1 A7_0_payload c7_0_payload)⟩, some ⟨b1, 51, [vb f.lost, vi f.bit, Value.int .u32 f.pattern]⟩] [(10, vp b2 0), (11, vb true)] ?_
            refine xRe ?_
            refine wpq_then ?_
            have eS := (Option.some.inj hS).symm
            subst eS
            exact xRetC [] [(10, 2)] (e5.trans e9) ⟨A7_0_payload, c7_0_payload, by kernel_rfl, by kernel_rfl, f7_0_payload⟩ (fun _ _ h => h)

def o23_L0 (p : List UInt8) (f : Fate) (s10 : (List UInt8) × Nat) : Option (Ctl ((List UInt8) × Nat) ((List UInt8))) :=
  (cond (decide (((s10.2 : Nat) : Int) < 32)) (bindO (τ := (List UInt8)) (cond (((((landK .u32 (shrK .u32 f.pattern ((s10.2 : Nat) : Int)) 1) == 1) && decide (f.bit ≥ (IntKind.i64.wrap (0 - ((s10.2 : Nat) : Int))))) && decide (f.bit < (IntKind.i64.wrap ((8 * (((p).length : Nat) : Int)) - ((s10.2 : Nat) : Int)))))) (grd (decide (-9223372036854775808 ≤ f.bit + ((s10.2 : Nat) : Int) ∧ f.bit + ((s10.2 : Nat) : Int) ≤ 9223372036854775807)) (grd (decide (0 ≤ (IntKind.i64.wrap (Int.tdiv (f.bit + ((s10.2 : Nat) : Int)) 8)) ∧ (IntKind.i64.wrap (Int.tdiv (f.bit + ((s10.2 : Nat) : Int)) 8)) < (((s10.1).length : Nat) : Int))) (grd (decide (0 ≤ (Int.tmod (f.bit + ((s10.2 : Nat) : Int)) 8))) (grd (decide (0 ≤ (IntKind.i64.wrap (Int.tdiv (f.bit + ((s10.2 : Nat) : Int)) 8)) ∧ (IntKind.i64.wrap (Int.tdiv (f.bit + ((s10.2 : Nat) : Int)) 8)) < (((s10.1).length : Nat) : Int))) (some (((List.set s10.1 ((IntKind.i64.wrap (Int.tdiv (f.bit + ((s10.2 : Nat) : Int)) 8))).toNat (u8 (lxorK .u8 ((List.getD s10.1 ((IntKind.i64.wrap (Int.tdiv (f.bit + ((s10.2 : Nat) : Int)) 8))).toNat 0).toNat : Int) (shlK .u8 1 (Int.tmod (f.bit + ((s10.2 : Nat) : Int)) 8))))) : List UInt8))))))) (some ((s10.1 : List UInt8)))) fun t16 => (grd (decide (((s10.2 : Nat) : Int) + 1 ≤ 9223372036854775807)) (some (Ctl.go ((t16 : List UInt8), (s10.2 + 1)))))) (some (Ctl.done ((s10.1 : List UInt8)))))
def o23 (p : List UInt8) (f : Fate) : Option ((List UInt8) × Bool) :=
  (cond (f.lost) (some ((([] : List UInt8), (false)))) (bindO (τ := (List UInt8)) (loopO (σ := (List UInt8) × Nat) (ρ := (List UInt8)) fuelN (o23_L0 p f) ((p : List UInt8), 0)) fun t5 => (some (((t5 : List UInt8), (true))))))
set_option maxRecDepth 100000 in
theorem c23 (g : Gh) (p : List UInt8) (Ap : Option Addr) (cp : Nat) (f : Fate) (fp : Arr g.r tyU8 Ap cp p) {r : (List UInt8) × Bool} (hS : o23 p f = some r) :
    Ctr Try.prog 23 [vs Ap p cp, Value.agg #[vb f.lost, vi f.bit, Value.int .u32 f.pattern]] g [] (fun v ψ o => ∃ (Ar_0 : Option Addr) (cr_0 : Nat) (kr_0 : Option Bk), v = Value.tuple #[vs Ar_0 r.1 cr_0, vb r.2] ∧ o = [kr_0] ∧ Buf ψ tyU8 5 (.slice Ar_0 (r.1).length cr_0) kr_0 r.1) := by
  unfold o23 at hS
  refine xFn Try.f23 (Try.f23.body.getD .skip) 59 ?_
  have nfp := fp.len
  refine xSq ?_
  refine xRg ?_
  refine xE eB ?_
  rintro _ _ _ - ⟨b1, rfl, rfl, rfl⟩
  refine xB 2 [] [(0, vs Ap p cp), (3, vp b1 0)] ?_
  refine xRe ?_
  refine wpq_then ?_
  refine xSq ?_
  refine xSq ?_
  refine xRg ?_
  refine xB 2 [(1, 0)] [(0, vs Ap p cp), (3, vp b1 0), (10, vb f.lost)] ?_
  refine xRe ?_
  refine wpq_then ?_
  refine xCd (f.lost) (fun h2 => ?_) (fun h2 => ?_)
  · have hS := cond_T h2 hS
    refine xSq ?_
    refine xRg ?_
    refine xB 2 [] [(4, Value.slice none 0 0), (5, vb false)] ?_
    refine xRe ?_
    refine wpq_then ?_
    have eS := (Option.some.inj hS).symm
    subst eS
    exact xRet [none] [4, 5] (Gh.le.refl _) ⟨none, 0, none, by kernel_rfl, by kernel_rfl, Buf.nil⟩ (fun _ _ h => h)
  · have hS := cond_F h2 hS
    refine xSk ?_
    refine wpq_then ?_
    refine xSub [(0, vs Ap p cp), (3, vp b1 0)] ?_
    refine xSq ?_
    refine xRg ?_
    refine xE (eBs (T := tyU8) (p := g.b) (et := 5) (xs := ([] : List UInt8)) reps_nil (by simp)) ?_
    rintro _ _ _ - ⟨A3, c3, k3, rfl, rfl, rfl, h3⟩
    refine xB 1 [] [(0, vs Ap p cp), (3, vp b1 0), (11, vs A3 ([] : List UInt8) c3), (12, vs Ap p cp)] ?_
    obtain ⟨nw4, hp4, hs4⟩ := fp.srcR
    refine xE (eApp (T := tyU8) (p := g.b) (et := 5) (bytes := 1) (xs := ([] : List UInt8)) (ys := (p : List UInt8)) 0 h3 rfl (fun w hs => hs4 w _ hs) (flatU8.reps hp4) (by first | omega | (simp only [List.length_cons, List.length_nil] at *; omega)) (by first | omega | (simp only [List.length_cons, List.length_nil] at *; omega))) ?_
    rintro _ _ _ - ⟨A4, c4, k4, rfl, rfl, rfl, h4⟩
    have h4 : Buf g.b tyU8 5 (.slice A4 ((p : List UInt8)).length c4) k4 (p : List UInt8) := h4
    have nh4 := h4.len
    refine xB 1 [] [(0, vs Ap p cp), (3, vp b1 0), (6, vs A4 p c4)] ?_
    refine xRe ?_
    refine wpq_then ?_
    refine xSq ?_
    refine xSq ?_
    refine xRg ?_
    refine xB 1 [] [(0, vs Ap p cp), (3, vp b1 0), (6, vs A4 p c4), (7, vi 0)] ?_
    refine xRe ?_
    refine wpq_then ?_
    refine xBindO hS (fun g own sl t5 => ∃ (k5_0 : Option Bk), own = [k5_0] ∧ sl = [(6, vs A4 t5 c4)] ∧ Buf g.b tyU8 5 (.slice A4 (t5).length c4) k5_0 t5) ?_ ?_
    · rintro g6 _ _ t5 e7 ⟨k5_0, rfl, rfl, h5_0⟩ hS
      have nh5_0 := h5_0.len
      refine wpq_then ?_
      refine xSq ?_
      refine xRg ?_
      refine xB 3 [] [(4, vs A4 t5 c4), (5, vb true)] ?_
      refine xRe ?_
      refine wpq_then ?_
      have eS := (Option.some.inj hS).symm
      subst eS
      exact xRet [some 0] [4, 5] e7 ⟨A4, c4, k5_0, by kernel_rfl, by kernel_rfl, h5_0⟩ (fun _ _ h => h)
    · intro uu5 hS hN5
      refine xBl 0 ?_
      refine xSel [some 1, some 0] ?_
      refine xSub [(0, vs Ap p cp), (3, vp b1 0), (6, vs A4 p c4), (7, vi 0)] ?_
      refine xLo hS (fun g own sl s10 => ∃ (k10_0 : Option Bk), own = [some ⟨b1, 51, [vb f.lost, vi f.bit, Value.int .u32 f.pattern]⟩, k10_0] ∧ sl = [(0, vs Ap p cp), (3, vp b1 0), (6, vs A4 s10.1 c4), (7, vi ((s10.2 : Nat) : Int))] ∧ Buf g.b tyU8 5 (.slice A4 (s10.1).length c4) k10_0 s10.1) ⟨k4, by kernel_rfl, by kernel_rfl, h4⟩ ?_
      rintro g11 _ _ s10 uu10 e12 ⟨k10_0, rfl, rfl, h10_0⟩ hS Qr10 hN10 hD10
      have nh10_0 := h10_0.len
      unfold o23_L0 at hS
      refine xSq ?_
      refine xSq ?_
      refine xRg ?_
      refine xB 2 [] [(0, vs Ap p cp), (3, vp b1 0), (6, vs A4 s10.1 c4), (7, vi ((s10.2 : Nat) : Int)), (15, vb (decide (((s10.2 : Nat) : Int) < 32)))] ?_
      refine xRe ?_
      refine wpq_then ?_
      refine xCd (decide (((s10.2 : Nat) : Int) < 32)) (fun h13 => ?_) (fun h13 => ?_)
      · have hS := cond_T h13 hS
        have h13p := of_decide_eq_true h13
        refine xSk ?_
        refine wpq_then ?_
        refine xSub [(0, vs Ap p cp), (3, vp b1 0), (6, vs A4 s10.1 c4), (7, vi ((s10.2 : Nat) : Int))] ?_
        refine xSq ?_
        refine xBl 1 ?_
        refine xSq ?_
        refine xRg ?_
        refine xB 3 [(1, 0)] [(0, vs Ap p cp), (3, vp b1 0), (6, vs A4 s10.1 c4), (7, vi ((s10.2 : Nat) : Int)), (19, Value.int .u32 f.pattern), (20, vi ((s10.2 : Nat) : Int))] ?_
        refine xV (qShr .u32 .i64 (f.pattern) (((s10.2 : Nat) : Int)) (by omega)) ?_
        refine xB 3 [] [(0, vs Ap p cp), (3, vp b1 0), (6, vs A4 s10.1 c4), (7, vi ((s10.2 : Nat) : Int)), (24, vb ((landK .u32 (shrK .u32 f.pattern ((s10.2 : Nat) : Int)) 1) == 1))] ?_
        refine wpr_grp 13 [(0, vs Ap p cp), (3, vp b1 0), (6, vs A4 s10.1 c4), (7, vi ((s10.2 : Nat) : Int)), (30, vb (((landK .u32 (shrK .u32 f.pattern ((s10.2 : Nat) : Int)) 1) == 1) && decide (f.bit ≥ (IntKind.i64.wrap (0 - ((s10.2 : Nat) : Int))))))] (fun hk6 => ?_) ?_
        · refine wpq_split 24 (b := ((landK .u32 (shrK .u32 f.pattern ((s10.2 : Nat) : Int)) 1) == 1)) (by kernel_rfl) (fun q14 => ?_) (fun q14 => ?_)
          · have q14p : (landK .u32 (shrK .u32 f.pattern ((s10.2 : Nat) : Int)) 1) = 1 := eq_of_beq q14
            refine xB 6 [(8, 0)] [(0, vs Ap p cp), (3, vp b1 0), (6, vs A4 s10.1 c4), (7, vi ((s10.2 : Nat) : Int)), (30, vb (decide (f.bit ≥ (IntKind.i64.wrap (0 - ((s10.2 : Nat) : Int))))))] ?_
            refine wpq_re 30 (v := vb (decide (f.bit ≥ (IntKind.i64.wrap (0 - ((s10.2 : Nat) : Int)))))) (Value.bool ((((landK .u32 (shrK .u32 f.pattern ((s10.2 : Nat) : Int)) 1) == 1) && decide (f.bit ≥ (IntKind.i64.wrap (0 - ((s10.2 : Nat) : Int))))))) (by kernel_rfl) (re_and1 q14) ?_
            exact wpq_sub _ (by kernel_rfl) hk6
          · have q14p : ¬ ((landK .u32 (shrK .u32 f.pattern ((s10.2 : Nat) : Int)) 1) = 1) := ne_of_beq_false_ q14
            refine xB 6 [] [(0, vs Ap p cp), (3, vp b1 0), (6, vs A4 s10.1 c4), (7, vi ((s10.2 : Nat) : Int)), (30, vb false)] ?_
            refine wpq_re 30 (v := vb false) (Value.bool ((((landK .u32 (shrK .u32 f.pattern ((s10.2 : Nat) : Int)) 1) == 1) && decide (f.bit ≥ (IntKind.i64.wrap (0 - ((s10.2 : Nat) : Int))))))) (by kernel_rfl) (re_and0 q14) ?_
            exact wpq_sub _ (by kernel_rfl) hk6
        · refine xB 1 [] [(0, vs Ap p cp), (3, vp b1 0), (6, vs A4 s10.1 c4), (7, vi ((s10.2 : Nat) : Int)), (31, vb (((landK .u32 (shrK .u32 f.pattern ((s10.2 : Nat) : Int)) 1) == 1) && decide (f.bit ≥ (IntKind.i64.wrap (0 - ((s10.2 : Nat) : Int))))))] ?_
          refine wpr_grp 23 [(0, vs Ap p cp), (3, vp b1 0), (6, vs A4 s10.1 c4), (7, vi ((s10.2 : Nat) : Int)), (40, vb ((((landK .u32 (shrK .u32 f.pattern ((s10.2 : Nat) : Int)) 1) == 1) && decide (f.bit ≥ (IntKind.i64.wrap (0 - ((s10.2 : Nat) : Int))))) && decide (f.bit < (IntKind.i64.wrap ((8 * (((p).length : Nat) : Int)) - ((s10.2 : Nat) : Int))))))] (fun hk13 => ?_) ?_
          · refine wpq_split 31 (b := (((landK .u32 (shrK .u32 f.pattern ((s10.2 : Nat) : Int)) 1) == 1) && decide (f.bit ≥ (IntKind.i64.wrap (0 - ((s10.2 : Nat) : Int)))))) (by kernel_rfl) (fun q15 => ?_) (fun q15 => ?_)
            · have q15l := (and_true_ q15).1
              have q15r := (and_true_ q15).2
              have q15lp : (landK .u32 (shrK .u32 f.pattern ((s10.2 : Nat) : Int)) 1) = 1 := eq_of_beq q15l
              have q15rp := of_decide_eq_true q15r
              refine xB 4 [(15, 0)] [(0, vs Ap p cp), (3, vp b1 0), (6, vs A4 s10.1 c4), (7, vi ((s10.2 : Nat) : Int)), (31, vb true), (33, vi f.bit), (35, vi (((p).length : Nat) : Int))] ?_
              refine xV (qMul .i64 (8) ((((p).length : Nat) : Int)) (wr64 (by omega))) ?_
              have z68 := i64_in_ ((8 * (((p).length : Nat) : Int)) - ((s10.2 : Nat) : Int))
              refine xB 4 [] [(0, vs Ap p cp), (3, vp b1 0), (6, vs A4 s10.1 c4), (7, vi ((s10.2 : Nat) : Int)), (40, vb (decide (f.bit < (IntKind.i64.wrap ((8 * (((p).length : Nat) : Int)) - ((s10.2 : Nat) : Int))))))] ?_
              refine wpq_re 40 (v := vb (decide (f.bit < (IntKind.i64.wrap ((8 * (((p).length : Nat) : Int)) - ((s10.2 : Nat) : Int)))))) (Value.bool (((((landK .u32 (shrK .u32 f.pattern ((s10.2 : Nat) : Int)) 1) == 1) && decide (f.bit ≥ (IntKind.i64.wrap (0 - ((s10.2 : Nat) : Int))))) && decide (f.bit < (IntKind.i64.wrap ((8 * (((p).length : Nat) : Int)) - ((s10.2 : Nat) : Int))))))) (by kernel_rfl) (re_and1 q15) ?_
              exact wpq_sub _ (by kernel_rfl) hk13
            · refine xB 9 [] [(0, vs Ap p cp), (3, vp b1 0), (6, vs A4 s10.1 c4), (7, vi ((s10.2 : Nat) : Int)), (40, vb false)] ?_
              refine wpq_re 40 (v := vb false) (Value.bool (((((landK .u32 (shrK .u32 f.pattern ((s10.2 : Nat) : Int)) 1) == 1) && decide (f.bit ≥ (IntKind.i64.wrap (0 - ((s10.2 : Nat) : Int))))) && decide (f.bit < (IntKind.i64.wrap ((8 * (((p).length : Nat) : Int)) - ((s10.2 : Nat) : Int))))))) (by kernel_rfl) (re_and0 q15) ?_
              exact wpq_sub _ (by kernel_rfl) hk13
          · refine xRe ?_
            refine wpq_then ?_
            refine xBindO hS (fun g own sl t16 => ∃ (k16_0 : Option Bk), own = [some ⟨b1, 51, [vb f.lost, vi f.bit, Value.int .u32 f.pattern]⟩, k16_0] ∧ sl = [(0, vs Ap p cp), (3, vp b1 0), (6, vs A4 t16 c4), (7, vi ((s10.2 : Nat) : Int))] ∧ Buf g.b tyU8 5 (.slice A4 (t16).length c4) k16_0 t16) ?_ ?_
            · rintro g17 _ _ t16 e18 ⟨k16_0, rfl, rfl, h16_0⟩ hS
              have nh16_0 := h16_0.len
              refine wpq_blockN ?_
              refine wpq_then ?_
              refine xRg ?_
              obtain ⟨q19, hS⟩ := grd_T hS
              have q19p := of_decide_eq_true q19
              refine xB 1 [] [(0, vs Ap p cp), (3, vp b1 0), (6, vs A4 t16 c4), (7, vi ((s10.2 : Nat) : Int)), (16, vi ((s10.2 : Nat) : Int))] ?_
              refine xV (qAdd .i64 (((s10.2 : Nat) : Int)) (1) (wr64 (by omega))) ?_
              refine xB 1 [] [(0, vs Ap p cp), (3, vp b1 0), (6, vs A4 t16 c4), (7, vi (((s10.2 : Nat) : Int) + 1))] ?_
              refine xRe ?_
              refine wpq_thenN ?_
              refine xSub [(0, vs Ap p cp), (3, vp b1 0), (6, vs A4 t16 c4), (7, vi (((s10.2 : Nat) : Int) + 1))] ?_
              have eS := (Option.some.inj hS).symm
              exact hN10 _ eS _ _ _ e18 ⟨k16_0, by kernel_rfl, by kernel_rfl, h16_0⟩
            · intro uu16 hS hN16
              refine xCd (((((landK .u32 (shrK .u32 f.pattern ((s10.2 : Nat) : Int)) 1) == 1) && decide (f.bit ≥ (IntKind.i64.wrap (0 - ((s10.2 : Nat) : Int))))) && decide (f.bit < (IntKind.i64.wrap ((8 * (((p).length : Nat) : Int)) - ((s10.2 : Nat) : Int)))))) (fun h20 => ?_) (fun h20 => ?_)
              · have hS := cond_T h20 hS
                have h20l := (and_true_ h20).1
                have h20r := (and_true_ h20).2
                have h20ll := (and_true_ h20l).1
                have h20lr := (and_true_ h20l).2
                have h20llp : (landK .u32 (shrK .u32 f.pattern ((s10.2 : Nat) : Int)) 1) = 1 := eq_of_beq h20ll
                have h20lrp := of_decide_eq_true h20lr
                have h20rp := of_decide_eq_true h20r
                refine xSq ?_
                refine xRg ?_
                obtain ⟨q21, hS⟩ := grd_T hS
                have q21p := of_decide_eq_true q21
                refine xB 3 [(1, 0)] [(0, vs Ap p cp), (3, vp b1 0), (6, vs A4 s10.1 c4), (7, vi ((s10.2 : Nat) : Int)), (42, vi f.bit), (43, vi ((s10.2 : Nat) : Int))] ?_
                refine xV (qAdd .i64 (f.bit) (((s10.2 : Nat) : Int)) (wr64 (by omega))) ?_
                refine xB 1 [] [(0, vs Ap p cp), (3, vp b1 0), (6, vs A4 s10.1 c4), (7, vi ((s10.2 : Nat) : Int)), (8, vi (f.bit + ((s10.2 : Nat) : Int)))] ?_
                refine xRe ?_
                refine wpq_then ?_
                refine xDr 0 [7] [13, 11, 12] [some ⟨b1, 51, [vb f.lost, vi f.bit, Value.int .u32 f.pattern]⟩, k10_0] 14 (fun RG => ?_) (fun _ _ _ _ _ h => h)
                have z71 := i64_in_ (Int.tdiv (f.bit + ((s10.2 : Nat) : Int)) 8)
                refine xT 12 [0, 1] [] [some 0, some 1] [(0, vs Ap p cp), (3, vp b1 0), (6, vs A4 s10.1 c4), (7, vi ((s10.2 : Nat) : Int)), (8, vi (f.bit + ((s10.2 : Nat) : Int))), (45, vs A4 s10.1 c4), (46, vi (f.bit + ((s10.2 : Nat) : Int)))] RG (Psi.le.refl _) ?_
                refine xTp 2 RG (fun _ => (qQuo .i64 ((f.bit + ((s10.2 : Nat) : Int))) (8) _ (by omega) rfl)) ?_
                have z72 := i64_in_ (Int.tdiv (f.bit + ((s10.2 : Nat) : Int)) 8)
                refine xT 9 [3, 4] [] [some 0, some 1] [(0, vs Ap p cp), (3, vp b1 0), (6, vs A4 s10.1 c4), (7, vi ((s10.2 : Nat) : Int)), (8, vi (f.bit + ((s10.2 : Nat) : Int))), (45, vs A4 s10.1 c4), (47, vi (IntKind.i64.wrap (Int.tdiv (f.bit + ((s10.2 : Nat) : Int)) 8))), (48, vs A4 s10.1 c4), (49, vi (f.bit + ((s10.2 : Nat) : Int)))] RG (Psi.le.refl _) ?_
                refine xTp 5 RG (fun _ => (qQuo .i64 ((f.bit + ((s10.2 : Nat) : Int))) (8) _ (by omega) rfl)) ?_
                obtain ⟨q23, hS⟩ := grd_T hS
                have q23p := of_decide_eq_true q23
                have i24 : ((IntKind.i64.wrap (Int.tdiv (f.bit + ((s10.2 : Nat) : Int)) 8))).toNat < (s10.1).length := by omega
                obtain ⟨kc22, cs22, hA22, hk22, hr22, hw22⟩ := h10_0.open_ i24 0
                obtain ⟨kb22, rfl⟩ : ∃ z, z = kc22 := ⟨_, rfl⟩
                subst hk22
                have hr22 : cs22 = [vy ((List.getD s10.1 ((IntKind.i64.wrap (Int.tdiv (f.bit + ((s10.2 : Nat) : Int)) 8))).toNat 0).toNat : Int)] := hr22
                subst hr22
                have nb22 := UInt8.toNat_lt (List.getD s10.1 ((IntKind.i64.wrap (Int.tdiv (f.bit + ((s10.2 : Nat) : Int)) 8))).toNat 0)
                refine xTp 6 RG (fun _ => (qIxB ((IntKind.i64.wrap (Int.tdiv (f.bit + ((s10.2 : Nat) : Int)) 8))).toNat 1 kb22.g hA22 (show ((IntKind.i64.wrap (Int.tdiv (f.bit + ((s10.2 : Nat) : Int)) 8)) : Int) = _ from by omega) i24)) ?_
                refine xTv 7 [some 0, some 1] RG (Psi.le.refl _) (qLdB ((IntKind.i64.wrap (Int.tdiv (f.bit + ((s10.2 : Nat) : Int)) 8))).toNat 1 0 1 hw22) ?_
                refine xT 5 [8] [] [some 0, some 1] [(0, vs Ap p cp), (3, vp b1 0), (6, vs A4 s10.1 c4), (7, vi ((s10.2 : Nat) : Int)), (45, vs A4 s10.1 c4), (47, vi (IntKind.i64.wrap (Int.tdiv (f.bit + ((s10.2 : Nat) : Int)) 8))), (52, vy ((List.getD s10.1 ((IntKind.i64.wrap (Int.tdiv (f.bit + ((s10.2 : Nat) : Int)) 8))).toNat 0).toNat : Int)), (53, vi (f.bit + ((s10.2 : Nat) : Int)))] RG (Psi.le.refl _) ?_
                refine xTp 9 RG (fun _ => (qRem .i64 ((f.bit + ((s10.2 : Nat) : Int))) (8) _ (by omega) rfl)) ?_
                obtain ⟨q25, hS⟩ := grd_T hS
                have q25p := of_decide_eq_true q25
                refine xTp 10 RG (fun _ => (qShl .u8 .i64 (1) ((Int.tmod (f.bit + ((s10.2 : Nat) : Int)) 8)) (by omega))) ?_
                obtain ⟨q27, hS⟩ := grd_T hS
                have q27p := of_decide_eq_true q27
                have i28 : ((IntKind.i64.wrap (Int.tdiv (f.bit + ((s10.2 : Nat) : Int)) 8))).toNat < (s10.1).length := by omega
                obtain ⟨kc26, cs26, hA26, hk26, hr26, hw26⟩ := h10_0.open_ i28 0
                cases hk26
                have hr26 : cs26 = [vy ((List.getD s10.1 ((IntKind.i64.wrap (Int.tdiv (f.bit + ((s10.2 : Nat) : Int)) 8))).toNat 0).toNat : Int)] := hr26
                subst hr26
                have nb26 := UInt8.toNat_lt (List.getD s10.1 ((IntKind.i64.wrap (Int.tdiv (f.bit + ((s10.2 : Nat) : Int)) 8))).toNat 0)
                refine xT 2 [11] [] [some 0, some 1] [(0, vs Ap p cp), (3, vp b1 0), (6, vs A4 s10.1 c4), (7, vi ((s10.2 : Nat) : Int)), (45, vs A4 s10.1 c4), (47, vi (IntKind.i64.wrap (Int.tdiv (f.bit + ((s10.2 : Nat) : Int)) 8))), (56, vy (lxorK .u8 ((List.getD s10.1 ((IntKind.i64.wrap (Int.tdiv (f.bit + ((s10.2 : Nat) : Int)) 8))).toNat 0).toNat : Int) (shlK .u8 1 (Int.tmod (f.bit + ((s10.2 : Nat) : Int)) 8))))] RG (Psi.le.refl _) ?_
                refine xTp 12 RG (fun _ => (qIxB ((IntKind.i64.wrap (Int.tdiv (f.bit + ((s10.2 : Nat) : Int)) 8))).toNat 1 kb22.g hA26 (show ((IntKind.i64.wrap (Int.tdiv (f.bit + ((s10.2 : Nat) : Int)) 8)) : Int) = _ from by omega) i28)) ?_
                refine xO1 (lds := [7]) 13 ?_
                refine xId (lds := [7]) (Psi.le.refl _) (eStB ((IntKind.i64.wrap (Int.tdiv (f.bit + ((s10.2 : Nat) : Int)) 8))).toNat 1 0 1 [vy (lxorK .u8 ((List.getD s10.1 ((IntKind.i64.wrap (Int.tdiv (f.bit + ((s10.2 : Nat) : Int)) 8))).toNat 0).toNat : Int) (shlK .u8 1 (Int.tmod (f.bit + ((s10.2 : Nat) : Int)) 8)))] h10_0 rfl hw26 (u8_rep (lxorU8 _ _)) i28) ?_
                rintro _ _ _ - ⟨k29, rfl, rfl, h29⟩
                refine kf ?_
                have hz29 : (s10.1).length = ((List.set s10.1 ((IntKind.i64.wrap (Int.tdiv (f.bit + ((s10.2 : Nat) : Int)) 8))).toNat (u8 (lxorK .u8 ((List.getD s10.1 ((IntKind.i64.wrap (Int.tdiv (f.bit + ((s10.2 : Nat) : Int)) 8))).toNat 0).toNat : Int) (shlK .u8 1 (Int.tmod (f.bit + ((s10.2 : Nat) : Int)) 8)))))).length := by simp
                refine xAe (lds := [7]) ?_
                refine wpq_re 6 (v := Value.slice A4 ((s10.1).length) c4) (vs A4 (List.set s10.1 ((IntKind.i64.wrap (Int.tdiv (f.bit + ((s10.2 : Nat) : Int)) 8))).toNat (u8 (lxorK .u8 ((List.getD s10.1 ((IntKind.i64.wrap (Int.tdiv (f.bit + ((s10.2 : Nat) : Int)) 8))).toNat 0).toNat : Int) (shlK .u8 1 (Int.tmod (f.bit + ((s10.2 : Nat) : Int)) 8))))) c4) (by kernel_rfl) (congrArg (fun z => Value.slice A4 z c4) hz29) ?_
                have h29 := Buf.re h29 hz29 (rfl : (List.set s10.1 ((IntKind.i64.wrap (Int.tdiv (f.bit + ((s10.2 : Nat) : Int)) 8))).toNat (u8 (lxorK .u8 ((List.getD s10.1 ((IntKind.i64.wrap (Int.tdiv (f.bit + ((s10.2 : Nat) : Int)) 8))).toNat 0).toNat : Int) (shlK .u8 1 (Int.tmod (f.bit + ((s10.2 : Nat) : Int)) 8))))) = _)
                refine wpq_re 45 (v := Value.slice A4 ((s10.1).length) c4) (vs A4 (List.set s10.1 ((IntKind.i64.wrap (Int.tdiv (f.bit + ((s10.2 : Nat) : Int)) 8))).toNat (u8 (lxorK .u8 ((List.getD s10.1 ((IntKind.i64.wrap (Int.tdiv (f.bit + ((s10.2 : Nat) : Int)) 8))).toNat 0).toNat : Int) (shlK .u8 1 (Int.tmod (f.bit + ((s10.2 : Nat) : Int)) 8))))) c4) (by kernel_rfl) (congrArg (fun z => Value.slice A4 z c4) hz29) ?_
                refine xSub [(0, vs Ap p cp), (3, vp b1 0), (6, vs A4 (List.set s10.1 ((IntKind.i64.wrap (Int.tdiv (f.bit + ((s10.2 : Nat) : Int)) 8))).toNat (u8 (lxorK .u8 ((List.getD s10.1 ((IntKind.i64.wrap (Int.tdiv (f.bit + ((s10.2 : Nat) : Int)) 8))).toNat 0).toNat : Int) (shlK .u8 1 (Int.tmod (f.bit + ((s10.2 : Nat) : Int)) 8))))) c4), (7, vi ((s10.2 : Nat) : Int))] ?_
                have eS := (Option.some.inj hS).symm
                exact hN16 _ eS _ _ _ (Gh.le.refl _) ⟨k29, by kernel_rfl, by kernel_rfl, h29⟩
              · have hS := cond_F h20 hS
                refine xSk ?_
                refine xSub [(0, vs Ap p cp), (3, vp b1 0), (6, vs A4 s10.1 c4), (7, vi ((s10.2 : Nat) : Int))] ?_
                have eS := (Option.some.inj hS).symm
                exact hN16 _ eS _ _ _ (Gh.le.refl _) ⟨k10_0, by kernel_rfl, by kernel_rfl, h10_0⟩
      · have hS := cond_F h13 hS
        have h13p := of_decide_eq_false h13
        refine xEx 0 ?_
        refine wpq_thenX ?_
        refine wpq_thenX ?_
        refine wpq_blockE ?_
        refine xSel [some 1] ?_
        refine xSub [(6, vs A4 s10.1 c4)] ?_
        have eS := (Option.some.inj hS).symm
        have eS := (hD10 _ eS).symm
        exact hN5 _ eS _ _ _ e12 ⟨k10_0, by kernel_rfl, by kernel_rfl, h10_0⟩

def o69_L0 (s6 : Int × Nat) : Option (Ctl (Int × Nat) (Int)) :=
  (cond (decide (((s6.2 : Nat) : Int) < 8)) (letJ (τ := Int) (cond (((landK .u32 s6.1 1) == 1)) ((lxorK .u32 (shrK .u32 s6.1 1) 3988292384)) ((shrK .u32 s6.1 1))) fun t10 => (grd (decide (((s6.2 : Nat) : Int) + 1 ≤ 9223372036854775807)) (some (Ctl.go (t10, (s6.2 + 1)))))) (some (Ctl.done (s6.1))))
def o69 (r_ : Int) (b : Int) : Option (Int) :=
  (bindO (τ := Int) (loopO (σ := Int × Nat) (ρ := Int) fuelN (o69_L0) ((lxorK .u32 r_ (IntKind.u32.wrap b)), 0)) fun t1 => (some ((t1 : Int))))
set_option maxRecDepth 100000 in
theorem c69 (g : Gh) (r_ : Int) (b : Int) {r : Int} (hS : o69 r_ b = some r) :
    Ctr Try.prog 69 [Value.int .u32 r_, vy b] g [] (fun v ψ o => v = Value.int .u32 r ∧ o = []) := by
  unfold o69 at hS
  refine xFn Try.f69 (Try.f69.body.getD .skip) 24 ?_
  refine xSq ?_
  refine xRg ?_
  refine xB 1 [] [(0, Value.int .u32 r_), (1, vy b)] ?_
  refine xRe ?_
  refine wpq_then ?_
  refine xSq ?_
  refine xRg ?_
  have z1 := u32_in_ b
  refine xB 5 [] [(0, Value.int .u32 (lxorK .u32 r_ (IntKind.u32.wrap b)))] ?_
  refine xRe ?_
  refine wpq_then ?_
  refine xSq ?_
  refine xSq ?_
  refine xRg ?_
  refine xB 1 [] [(0, Value.int .u32 (lxorK .u32 r_ (IntKind.u32.wrap b))), (5, vi 0)] ?_
  refine xRe ?_
  refine wpq_then ?_
  refine xBindO hS (fun g own sl t1 => own = [] ∧ sl = [(0, Value.int .u32 t1)]) ?_ ?_
  · rintro g2 _ _ t1 e3 ⟨rfl, rfl⟩ hS
    refine wpq_then ?_
    refine xSq ?_
    refine xRg ?_
    refine xB 2 [] [(4, Value.int .u32 t1)] ?_
    refine xRe ?_
    refine wpq_then ?_
    have eS := (Option.some.inj hS).symm
    subst eS
    exact xRet [] [4] e3 ⟨by kernel_rfl, by kernel_rfl⟩ (fun _ _ h => h)
  · intro uu1 hS hN1
    refine xBl 0 ?_
    refine xSub [(0, Value.int .u32 (lxorK .u32 r_ (IntKind.u32.wrap b))), (5, vi 0)] ?_
    refine xLo hS (fun g own sl s6 => own = [] ∧ sl = [(0, Value.int .u32 s6.1), (5, vi ((s6.2 : Nat) : Int))]) ⟨by kernel_rfl, by kernel_rfl⟩ ?_
    rintro g7 _ _ s6 uu6 e8 ⟨rfl, rfl⟩ hS Qr6 hN6 hD6
    unfold o69_L0 at hS
    refine xSq ?_
    refine xSq ?_
    refine xRg ?_
    refine xB 2 [] [(0, Value.int .u32 s6.1), (5, vi ((s6.2 : Nat) : Int)), (12, vb (decide (((s6.2 : Nat) : Int) < 8)))] ?_
    refine xRe ?_
    refine wpq_then ?_
    refine xCd (decide (((s6.2 : Nat) : Int) < 8)) (fun h9 => ?_) (fun h9 => ?_)
    · have hS := cond_T h9 hS
      have h9p := of_decide_eq_true h9
      refine xSk ?_
      refine wpq_then ?_
      refine xSub [(0, Value.int .u32 s6.1), (5, vi ((s6.2 : Nat) : Int))] ?_
      refine xSq ?_
      refine xBl 1 ?_
      refine xSq ?_
      refine xRg ?_
      refine xB 3 [] [(0, Value.int .u32 s6.1), (5, vi ((s6.2 : Nat) : Int)), (6, Value.int .u32 (landK .u32 s6.1 1))] ?_
      refine xRe ?_
      refine wpq_then ?_
      refine xSq ?_
      refine xRg ?_
      refine xB 3 [] [(0, Value.int .u32 (shrK .u32 s6.1 1)), (5, vi ((s6.2 : Nat) : Int)), (6, Value.int .u32 (landK .u32 s6.1 1))] ?_
      refine xRe ?_
      refine wpq_then ?_
      refine xSq ?_
      refine xRg ?_
      refine xB 2 [] [(0, Value.int .u32 (shrK .u32 s6.1 1)), (5, vi ((s6.2 : Nat) : Int)), (20, vb ((landK .u32 s6.1 1) == 1))] ?_
      refine xRe ?_
      refine wpq_then ?_
      refine xLetJ hS (fun g own sl t10 => own = [] ∧ sl = [(0, Value.int .u32 t10), (5, vi ((s6.2 : Nat) : Int))]) ?_ ?_
      · rintro g11 _ _ t10 e12 ⟨rfl, rfl⟩ hS
        refine wpq_blockN ?_
        refine wpq_then ?_
        refine xRg ?_
        obtain ⟨q13, hS⟩ := grd_T hS
        have q13p := of_decide_eq_true q13
        refine xB 1 [] [(0, Value.int .u32 t10), (5, vi ((s6.2 : Nat) : Int)), (13, vi ((s6.2 : Nat) : Int))] ?_
        refine xV (qAdd .i64 (((s6.2 : Nat) : Int)) (1) (wr64 (by omega))) ?_
        refine xB 1 [] [(0, Value.int .u32 t10), (5, vi (((s6.2 : Nat) : Int) + 1))] ?_
        refine xRe ?_
        refine wpq_thenN ?_
        refine xSub [(0, Value.int .u32 t10), (5, vi (((s6.2 : Nat) : Int) + 1))] ?_
        have eS := (Option.some.inj hS).symm
        exact hN6 _ eS _ _ _ e12 ⟨by kernel_rfl, by kernel_rfl⟩
      · intro uu10 hS hN10
        refine xCd (((landK .u32 s6.1 1) == 1)) (fun h14 => ?_) (fun h14 => ?_)
        · have hS := cond_T h14 hS
          have h14p : (landK .u32 s6.1 1) = 1 := eq_of_beq h14
          refine xRg ?_
          refine xB 3 [] [(0, Value.int .u32 (lxorK .u32 (shrK .u32 s6.1 1) 3988292384)), (5, vi ((s6.2 : Nat) : Int))] ?_
          refine xRe ?_
          refine xSub [(0, Value.int .u32 (lxorK .u32 (shrK .u32 s6.1 1) 3988292384)), (5, vi ((s6.2 : Nat) : Int))] ?_
          have eS := hS.symm
          exact hN10 _ eS _ _ _ (Gh.le.refl _) ⟨by kernel_rfl, by kernel_rfl⟩
        · have hS := cond_F h14 hS
          have h14p : ¬ ((landK .u32 s6.1 1) = 1) := ne_of_beq_false_ h14
          refine xSk ?_
          refine xSub [(0, Value.int .u32 (shrK .u32 s6.1 1)), (5, vi ((s6.2 : Nat) : Int))] ?_
          have eS := hS.symm
          exact hN10 _ eS _ _ _ (Gh.le.refl _) ⟨by kernel_rfl, by kernel_rfl⟩
    · have hS := cond_F h9 hS
      have h9p := of_decide_eq_false h9
      refine xEx 0 ?_
      refine wpq_thenX ?_
      refine wpq_thenX ?_
      refine wpq_blockE ?_
      refine xSub [(0, Value.int .u32 s6.1)] ?_
      have eS := (Option.some.inj hS).symm
      have eS := (hD6 _ eS).symm
      exact hN1 _ eS _ _ _ e8 ⟨by kernel_rfl, by kernel_rfl⟩

def o57_L0 (p : List UInt8) (s6 : Int × Nat) : Option (Ctl (Int × Nat) (Int)) :=
  (cond (decide (((s6.2 : Nat) : Int) < (((p).length : Nat) : Int))) (bindO (τ := Int) (o69 (s6.1 : Int) (((List.getD p s6.2 0).toNat : Int) : Int)) fun y12 => (grd (decide (((s6.2 : Nat) : Int) + 1 ≤ 9223372036854775807)) (some (Ctl.go (y12, (s6.2 + 1)))))) (some (Ctl.done (s6.1))))
def o57 (sum : Int) (p : List UInt8) : Option (Int) :=
  (bindO (τ := Int) (loopO (σ := Int × Nat) (ρ := Int) fuelN (o57_L0 p) ((lxorK .u32 4294967295 sum), 0)) fun t1 => (some (((lxorK .u32 4294967295 t1) : Int))))
set_option maxRecDepth 100000 in
theorem c57 (g : Gh) (sum : Int) (p : List UInt8) (Ap : Option Addr) (cp : Nat) (fp : Arr g.r tyU8 Ap cp p) {r : Int} (hS : o57 sum p = some r) :
    Ctr Try.prog 57 [Value.int .u32 sum, vs Ap p cp] g [] (fun v ψ o => v = Value.int .u32 r ∧ o = []) := by
  unfold o57 at hS
  refine xFn Try.f57 (Try.f57.body.getD .skip) 22 ?_
  have nfp := fp.len
  refine xSq ?_
  refine xRg ?_
  refine xB 1 [] [(0, Value.int .u32 sum), (1, vs Ap p cp)] ?_
  refine xRe ?_
  refine wpq_then ?_
  refine xSq ?_
  refine xRg ?_
  refine xB 3 [] [(1, vs Ap p cp), (5, Value.int .u32 (lxorK .u32 4294967295 sum))] ?_
  refine xRe ?_
  refine wpq_then ?_
  refine xSq ?_
  refine xSq ?_
  refine xRg ?_
  refine xB 3 [] [(5, Value.int .u32 (lxorK .u32 4294967295 sum)), (10, vs Ap p cp), (11, vi (((p).length : Nat) : Int)), (12, vi 0)] ?_
  refine xRe ?_
  refine wpq_then ?_
  refine xBindO hS (fun g own sl t1 => own = [] ∧ sl = [(5, Value.int .u32 t1)]) ?_ ?_
  · rintro g2 _ _ t1 e3 ⟨rfl, rfl⟩ hS
    refine wpq_then ?_
    refine xSq ?_
    refine xRg ?_
    refine xB 3 [] [(4, Value.int .u32 (lxorK .u32 4294967295 t1))] ?_
    refine xRe ?_
    refine wpq_then ?_
    have eS := (Option.some.inj hS).symm
    subst eS
    exact xRet [] [4] e3 ⟨by kernel_rfl, by kernel_rfl⟩ (fun _ _ h => h)
  · intro uu1 hS hN1
    refine xBl 0 ?_
    refine xSub [(5, Value.int .u32 (lxorK .u32 4294967295 sum)), (10, vs Ap p cp), (11, vi (((p).length : Nat) : Int)), (12, vi 0)] ?_
    refine xLo hS (fun g own sl s6 => own = [] ∧ sl = [(5, Value.int .u32 s6.1), (10, vs Ap p cp), (11, vi (((p).length : Nat) : Int)), (12, vi ((s6.2 : Nat) : Int))]) ⟨by kernel_rfl, by kernel_rfl⟩ ?_
    rintro g7 _ _ s6 uu6 e8 ⟨rfl, rfl⟩ hS Qr6 hN6 hD6
    unfold o57_L0 at hS
    refine xSq ?_
    refine xRg ?_
    refine xB 1 [] [(5, Value.int .u32 s6.1), (10, vs Ap p cp), (11, vi (((p).length : Nat) : Int)), (12, vi ((s6.2 : Nat) : Int)), (13, vb (decide (((s6.2 : Nat) : Int) < (((p).length : Nat) : Int))))] ?_
    refine xRe ?_
    refine wpq_then ?_
    refine xSq ?_
    refine xCd (decide (((s6.2 : Nat) : Int) < (((p).length : Nat) : Int))) (fun h9 => ?_) (fun h9 => ?_)
    · have hS := cond_T h9 hS
      have h9p := of_decide_eq_true h9
      refine xSk ?_
      refine wpq_then ?_
      refine xSub [(5, Value.int .u32 s6.1), (10, vs Ap p cp), (11, vi (((p).length : Nat) : Int)), (12, vi ((s6.2 : Nat) : Int))] ?_
      refine xSq ?_
      refine xBl 1 ?_
      refine xSq ?_
      refine xRg ?_
      have fp := fp.mono e8.r
      have i11 : s6.2 < (p).length := by omega
      obtain ⟨ad10, cs10, hA10, hr10, hc10⟩ := fp.at_ (get_getD (d := 0) i11)
      have hr10 : cs10 = [vy ((List.getD p s6.2 0).toNat : Int)] := hr10
      subst hr10
      have nb10 := UInt8.toNat_lt (List.getD p s6.2 0)
      refine xV (qIx s6.2 1 hA10 rfl i11) ?_
      refine xV (qLdP (Addr.add ad10 (s6.2 * 1)) 0 hc10) ?_
      refine xB 1 [] [(5, Value.int .u32 s6.1), (7, vy ((List.getD p s6.2 0).toNat : Int)), (10, vs Ap p cp), (11, vi (((p).length : Nat) : Int)), (12, vi ((s6.2 : Nat) : Int))] ?_
      refine xRe ?_
      refine wpq_then ?_
      refine xRg ?_
      refine xB 2 [] [(5, Value.int .u32 s6.1), (10, vs Ap p cp), (11, vi (((p).length : Nat) : Int)), (12, vi ((s6.2 : Nat) : Int)), (16, Value.int .u32 s6.1), (17, vy ((List.getD p s6.2 0).toNat : Int))] ?_
      obtain ⟨y12, hy12, hS⟩ := bindO_T hS
      refine xE (eC 0 (fun g' lr eb ln => c69 g' (s6.1 : Int) (((List.getD p s6.2 0).toNat : Int) : Int) hy12)) ?_
      rintro _ g13 _ e14 ⟨_, rfl, rfl, rfl⟩
      refine xB 1 [] [(5, Value.int .u32 y12), (10, vs Ap p cp), (11, vi (((p).length : Nat) : Int)), (12, vi ((s6.2 : Nat) : Int))] ?_
      refine xRe ?_
      refine wpq_blockN ?_
      refine wpq_then ?_
      refine xRg ?_
      obtain ⟨q15, hS⟩ := grd_T hS
      have q15p := of_decide_eq_true q15
      refine xV (qAdd .i64 (((s6.2 : Nat) : Int)) (1) (wr64 (by omega))) ?_
      refine xB 1 [] [(5, Value.int .u32 y12), (10, vs Ap p cp), (11, vi (((p).length : Nat) : Int)), (12, vi (((s6.2 : Nat) : Int) + 1))] ?_
      refine xRe ?_
      refine wpq_thenN ?_
      refine xSub [(5, Value.int .u32 y12), (10, vs Ap p cp), (11, vi (((p).length : Nat) : Int)), (12, vi (((s6.2 : Nat) : Int) + 1))] ?_
      have eS := (Option.some.inj hS).symm
      exact hN6 _ eS _ _ _ e14 ⟨by kernel_rfl, by kernel_rfl⟩
    · have hS := cond_F h9 hS
      have h9p := of_decide_eq_false h9
      refine xEx 0 ?_
      refine wpq_thenX ?_
      refine wpq_thenX ?_
      refine wpq_blockE ?_
      refine xSub [(5, Value.int .u32 s6.1)] ?_
      have eS := (Option.some.inj hS).symm
      have eS := (hD6 _ eS).symm
      exact hN1 _ eS _ _ _ e8 ⟨by kernel_rfl, by kernel_rfl⟩

def o51 (p : List UInt8) : Option (Int) :=
  (bindO (τ := Int) (o57 (0 : Int) (p : List UInt8)) fun y1 => (some ((y1 : Int))))
set_option maxRecDepth 100000 in
theorem c51 (g : Gh) (p : List UInt8) (Ap : Option Addr) (cp : Nat) (fp : Arr g.r tyU8 Ap cp p) {r : Int} (hS : o51 p = some r) :
    Ctr Try.prog 51 [vs Ap p cp] g [] (fun v ψ o => v = Value.int .u32 r ∧ o = []) := by
  unfold o51 at hS
  refine xFn Try.f51 (Try.f51.body.getD .skip) 5 ?_
  have nfp := fp.len
  refine xSq ?_
  refine xRg ?_
  refine xB 1 [] [(0, vs Ap p cp)] ?_
  refine xRe ?_
  refine wpq_then ?_
  refine xSq ?_
  refine xRg ?_
  refine xB 1 [] [(3, vs Ap p cp)] ?_
  obtain ⟨y1, hy1, hS⟩ := bindO_T hS
  refine xE (eC 0 (fun g' lr eb ln => c57 g' (0 : Int) (p : List UInt8) Ap cp (fp.mono lr) hy1)) ?_
  rintro _ g2 _ e3 ⟨_, rfl, rfl, rfl⟩
  refine xB 1 [] [(2, Value.int .u32 y1)] ?_
  refine xRe ?_
  refine wpq_then ?_
  have eS := (Option.some.inj hS).symm
  subst eS
  exact xRet [] [2] e3 ⟨by kernel_rfl, by kernel_rfl⟩ (fun _ _ h => h)

def o50 (x : Int) : (List UInt8) :=
  ((([(u8 (IntKind.u8.wrap x)), (u8 (IntKind.u8.wrap (shrK .u32 x 8))), (u8 (IntKind.u8.wrap (shrK .u32 x 16))), (u8 (IntKind.u8.wrap (shrK .u32 x 24)))] : List UInt8) : List UInt8))
set_option maxRecDepth 100000 in
theorem c50 (g : Gh) (x : Int) {r : (List UInt8)} (hS : o50 x = r) :
    Ctr Try.prog 50 [Value.int .u32 x] g [] (fun v ψ o => ∃ (Ar_0 : Option Addr) (cr_0 : Nat) (kr_0 : Option Bk), v = vs Ar_0 r cr_0 ∧ o = [kr_0] ∧ Buf ψ tyU8 5 (.slice Ar_0 (r).length cr_0) kr_0 r) := by
  unfold o50 at hS
  refine xFn Try.f50 (Try.f50.body.getD .skip) 15 ?_
  refine xSq ?_
  refine xRg ?_
  refine xB 1 [] [(0, Value.int .u32 x)] ?_
  refine xRe ?_
  refine wpq_then ?_
  refine xSq ?_
  refine xRg ?_
  have z1 := u8_in_ x
  have z2 := u8_in_ (shrK .u32 x 8)
  have z3 := u8_in_ (shrK .u32 x 16)
  have z4 := u8_in_ (shrK .u32 x 24)
  refine xB 11 [] [(4, vy (IntKind.u8.wrap x)), (7, vy (IntKind.u8.wrap (shrK .u32 x 8))), (10, vy (IntKind.u8.wrap (shrK .u32 x 16))), (13, vy (IntKind.u8.wrap (shrK .u32 x 24)))] ?_
  refine xE (eBs (T := tyU8) (p := g.b) (et := 5) (xs := ([(u8 (IntKind.u8.wrap x)), (u8 (IntKind.u8.wrap (shrK .u32 x 8))), (u8 (IntKind.u8.wrap (shrK .u32 x 16))), (u8 (IntKind.u8.wrap (shrK .u32 x 24)))] : List UInt8)) (reps_cons (c := [vy (IntKind.u8.wrap x)]) (u8_rep (wrapU8_rng _)) (reps_cons (c := [vy (IntKind.u8.wrap (shrK .u32 x 8))]) (u8_rep (wrapU8_rng _)) (reps_cons (c := [vy (IntKind.u8.wrap (shrK .u32 x 16))]) (u8_rep (wrapU8_rng _)) (reps_cons (c := [vy (IntKind.u8.wrap (shrK .u32 x 24))]) (u8_rep (wrapU8_rng _)) reps_nil)))) (by simp)) ?_
  rintro _ _ _ - ⟨A1, c1, k1, rfl, rfl, rfl, h1⟩
  refine xB 1 [] [(2, vs A1 ([(u8 (IntKind.u8.wrap x)), (u8 (IntKind.u8.wrap (shrK .u32 x 8))), (u8 (IntKind.u8.wrap (shrK .u32 x 16))), (u8 (IntKind.u8.wrap (shrK .u32 x 24)))] : List UInt8) c1)] ?_
  refine xRe ?_
  refine wpq_then ?_
  have eS := hS.symm
  subst eS
  exact xRet [some 0] [2] (Gh.le.refl _) ⟨A1, c1, k1, by kernel_rfl, by kernel_rfl, h1⟩ (fun _ _ h => h)

def o35_L0 (p : List UInt8) (y7 : (List UInt8)) (s19 : Nat) : Option (Ctl (Nat) (Ctl (Unit) ((List UInt8) × Int))) :=
  (cond (decide (((s19 : Nat) : Int) < 4)) (grd (decide (-9223372036854775808 ≤ ((((p).length : Nat) : Int) - 4) + ((s19 : Nat) : Int) ∧ ((((p).length : Nat) : Int) - 4) + ((s19 : Nat) : Int) ≤ 9223372036854775807)) (grd (decide (0 ≤ (((((p).length : Nat) : Int) - 4) + ((s19 : Nat) : Int)) ∧ (((((p).length : Nat) : Int) - 4) + ((s19 : Nat) : Int)) < (((p).length : Nat) : Int))) (grd (decide (s19 < (y7).length)) (cond ((((List.getD p ((((((p).length : Nat) : Int) - 4) + ((s19 : Nat) : Int))).toNat 0).toNat : Int) != ((List.getD y7 s19 0).toNat : Int))) (some (Ctl.done (Ctl.done ((([] : List UInt8), (12 : Int)))))) (grd (decide (((s19 : Nat) : Int) + 1 ≤ 9223372036854775807)) (some (Ctl.go (s19 + 1)))))))) (some (Ctl.done (Ctl.go ()))))
def o35 (p : List UInt8) : Option ((List UInt8) × Int) :=
  (cond (decide ((((p).length : Nat) : Int) < 4)) (some ((([] : List UInt8), (4 : Int)))) (grd (decide (((((p).length : Nat) : Int) - 4) ≤ (((p).length : Nat) : Int))) (bindO (τ := Int) (o51 ((List.take (((((p).length : Nat) : Int) - 4)).toNat p) : List UInt8)) fun y4 => (letJ (τ := (List UInt8)) (o50 (y4 : Int)) fun y7 => (joinO (τ := Unit) (ρ := (List UInt8) × Int) (loopO (σ := Nat) (ρ := Ctl (Unit) ((List UInt8) × Int)) fuelN (o35_L0 p y7) (0)) fun t10 => (grd (decide (((((p).length : Nat) : Int) - 4) ≤ (((p).length : Nat) : Int))) (some ((((List.take (((((p).length : Nat) : Int) - 4)).toNat p) : List UInt8), (0 : Int))))))))))
set_option maxRecDepth 100000 in
theorem c35 (g : Gh) (p : List UInt8) (Ap : Option Addr) (cp : Nat) (fp : Arr g.r tyU8 Ap cp p) {r : (List UInt8) × Int} (hS : o35 p = some r) :
    Ctr Try.prog 35 [vs Ap p cp] g [] (fun v ψ o => ∃ (Ar_0 : Option Addr) (cr_0 : Nat) (kr_0 : Option Bk), v = Value.tuple #[vs Ar_0 r.1 cr_0, vi r.2] ∧ o = [kr_0] ∧ Buf ψ tyU8 5 (.slice Ar_0 (r.1).length cr_0) kr_0 r.1) := by
  unfold o35 at hS
  refine xFn Try.f35 (Try.f35.body.getD .skip) 38 ?_
  have nfp := fp.len
  refine xSq ?_
  refine xRg ?_
  refine xB 2 [] [(0, vs Ap p cp)] ?_
  refine xRe ?_
  refine wpq_then ?_
  refine xSq ?_
  refine xSq ?_
  refine xRg ?_
  refine xB 3 [] [(0, vs Ap p cp), (9, vb (decide ((((p).length : Nat) : Int) < 4)))] ?_
  refine xRe ?_
  refine wpq_then ?_
  refine xCd (decide ((((p).length : Nat) : Int) < 4)) (fun h1 => ?_) (fun h1 => ?_)
  · have hS := cond_T h1 hS
    have h1p := of_decide_eq_true h1
    refine xSq ?_
    refine xRg ?_
    refine xB 2 [] [(2, Value.slice none 0 0), (3, vi 4)] ?_
    refine xRe ?_
    refine wpq_then ?_
    have eS := (Option.some.inj hS).symm
    subst eS
    exact xRet [none] [2, 3] (Gh.le.refl _) ⟨none, 0, none, by kernel_rfl, by kernel_rfl, Buf.nil⟩ (fun _ _ h => h)
  · have hS := cond_F h1 hS
    have h1p := of_decide_eq_false h1
    refine xSk ?_
    refine wpq_then ?_
    refine xSub [(0, vs Ap p cp)] ?_
    refine xSq ?_
    refine xRg ?_
    refine xB 2 [] [(0, vs Ap p cp), (11, vi (((p).length : Nat) : Int))] ?_
    refine xV (qSub .i64 ((((p).length : Nat) : Int)) (4) (wr64 (by omega))) ?_
    refine xB 1 [] [(0, vs Ap p cp), (4, vi ((((p).length : Nat) : Int) - 4))] ?_
    refine xRe ?_
    refine wpq_then ?_
    refine xSq ?_
    refine xRg ?_
    obtain ⟨q2, hS⟩ := grd_T hS
    have q2p := of_decide_eq_true q2
    have ncapf3 := fp.cap
    have f3 : Arr g.r tyU8 (offA Ap cp 0 1) (cp - 0) (List.take (((((p).length : Nat) : Int) - 4)).toNat p) := fp.cut_to (((((p).length : Nat) : Int) - 4)).toNat (by omega)
    have nf3 := f3.len
    have hlf3 : (((((p).length : Nat) : Int) - 4)).toNat - 0 = ((List.take (((((p).length : Nat) : Int) - 4)).toNat p)).length := by simp only [List.length_take, List.length_drop] <;> omega
    have hvf3 : ((((List.take (((((p).length : Nat) : Int) - 4)).toNat p)).length : Nat) : Int) = ((((p).length : Nat) : Int) - 4) - 0 := by omega
    refine xB 2 [] [(0, vs Ap p cp), (4, vi ((((p).length : Nat) : Int) - 4)), (13, vs Ap p cp), (14, vi ((((p).length : Nat) : Int) - 4))] ?_
    refine xV (qSl (m := 1) (A := Ap) (len := (p).length) (c := cp) 0 (((((p).length : Nat) : Int) - 4)).toNat none (some ((((p).length : Nat) : Int) - 4)) ((List.take (((((p).length : Nat) : Int) - 4)).toNat p)).length rfl (show _ = _ by omega) (by omega) (by omega) hlf3) ?_
    obtain ⟨y4, hy4, hS⟩ := bindO_T hS
    refine xE (eC 0 (fun g' lr eb ln => c51 g' ((List.take (((((p).length : Nat) : Int) - 4)).toNat p) : List UInt8) (offA Ap cp 0 1) (cp - 0) (f3.mono lr) hy4)) ?_
    rintro _ g5 _ e6 ⟨_, rfl, rfl, rfl⟩
    obtain ⟨y7, hy7, hS⟩ := letJ_T hS
    refine xE (eC 0 (fun g' lr eb ln => c50 g' (y4 : Int) hy7)) ?_
    rintro _ g8 _ e9 ⟨_, rfl, A7_0, c7_0, k7_0, rfl, rfl, h7_0⟩
    have nh7_0 := h7_0.len
    refine xB 1 [] [(0, vs Ap p cp), (4, vi ((((p).length : Nat) : Int) - 4)), (5, vs A7_0 y7 c7_0)] ?_
    refine xRe ?_
    refine wpq_then ?_
    refine xSq ?_
    refine xSq ?_
    refine xRg ?_
    refine xB 1 [] [(0, vs Ap p cp), (4, vi ((((p).length : Nat) : Int) - 4)), (5, vs A7_0 y7 c7_0), (6, vi 0)] ?_
    refine xRe ?_
    refine wpq_then ?_
    refine xJoinO hS (fun g own sl t10 => own = [] ∧ sl = [(0, vs Ap p cp), (4, vi ((((p).length : Nat) : Int) - 4))]) ?_ ?_
    · rintro g11 _ _ t10 e12 ⟨rfl, rfl⟩ hS
      refine wpq_then ?_
      refine xSq ?_
      refine xRg ?_
      refine xE (eBs (T := tyU8) (p := g11.b) (et := 5) (xs := ([] : List UInt8)) reps_nil (by simp)) ?_
      rintro _ _ _ - ⟨A13, c13, k13, rfl, rfl, rfl, h13⟩
      have fp := fp.mono (e6.trans (e9.trans e12)).r
      obtain ⟨q14, hS⟩ := grd_T hS
      have q14p := of_decide_eq_true q14
      have ncapf15 := fp.cap
      have f15 : Arr g11.r tyU8 (offA Ap cp 0 1) (cp - 0) (List.take (((((p).length : Nat) : Int) - 4)).toNat p) := fp.cut_to (((((p).length : Nat) : Int) - 4)).toNat (by omega)
      have nf15 := f15.len
      have hlf15 : (((((p).length : Nat) : Int) - 4)).toNat - 0 = ((List.take (((((p).length : Nat) : Int) - 4)).toNat p)).length := by simp only [List.length_take, List.length_drop] <;> omega
      have hvf15 : ((((List.take (((((p).length : Nat) : Int) - 4)).toNat p)).length : Nat) : Int) = ((((p).length : Nat) : Int) - 4) - 0 := by omega
      refine xB 2 [] [(33, vs A13 ([] : List UInt8) c13), (34, vs Ap p cp), (35, vi ((((p).length : Nat) : Int) - 4))] ?_
      refine xV (qSl (m := 1) (A := Ap) (len := (p).length) (c := cp) 0 (((((p).length : Nat) : Int) - 4)).toNat none (some ((((p).length : Nat) : Int) - 4)) ((List.take (((((p).length : Nat) : Int) - 4)).toNat p)).length rfl (show _ = _ by omega) (by omega) (by omega) hlf15) ?_
      obtain ⟨nw16, hp16, hs16⟩ := f15.srcR
      refine xE (eApp (T := tyU8) (p := g11.b) (et := 5) (bytes := 1) (xs := ([] : List UInt8)) (ys := ((List.take (((((p).length : Nat) : Int) - 4)).toNat p) : List UInt8)) 0 h13 rfl (fun w hs => hs16 w _ hs) (flatU8.reps hp16) (by first | omega | (simp only [List.length_cons, List.length_nil] at *; omega)) (by first | omega | (simp only [List.length_cons, List.length_nil] at *; omega))) ?_
      rintro _ _ _ - ⟨A16, c16, k16, rfl, rfl, rfl, h16⟩
      have h16 : Buf g11.b tyU8 5 (.slice A16 (((List.take (((((p).length : Nat) : Int) - 4)).toNat p) : List UInt8)).length c16) k16 ((List.take (((((p).length : Nat) : Int) - 4)).toNat p) : List UInt8) := h16
      have nh16 := h16.len
      refine xB 2 [] [(2, vs A16 (List.take (((((p).length : Nat) : Int) - 4)).toNat p) c16), (3, vi 0)] ?_
      refine xRe ?_
      refine wpq_then ?_
      have eS := (Option.some.inj hS).symm
      subst eS
      exact xRet [some 0] [2, 3] (e6.trans (e9.trans e12)) ⟨A16, c16, k16, by kernel_rfl, by kernel_rfl, h16⟩ (fun _ _ h => h)
    · intro uu10 hS hN10 hD10
      refine xBl 0 ?_
      refine xSub [(0, vs Ap p cp), (4, vi ((((p).length : Nat) : Int) - 4)), (5, vs A7_0 y7 c7_0), (6, vi 0)] ?_
      refine xLo hS (fun g own sl s19 => own = [k7_0] ∧ sl = [(0, vs Ap p cp), (4, vi ((((p).length : Nat) : Int) - 4)), (5, vs A7_0 y7 c7_0), (6, vi ((s19 : Nat) : Int))]) ⟨by kernel_rfl, by kernel_rfl⟩ ?_
      rintro g20 _ _ s19 uu19 e21 ⟨rfl, rfl⟩ hS Qr19 hN19 hD19
      unfold o35_L0 at hS
      refine xSq ?_
      refine xSq ?_
      refine xRg ?_
      refine xB 2 [] [(0, vs Ap p cp), (4, vi ((((p).length : Nat) : Int) - 4)), (5, vs A7_0 y7 c7_0), (6, vi ((s19 : Nat) : Int)), (19, vb (decide (((s19 : Nat) : Int) < 4)))] ?_
      refine xRe ?_
      refine wpq_then ?_
      refine xCd (decide (((s19 : Nat) : Int) < 4)) (fun h22 => ?_) (fun h22 => ?_)
      · have hS := cond_T h22 hS
        have h22p := of_decide_eq_true h22
        refine xSk ?_
        refine wpq_then ?_
        refine xSub [(0, vs Ap p cp), (4, vi ((((p).length : Nat) : Int) - 4)), (5, vs A7_0 y7 c7_0), (6, vi ((s19 : Nat) : Int))] ?_
        refine xSq ?_
        refine xBl 1 ?_
        refine xSq ?_
        refine xDr 0 [5, 9] [10] [k7_0] 11 (fun RG => ?_) (fun _ _ _ _ _ h => h)
        obtain ⟨q23, hS⟩ := grd_T hS
        have q23p := of_decide_eq_true q23
        refine xT 8 [0, 1, 2] [] [some 0] [(0, vs Ap p cp), (4, vi ((((p).length : Nat) : Int) - 4)), (5, vs A7_0 y7 c7_0), (6, vi ((s19 : Nat) : Int)), (22, vs Ap p cp), (23, vi ((((p).length : Nat) : Int) - 4)), (24, vi ((s19 : Nat) : Int))] RG (Psi.le.refl _) ?_
        refine xTp 3 RG (fun _ => (qAdd .i64 (((((p).length : Nat) : Int) - 4)) (((s19 : Nat) : Int)) (wr64 (by omega)))) ?_
        have fp := fp.mono (e6.trans (e9.trans e21)).r
        obtain ⟨q25, hS⟩ := grd_T hS
        have q25p := of_decide_eq_true q25
        have i26 : ((((((p).length : Nat) : Int) - 4) + ((s19 : Nat) : Int))).toNat < (p).length := by omega
        obtain ⟨ad24, cs24, hA24, hr24, hc24⟩ := fp.at_ (get_getD (d := 0) i26)
        have hr24 : cs24 = [vy ((List.getD p ((((((p).length : Nat) : Int) - 4) + ((s19 : Nat) : Int))).toNat 0).toNat : Int)] := hr24
        subst hr24
        have nb24 := UInt8.toNat_lt (List.getD p ((((((p).length : Nat) : Int) - 4) + ((s19 : Nat) : Int))).toNat 0)
        refine xTp 4 RG (fun _ => (qIx ((((((p).length : Nat) : Int) - 4) + ((s19 : Nat) : Int))).toNat 1 hA24 (show ((((((p).length : Nat) : Int) - 4) + ((s19 : Nat) : Int)) : Int) = _ from by omega) i26)) ?_
        refine xTv 5 [some 0] RG (Psi.le.refl _) (qLdP (Addr.add ad24 (((((((p).length : Nat) : Int) - 4) + ((s19 : Nat) : Int))).toNat * 1)) 0 hc24) ?_
        have h7_0 := h7_0.mono e21.b
        obtain ⟨q28, hS⟩ := grd_T hS
        have q28p := of_decide_eq_true q28
        obtain ⟨kc27, cs27, hA27, hk27, hr27, hw27⟩ := h7_0.open_ q28p 0
        obtain ⟨kb27, rfl⟩ : ∃ z, z = kc27 := ⟨_, rfl⟩
        subst hk27
        have hr27 : cs27 = [vy ((List.getD y7 s19 0).toNat : Int)] := hr27
        subst hr27
        have nb27 := UInt8.toNat_lt (List.getD y7 s19 0)
        refine xT 3 [6, 7] [] [some 0] [(0, vs Ap p cp), (4, vi ((((p).length : Nat) : Int) - 4)), (5, vs A7_0 y7 c7_0), (6, vi ((s19 : Nat) : Int)), (27, vy ((List.getD p ((((((p).length : Nat) : Int) - 4) + ((s19 : Nat) : Int))).toNat 0).toNat : Int)), (28, vs A7_0 y7 c7_0), (29, vi ((s19 : Nat) : Int))] RG (Psi.le.refl _) ?_
        refine xTp 8 RG (fun _ => (qIxB s19 1 kb27.g hA27 rfl q28p)) ?_
        refine xTv 9 [some 0] RG (Psi.le.refl _) (qLdB s19 1 0 0 hw27) ?_
        refine xT 0 [10] [] [some 0] [(0, vs Ap p cp), (4, vi ((((p).length : Nat) : Int) - 4)), (5, vs A7_0 y7 c7_0), (6, vi ((s19 : Nat) : Int)), (32, vb (((List.getD p ((((((p).length : Nat) : Int) - 4) + ((s19 : Nat) : Int))).toNat 0).toNat : Int) != ((List.getD y7 s19 0).toNat : Int)))] RG (Psi.le.refl _) ?_
        refine xAe (lds := [5, 9]) ?_
        refine wpq_then ?_
        refine xCd ((((List.getD p ((((((p).length : Nat) : Int) - 4) + ((s19 : Nat) : Int))).toNat 0).toNat : Int) != ((List.getD y7 s19 0).toNat : Int))) (fun h29 => ?_) (fun h29 => ?_)
        · have hS := cond_T h29 hS
          have h29p : ¬ (((List.getD p ((((((p).length : Nat) : Int) - 4) + ((s19 : Nat) : Int))).toNat 0).toNat : Int) = ((List.getD y7 s19 0).toNat : Int)) := ne_of_bne_ h29
          refine xSq ?_
          refine xRg ?_
          refine xB 2 [] [(2, Value.slice none 0 0), (3, vi 12)] ?_
          refine xRe ?_
          refine wpq_then ?_
          have eS := (Option.some.inj hS).symm
          have eS := (hD19 _ eS).symm
          have eS := (hD10 _ eS).symm
          subst eS
          exact xRet [none] [2, 3] (e6.trans (e9.trans e21)) ⟨none, 0, none, by kernel_rfl, by kernel_rfl, Buf.nil⟩ (fun _ _ h => h)
        · have hS := cond_F h29 hS
          have h29p : ((List.getD p ((((((p).length : Nat) : Int) - 4) + ((s19 : Nat) : Int))).toNat 0).toNat : Int) = ((List.getD y7 s19 0).toNat : Int) := eq_of_bne_false_ h29
          refine xSk ?_
          refine wpq_blockN ?_
          refine wpq_then ?_
          refine xSub [(0, vs Ap p cp), (4, vi ((((p).length : Nat) : Int) - 4)), (5, vs A7_0 y7 c7_0), (6, vi ((s19 : Nat) : Int))] ?_
          refine xRg ?_
          obtain ⟨q30, hS⟩ := grd_T hS
          have q30p := of_decide_eq_true q30
          refine xB 1 [] [(0, vs Ap p cp), (4, vi ((((p).length : Nat) : Int) - 4)), (5, vs A7_0 y7 c7_0), (6, vi ((s19 : Nat) : Int)), (20, vi ((s19 : Nat) : Int))] ?_
          refine xV (qAdd .i64 (((s19 : Nat) : Int)) (1) (wr64 (by omega))) ?_
          refine xB 1 [] [(0, vs Ap p cp), (4, vi ((((p).length : Nat) : Int) - 4)), (5, vs A7_0 y7 c7_0), (6, vi (((s19 : Nat) : Int) + 1))] ?_
          refine xRe ?_
          refine wpq_thenN ?_
          refine xSub [(0, vs Ap p cp), (4, vi ((((p).length : Nat) : Int) - 4)), (5, vs A7_0 y7 c7_0), (6, vi (((s19 : Nat) : Int) + 1))] ?_
          have eS := (Option.some.inj hS).symm
          exact hN19 _ eS _ _ _ (Gh.le.refl _) ⟨by kernel_rfl, by kernel_rfl⟩
      · have hS := cond_F h22 hS
        have h22p := of_decide_eq_false h22
        refine xEx 0 ?_
        refine wpq_thenX ?_
        refine wpq_thenX ?_
        refine wpq_blockE ?_
        refine xSel [] ?_
        refine xSub [(0, vs Ap p cp), (4, vi ((((p).length : Nat) : Int) - 4))] ?_
        have eS := (Option.some.inj hS).symm
        have eS := (hD19 _ eS).symm
        exact hN10 _ eS _ _ _ e21 ⟨by kernel_rfl, by kernel_rfl⟩

def o36_L0 (p : List UInt8) (s6 : Int × Nat) : Option (Ctl (Int × Nat) (Int)) :=
  (cond (decide (((s6.2 : Nat) : Int) < (((p).length : Nat) : Int))) (grd (decide (0 ≤ (IntKind.i64.wrap (8 * ((s6.2 : Nat) : Int))))) (grd (decide (((s6.2 : Nat) : Int) + 1 ≤ 9223372036854775807)) (some (Ctl.go ((lorK .u64 s6.1 (shlK .u64 ((List.getD p s6.2 0).toNat : Int) (IntKind.i64.wrap (8 * ((s6.2 : Nat) : Int))))), (s6.2 + 1)))))) (some (Ctl.done (s6.1))))
def o36 (p : List UInt8) : Option (Int) :=
  (bindO (τ := Int) (loopO (σ := Int × Nat) (ρ := Int) fuelN (o36_L0 p) (0, 0)) fun t1 => (some (((IntKind.i64.wrap t1) : Int))))
set_option maxRecDepth 100000 in
theorem c36 (g : Gh) (p : List UInt8) (Ap : Option Addr) (cp : Nat) (fp : Arr g.r tyU8 Ap cp p) {r : Int} (hS : o36 p = some r) :
    Ctr Try.prog 36 [vs Ap p cp] g [] (fun v ψ o => v = vi r ∧ o = []) := by
  unfold o36 at hS
  refine xFn Try.f36 (Try.f36.body.getD .skip) 23 ?_
  have nfp := fp.len
  refine xSq ?_
  refine xRg ?_
  refine xB 1 [] [(0, vs Ap p cp)] ?_
  refine xRe ?_
  refine wpq_then ?_
  refine xSq ?_
  refine xRg ?_
  refine xB 1 [] [(0, vs Ap p cp), (3, Value.int .u64 0)] ?_
  refine xRe ?_
  refine wpq_then ?_
  refine xSq ?_
  refine xSq ?_
  refine xRg ?_
  refine xB 3 [] [(3, Value.int .u64 0), (6, vs Ap p cp), (7, vi (((p).length : Nat) : Int)), (8, vi 0)] ?_
  refine xRe ?_
  refine wpq_then ?_
  refine xBindO hS (fun g own sl t1 => own = [] ∧ sl = [(3, Value.int .u64 t1)]) ?_ ?_
  · rintro g2 _ _ t1 e3 ⟨rfl, rfl⟩ hS
    refine wpq_then ?_
    refine xSq ?_
    refine xRg ?_
    have z7 := i64_in_ t1
    refine xB 3 [] [(2, vi (IntKind.i64.wrap t1))] ?_
    refine xRe ?_
    refine wpq_then ?_
    have eS := (Option.some.inj hS).symm
    subst eS
    exact xRet [] [2] e3 ⟨by kernel_rfl, by kernel_rfl⟩ (fun _ _ h => h)
  · intro uu1 hS hN1
    refine xBl 0 ?_
    refine xSub [(3, Value.int .u64 0), (6, vs Ap p cp), (7, vi (((p).length : Nat) : Int)), (8, vi 0)] ?_
    refine xLo hS (fun g own sl s6 => own = [] ∧ sl = [(3, Value.int .u64 s6.1), (6, vs Ap p cp), (7, vi (((p).length : Nat) : Int)), (8, vi ((s6.2 : Nat) : Int))]) ⟨by kernel_rfl, by kernel_rfl⟩ ?_
    rintro g7 _ _ s6 uu6 e8 ⟨rfl, rfl⟩ hS Qr6 hN6 hD6
    unfold o36_L0 at hS
    refine xSq ?_
    refine xRg ?_
    refine xB 1 [] [(3, Value.int .u64 s6.1), (6, vs Ap p cp), (7, vi (((p).length : Nat) : Int)), (8, vi ((s6.2 : Nat) : Int)), (9, vb (decide (((s6.2 : Nat) : Int) < (((p).length : Nat) : Int))))] ?_
    refine xRe ?_
    refine wpq_then ?_
    refine xSq ?_
    refine xCd (decide (((s6.2 : Nat) : Int) < (((p).length : Nat) : Int))) (fun h9 => ?_) (fun h9 => ?_)
    · have hS := cond_T h9 hS
      have h9p := of_decide_eq_true h9
      refine xSk ?_
      refine wpq_then ?_
      refine xSub [(3, Value.int .u64 s6.1), (6, vs Ap p cp), (7, vi (((p).length : Nat) : Int)), (8, vi ((s6.2 : Nat) : Int))] ?_
      refine xSq ?_
      refine xBl 1 ?_
      refine xSq ?_
      refine xRg ?_
      have fp := fp.mono e8.r
      have i11 : s6.2 < (p).length := by omega
      obtain ⟨ad10, cs10, hA10, hr10, hc10⟩ := fp.at_ (get_getD (d := 0) i11)
      have hr10 : cs10 = [vy ((List.getD p s6.2 0).toNat : Int)] := hr10
      subst hr10
      have nb10 := UInt8.toNat_lt (List.getD p s6.2 0)
      refine xB 1 [] [(3, Value.int .u64 s6.1), (6, vs Ap p cp), (7, vi (((p).length : Nat) : Int)), (8, vi ((s6.2 : Nat) : Int)), (10, vi ((s6.2 : Nat) : Int))] ?_
      refine xV (qIx s6.2 1 hA10 rfl i11) ?_
      refine xV (qLdP (Addr.add ad10 (s6.2 * 1)) 0 hc10) ?_
      refine xB 2 [] [(3, Value.int .u64 s6.1), (4, vi ((s6.2 : Nat) : Int)), (5, vy ((List.getD p s6.2 0).toNat : Int)), (6, vs Ap p cp), (7, vi (((p).length : Nat) : Int)), (8, vi ((s6.2 : Nat) : Int))] ?_
      refine xRe ?_
      refine wpq_then ?_
      refine xRg ?_
      refine xB 2 [] [(3, Value.int .u64 s6.1), (4, vi ((s6.2 : Nat) : Int)), (6, vs Ap p cp), (7, vi (((p).length : Nat) : Int)), (8, vi ((s6.2 : Nat) : Int)), (13, Value.int .u64 s6.1), (14, vy ((List.getD p s6.2 0).toNat : Int))] ?_
      refine xV (qConv .u8 .u64 (((List.getD p s6.2 0).toNat : Int)) (((List.getD p s6.2 0).toNat : Int)) (wr_u64 (by omega))) ?_
      have z13 := i64_in_ (8 * ((s6.2 : Nat) : Int))
      obtain ⟨q12, hS⟩ := grd_T hS
      have q12p := of_decide_eq_true q12
      refine xB 2 [] [(3, Value.int .u64 s6.1), (6, vs Ap p cp), (7, vi (((p).length : Nat) : Int)), (8, vi ((s6.2 : Nat) : Int)), (13, Value.int .u64 s6.1), (15, Value.int .u64 ((List.getD p s6.2 0).toNat : Int)), (17, vi (IntKind.i64.wrap (8 * ((s6.2 : Nat) : Int))))] ?_
      refine xV (qShl .u64 .i64 (((List.getD p s6.2 0).toNat : Int)) ((IntKind.i64.wrap (8 * ((s6.2 : Nat) : Int)))) (by omega)) ?_
      refine xB 2 [] [(3, Value.int .u64 (lorK .u64 s6.1 (shlK .u64 ((List.getD p s6.2 0).toNat : Int) (IntKind.i64.wrap (8 * ((s6.2 : Nat) : Int)))))), (6, vs Ap p cp), (7, vi (((p).length : Nat) : Int)), (8, vi ((s6.2 : Nat) : Int))] ?_
      refine xRe ?_
      refine wpq_blockN ?_
      refine wpq_then ?_
      refine xRg ?_
      obtain ⟨q13, hS⟩ := grd_T hS
      have q13p := of_decide_eq_true q13
      refine xV (qAdd .i64 (((s6.2 : Nat) : Int)) (1) (wr64 (by omega))) ?_
      refine xB 1 [] [(3, Value.int .u64 (lorK .u64 s6.1 (shlK .u64 ((List.getD p s6.2 0).toNat : Int) (IntKind.i64.wrap (8 * ((s6.2 : Nat) : Int)))))), (6, vs Ap p cp), (7, vi (((p).length : Nat) : Int)), (8, vi (((s6.2 : Nat) : Int) + 1))] ?_
      refine xRe ?_
      refine wpq_thenN ?_
      refine xSub [(3, Value.int .u64 (lorK .u64 s6.1 (shlK .u64 ((List.getD p s6.2 0).toNat : Int) (IntKind.i64.wrap (8 * ((s6.2 : Nat) : Int)))))), (6, vs Ap p cp), (7, vi (((p).length : Nat) : Int)), (8, vi (((s6.2 : Nat) : Int) + 1))] ?_
      have eS := (Option.some.inj hS).symm
      exact hN6 _ eS _ _ _ (Gh.le.refl _) ⟨by kernel_rfl, by kernel_rfl⟩
    · have hS := cond_F h9 hS
      have h9p := of_decide_eq_false h9
      refine xEx 0 ?_
      refine wpq_thenX ?_
      refine wpq_thenX ?_
      refine wpq_blockE ?_
      refine xSub [(3, Value.int .u64 s6.1)] ?_
      have eS := (Option.some.inj hS).symm
      have eS := (hD6 _ eS).symm
      exact hN1 _ eS _ _ _ e8 ⟨by kernel_rfl, by kernel_rfl⟩

def o18 (p : List UInt8) : Option (Frame × Int) :=
  (bindO (τ := (List UInt8) × Int) (o35 (p : List UInt8)) fun y2 => (cond ((y2.2 != 0)) (some (((⟨0, 0, 0, ([] : List UInt8)⟩ : Frame), (y2.2 : Int)))) (bindO (τ := (List UInt8) × Bool) (cond ((decide ((((y2.1).length : Nat) : Int) < 12) || decide (((((y2.1).length : Nat) : Int) - 12) > 1000))) (some ((y2.1 : List UInt8), true)) (bindO (τ := Int) (o36 ((List.take (12 - 10) (List.drop 10 y2.1)) : List UInt8)) fun y242 => (some ((y2.1 : List UInt8), (y242 != ((((y2.1).length : Nat) : Int) - 12)))))) fun t7 => (cond (t7.2) (some (((⟨0, 0, 0, ([] : List UInt8)⟩ : Frame), (4 : Int)))) (grd (decide (0 < (t7.1).length)) (grd (decide (1 < (t7.1).length)) (grd (decide (10 ≤ (((t7.1).length : Nat) : Int))) (grd (decide (12 ≤ (((t7.1).length : Nat) : Int))) (bindO (τ := Int) (o36 ((List.take (10 - 2) (List.drop 2 t7.1)) : List UInt8)) fun y20 => (some (((⟨((List.getD t7.1 0 0).toNat : Int), ((List.getD t7.1 1 0).toNat : Int), y20, (List.drop 12 t7.1)⟩ : Frame), (0 : Int)))))))))))))
set_option maxRecDepth 100000 in
theorem c18 (g : Gh) (p : List UInt8) (Ap : Option Addr) (cp : Nat) (fp : Arr g.r tyU8 Ap cp p) {r : Frame × Int} (hS : o18 p = some r) :
    Ctr Try.prog 18 [vs Ap p cp] g [] (fun v ψ o => ∃ (Ar_0_payload : Option Addr) (cr_0_payload : Nat), v = Value.tuple #[Value.agg #[vy r.1.label, vy r.1.from_, vi r.1.cycle, vs Ar_0_payload r.1.payload cr_0_payload], vi r.2] ∧ o = [] ∧ Arr ψ tyU8 Ar_0_payload cr_0_payload r.1.payload) := by
  unfold o18 at hS
  refine xFn Try.f18 (Try.f18.body.getD .skip) 48 ?_
  have nfp := fp.len
  refine xSq ?_
  refine xRg ?_
  refine xE eB ?_
  rintro _ _ _ - ⟨b1, rfl, rfl, rfl⟩
  refine xB 1 [] [(0, vs Ap p cp), (2, vp b1 0)] ?_
  refine xRe ?_
  refine wpq_then ?_
  refine xSq ?_
  refine xRg ?_
  refine xB 1 [] [(2, vp b1 0), (7, vs Ap p cp)] ?_
  obtain ⟨y2, hy2, hS⟩ := bindO_T hS
  refine xE (eC 0 (fun g' lr eb ln => c35 g' (p : List UInt8) Ap cp (fp.mono lr) hy2)) ?_
  rintro _ g3 _ e4 ⟨_, rfl, A2_0, c2_0, k2_0, rfl, rfl, h2_0⟩
  have nh2_0 := h2_0.len
  refine xB 5 [] [(2, vp b1 0), (4, vs A2_0 y2.1 c2_0), (5, vi y2.2)] ?_
  refine xRe ?_
  refine wpq_then ?_
  refine xSq ?_
  refine xSq ?_
  refine xRg ?_
  refine xB 2 [] [(2, vp b1 0), (4, vs A2_0 y2.1 c2_0), (5, vi y2.2), (12, vb (y2.2 != 0))] ?_
  refine xRe ?_
  refine wpq_then ?_
  refine xCd ((y2.2 != 0)) (fun h5 => ?_) (fun h5 => ?_)
  · have hS := cond_T h5 hS
    have h5p : ¬ (y2.2 = 0) := ne_of_bne_ h5
    refine xSq ?_
    refine xRg ?_
    refine xBo 4 [(2, 1)] [k2_0, some ⟨b1, 24, (cFrame (⟨0, 0, 0, ([] : List UInt8)⟩ : Frame) none 0)⟩] [(2, vp b1 0), (3, vi y2.2)] ?_
    refine xRe ?_
    refine wpq_then ?_
    have eS := (Option.some.inj hS).symm
    subst eS
    exact xRetC [] [(2, 1)] e4 ⟨none, 0, by kernel_rfl, by kernel_rfl, Arr.nil⟩ (fun _ _ h => h)
  · have hS := cond_F h5 hS
    have h5p : y2.2 = 0 := eq_of_bne_false_ h5
    refine xSk ?_
    refine wpq_then ?_
    refine xSub [(2, vp b1 0), (4, vs A2_0 y2.1 c2_0)] ?_
    refine xSq ?_
    refine xSq ?_
    refine xRg ?_
    refine xB 4 [] [(2, vp b1 0), (4, vs A2_0 y2.1 c2_0), (18, vb (decide ((((y2.1).length : Nat) : Int) < 12)))] ?_
    refine wpr_grp 9 [(2, vp b1 0), (4, vs A2_0 y2.1 c2_0), (23, vb (decide ((((y2.1).length : Nat) : Int) < 12) || decide (((((y2.1).length : Nat) : Int) - 12) > 1000)))] (fun hk3 => ?_) ?_
    · refine wpq_split 18 (b := decide ((((y2.1).length : Nat) : Int) < 12)) (by kernel_rfl) (fun q6 => ?_) (fun q6 => ?_)
      · have q6p := of_decide_eq_true q6
        refine xB 5 [] [(2, vp b1 0), (4, vs A2_0 y2.1 c2_0), (23, vb true)] ?_
        refine wpq_re 23 (v := vb true) (Value.bool ((decide ((((y2.1).length : Nat) : Int) < 12) || decide (((((y2.1).length : Nat) : Int) - 12) > 1000)))) (by kernel_rfl) (re_or1 q6) ?_
        exact wpq_sub _ (by kernel_rfl) hk3
      · have q6p := of_decide_eq_false q6
        refine xB 2 [] [(2, vp b1 0), (4, vs A2_0 y2.1 c2_0), (18, vb false), (20, vi (((y2.1).length : Nat) : Int))] ?_
        refine xV (qSub .i64 ((((y2.1).length : Nat) : Int)) (12) (wr64 (by omega))) ?_
        refine xB 2 [] [(2, vp b1 0), (4, vs A2_0 y2.1 c2_0), (23, vb (decide (((((y2.1).length : Nat) : Int) - 12) > 1000)))] ?_
        refine wpq_re 23 (v := vb (decide (((((y2.1).length : Nat) : Int) - 12) > 1000))) (Value.bool ((decide ((((y2.1).length : Nat) : Int) < 12) || decide (((((y2.1).length : Nat) : Int) - 12) > 1000)))) (by kernel_rfl) (re_or0 q6) ?_
        exact wpq_sub _ (by kernel_rfl) hk3
    · refine xB 1 [] [(2, vp b1 0), (4, vs A2_0 y2.1 c2_0), (24, vb (decide ((((y2.1).length : Nat) : Int) < 12) || decide (((((y2.1).length : Nat) : Int) - 12) > 1000)))] ?_
      refine xGJo hS 18 (fun g own sl t7 => own = [some ⟨b1, 24, (cFrame (⟨0, 0, 0, ([] : List UInt8)⟩ : Frame) none 0)⟩] ∧ sl = [(2, vp b1 0), (4, vs A2_0 t7.1 c2_0), (32, vb t7.2)] ∧ Arr g.b tyU8 A2_0 c2_0 t7.1) ?_ ?_
      · rintro g8 _ _ t7 e9 ⟨rfl, rfl, f7_0⟩ hS
        have nf7_0 := f7_0.len
        refine xRe ?_
        refine wpq_then ?_
        refine xCd (t7.2) (fun h10 => ?_) (fun h10 => ?_)
        · have hS := cond_T h10 hS
          refine xSq ?_
          refine xRg ?_
          refine xBo 3 [(1, 0)] [some ⟨b1, 24, (cFrame (⟨0, 0, 0, ([] : List UInt8)⟩ : Frame) none 0)⟩] [(2, vp b1 0), (3, vi 4)] ?_
          refine xRe ?_
          refine wpq_then ?_
          have eS := (Option.some.inj hS).symm
          subst eS
          exact xRetC [] [(2, 0)] (e4.trans e9) ⟨none, 0, by kernel_rfl, by kernel_rfl, Arr.nil⟩ (fun _ _ h => h)
        · have hS := cond_F h10 hS
          refine xSk ?_
          refine wpq_then ?_
          refine xSub [(2, vp b1 0), (4, vs A2_0 t7.1 c2_0)] ?_
          refine xSq ?_
          refine xDr 0 [2, 5] [14, 13, 15] [] 16 (fun RG => ?_) (fun _ _ _ _ _ h => h)
          obtain ⟨q12, hS⟩ := grd_T hS
          have q12p := of_decide_eq_true q12
          obtain ⟨ad11, cs11, hA11, hr11, hc11⟩ := f7_0.at_ (get_getD (d := 0) q12p)
          have hr11 : cs11 = [vy ((List.getD t7.1 0 0).toNat : Int)] := hr11
          subst hr11
          have nb11 := UInt8.toNat_lt (List.getD t7.1 0 0)
          refine xT 15 [0] [] [] [(2, vp b1 0), (4, vs A2_0 t7.1 c2_0), (34, vs A2_0 t7.1 c2_0)] RG (Psi.le.refl _) ?_
          refine xTp 1 RG (fun _ => (qIx 0 1 hA11 rfl q12p)) ?_
          refine xTv 2 [] RG (Psi.le.refl _) (qLdP (Addr.add ad11 (0 * 1)) 0 (hc11.mono g8.br)) ?_
          obtain ⟨q14, hS⟩ := grd_T hS
          have q14p := of_decide_eq_true q14
          obtain ⟨ad13, cs13, hA13, hr13, hc13⟩ := f7_0.at_ (get_getD (d := 0) q14p)
          have hr13 : cs13 = [vy ((List.getD t7.1 1 0).toNat : Int)] := hr13
          subst hr13
          have nb13 := UInt8.toNat_lt (List.getD t7.1 1 0)
          refine xT 12 [3] [] [] [(2, vp b1 0), (4, vs A2_0 t7.1 c2_0), (36, vy ((List.getD t7.1 0 0).toNat : Int)), (37, vs A2_0 t7.1 c2_0)] RG (Psi.le.refl _) ?_
          refine xTp 4 RG (fun _ => (qIx 1 1 hA13 rfl q14p)) ?_
          refine xTv 5 [] RG (Psi.le.refl _) (qLdP (Addr.add ad13 (1 * 1)) 0 (hc13.mono g8.br)) ?_
          obtain ⟨q15, hS⟩ := grd_T hS
          have q15p := of_decide_eq_true q15
          have ncapf16 := f7_0.cap
          have f16 : Arr g8.b tyU8 (offA A2_0 c2_0 2 1) (c2_0 - 2) (List.take (10 - 2) (List.drop 2 t7.1)) := f7_0.cut 2 10 (by omega) (by omega)
          have nf16 := f16.len
          have hlf16 : 10 - 2 = ((List.take (10 - 2) (List.drop 2 t7.1))).length := by simp only [List.length_take, List.length_drop] <;> omega
          have hvf16 : ((((List.take (10 - 2) (List.drop 2 t7.1))).length : Nat) : Int) = 10 - 2 := by omega
          refine xT 9 [6] [] [] [(2, vp b1 0), (4, vs A2_0 t7.1 c2_0), (36, vy ((List.getD t7.1 0 0).toNat : Int)), (39, vy ((List.getD t7.1 1 0).toNat : Int)), (40, vs A2_0 t7.1 c2_0)] RG (Psi.le.refl _) ?_
          refine xTp 7 RG (fun _ => (qSl (m := 1) (A := A2_0) (len := (t7.1).length) (c := c2_0) 2 10 (some 2) (some 10) ((List.take (10 - 2) (List.drop 2 t7.1))).length rfl rfl (by omega) (by omega) hlf16)) ?_
          obtain ⟨q17, hS⟩ := grd_T hS
          have q17p := of_decide_eq_true q17
          have ncapf18 := f7_0.cap
          have f18 : Arr g8.b tyU8 (offA A2_0 c2_0 12 1) (c2_0 - 12) (List.drop 12 t7.1) := f7_0.cut_from 12 (by omega)
          have nf18 := f18.len
          have hlf18 : (t7.1).length - 12 = ((List.drop 12 t7.1)).length := by simp only [List.length_take, List.length_drop] <;> omega
          have hvf18 : ((((List.drop 12 t7.1)).length : Nat) : Int) = (((t7.1).length : Nat) : Int) - 12 := by omega
          refine xT 7 [10] [] [] [(2, vp b1 0), (36, vy ((List.getD t7.1 0 0).toNat : Int)), (39, vy ((List.getD t7.1 1 0).toNat : Int)), (41, vs (offA A2_0 c2_0 2 1) (List.take (10 - 2) (List.drop 2 t7.1)) (c2_0 - 2)), (44, vs A2_0 t7.1 c2_0)] RG (Psi.le.refl _) ?_
          refine xTp 11 RG (fun _ => (qSl (m := 1) (A := A2_0) (len := (t7.1).length) (c := c2_0) 12 (t7.1).length (some 12) none ((List.drop 12 t7.1)).length rfl rfl (by omega) (by omega) hlf18)) ?_
          obtain ⟨y20, hy20, hS⟩ := bindO_T hS
          refine wpa_meet (fun g own sl => ∃ (A23 : Option Addr) (c23 : Nat) (k23 : Option Bk), own = [k23, some ⟨b1, 24, (cFrame (⟨0, 0, 0, ([] : List UInt8)⟩ : Frame) none 0)⟩] ∧ sl = [(2, vp b1 0), (36, vy ((List.getD t7.1 0 0).toNat : Int)), (39, vy ((List.getD t7.1 1 0).toNat : Int)), (42, vi y20), (43, vs A23 ([] : List UInt8) c23), (45, vs (offA A2_0 c2_0 12 1) (List.drop 12 t7.1) (c2_0 - 12))] ∧ Buf g.b tyU8 5 (.slice A23 (([] : List UInt8)).length c23) k23 ([] : List UInt8)) 4 [true, true, true, true, true, true, true, true, true, true, true, true, false, false, false, false] ?_ (fun hD19 => ?_)
          · rintro g220 _ _ e221 ⟨A23, c23, k23, rfl, rfl, h23⟩
            have nh23 := h23.len
            have f18 := f18.mono e221.b
            obtain ⟨nw222, hp222, hs222⟩ := f18.srcB
            refine xO1 (lds := [2, 5]) 12 ?_
            refine xIe (lds := [2, 5]) e221.r (eApp (T := tyU8) (p := g220.b) (et := 5) (bytes := 1) (xs := ([] : List UInt8)) (ys := ((List.drop 12 t7.1) : List UInt8)) 0 h23 rfl (fun w hs => hs222 w _ hs) hp222 (by first | omega | (simp only [List.length_cons, List.length_nil] at *; omega)) (by first | omega | (simp only [List.length_cons, List.length_nil] at *; omega))) ?_
            rintro _ _ _ - ⟨A222, c222, k222, rfl, rfl, rfl, h222⟩
            refine kk [] ?_
            have h222 : Buf g220.b tyU8 5 (.slice A222 (((List.drop 12 t7.1) : List UInt8)).length c222) k222 ((List.drop 12 t7.1) : List UInt8) := h222
            have nh222 := h222.len
            refine xT 2 [13] [] [] [(2, vp b1 0), (47, Value.agg #[vy ((List.getD t7.1 0 0).toNat : Int), vy ((List.getD t7.1 1 0).toNat : Int), vi y20, vs A222 (List.drop 12 t7.1) c222])] RG e221.r ?_
            refine xO1 (lds := [2, 5]) 14 ?_
            refine xId (lds := [2, 5]) e221.r (eStL b1 0 1) ?_
            rintro _ _ _ - ⟨rfl, rfl⟩
            refine kf ?_
            refine xT 0 [15] [] [] [(2, vp b1 0), (3, vi 0)] RG e221.r ?_
            refine xAe (lds := [2, 5]) ?_
            refine wpq_then ?_
            refine wpq_freeze 0 (by kernel_rfl) h222 (fun g223 e224 f225 => ?_)
            have eS := (Option.some.inj hS).symm
            subst eS
            exact xRetC [] [(2, 1)] (e4.trans (e9.trans (e221.trans e224))) ⟨A222, c222, by kernel_rfl, by kernel_rfl, f225⟩ (fun _ _ h => h)
          · refine xO2 (lds := [2, 5]) 8 9 ?_ ?_
            · refine xIe (lds := [2, 5]) (Psi.le.refl _) (eC 0 (fun g' lr eb ln => c36 g' ((List.take (10 - 2) (List.drop 2 t7.1)) : List UInt8) (offA A2_0 c2_0 2 1) (c2_0 - 2) ((f16.mono g8.br).mono lr) hy20)) ?_
              rintro _ g227 _ e228 ⟨_, rfl, rfl, rfl⟩
              refine kk [] ?_
              refine xO1 (lds := [2, 5]) 9 ?_
              refine xIe (lds := [2, 5]) e228.r (eBs (T := tyU8) (p := g227.b) (et := 5) (xs := ([] : List UInt8)) reps_nil (by simp)) ?_
              rintro _ _ _ - ⟨A229, c229, k229, rfl, rfl, rfl, h229⟩
              refine kk [] ?_
              refine xSub [(2, vp b1 0), (36, vy ((List.getD t7.1 0 0).toNat : Int)), (39, vy ((List.getD t7.1 1 0).toNat : Int)), (42, vi y20), (43, vs A229 ([] : List UInt8) c229), (45, vs (offA A2_0 c2_0 12 1) (List.drop 12 t7.1) (c2_0 - 12))] ?_
              exact hD19 _ _ _ e228 ⟨A229, c229, k229, by kernel_rfl, by kernel_rfl, h229⟩
            · refine xIe (lds := [2, 5]) (Psi.le.refl _) (eBs (T := tyU8) (p := g8.b) (et := 5) (xs := ([] : List UInt8)) reps_nil (by simp)) ?_
              rintro _ _ _ - ⟨A230, c230, k230, rfl, rfl, rfl, h230⟩
              refine kk [] ?_
              refine xO1 (lds := [2, 5]) 8 ?_
              refine xIe (lds := [2, 5]) (Psi.le.refl _) (eC 0 (fun g' lr eb ln => c36 g' ((List.take (10 - 2) (List.drop 2 t7.1)) : List UInt8) (offA A2_0 c2_0 2 1) (c2_0 - 2) ((f16.mono g8.br).mono lr) hy20)) ?_
              rintro _ g232 _ e233 ⟨_, rfl, rfl, rfl⟩
              refine kk [] ?_
              refine xSub [(2, vp b1 0), (36, vy ((List.getD t7.1 0 0).toNat : Int)), (39, vy ((List.getD t7.1 1 0).toNat : Int)), (42, vi y20), (43, vs A230 ([] : List UInt8) c230), (45, vs (offA A2_0 c2_0 12 1) (List.drop 12 t7.1) (c2_0 - 12))] ?_
              have h230 := h230.mono e233.b
              exact hD19 _ _ _ e233 ⟨A230, c230, k230, by kernel_rfl, by kernel_rfl, h230⟩
      · intro uu7 hS hN7
        refine wpq_split 24 (b := (decide ((((y2.1).length : Nat) : Int) < 12) || decide (((((y2.1).length : Nat) : Int) - 12) > 1000))) (by kernel_rfl) (fun q234 => ?_) (fun q234 => ?_)
        · have hS := cond_T q234 hS
          refine xB 8 [] [(2, vp b1 0), (4, vs A2_0 y2.1 c2_0), (32, vb true)] ?_
          refine wpq_freeze 0 (by kernel_rfl) h2_0 (fun g235 e236 f237 => ?_)
          refine xSel [some 1] ?_
          refine xSub [(2, vp b1 0), (4, vs A2_0 y2.1 c2_0), (32, vb true)] ?_
          exact hN7 _ (Option.some.inj hS).symm _ _ _ e236 ⟨by kernel_rfl, by kernel_rfl, f237⟩
        · have hS := cond_F q234 hS
          have q234l := (or_false_ q234).1
          have q234r := (or_false_ q234).2
          have q234lp := of_decide_eq_false q234l
          have q234rp := of_decide_eq_false q234r
          refine xB 1 [] [(2, vp b1 0), (4, vs A2_0 y2.1 c2_0), (24, vb false), (25, vs A2_0 y2.1 c2_0)] ?_
          refine wpq_freeze 0 (by kernel_rfl) h2_0 (fun g238 e239 f240 => ?_)
          have ncapf241 := f240.cap
          have f241 : Arr g238.b tyU8 (offA A2_0 c2_0 10 1) (c2_0 - 10) (List.take (12 - 10) (List.drop 10 y2.1)) := f240.cut 10 12 (by omega) (by omega)
          have nf241 := f241.len
          have hlf241 : 12 - 10 = ((List.take (12 - 10) (List.drop 10 y2.1))).length := by simp only [List.length_take, List.length_drop] <;> omega
          have hvf241 : ((((List.take (12 - 10) (List.drop 10 y2.1))).length : Nat) : Int) = 12 - 10 := by omega
          refine xV (qSl (m := 1) (A := A2_0) (len := (y2.1).length) (c := c2_0) 10 12 (some 10) (some 12) ((List.take (12 - 10) (List.drop 10 y2.1))).length rfl rfl (by omega) (by omega) hlf241) ?_
          obtain ⟨y242, hy242, hS⟩ := bindO_T hS
          refine xE (eC 0 (fun g' lr eb ln => c36 g' ((List.take (12 - 10) (List.drop 10 y2.1)) : List UInt8) (offA A2_0 c2_0 10 1) (c2_0 - 10) ((f241.mono g238.br).mono lr) hy242)) ?_
          rintro _ g243 _ e244 ⟨_, rfl, rfl, rfl⟩
          refine xB 2 [] [(2, vp b1 0), (4, vs A2_0 y2.1 c2_0), (24, vb false), (27, vi y242), (29, vi (((y2.1).length : Nat) : Int))] ?_
          refine xV (qSub .i64 ((((y2.1).length : Nat) : Int)) (12) (wr64 (by omega))) ?_
          refine xB 2 [] [(2, vp b1 0), (4, vs A2_0 y2.1 c2_0), (32, vb (y242 != ((((y2.1).length : Nat) : Int) - 12)))] ?_
          have f240 := f240.mono e244.b
          refine xSel [some 1] ?_
          refine xSub [(2, vp b1 0), (4, vs A2_0 y2.1 c2_0), (32, vb (y242 != ((((y2.1).length : Nat) : Int) - 12)))] ?_
          exact hN7 _ (Option.some.inj hS).symm _ _ _ (e239.trans e244) ⟨by kernel_rfl, by kernel_rfl, f240⟩

def o25 (p : List UInt8) (f : Fate) (label : Int) (from_ : Int) (cycle : Int) : Option (Frame × Bool) :=
  (bindO (τ := (List UInt8) × Bool) (o23 (p : List UInt8) f) fun y3 => (cond ((!y3.2)) (some (((⟨0, 0, 0, ([] : List UInt8)⟩ : Frame), (false)))) (bindO (τ := Frame × Int) (o18 (y3.1 : List UInt8)) fun y7 => (cond (((((y7.2 != 0) || (y7.1.label != label)) || (y7.1.from_ != from_)) || (y7.1.cycle != cycle))) (some (((⟨0, 0, 0, ([] : List UInt8)⟩ : Frame), (false)))) (some ((y7.1, (true))))))))
set_option maxRecDepth 100000 in
theorem c25 (g : Gh) (p : List UInt8) (Ap : Option Addr) (cp : Nat) (f : Fate) (label : Int) (from_ : Int) (cycle : Int) (fp : Arr g.r tyU8 Ap cp p) {r : Frame × Bool} (hS : o25 p f label from_ cycle = some r) :
    Ctr Try.prog 25 [vs Ap p cp, Value.agg #[vb f.lost, vi f.bit, Value.int .u32 f.pattern], vy label, vy from_, vi cycle] g [] (fun v ψ o => ∃ (Ar_0_payload : Option Addr) (cr_0_payload : Nat), v = Value.tuple #[Value.agg #[vy r.1.label, vy r.1.from_, vi r.1.cycle, vs Ar_0_payload r.1.payload cr_0_payload], vb r.2] ∧ o = [] ∧ Arr ψ tyU8 Ar_0_payload cr_0_payload r.1.payload) := by
  unfold o25 at hS
  refine xFn Try.f25 (Try.f25.body.getD .skip) 52 ?_
  have nfp := fp.len
  refine xSq ?_
  refine xRg ?_
  refine xE eB ?_
  rintro _ _ _ - ⟨b1, rfl, rfl, rfl⟩
  refine xE eB ?_
  rintro _ _ _ - ⟨b2, rfl, rfl, rfl⟩
  refine xB 1 [] [(0, vs Ap p cp), (2, vy label), (3, vy from_), (4, vi cycle), (6, vp b1 0), (10, vp b2 0)] ?_
  refine xRe ?_
  refine wpq_then ?_
  refine xSq ?_
  refine xRg ?_
  refine xB 2 [(1, 1)] [(2, vy label), (3, vy from_), (4, vi cycle), (10, vp b2 0), (17, vs Ap p cp), (18, Value.agg #[vb f.lost, vi f.bit, Value.int .u32 f.pattern])] ?_
  obtain ⟨y3, hy3, hS⟩ := bindO_T hS
  refine xE (eC 0 (fun g' lr eb ln => c23 g' (p : List UInt8) Ap cp f (fp.mono lr) hy3)) ?_
  rintro _ g4 _ e5 ⟨_, rfl, A3_0, c3_0, k3_0, rfl, rfl, h3_0⟩
  have nh3_0 := h3_0.len
  refine xB 5 [] [(2, vy label), (3, vy from_), (4, vi cycle), (10, vp b2 0), (12, vs A3_0 y3.1 c3_0), (13, vb y3.2)] ?_
  refine xRe ?_
  refine wpq_then ?_
  refine xSq ?_
  refine xSq ?_
  refine xRg ?_
  refine xB 2 [] [(2, vy label), (3, vy from_), (4, vi cycle), (10, vp b2 0), (12, vs A3_0 y3.1 c3_0), (23, vb (!y3.2))] ?_
  refine xRe ?_
  refine wpq_then ?_
  refine xCd ((!y3.2)) (fun h6 => ?_) (fun h6 => ?_)
  · have hS := cond_T h6 hS
    have h6n := not_eq_true_ h6
    refine xSq ?_
    refine xRg ?_
    refine xBo 3 [(1, 1)] [k3_0, some ⟨b2, 24, (cFrame (⟨0, 0, 0, ([] : List UInt8)⟩ : Frame) none 0)⟩, some ⟨b1, 51, [vb f.lost, vi f.bit, Value.int .u32 f.pattern]⟩] [(10, vp b2 0), (11, vb false)] ?_
    refine xRe ?_
    refine wpq_then ?_
    have eS := (Option.some.inj hS).symm
    subst eS
    exact xRetC [] [(10, 1)] e5 ⟨none, 0, by kernel_rfl, by kernel_rfl, Arr.nil⟩ (fun _ _ h => h)
  · have hS := cond_F h6 hS
    have h6n := not_eq_false_ h6
    refine xSk ?_
    refine wpq_then ?_
    refine xSub [(2, vy label), (3, vy from_), (4, vi cycle), (10, vp b2 0), (12, vs A3_0 y3.1 c3_0)] ?_
    refine xSq ?_
    refine xRg ?_
    refine xB 1 [] [(2, vy label), (3, vy from_), (4, vi cycle), (10, vp b2 0), (26, vs A3_0 y3.1 c3_0)] ?_
    obtain ⟨y7, hy7, hS⟩ := bindO_T hS
    refine xE (eC 0 (fun g' lr eb ln => c18 g' (y3.1 : List UInt8) A3_0 c3_0 (arr_of_buf h3_0 (Psi.le_b eb) (lentk 0 (by kernel_rfl) ln)) hy7)) ?_
    rintro _ g8 _ e9 ⟨_, rfl, A7_0_payload, c7_0_payload, rfl, rfl, f7_0_payload⟩
    have nf7_0_payload := f7_0_payload.len
    refine xB 3 [] [(2, vy label), (3, vy from_), (4, vi cycle), (10, vp b2 0), (28, Value.agg #[vy y7.1.label, vy y7.1.from_, vi y7.1.cycle, vs A7_0_payload y7.1.payload c7_0_payload]), (29, vi y7.2)] ?_
    refine xE eB ?_
    rintro _ _ _ - ⟨b10, rfl, rfl, rfl⟩
    refine xBo 2 [(6, 0)] [some ⟨b10, 24, (cFrame y7.1 A7_0_payload c7_0_payload)⟩, k3_0, some ⟨b2, 24, (cFrame (⟨0, 0, 0, ([] : List UInt8)⟩ : Frame) none 0)⟩, some ⟨b1, 51, [vb f.lost, vi f.bit, Value.int .u32 f.pattern]⟩] [(2, vy label), (3, vy from_), (4, vi cycle), (10, vp b2 0), (14, vp b10 0), (15, vi y7.2)] ?_
    refine xRe ?_
    refine wpq_then ?_
    refine xSq ?_
    refine xSq ?_
    refine xRg ?_
    refine xB 3 [] [(2, vy label), (3, vy from_), (4, vi cycle), (10, vp b2 0), (14, vp b10 0), (32, vb (y7.2 != 0))] ?_
    refine wpr_grp 8 [(3, vy from_), (4, vi cycle), (10, vp b2 0), (14, vp b10 0), (37, vb ((y7.2 != 0) || (y7.1.label != label)))] (fun hk2 => ?_) ?_
    · refine wpq_split 32 (b := (y7.2 != 0)) (by kernel_rfl) (fun q11 => ?_) (fun q11 => ?_)
      · have q11p : ¬ (y7.2 = 0) := ne_of_bne_ q11
        refine xB 5 [] [(3, vy from_), (4, vi cycle), (10, vp b2 0), (14, vp b10 0), (37, vb true)] ?_
        refine wpq_re 37 (v := vb true) (Value.bool (((y7.2 != 0) || (y7.1.label != label)))) (by kernel_rfl) (re_or1 q11) ?_
        exact wpq_sub _ (by kernel_rfl) hk2
      · have q11p : y7.2 = 0 := eq_of_bne_false_ q11
        refine xB 5 [(4, 0)] [(3, vy from_), (4, vi cycle), (10, vp b2 0), (14, vp b10 0), (37, vb (y7.1.label != label))] ?_
        refine wpq_re 37 (v := vb (y7.1.label != label)) (Value.bool (((y7.2 != 0) || (y7.1.label != label)))) (by kernel_rfl) (re_or0 q11) ?_
        exact wpq_sub _ (by kernel_rfl) hk2
    · refine xB 1 [] [(3, vy from_), (4, vi cycle), (10, vp b2 0), (14, vp b10 0), (38, vb ((y7.2 != 0) || (y7.1.label != label)))] ?_
      refine wpr_grp 14 [(4, vi cycle), (10, vp b2 0), (14, vp b10 0), (43, vb (((y7.2 != 0) || (y7.1.label != label)) || (y7.1.from_ != from_)))] (fun hk8 => ?_) ?_
      · refine wpq_split 38 (b := ((y7.2 != 0) || (y7.1.label != label))) (by kernel_rfl) (fun q12 => ?_) (fun q12 => ?_)
        · refine xB 5 [] [(4, vi cycle), (10, vp b2 0), (14, vp b10 0), (43, vb true)] ?_
          refine wpq_re 43 (v := vb true) (Value.bool ((((y7.2 != 0) || (y7.1.label != label)) || (y7.1.from_ != from_)))) (by kernel_rfl) (re_or1 q12) ?_
          exact wpq_sub _ (by kernel_rfl) hk8
        · have q12l := (or_false_ q12).1
          have q12r := (or_false_ q12).2
          have q12lp : y7.2 = 0 := eq_of_bne_false_ q12l
          have q12rp : y7.1.label = label := eq_of_bne_false_ q12r
          refine xB 5 [(10, 0)] [(4, vi cycle), (10, vp b2 0), (14, vp b10 0), (43, vb (y7.1.from_ != from_))] ?_
          refine wpq_re 43 (v := vb (y7.1.from_ != from_)) (Value.bool ((((y7.2 != 0) || (y7.1.label != label)) || (y7.1.from_ != from_)))) (by kernel_rfl) (re_or0 q12) ?_
          exact wpq_sub _ (by kernel_rfl) hk8
      · refine xB 1 [] [(4, vi cycle), (10, vp b2 0), (14, vp b10 0), (44, vb (((y7.2 != 0) || (y7.1.label != label)) || (y7.1.from_ != from_)))] ?_
        refine wpr_grp 20 [(10, vp b2 0), (14, vp b10 0), (49, vb ((((y7.2 != 0) || (y7.1.label != label)) || (y7.1.from_ != from_)) || (y7.1.cycle != cycle)))] (fun hk14 => ?_) ?_
        · refine wpq_split 44 (b := (((y7.2 != 0) || (y7.1.label != label)) || (y7.1.from_ != from_))) (by kernel_rfl) (fun q13 => ?_) (fun q13 => ?_)
          · refine xB 5 [] [(10, vp b2 0), (14, vp b10 0), (49, vb true)] ?_
            refine wpq_re 49 (v := vb true) (Value.bool (((((y7.2 != 0) || (y7.1.label != label)) || (y7.1.from_ != from_)) || (y7.1.cycle != cycle)))) (by kernel_rfl) (re_or1 q13) ?_
            exact wpq_sub _ (by kernel_rfl) hk14
          · have q13l := (or_false_ q13).1
            have q13r := (or_false_ q13).2
            have q13ll := (or_false_ q13l).1
            have q13lr := (or_false_ q13l).2
            have q13llp : y7.2 = 0 := eq_of_bne_false_ q13ll
            have q13lrp : y7.1.label = label := eq_of_bne_false_ q13lr
            have q13rp : y7.1.from_ = from_ := eq_of_bne_false_ q13r
            refine xB 5 [(16, 0)] [(10, vp b2 0), (14, vp b10 0), (49, vb (y7.1.cycle != cycle))] ?_
            refine wpq_re 49 (v := vb (y7.1.cycle != cycle)) (Value.bool (((((y7.2 != 0) || (y7.1.label != label)) || (y7.1.from_ != from_)) || (y7.1.cycle != cycle)))) (by kernel_rfl) (re_or0 q13) ?_
            exact wpq_sub _ (by kernel_rfl) hk14
        · refine xRe ?_
          refine wpq_then ?_
          refine xCd (((((y7.2 != 0) || (y7.1.label != label)) || (y7.1.from_ != from_)) || (y7.1.cycle != cycle))) (fun h14 => ?_) (fun h14 => ?_)
          · have hS := cond_T h14 hS
            refine xSq ?_
            refine xRg ?_
            refine xBo 3 [(1, 2)] [some ⟨b10, 24, (cFrame y7.1 A7_0_payload c7_0_payload)⟩, k3_0, some ⟨b2, 24, (cFrame (⟨0, 0, 0, ([] : List UInt8)⟩ : Frame) none 0)⟩, some ⟨b1, 51, [vb f.lost, vi f.bit, Value.int .u32 f.pattern]⟩] [(10, vp b2 0), (11, vb false)] ?_
            refine xRe ?_
            refine wpq_then ?_
            have eS := (Option.some.inj hS).symm
            subst eS
            exact xRetC [] [(10, 2)] (e5.trans e9) ⟨none, 0, by kernel_rfl, by kernel_rfl, Arr.nil⟩ (fun _ _ h => h)
          · have hS := cond_F h14 hS
            have h14l := (or_false_ h14).1
            have h14r := (or_false_ h14).2
            have h14ll := (or_false_ h14l).1
            have h14lr := (or_false_ h14l).2
            have h14lll := (or_false_ h14ll).1
            have h14llr := (or_false_ h14ll).2
            have h14lllp : y7.2 = 0 := eq_of_bne_false_ h14lll
            have h14llrp : y7.1.label = label := eq_of_bne_false_ h14llr
            have h14lrp : y7.1.from_ = from_ := eq_of_bne_false_ h14lr
            have h14rp : y7.1.cycle = cycle := eq_of_bne_false_ h14r
            refine xSk ?_
            refine wpq_then ?_
            refine xSub [(10, vp b2 0), (14, vp b10 0)] ?_
            refine xSq ?_
            refine xRg ?_
            refine xBo 3 [(0, 0), (1, 2)] [some ⟨b10, 24, (cFrame y7.1 A7_0_payload c7_0_payload)⟩, k3_0, some ⟨b2, 24, (cFrame y7.1 A7_0_payload c7_0_payload)⟩, some ⟨b1, 51, [vb f.lost, vi f.bit, Value.int .u32 f.pattern]⟩] [(10, vp b2 0), (11, vb true)] ?_
            refine xRe ?_
            refine wpq_then ?_
            have eS := (Option.some.inj hS).symm
            subst eS
            exact xRetC [] [(10, 2)] (e5.trans e9) ⟨A7_0_payload, c7_0_payload, by kernel_rfl, by kernel_rfl, f7_0_payload⟩ (fun _ _ h => h)

def o17 (a : Frame) (b : Frame) : Bool :=
  ((((((a.label == b.label) && (a.from_ == b.from_)) && (a.cycle == b.cycle)) && (a.payload == b.payload))))
set_option maxRecDepth 100000 in
theorem c17 (g : Gh) (a : Frame) (Aa_payload : Option Addr) (ca_payload : Nat) (b : Frame) (Ab_payload : Option Addr) (cb_payload : Nat) (fa_payload : Arr g.r tyU8 Aa_payload ca_payload a.payload) (fb_payload : Arr g.r tyU8 Ab_payload cb_payload b.payload) {r : Bool} (hS : o17 a b = r) :
    Ctr Try.prog 17 [Value.agg #[vy a.label, vy a.from_, vi a.cycle, vs Aa_payload a.payload ca_payload], Value.agg #[vy b.label, vy b.from_, vi b.cycle, vs Ab_payload b.payload cb_payload]] g [] (fun v ψ o => v = vb r ∧ o = []) := by
  unfold o17 at hS
  refine xFn Try.f17 (Try.f17.body.getD .skip) 33 ?_
  have nfa_payload := fa_payload.len
  have nfb_payload := fb_payload.len
  refine xSq ?_
  refine xRg ?_
  refine xE eB ?_
  rintro _ _ _ - ⟨b1, rfl, rfl, rfl⟩
  refine xE eB ?_
  rintro _ _ _ - ⟨b2, rfl, rfl, rfl⟩
  refine xB 1 [] [(2, vp b1 0), (3, vp b2 0)] ?_
  refine xRe ?_
  refine wpq_then ?_
  refine xSq ?_
  refine xRg ?_
  refine xB 6 [(1, 1), (3, 0)] [(2, vp b1 0), (3, vp b2 0), (10, vb (a.label == b.label))] ?_
  refine wpr_grp 12 [(2, vp b1 0), (3, vp b2 0), (16, vb ((a.label == b.label) && (a.from_ == b.from_)))] (fun hk5 => ?_) ?_
  · refine wpq_split 10 (b := (a.label == b.label)) (by kernel_rfl) (fun q3 => ?_) (fun q3 => ?_)
    · have q3p : a.label = b.label := eq_of_beq q3
      refine xB 6 [(7, 1), (9, 0)] [(2, vp b1 0), (3, vp b2 0), (16, vb (a.from_ == b.from_))] ?_
      refine wpq_re 16 (v := vb (a.from_ == b.from_)) (Value.bool (((a.label == b.label) && (a.from_ == b.from_)))) (by kernel_rfl) (re_and1 q3) ?_
      exact wpq_sub _ (by kernel_rfl) hk5
    · have q3p : ¬ (a.label = b.label) := ne_of_beq_false_ q3
      refine xB 6 [] [(2, vp b1 0), (3, vp b2 0), (16, vb false)] ?_
      refine wpq_re 16 (v := vb false) (Value.bool (((a.label == b.label) && (a.from_ == b.from_)))) (by kernel_rfl) (re_and0 q3) ?_
      exact wpq_sub _ (by kernel_rfl) hk5
  · refine xB 1 [] [(2, vp b1 0), (3, vp b2 0), (17, vb ((a.label == b.label) && (a.from_ == b.from_)))] ?_
    refine wpr_grp 19 [(2, vp b1 0), (3, vp b2 0), (23, vb (((a.label == b.label) && (a.from_ == b.from_)) && (a.cycle == b.cycle)))] (fun hk12 => ?_) ?_
    · refine wpq_split 17 (b := ((a.label == b.label) && (a.from_ == b.from_))) (by kernel_rfl) (fun q4 => ?_) (fun q4 => ?_)
      · have q4l := (and_true_ q4).1
        have q4r := (and_true_ q4).2
        have q4lp : a.label = b.label := eq_of_beq q4l
        have q4rp : a.from_ = b.from_ := eq_of_beq q4r
        refine xB 6 [(14, 1), (16, 0)] [(2, vp b1 0), (3, vp b2 0), (23, vb (a.cycle == b.cycle))] ?_
        refine wpq_re 23 (v := vb (a.cycle == b.cycle)) (Value.bool ((((a.label == b.label) && (a.from_ == b.from_)) && (a.cycle == b.cycle)))) (by kernel_rfl) (re_and1 q4) ?_
        exact wpq_sub _ (by kernel_rfl) hk12
      · refine xB 6 [] [(2, vp b1 0), (3, vp b2 0), (23, vb false)] ?_
        refine wpq_re 23 (v := vb false) (Value.bool ((((a.label == b.label) && (a.from_ == b.from_)) && (a.cycle == b.cycle)))) (by kernel_rfl) (re_and0 q4) ?_
        exact wpq_sub _ (by kernel_rfl) hk12
    · refine xB 1 [] [(2, vp b1 0), (3, vp b2 0), (24, vb (((a.label == b.label) && (a.from_ == b.from_)) && (a.cycle == b.cycle)))] ?_
      refine wpr_grp 28 [(32, vb ((((a.label == b.label) && (a.from_ == b.from_)) && (a.cycle == b.cycle)) && (a.payload == b.payload)))] (fun hk19 => ?_) ?_
      · refine wpq_split 24 (b := (((a.label == b.label) && (a.from_ == b.from_)) && (a.cycle == b.cycle))) (by kernel_rfl) (fun q5 => ?_) (fun q5 => ?_)
        · have q5l := (and_true_ q5).1
          have q5r := (and_true_ q5).2
          have q5ll := (and_true_ q5l).1
          have q5lr := (and_true_ q5l).2
          have q5llp : a.label = b.label := eq_of_beq q5ll
          have q5lrp : a.from_ = b.from_ := eq_of_beq q5lr
          have q5rp : a.cycle = b.cycle := eq_of_beq q5r
          refine xB 2 [(21, 1)] [(3, vp b2 0), (24, vb true), (26, vs Aa_payload a.payload ca_payload)] ?_
          refine xV (qStr fa_payload) ?_
          refine xB 2 [(24, 0)] [(24, vb true), (27, vt a.payload), (29, vs Ab_payload b.payload cb_payload)] ?_
          refine xV (qStr fb_payload) ?_
          refine xV (qEqS (a.payload) (b.payload)) ?_
          refine xB 1 [] [(32, vb (a.payload == b.payload))] ?_
          refine wpq_re 32 (v := vb (a.payload == b.payload)) (Value.bool (((((a.label == b.label) && (a.from_ == b.from_)) && (a.cycle == b.cycle)) && (a.payload == b.payload)))) (by kernel_rfl) (re_and1 q5) ?_
          exact wpq_sub _ (by kernel_rfl) hk19
        · refine xB 8 [] [(32, vb false)] ?_
          refine wpq_re 32 (v := vb false) (Value.bool (((((a.label == b.label) && (a.from_ == b.from_)) && (a.cycle == b.cycle)) && (a.payload == b.payload)))) (by kernel_rfl) (re_and0 q5) ?_
          exact wpq_sub _ (by kernel_rfl) hk19
      · refine xB 1 [] [(4, vb ((((a.label == b.label) && (a.from_ == b.from_)) && (a.cycle == b.cycle)) && (a.payload == b.payload)))] ?_
        refine xRe ?_
        refine wpq_then ?_
        have eS := hS.symm
        subst eS
        exact xRet [] [4] (Gh.le.refl _) ⟨by kernel_rfl, by kernel_rfl⟩ (fun _ _ h => h)

def o7 (p : List UInt8) (f : Fate) (x : Frame) : Option (Bool) :=
  (bindO (τ := Bool) (o12) fun y3 => (cond ((!y3)) (some ((false))) (bindO (τ := Frame × Bool) (o24 ((List.take ((minI (((p).length : Nat) : Int) 200)).toNat p) : List UInt8) f (x.label : Int) (x.from_ : Int) (x.cycle : Int)) fun y8 => (bindO (τ := Frame × Bool) (o25 ((List.take ((minI (((p).length : Nat) : Int) 200)).toNat p) : List UInt8) f (x.label : Int) (x.from_ : Int) (x.cycle : Int)) fun y12 => (letJ (τ := Bool) (o17 y8.1 y12.1) fun y16 => (some (((y16 && (y8.2 == y12.2))))))))))
set_option maxRecDepth 100000 in
theorem c7 (g : Gh) (p : List UInt8) (Ap : Option Addr) (cp : Nat) (f : Fate) (x : Frame) (Ax_payload : Option Addr) (cx_payload : Nat) (fp : Arr g.r tyU8 Ap cp p) (fx_payload : Arr g.r tyU8 Ax_payload cx_payload x.payload) {r : Bool} (hS : o7 p f x = some r) :
    Ctr Try.prog 7 [vs Ap p cp, Value.agg #[vb f.lost, vi f.bit, Value.int .u32 f.pattern], Value.agg #[vy x.label, vy x.from_, vi x.cycle, vs Ax_payload x.payload cx_payload]] g [] (fun v ψ o => v = vb r ∧ o = []) := by
  unfold o7 at hS
  refine xFn Try.f7 (Try.f7.body.getD .skip) 50 ?_
  have nfp := fp.len
  have nfx_payload := fx_payload.len
  refine xSq ?_
  refine xRg ?_
  refine xE eB ?_
  rintro _ _ _ - ⟨b1, rfl, rfl, rfl⟩
  refine xE eB ?_
  rintro _ _ _ - ⟨b2, rfl, rfl, rfl⟩
  refine xB 1 [] [(0, vs Ap p cp), (4, vp b1 0), (5, vp b2 0)] ?_
  refine xRe ?_
  refine wpq_then ?_
  refine xSq ?_
  refine xSq ?_
  refine xRg ?_
  obtain ⟨y3, hy3, hS⟩ := bindO_T hS
  refine xE (eC 0 (fun g' lr eb ln => c12 g'  hy3)) ?_
  rintro _ g4 _ e5 ⟨_, rfl, rfl, rfl⟩
  refine xB 1 [] [(0, vs Ap p cp), (4, vp b1 0), (5, vp b2 0), (12, vb (!y3))] ?_
  refine xRe ?_
  refine wpq_then ?_
  refine xCd ((!y3)) (fun h6 => ?_) (fun h6 => ?_)
  · have hS := cond_T h6 hS
    have h6n := not_eq_true_ h6
    refine xSq ?_
    refine xRg ?_
    refine xB 1 [] [(6, vb false)] ?_
    refine xRe ?_
    refine wpq_then ?_
    have eS := (Option.some.inj hS).symm
    subst eS
    exact xRet [] [6] e5 ⟨by kernel_rfl, by kernel_rfl⟩ (fun _ _ h => h)
  · have hS := cond_F h6 hS
    have h6n := not_eq_false_ h6
    refine xSk ?_
    refine wpq_then ?_
    refine xSub [(0, vs Ap p cp), (4, vp b1 0), (5, vp b2 0)] ?_
    refine xSq ?_
    refine xRg ?_
    have z1 := minI_spec (((p).length : Nat) : Int) 200
    have fp := fp.mono e5.r
    have ncapf7 := fp.cap
    have f7 : Arr g4.r tyU8 (offA Ap cp 0 1) (cp - 0) (List.take ((minI (((p).length : Nat) : Int) 200)).toNat p) := fp.cut_to ((minI (((p).length : Nat) : Int) 200)).toNat (by omega)
    have nf7 := f7.len
    have hlf7 : ((minI (((p).length : Nat) : Int) 200)).toNat - 0 = ((List.take ((minI (((p).length : Nat) : Int) 200)).toNat p)).length := by simp only [List.length_take, List.length_drop] <;> omega
    have hvf7 : ((((List.take ((minI (((p).length : Nat) : Int) 200)).toNat p)).length : Nat) : Int) = (minI (((p).length : Nat) : Int) 200) - 0 := by omega
    refine xB 4 [] [(0, vs Ap p cp), (4, vp b1 0), (5, vp b2 0), (13, vs Ap p cp), (16, vi (minI (((p).length : Nat) : Int) 200))] ?_
    refine xV (qSl (m := 1) (A := Ap) (len := (p).length) (c := cp) 0 ((minI (((p).length : Nat) : Int) 200)).toNat none (some (minI (((p).length : Nat) : Int) 200)) ((List.take ((minI (((p).length : Nat) : Int) 200)).toNat p)).length rfl (show _ = _ by omega) (by omega) (by omega) hlf7) ?_
    refine xB 1 [] [(0, vs (offA Ap cp 0 1) (List.take ((minI (((p).length : Nat) : Int) 200)).toNat p) (cp - 0)), (4, vp b1 0), (5, vp b2 0)] ?_
    refine xRe ?_
    refine wpq_then ?_
    refine xSq ?_
    refine xRg ?_
    refine xB 8 [(1, 1), (3, 0), (5, 0), (7, 0)] [(0, vs (offA Ap cp 0 1) (List.take ((minI (((p).length : Nat) : Int) 200)).toNat p) (cp - 0)), (4, vp b1 0), (5, vp b2 0), (19, vs (offA Ap cp 0 1) (List.take ((minI (((p).length : Nat) : Int) 200)).toNat p) (cp - 0)), (20, Value.agg #[vb f.lost, vi f.bit, Value.int .u32 f.pattern]), (22, vy x.label), (24, vy x.from_), (26, vi x.cycle)] ?_
    obtain ⟨y8, hy8, hS⟩ := bindO_T hS
    refine xE (eC 0 (fun g' lr eb ln => c24 g' ((List.take ((minI (((p).length : Nat) : Int) 200)).toNat p) : List UInt8) (offA Ap cp 0 1) (cp - 0) f (x.label : Int) (x.from_ : Int) (x.cycle : Int) (f7.mono lr) hy8)) ?_
    rintro _ g9 _ e10 ⟨_, rfl, A8_0_payload, c8_0_payload, rfl, rfl, f8_0_payload⟩
    have nf8_0_payload := f8_0_payload.len
    refine xB 3 [] [(0, vs (offA Ap cp 0 1) (List.take ((minI (((p).length : Nat) : Int) 200)).toNat p) (cp - 0)), (4, vp b1 0), (5, vp b2 0), (28, Value.agg #[vy y8.1.label, vy y8.1.from_, vi y8.1.cycle, vs A8_0_payload y8.1.payload c8_0_payload]), (29, vb y8.2)] ?_
    refine xE eB ?_
    rintro _ _ _ - ⟨b11, rfl, rfl, rfl⟩
    refine xBo 2 [(13, 0)] [some ⟨b11, 24, (cFrame y8.1 A8_0_payload c8_0_payload)⟩, some ⟨b2, 24, (cFrame x Ax_payload cx_payload)⟩, some ⟨b1, 51, [vb f.lost, vi f.bit, Value.int .u32 f.pattern]⟩] [(0, vs (offA Ap cp 0 1) (List.take ((minI (((p).length : Nat) : Int) 200)).toNat p) (cp - 0)), (4, vp b1 0), (5, vp b2 0), (7, vp b11 0), (8, vb y8.2)] ?_
    refine xRe ?_
    refine wpq_then ?_
    refine xSq ?_
    refine xRg ?_
    refine xB 8 [(1, 2), (3, 1), (5, 1), (7, 1)] [(7, vp b11 0), (8, vb y8.2), (31, vs (offA Ap cp 0 1) (List.take ((minI (((p).length : Nat) : Int) 200)).toNat p) (cp - 0)), (32, Value.agg #[vb f.lost, vi f.bit, Value.int .u32 f.pattern]), (34, vy x.label), (36, vy x.from_), (38, vi x.cycle)] ?_
    have f7 := f7.mono e10.r
    obtain ⟨y12, hy12, hS⟩ := bindO_T hS
    refine xE (eC 0 (fun g' lr eb ln => c25 g' ((List.take ((minI (((p).length : Nat) : Int) 200)).toNat p) : List UInt8) (offA Ap cp 0 1) (cp - 0) f (x.label : Int) (x.from_ : Int) (x.cycle : Int) (f7.mono lr) hy12)) ?_
    rintro _ g13 _ e14 ⟨_, rfl, A12_0_payload, c12_0_payload, rfl, rfl, f12_0_payload⟩
    have nf12_0_payload := f12_0_payload.len
    refine xB 3 [] [(7, vp b11 0), (8, vb y8.2), (40, Value.agg #[vy y12.1.label, vy y12.1.from_, vi y12.1.cycle, vs A12_0_payload y12.1.payload c12_0_payload]), (41, vb y12.2)] ?_
    refine xE eB ?_
    rintro _ _ _ - ⟨b15, rfl, rfl, rfl⟩
    refine xBo 2 [(13, 0)] [some ⟨b15, 24, (cFrame y12.1 A12_0_payload c12_0_payload)⟩, some ⟨b11, 24, (cFrame y8.1 A8_0_payload c8_0_payload)⟩, some ⟨b2, 24, (cFrame x Ax_payload cx_payload)⟩, some ⟨b1, 51, [vb f.lost, vi f.bit, Value.int .u32 f.pattern]⟩] [(7, vp b11 0), (8, vb y8.2), (9, vp b15 0), (10, vb y12.2)] ?_
    refine xRe ?_
    refine wpq_then ?_
    refine xSq ?_
    refine xRg ?_
    refine xB 2 [(0, 1), (1, 0)] [(8, vb y8.2), (10, vb y12.2), (42, Value.agg #[vy y8.1.label, vy y8.1.from_, vi y8.1.cycle, vs A8_0_payload y8.1.payload c8_0_payload]), (43, Value.agg #[vy y12.1.label, vy y12.1.from_, vi y12.1.cycle, vs A12_0_payload y12.1.payload c12_0_payload])] ?_
    have f8_0_payload := f8_0_payload.mono e14.b
    obtain ⟨y16, hy16, hS⟩ := letJ_T hS
    refine xE (eC 0 (fun g' lr eb ln => c17 g' y8.1 A8_0_payload c8_0_payload y12.1 A12_0_payload c12_0_payload ((f8_0_payload.mono g13.br).mono lr) ((f12_0_payload.mono g13.br).mono lr) hy16)) ?_
    rintro _ g17 _ e18 ⟨_, rfl, rfl, rfl⟩
    refine xB 1 [] [(8, vb y8.2), (10, vb y12.2), (45, vb y16)] ?_
    refine wpr_grp 8 [(49, vb (y16 && (y8.2 == y12.2)))] (fun hk3 => ?_) ?_
    · refine wpq_split 45 (b := y16) (by kernel_rfl) (fun q19 => ?_) (fun q19 => ?_)
      · refine xB 4 [] [(49, vb (y8.2 == y12.2))] ?_
        refine wpq_re 49 (v := vb (y8.2 == y12.2)) (Value.bool ((y16 && (y8.2 == y12.2)))) (by kernel_rfl) (re_and1 q19) ?_
        exact wpq_sub _ (by kernel_rfl) hk3
      · refine xB 4 [] [(49, vb false)] ?_
        refine wpq_re 49 (v := vb false) (Value.bool ((y16 && (y8.2 == y12.2)))) (by kernel_rfl) (re_and0 q19) ?_
        exact wpq_sub _ (by kernel_rfl) hk3
    · refine xB 1 [] [(6, vb (y16 && (y8.2 == y12.2)))] ?_
      refine xRe ?_
      refine wpq_then ?_
      have eS := (Option.some.inj hS).symm
      subst eS
      exact xRet [] [6] (e5.trans (e10.trans (e14.trans e18))) ⟨by kernel_rfl, by kernel_rfl⟩ (fun _ _ h => h)

end Go.Proofs.Ytmcgofgpcnlljaa
