/-
BusUndamaged in plain words. Conditions: each lemma's own.
-/
import Derived.Test.YtmcgofgpcnlljaaP52gx8
import Derived.Test.YtmcgofgpcnlljaaP52zx8
namespace Go.Proofs.Ytmcgofgpcnlljaa
set_option linter.unusedVariables false
set_option linter.unusedSimpArgs false
open Go.RowKit
theorem shr0 (k : Int) : shrK .u32 0 k = 0 := by unfold shrK; simp
theorem carN_zero (p : List UInt8) (f : Fate) (h : f.pattern = 0) : ∀ k, carN p f k = p
  | 0 => rfl
  | k + 1 => by
    simp only [carN]
    have : hitC p.length f k = false := by
      unfold hitC
      rw [h, shr0]
      rfl
    rw [this]
    exact carN_zero p f h k
theorem noF_same : o17 noF noF = true := by unfold o17; exact same_frame noF
theorem busUndamaged_plain (x : Frame) (f : Fate) (hf : okF x) : o8 x f = some true := by
  unfold o8
  rw [o12_true, bindO_some rfl]
  simp only [Bool.not_true, cond_false]
  rw [letJ_def]
  have e13 : o13 x = { x with payload := (List.take ((minI (((x.payload).length : Nat) : Int) 1010)).toNat x.payload) } := Eq.trans rfl rfl
  rw [e13]
  generalize List.take ((minI (((x.payload).length : Nat) : Int) 1010)).toNat x.payload = w
  obtain ⟨F, hF⟩ : ∃ F : Frame, F = { x with payload := w } := ⟨_, rfl⟩
  have ok : okF F := by subst hF; exact hf
  rw [← hF, o14_eq F ok, bindO_some rfl]
  unfold encC
  by_cases hl : ((F.payload.length : Nat) : Int) > 1000
  · rw [dt hl]; rfl
  · rw [df hl]
    simp only [cond_false, show ((0 : Int) != 0) = false from rfl]
    have hlen : (sealC (bodyC F)).length ≤ 1000000000 := by rw [seal_len, body_len]; omega
    rw [o24_eq _ _ _ _ _ hlen, bindO_some rfl]
    unfold recC carC
    cases hlost : f.lost with
    | true =>
      simp only [cond_true, Bool.not_false, cond_false, Bool.true_or]
      rw [letJ_def, letJ_def]
      have : (⟨0, 0, 0, []⟩ : Frame) = noF := rfl
      rw [this, noF_same]
    | false =>
      simp only [cond_false, Bool.not_true, Bool.false_or, Bool.not_false, cond_true]
      by_cases hsame : carN (sealC (bodyC F)) f 32 = sealC (bodyC F)
      · rw [hsame, dec_enc F ok (by omega)]
        have hc : (((((0 : Int) != 0) || (F.label != F.label)) || (F.from_ != F.from_)) || (F.cycle != F.cycle)) = false := by simp
        simp only
        rw [hc]
        simp only [cond_false, cond_true]
        rw [letJ_def, letJ_def]
        unfold o17
        rw [same_frame]
      · have hp : (f.pattern != 0) = true := by
          cases h : (f.pattern != 0) with
          | true => rfl
          | false => exact absurd (carN_zero _ f (by simpa using h) 32) hsame
        have hbit : f.bit < 8 * (((sealC (bodyC F)).length : Nat) : Int) := by
          by_cases h : f.bit < 8 * (((sealC (bodyC F)).length : Nat) : Int)
          · exact h
          · exact absurd (carN_away _ f (by unfold awayC; rw [dt (p := f.bit ≥ 8 * (((sealC (bodyC F)).length : Nat) : Int)) (by omega)]; simp) 32 (by decide)) hsame
        have hopen : (openC (carN (sealC (bodyC F)) f 32)).2 ≠ 0 := fun h => hsame (burst _ f h hbit)
        have hdec : decC (carN (sealC (bodyC F)) f 32) = (noF, (openC (carN (sealC (bodyC F)) f 32)).2) := by
          unfold decC
          rw [neq_t hopen]
          rfl
        rw [hdec]
        simp only
        rw [neq_t hopen]
        simp only [Bool.true_or, cond_true, cond_false]
        rw [hp]
        simp only [cond_true]
        have : (⟨0, 0, 0, []⟩ : Frame) = noF := rfl
        rw [this, letJ_def, letJ_def, noF_same]
theorem okF_of {f : Frame} (h : okFrame f) : okF f := by
  obtain ⟨⟨a1, a2⟩, ⟨b1, b2⟩, ⟨c1, c2⟩, -⟩ := h
  have e1 : IntKind.u8.min = 0 := rfl
  have e2 : IntKind.u8.max = 255 := rfl
  have e3 : IntKind.i64.min = -9223372036854775808 := rfl
  have e4 : IntKind.i64.max = 9223372036854775807 := rfl
  rw [e1] at a1 b1; rw [e2] at a2 b2; rw [e3] at c1; rw [e4] at c2
  exact ⟨⟨a1, a2⟩, ⟨b1, b2⟩, ⟨c1, c2⟩⟩
end Go.Proofs.Ytmcgofgpcnlljaa
