/-
BusDecodes in plain words. Conditions: each lemma's own.
-/
import Derived.Test.YtmcgofgpcnlljaaP52dx4
namespace Go.Proofs.Ytmcgofgpcnlljaa
set_option linter.unusedVariables false
set_option linter.unusedSimpArgs false
open Go.RowKit
theorem min_len (p : List UInt8) (k : Nat) : (p.take (minI ((p.length : Nat) : Int) (k : Int)).toNat).length ≤ k := by
  have : minI ((p.length : Nat) : Int) (k : Int) ≤ (k : Int) := by unfold minI; split <;> omega
  rw [List.length_take]; omega
theorem busDecodes_plain (p : List UInt8) : o4 p = some true := by
  unfold o4
  have hl := min_len p 1100
  have hl : (List.take ((minI (((p).length : Nat) : Int) 1100)).toNat p).length ≤ 1100 := hl
  rw [o12_true, bindO_some rfl]
  simp only [Bool.not_true, cond_false]
  generalize List.take ((minI (((p).length : Nat) : Int) 1100)).toNat p = q at hl ⊢
  rw [o16_eq q (by omega), bindO_some rfl, o18_eq q (by omega), bindO_some rfl, letJ_def]
  unfold o17
  rw [same_frame]
  simp only [Bool.not_true, Bool.false_or, bne_self_eq_false, cond_false]
  cases e : ((decC q).2 != 0) with
  | true => rfl
  | false =>
    obtain ⟨h1, h2⟩ := enc_dec (p := q) (by simpa using e)
    simp only [cond_false]
    rw [o14_eq _ h1, bindO_some rfl, h2]
    simp
end Go.Proofs.Ytmcgofgpcnlljaa
