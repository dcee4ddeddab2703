/-
AlertRestores in plain words. Conditions: each lemma's own.
-/
import Derived.Test.YtfhchendnfpbkaaP55qx8
namespace Go.Proofs.Ytfhchendnfpbkaa
set_option linter.unusedVariables false
set_option linter.unusedSimpArgs false
open Go.RowKit
theorem few_len (l : List AlertDef) : (o11 l).length ≤ 18 := by
  unfold o11
  rw [List.length_take]
  unfold minI
  split <;> omega
theorem alertRestores_plain (l : List AlertDef) (p : List UInt8) : o8 l p = some true := by
  unfold o8
  rw [o10_true, bindO_some rfl]
  simp only [Bool.not_true, cond_false]
  rw [letJ_def]
  have hl := few_len l
  obtain ⟨l', hl'⟩ : ∃ l', o11 l = l' := ⟨_, rfl⟩
  rw [hl'] at hl ⊢
  have hp : (p.take (minI ((p.length : Nat) : Int) 180).toNat).length ≤ 180 := by
    rw [List.length_take]
    unfold minI
    split <;> omega
  obtain ⟨q, hq⟩ : ∃ q, p.take (minI ((p.length : Nat) : Int) 180).toNat = q := ⟨_, rfl⟩
  rw [hq] at hp ⊢
  obtain ⟨x, y, h1, h2, h3, h4⟩ := restore_ok l' q hl (by omega)
  rw [h1, h2, bindO_some rfl, bindO_some rfl, neq_f h3, Bool.false_or]
  rcases h4 with ⟨h4, h5⟩ | ⟨h4, b, h5, h6, h7⟩
  · rw [neq_t h4, cond_true, eq_t h3, h5]; rfl
  · have wb := h6.2.2.2.2.2.1
    rw [neq_f h4, cond_false, h5, bindO_some rfl, o27_true h6, bindO_some rfl, cond_true, o22_is wb, h7, bindO_some rfl, beq_self_eq_true, bindO_some rfl]
end Go.Proofs.Ytfhchendnfpbkaa
