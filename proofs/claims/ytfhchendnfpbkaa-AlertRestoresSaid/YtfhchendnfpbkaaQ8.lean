/-
slices.SortFunc sorts: the law of the whole. Conditions: each lemma's own.
-/
import Derived.Test.YtfhchendnfpbkaaQ7
namespace Go.Proofs.Ytfhchendnfpbkaa
set_option linter.unusedVariables false
set_option linter.unusedSimpArgs false
open Go.RowKit
theorem len_small : ∀ k : _root_.Fin 50, (gLen ((k.val : Nat) : Int)).isSome = true := by decide +kernel
theorem gSort_ok {cmp : Cmp} {P : Int → Prop} {lt : Int → Int → Prop} (o : OrdC cmp P lt) {l : List Int} (g : Gd P l) :
    ∃ r, gSort l cmp = some r ∧ Rr 0 l.length l r ∧ Srt lt r 0 l.length := by
  have h49 := g.2.2
  unfold gSort
  have hl := len_small ⟨l.length, by omega⟩
  simp only at hl
  cases hv : gLen ((l.length : Nat) : Int) with
  | none => rw [hv] at hl; cases hl
  | some v =>
    rw [bindO_some rfl]
    obtain ⟨r, h1, h2, h3⟩ := gPdq_ok o l.length fuelN (by simp only [fuelN]; omega) l 0 l.length v g (Nat.zero_le _) (Nat.le_refl _) (by omega) (.inl rfl)
    have e0 : (((0 : Nat) : Int)) = 0 := rfl
    rw [e0] at h1
    rw [h1, bindO_some rfl]
    exact ⟨r, rfl, h2, h3⟩
end Go.Proofs.Ytfhchendnfpbkaa
