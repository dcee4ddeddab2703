/-
slices.SortFunc sorts: the law of the whole. Conditions: each lemma's own.
-/
import Derived.Test.YtfhchendnfpbkaaQ7
namespace Go.Proofs.Ytfhchendnfpbkaa
set_option linter.unusedVariables false
set_option linter.unusedSimpArgs false
open Go.RowKit
theorem len_small : ∀ k : _root_.Fin 50, (gLen ((k.val : Nat) : Int)).isSome = true := by decide +kernel
/-- the sorted row: as long, the same numbers, in order -/
theorem gSort_ok {cmp : Cmp} {P : Int → Prop} {lt : Int → Int → Prop} (o : OrdC cmp P lt) {l : List Int} (g : Gd P l) :
    ∃ r, gSort l cmp = some r ∧ Rr 0 l.length l r ∧ Srt lt r 0 l.length := by
  have h49 := g.2.2
  unfold gSort
  have hl := len_small ⟨l.length, by omega⟩
  simp only at hl
  cases hv : gLen ((l.length : Nat) : Int) with
  | none => rw [hv] at hl; cases hl
  | some v =>
    rw [bindO_some rfl]
    obtain ⟨r, h1, h2, h3⟩ := gPdq_ok o l.length fuelN (by simp only [fuelN]; omega) l 0 l.length v g (Nat.zero_le _) (Nat.le_refl _) (by omega) (.inl rfl)
    have e0 : (((0 : Nat) : Int)) = 0 := rfl
    rw [e0] at h1
    rw [h1, bindO_some rfl]
    exact ⟨r, rfl, h2, h3⟩
/-- two rows in order that hold the same numbers are one -/
theorem srt_uniq {P : Int → Prop} {lt : Int → Int → Prop} (irr : ∀ x, P x → ¬ lt x x) (tr : ∀ x y z, P x → P y → P z → lt x y → lt y z → lt x z) {l m : List Int} (hlen : l.length = m.length) (hp : ∀ k, k < l.length → P (l.getD k 0)) (hq : ∀ k, k < m.length → P (m.getD k 0))
    (hlm : ∀ k, k < l.length → ∃ j, j < m.length ∧ l.getD k 0 = m.getD j 0) (hml : ∀ k, k < m.length → ∃ j, j < l.length ∧ m.getD k 0 = l.getD j 0) (sl : Srt lt l 0 l.length) (sm : Srt lt m 0 m.length) : ∀ k, k < l.length → l.getD k 0 = m.getD k 0 := by
  intro k
  induction k using Nat.strongRecOn with
  | _ k ih =>
    intro hk
    obtain ⟨i, hi, ei⟩ := hlm k hk
    obtain ⟨j, hj, ej⟩ := hml k (by omega)
    by_cases hik : i = k
    · subst hik; exact ei
    by_cases hjk : j = k
    · subst hjk; exact ej.symm
    by_cases h1 : i < k
    · exact absurd (by have h := sl i k (Nat.zero_le _) h1 hk; rw [ih i h1 (by omega), ← ei] at h; exact h) (irr _ (hp k hk))
    by_cases h2 : j < k
    · exact absurd (by have h := sm j k (Nat.zero_le _) h2 (by omega); rw [← ih j h2 (by omega), ← ej] at h; exact h) (irr _ (hq k (by omega)))
    have a1 := sm k i (Nat.zero_le _) (by omega) hi
    have a2 := sl k j (Nat.zero_le _) (by omega) hj
    rw [← ei] at a1
    rw [← ej] at a2
    exact absurd (tr _ _ _ (hq k (by omega)) (hp k hk) (hq k (by omega)) a1 a2) (irr _ (hq k (by omega)))
#print axioms gSort_ok
end Go.Proofs.Ytfhchendnfpbkaa
