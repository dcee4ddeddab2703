/-
Words of the plain proofs. Conditions: each lemma's own.
-/
import Derived.Test.YtpleflcfaecojaaGreatNB
namespace Go.Proofs.YtpleflcfaecojaaGreat
set_option linter.unusedVariables false
set_option linter.unusedSimpArgs false
open Go.RowKit
theorem dt {p : Prop} [Decidable p] (h : p) : decide p = true := decide_eq_true h
theorem df {p : Prop} [Decidable p] (h : ¬ p) : decide p = false := decide_eq_false h
theorem natL_take (p : List UInt8) : ∀ (k m : Nat), k ≤ m → natL (p.take m) k = natL p k
  | 0, m, _ => rfl
  | k + 1, m, h => by
    rw [natL, natL, natL_take p k m (by omega)]
    congr 2
    rw [List.getD_eq_getElem?_getD, List.getD_eq_getElem?_getD, List.getElem?_take, if_pos (by omega)]
theorem getI_take (p : List UInt8) (m : Nat) : getI (p.take m) m = getI p m := by unfold getI; rw [natL_take p m m (Nat.le_refl _)]
theorem neq_t {a b : Int} (h : a ≠ b) : (a != b) = true := by simpa using h
theorem neq_f {a b : Int} (h : a = b) : (a != b) = false := by simpa using h
theorem eq_f {a b : Int} (h : a ≠ b) : (a == b) = false := by simpa using h
end Go.Proofs.YtpleflcfaecojaaGreat
