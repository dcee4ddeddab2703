/-
Parts by kind and name: the law's own. Conditions: each lemma's own.
-/
import Derived.Test.YthfekfebgghjhaaDoorS17a
import Derived.Test.YthfekfebgghjhaaDoorK7x1
namespace Go.Proofs.YthfekfebgghjhaaDoor
set_option linter.unusedVariables false
set_option linter.unusedSimpArgs false
open Go.RowKit
theorem o18_is {p : Proc} (h : sizedP p) (k : Int) (n : List UInt8) : o18 p k n = some (partP p k n) := by
  rw [← o17_is h k n]
  unfold o18 o17
  have : o18_L0 p k n = o17_L0 p k n := by
    funext s
    unfold o18_L0 o17_L0
    by_cases hlt : s < p.parts.length
    · rw [dt (by omega), cond_true, cond_true, o41_is (by have := h.2 s hlt; omega), bindO_some rfl]
    · rw [df (by omega), cond_false, cond_false]
  rw [this]
end Go.Proofs.YthfekfebgghjhaaDoor
