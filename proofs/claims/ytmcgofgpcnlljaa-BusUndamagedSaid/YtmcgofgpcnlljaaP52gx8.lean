/-
Which frame the program receives. Conditions: each lemma's own.
-/
import Derived.Test.YtmcgofgpcnlljaaP52cx8
namespace Go.Proofs.Ytmcgofgpcnlljaa
set_option linter.unusedVariables false
set_option linter.unusedSimpArgs false
open Go.RowKit
theorem o24_eq (p : List UInt8) (f : Fate) (label from_ cycle : Int) (hp : p.length ≤ 1000000000) : o24 p f label from_ cycle = some (recC p f label from_ cycle) := by
  unfold o24 recC
  rw [o22_eq p f hp, bindO_some rfl]
  cases (carC p f).2 with
  | false => rfl
  | true =>
    simp only [Bool.not_true, cond_false]
    rw [o16_eq _ (by have := car_len p f; omega), bindO_some rfl]
    cases (((((decC (carC p f).1).2 != 0) || ((decC (carC p f).1).1.label != label)) || ((decC (carC p f).1).1.from_ != from_)) || ((decC (carC p f).1).1.cycle != cycle)) <;> rfl
end Go.Proofs.Ytmcgofgpcnlljaa
