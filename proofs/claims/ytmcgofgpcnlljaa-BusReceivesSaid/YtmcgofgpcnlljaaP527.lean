/-
BusReceives in plain words. Conditions: each lemma's own.
-/
import Derived.Test.YtmcgofgpcnlljaaP52fx7
import Derived.Test.YtmcgofgpcnlljaaP52gx7
import Derived.Test.YtmcgofgpcnlljaaP52dx7
namespace Go.Proofs.Ytmcgofgpcnlljaa
set_option linter.unusedVariables false
set_option linter.unusedSimpArgs false
open Go.RowKit
theorem o25_eq (p : List UInt8) (f : Fate) (label from_ cycle : Int) (hp : p.length ≤ 1000000000) (hb : -9223372036854775808 ≤ f.bit ∧ f.bit ≤ 9223372036854775807) : o25 p f label from_ cycle = some (recC p f label from_ cycle) := by
  unfold o25 recC
  rw [o23_eq p f hp hb, bindO_some rfl]
  cases (carC p f).2 with
  | false => rfl
  | true =>
    simp only [Bool.not_true, cond_false]
    rw [o18_eq _ (by have := car_len p f; omega), bindO_some rfl]
    cases (((((decC (carC p f).1).2 != 0) || ((decC (carC p f).1).1.label != label)) || ((decC (carC p f).1).1.from_ != from_)) || ((decC (carC p f).1).1.cycle != cycle)) <;> rfl
theorem busReceives_plain (p : List UInt8) (f : Fate) (x : Frame) (hb : -9223372036854775808 ≤ f.bit ∧ f.bit ≤ 9223372036854775807) : o7 p f x = some true := by
  unfold o7
  have hl : (List.take ((minI (((p).length : Nat) : Int) 200)).toNat p).length ≤ 200 := min_len p 200
  rw [o12_true, bindO_some rfl]
  simp only [Bool.not_true, cond_false]
  generalize List.take ((minI (((p).length : Nat) : Int) 200)).toNat p = q at hl ⊢
  rw [o24_eq q f _ _ _ (by omega), bindO_some rfl, o25_eq q f _ _ _ (by omega) hb, bindO_some rfl, letJ_def]
  unfold o17
  rw [same_frame]
  simp
end Go.Proofs.Ytmcgofgpcnlljaa
