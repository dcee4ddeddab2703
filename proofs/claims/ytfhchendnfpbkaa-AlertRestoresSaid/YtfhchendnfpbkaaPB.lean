/-
Words of the plain proofs. Conditions: each lemma's own.
-/
import Derived.Test.YtfhchendnfpbkaaNB
namespace Go.Proofs.Ytfhchendnfpbkaa
set_option linter.unusedVariables false
set_option linter.unusedSimpArgs false
open Go.RowKit
theorem dt {p : Prop} [Decidable p] (h : p) : decide p = true := decide_eq_true h
theorem df {p : Prop} [Decidable p] (h : ¬ p) : decide p = false := decide_eq_false h
theorem w8 {k : Nat} (h : k ≤ 1000) : IntKind.i64.wrap (8 * ((k : Nat) : Int)) = 8 * (k : Int) := wr64 (by omega)
theorem neq_t {a b : Int} (h : a ≠ b) : (a != b) = true := by simpa using h
theorem neq_f {a b : Int} (h : a = b) : (a != b) = false := by simpa using h
theorem eq_t {a b : Int} (h : a = b) : (a == b) = true := by simpa using h
theorem eq_f {a b : Int} (h : a ≠ b) : (a == b) = false := by simpa using h
end Go.Proofs.Ytfhchendnfpbkaa
