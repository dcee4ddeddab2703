/-
Words of the plain proofs. Conditions: each lemma's own.
-/
import Derived.Test.YtfhchendnfpbkaaNB
namespace Go.Proofs.Ytfhchendnfpbkaa
set_option linter.unusedVariables false
set_option linter.unusedSimpArgs false
open Go.RowKit
theorem dt {p : Prop} [Decidable p] (h : p) : decide p = true := decide_eq_true h
theorem df {p : Prop} [Decidable p] (h : ¬ p) : decide p = false := decide_eq_false h
theorem w8 {k : Nat} (h : k ≤ 1000) : IntKind.i64.wrap (8 * ((k : Nat) : Int)) = 8 * (k : Int) := wr64 (by omega)
theorem neq_t {a b : Int} (h : a ≠ b) : (a != b) = true := by simpa using h
theorem neq_f {a b : Int} (h : a = b) : (a != b) = false := by simpa using h
theorem eq_t {a b : Int} (h : a = b) : (a == b) = true := by simpa using h
theorem eq_f {a b : Int} (h : a ≠ b) : (a == b) = false := by simpa using h
theorem getI_putB (n : Int) (q : List UInt8) (h : -9223372036854775808 ≤ n ∧ n ≤ 9223372036854775807) : getI (putB n 8 ++ q) 8 = n := by
  unfold getI
  have e := natL_putB n 8 8 q (Nat.le_refl _) (Nat.le_refl _)
  rw [e, IntKind.wrap_i64]
  simp only [Int.reducePow]
  omega
theorem dropL {p q : List UInt8} {k : Nat} (h : p.length = k) : (p ++ q).drop k = q := by subst h; simp
end Go.Proofs.Ytfhchendnfpbkaa
