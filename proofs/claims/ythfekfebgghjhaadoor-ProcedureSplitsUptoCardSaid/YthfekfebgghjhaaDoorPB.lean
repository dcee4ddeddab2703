/-
Words of the plain proofs. Conditions: each lemma's own.
-/
import Derived.Test.YthfekfebgghjhaaDoorNB
namespace Go.Proofs.YthfekfebgghjhaaDoor
set_option linter.unusedVariables false
set_option linter.unusedSimpArgs false
open Go.RowKit
theorem dt {p : Prop} [Decidable p] (h : p) : decide p = true := decide_eq_true h
theorem df {p : Prop} [Decidable p] (h : ¬ p) : decide p = false := decide_eq_false h
theorem w8 {k : Nat} (h : k ≤ 1000) : IntKind.i64.wrap (8 * ((k : Nat) : Int)) = 8 * (k : Int) := wr64 (by omega)
/-- the first bytes alone count -/
theorem natL_take (p : List UInt8) : ∀ (k m : Nat), k ≤ m → natL (p.take m) k = natL p k
  | 0, m, _ => rfl
  | k + 1, m, h => by
    rw [natL, natL, natL_take p k m (by omega)]
    congr 2
    rw [List.getD_eq_getElem?_getD, List.getD_eq_getElem?_getD, List.getElem?_take, if_pos (by omega)]
theorem getI_take (p : List UInt8) (m : Nat) : getI (p.take m) m = getI p m := by unfold getI; rw [natL_take p m m (Nat.le_refl _)]
theorem neq_t {a b : Int} (h : a ≠ b) : (a != b) = true := by simpa using h
theorem neq_f {a b : Int} (h : a = b) : (a != b) = false := by simpa using h
theorem eq_t {a b : Int} (h : a = b) : (a == b) = true := by simpa using h
theorem eq_f {a b : Int} (h : a ≠ b) : (a == b) = false := by simpa using h
theorem getI_putB (n : Int) (q : List UInt8) (h : -9223372036854775808 ≤ n ∧ n ≤ 9223372036854775807) : getI (putB n 8 ++ q) 8 = n := by
  unfold getI
  have e := natL_putB n 8 8 q (Nat.le_refl _) (Nat.le_refl _)
  rw [e, IntKind.wrap_i64]
  simp only [Int.reducePow]
  omega
theorem natL2 (n : Nat) (q : List UInt8) (h : n ≤ 65535) : natL (putB n 2 ++ q) 2 = n := by
  have e := natL_putB n 2 2 q (Nat.le_refl _) (by decide)
  simp only [Int.reducePow] at e
  omega
theorem dropL {p q : List UInt8} {k : Nat} (h : p.length = k) : (p ++ q).drop k = q := by subst h; simp
end Go.Proofs.YthfekfebgghjhaaDoor
