/-
Kinds of legs: the law's own words and the program's. Conditions: each lemma's own.
-/
import Derived.Test.YthfekfebgghjhaaDoorS17a
import Derived.Test.YthfekfebgghjhaaDoorK5x0
namespace Go.Proofs.YthfekfebgghjhaaDoor
set_option linter.unusedVariables false
set_option linter.unusedSimpArgs false
open Go.RowKit
theorem pairs_all : ((List.range 18).all fun a => (List.range 18).all fun b => o48 a b == o61 a b) = true := by kernel_rfl
theorem fixes_all : ((List.range 18).all fun a => o49 a == o62 a) = true := by kernel_rfl
theorem type_out {t : Int} (h : ¬ (1 ≤ t ∧ t ≤ 17)) : o45 t = false ∧ o66 t = [] := by
  constructor
  · unfold o45
    rw [← Bool.not_eq_true, Bool.and_eq_true, decide_eq_true_iff, decide_eq_true_iff]
    exact h
  · unfold o66
    simp only [letJ_def]
    rw [eq_f (show t ≠ 1 by omega), eq_f (show t ≠ 2 by omega), eq_f (show t ≠ 3 by omega), eq_f (show t ≠ 4 by omega), eq_f (show t ≠ 5 by omega), eq_f (show t ≠ 6 by omega), eq_f (show t ≠ 7 by omega), eq_f (show t ≠ 8 by omega), eq_f (show t ≠ 9 by omega), eq_f (show t ≠ 10 by omega), eq_f (show t ≠ 11 by omega), eq_f (show t ≠ 12 by omega), eq_f (show t ≠ 13 by omega), eq_f (show t ≠ 14 by omega), eq_f (show t ≠ 15 by omega), eq_f (show t ≠ 16 by omega), eq_f (show t ≠ 17 by omega)]
    rfl
theorem o49_is (t : Int) : o49 t = o62 t := by
  by_cases h : 1 ≤ t ∧ t ≤ 17
  · obtain ⟨n, rfl⟩ : ∃ n : Nat, t = (n : Int) := ⟨t.toNat, by omega⟩
    have := List.all_eq_true.1 fixes_all n (by simp; omega)
    simpa using this
  · have e : o62 t = false := by
      unfold o62
      rw [← Bool.not_eq_true, Bool.and_eq_true, decide_eq_true_iff, decide_eq_true_iff]
      omega
    rw [e]
    unfold o49
    rw [eq_f (show t ≠ 11 by omega), eq_f (show t ≠ 12 by omega), eq_f (show t ≠ 13 by omega), eq_f (show t ≠ 14 by omega), eq_f (show t ≠ 15 by omega), eq_f (show t ≠ 16 by omega), eq_f (show t ≠ 17 by omega)]
    rfl
theorem o48_is (a b : Int) : o48 a b = o61 a b := by
  by_cases h1 : 1 ≤ a ∧ a ≤ 17
  · by_cases h2 : 1 ≤ b ∧ b ≤ 17
    · obtain ⟨n, rfl⟩ : ∃ n : Nat, a = (n : Int) := ⟨a.toNat, by omega⟩
      obtain ⟨m, rfl⟩ : ∃ m : Nat, b = (m : Int) := ⟨b.toNat, by omega⟩
      have := List.all_eq_true.1 (List.all_eq_true.1 pairs_all n (by simp; omega)) m (by simp; omega)
      simpa using this
    · obtain ⟨q1, q2⟩ := type_out h2
      unfold o48 o61
      rw [q1, q2]
      simp only [letJ_def, Bool.not_false, beq_self_eq_true]
      cases o45 a <;> cases (o66 a == []) <;> rfl
  · obtain ⟨q1, q2⟩ := type_out h1
    unfold o48 o61
    rw [q1, q2]
    simp only [letJ_def, Bool.not_false, beq_self_eq_true, cond_true, Bool.true_or]
theorem o26_is (a b : Leg) : o26 a b = o44 a b := by
  unfold o26 o44
  rw [o48_is, o49_is]
end Go.Proofs.YthfekfebgghjhaaDoor
