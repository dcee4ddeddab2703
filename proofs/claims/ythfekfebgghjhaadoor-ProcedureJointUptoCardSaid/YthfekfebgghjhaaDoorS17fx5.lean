/-
Two rows joined: the law's own and the program's. Conditions: each lemma's own.
-/
import Derived.Test.YthfekfebgghjhaaDoorS17ex5
import Derived.Test.YthfekfebgghjhaaDoorS17exp
namespace Go.Proofs.YthfekfebgghjhaaDoor
set_option linter.unusedVariables false
set_option linter.unusedSimpArgs false
open Go.RowKit
theorem o43_is (t : Int) : o42 t = o43 t := by
  by_cases h : 1 ≤ t ∧ t ≤ 17
  · have hall : ((List.range 18).all fun a => o42 a == o43 a) = true := by kernel_rfl
    obtain ⟨n, rfl⟩ : ∃ n : Nat, t = (n : Int) := ⟨t.toNat, by omega⟩
    have := List.all_eq_true.1 hall n (by simp; omega)
    simpa using this
  · have e : o43 t = false := by
      unfold o43
      rw [← Bool.not_eq_true, Bool.or_eq_true, Bool.and_eq_true, Bool.and_eq_true, decide_eq_true_iff, decide_eq_true_iff, decide_eq_true_iff, decide_eq_true_iff]
      omega
    rw [e]
    unfold o42
    rw [eq_f (show t ≠ 1 by omega), eq_f (show t ≠ 2 by omega), eq_f (show t ≠ 3 by omega), eq_f (show t ≠ 4 by omega), eq_f (show t ≠ 5 by omega), eq_f (show t ≠ 6 by omega), eq_f (show t ≠ 14 by omega), eq_f (show t ≠ 15 by omega), eq_f (show t ≠ 16 by omega), eq_f (show t ≠ 17 by omega)]
    rfl
theorem o22_is {a b : List Leg} (h : (a.length + b.length) * 112 ≤ 140737488355328) : o22 a b = some (W17.jn a b) := by
  unfold o22 W17.jn W17.dropc
  rw [grd_at' (by omega)]
  cases hc : (decide (((a.length : Nat) : Int) > 0) && decide (((b.length : Nat) : Int) > 0)) with
  | false =>
    rw [Bool.false_and, Bool.false_and, cond_false, cond_false, bindO_some rfl, grd_at' h]
  | true =>
    rw [Bool.and_eq_true, decide_eq_true_iff, decide_eq_true_iff] at hc
    have ea : (((a.length : Nat) : Int) - 1).toNat = a.length - 1 := by omega
    rw [Bool.true_and, Bool.true_and, ea, ← o43_is, ← o26_is]
    simp only [letJ_def]
    have e : ∀ (x y z u w : Bool), (cond x (grd (decide (0 ≤ ((a.length : Nat) : Int) - 1 ∧ ((a.length : Nat) : Int) - 1 < ((a.length : Nat) : Int))) (some (cond (cond (y && z) (cond u true w) false) (List.drop 1 b) b))) (some b) : Option (List Leg)) = some (cond ((x && y) && z && (u || w)) (List.drop 1 b) b) := by
      intro x y z u w
      rw [grd_at' (by omega)]
      cases x <;> cases y <;> cases z <;> cases u <;> cases w <;> rfl
    rw [e, bindO_some rfl, grd_at']
    have hl : ∀ q : Bool, (cond q (List.drop 1 b) b).length ≤ b.length := by intro q; cases q <;> simp
    have := hl (((b.getD 0 default).type_ == 1 && o42 (a.getD (a.length - 1) default).type_) && ((a.getD (a.length - 1) default).fix == (b.getD 0 default).fix) && ((((b.length : Nat) : Int) == 1) || o26 (a.getD (a.length - 1) default) (b.getD 1 default)))
    omega
end Go.Proofs.YthfekfebgghjhaaDoor
