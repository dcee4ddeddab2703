/-
ProcedureSplits in plain words. Conditions: each lemma's own.
-/
import Derived.Test.YthfekfebgghjhaaDoorS17exp
import Derived.Test.YthfekfebgghjhaaDoorK6x0
namespace Go.Proofs.YthfekfebgghjhaaDoor
set_option linter.unusedVariables false
set_option linter.unusedSimpArgs false
open Go.RowKit
theorem procedureSplits_plain {a b : List Leg} (h : a.length + b.length ≤ 1048576) : o6 a b = some true := by
  have hl := W17.jn_len a b
  have h1 : a.length ≤ (W17.jn a b).length := by unfold W17.jn; rw [List.length_append]; omega
  have ht : (W17.jn a b).take a.length = a := by unfold W17.jn; exact List.take_left
  have hd : (W17.jn a b).drop a.length = cond (W17.dropc a b) (b.drop 1) b := by unfold W17.jn; exact List.drop_left
  unfold o6
  rw [o12_true, bindO_some rfl, Bool.not_true, cond_false, W17.o21_is (by omega), bindO_some rfl, df (by omega), cond_false, ht, o20_same (by omega), bindO_some rfl, bindO_some rfl]
  simp only [Bool.not_true, cond_false]
  rw [grd_at' (by omega), hd]
  cases hc : ((((a.length : Nat) : Int) == 0) || (((b.length : Nat) : Int) == 0)) with
  | true =>
    have e : W17.dropc a b = false := by
      unfold W17.dropc
      rw [Bool.or_eq_true, beq_iff_eq, beq_iff_eq] at hc
      rcases hc with hc | hc
      · rw [df (show ¬ (((a.length : Nat) : Int) > 0) by omega)]; rfl
      · rw [df (show ¬ (((b.length : Nat) : Int) > 0) by omega), Bool.and_false]; rfl
    rw [cond_true, e, cond_false, o20_same (by omega), bindO_some rfl]
  | false =>
    rw [cond_false]
    cases he : W17.dropc a b with
    | false =>
      rw [cond_false, o20_same (by omega), bindO_some rfl, cond_true, bindO_some rfl]
    | true =>
      rw [cond_true]
      unfold W17.dropc at he
      simp only [Bool.and_eq_true, decide_eq_true_iff] at he
      have hb : (b.drop 1).length ≠ b.length := by rw [List.length_drop]; omega
      rw [o20_short hb, bindO_some rfl, cond_false, he.2.1.1.1, cond_true, o20_same (by rw [List.length_drop]; omega), bindO_some rfl, bindO_some rfl, bindO_some rfl]
end Go.Proofs.YthfekfebgghjhaaDoor
