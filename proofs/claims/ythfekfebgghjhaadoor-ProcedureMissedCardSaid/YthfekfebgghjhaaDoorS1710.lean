/-
ProcedureMissed in plain words. Conditions: each lemma's own.
-/
import Derived.Test.YthfekfebgghjhaaDoorS17cx10
import Derived.Test.YthfekfebgghjhaaDoorS17dx10
import Derived.Test.YthfekfebgghjhaaDoorS17exp
namespace Go.Proofs.YthfekfebgghjhaaDoor
set_option linter.unusedVariables false
set_option linter.unusedSimpArgs false
open Go.RowKit
theorem procedureMissed_plain {p : Proc} (h : okProc p) : o10 p = some true := by
  obtain ⟨v, hv, hq⟩ := W17.o13_tot h
  have h14 : o14 p = some v := by rw [← (check_is h).1]; exact hv
  have hs := sizedP_of h
  unfold o10
  rw [o12_true, bindO_some rfl, Bool.not_true, cond_false]
  unfold o27 o28
  rw [hv, h14]
  simp only [bindO_some rfl]
  by_cases h0 : v = 0
  · rw [neq_f h0, cond_false, o17_is hs, o18_is hs]
    simp only [bindO_some rfl, cond_false]
    have hl := partP_legs hs 4 []
    rw [o20_same (by omega), bindO_some rfl, cond_true, bindO_some rfl]
    obtain ⟨-, q1, q2⟩ := W17.part_legs (hq h0) 4 []
    rw [bindO_some rfl, Bool.true_and]
    cases hf : (partP p 4 []).2 with
    | true =>
      have := (q1 hf).1
      have hne : (partP p 4 []).1.legs.length ≠ 0 := fun e => this (List.length_eq_zero_iff.1 e)
      rw [dt (by omega)]; rfl
    | false =>
      rw [q2 hf]; rfl
  · rw [neq_t h0, cond_true, bindO_some rfl, cond_true]; rfl
end Go.Proofs.YthfekfebgghjhaaDoor
