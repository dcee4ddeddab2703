/-
ProcedureNames in plain words. Conditions: each lemma's own.
-/
import Derived.Test.YthfekfebgghjhaaDoorS17a
import Derived.Test.YthfekfebgghjhaaDoorK4x0
namespace Go.Proofs.YthfekfebgghjhaaDoor
set_option linter.unusedVariables false
set_option linter.unusedSimpArgs false
open Go.RowKit
theorem o16_is {p : Proc} (h : sizedP p) (k : Int) : o16 p k = some (namesP p k p.parts.length) := by
  rw [← o15_is h k]
  unfold o16 o15
  rw [show o16_L0 p k = o15_L0 p k from rfl]
theorem o18_is {p : Proc} (h : sizedP p) (k : Int) (n : List UInt8) : o18 p k n = some (partP p k n) := by
  rw [← o17_is h k n]
  unfold o18 o17
  have : o18_L0 p k n = o17_L0 p k n := by
    funext s
    unfold o18_L0 o17_L0
    by_cases hlt : s < p.parts.length
    · rw [dt (by omega), cond_true, cond_true, o41_is (by have := h.2 s hlt; omega), bindO_some rfl]
    · rw [df (by omega), cond_false, cond_false]
  rw [this]
theorem o4_loop {l : List (List UInt8)} (hl : l.length ≤ 140737488355328) : loopO fuelN (o4_L0 l l) 0 = some (Ctl.go ()) := by
  obtain ⟨r, hr, rfl⟩ := loopO_ok (f := o4_L0 l l) (fun s => s ≤ l.length) (fun s => l.length - s) (fun r => r = Ctl.go ()) (by
    intro k hk
    unfold o4_L0
    obtain ⟨M, hM, hMb⟩ : ∃ M : Int, M = 9223372036854775807 ∧ M > 1000000000000000000 := ⟨_, rfl, by decide⟩
    rw [← hM]
    by_cases hlt : k < l.length
    · rw [dt (by omega), cond_true, grd_at' hlt, beq_self_eq_true]
      simp only [Bool.not_true, cond_false]
      rw [grd_at' (by omega)]
      exact .inl ⟨_, rfl, by omega, by omega⟩
    · exact .inr ⟨_, cond_neg (df (by omega)), rfl⟩) fuelN 0 (Nat.zero_le _) (by simp only [fuelN]; omega)
  exact hr
theorem procedureNames_plain {p : Proc} (h : sizedP p) (k : Int) (n : List UInt8) : o4 p k n = some true := by
  have hb := h.1
  have hl := namesP_len p k p.parts.length
  unfold o4
  rw [o12_true, bindO_some rfl]
  simp only [Bool.not_true, cond_false]
  rw [o15_is h, o16_is h, bindO_some rfl, bindO_some rfl, neq_f rfl, cond_false, o4_loop (by omega), joinO_go rfl, o17_is h, o18_is h, bindO_some rfl, bindO_some rfl, beq_self_eq_true, cond_true]
  have h19 : o19 (partP p k n).1 (partP p k n).1 = some true := by
    have := partP_legs h k n
    unfold o19
    rw [eq_t rfl, beq_self_eq_true]
    simp only [Bool.and_self, cond_true]
    rw [o20_same (by omega), bindO_some rfl, bindO_some rfl]
  rw [h19, bindO_some rfl, bindO_some rfl]
end Go.Proofs.YthfekfebgghjhaaDoor
