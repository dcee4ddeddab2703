/-
AlertStandard in plain words. Conditions: each lemma's own.
-/
import Derived.Test.YtfhchendnfpbkaaPB
import Derived.Test.YtfhchendnfpbkaaK4x0
namespace Go.Proofs.Ytfhchendnfpbkaa
set_option linter.unusedVariables false
set_option linter.unusedSimpArgs false
open Go.RowKit
theorem o10_true : o10 = some true := by kernel_rfl
def stdL : List AlertDef := (o15).getD []
theorem o15_eq : o15 = some stdL := by kernel_rfl
theorem o16_eq : o16 = some stdL := by kernel_rfl
theorem o13_std : o13 stdL = some 0 := by kernel_rfl
theorem std_len : stdL.length = 16 := by kernel_rfl
theorem o4_loop (l : List AlertDef) (hl : l.length ≤ 1000) : loopO fuelN (o4_L0 l l) 0 = some (Ctl.go ()) := by
  obtain ⟨r, h, rfl⟩ := loopO_ok (f := o4_L0 l l) (fun s => s ≤ l.length) (fun s => l.length - s) (fun r => r = Ctl.go ()) (by
    intro k hk
    by_cases hlt : ((k : Nat) : Int) < ((l.length : Nat) : Int)
    · refine .inl ⟨k + 1, ?_, by omega, by omega⟩
      unfold o4_L0
      obtain ⟨M, hM⟩ : ∃ M : Int, M = 9223372036854775807 := ⟨_, rfl⟩
      rw [← hM]
      refine (cond_pos (dt hlt)).trans ?_
      rw [grd_pos (dt (by omega)), strEq_eq]
      simp only [beq_self_eq_true, Bool.and_self, Bool.not_true, cond_false]
      exact grd_pos (dt (by omega))
    · exact .inr ⟨_, cond_neg (df hlt), rfl⟩) fuelN 0 (Nat.zero_le _) (by simp only [fuelN]; omega)
  exact h
theorem alertStandard_plain (i : Int) (hi : 0 ≤ i ∧ i ≤ 255) : o4 i = some true := by
  unfold o4
  have hl := std_len
  rw [o10_true, bindO_some rfl]
  simp only [Bool.not_true, cond_false]
  rw [o15_eq, bindO_some rfl, o16_eq, bindO_some rfl, o13_std, bindO_some rfl]
  have hw : IntKind.i64.wrap i = i := wr64 (by omega)
  have ht : Int.tmod i 16 = i % 16 := Int.tmod_eq_emod_of_nonneg hi.1
  rw [hw, ht, neq_f (rfl : ((stdL.length : Nat) : Int) = _)]
  simp only [cond_false, show ((0 : Int) != 0) = false from rfl]
  rw [bindO_some rfl]
  simp only [cond_false]
  rw [o4_loop _ (by omega), joinO_go rfl, grd_pos (dt (by omega)), grd_pos (dt (by omega)), bindO_some rfl, grd_pos (dt (by omega)), strEq_eq]
  simp
theorem u8_of {i : Int} (h : IntKind.u8.min ≤ i ∧ i ≤ IntKind.u8.max) : 0 ≤ i ∧ i ≤ 255 := h
end Go.Proofs.Ytfhchendnfpbkaa
