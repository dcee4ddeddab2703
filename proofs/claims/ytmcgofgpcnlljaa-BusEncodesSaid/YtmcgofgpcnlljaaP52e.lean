/-
The reference's encoding computes what the program's does. Conditions: each lemma's own.
-/
import Derived.Test.YtmcgofgpcnlljaaP52b
import Derived.Test.YtmcgofgpcnlljaaK3x0
namespace Go.Proofs.Ytmcgofgpcnlljaa
set_option linter.unusedVariables false
set_option linter.unusedSimpArgs false
open Go.RowKit
theorem o69_same : o69 = o68 := by
  funext r b
  unfold o69 o68
  rw [show o69_L0 = o68_L0 from rfl]
theorem o57_same : o57 = o56 := by
  funext s p
  unfold o57 o56
  have : o57_L0 p = o56_L0 p := by funext s; unfold o57_L0 o56_L0; rw [o69_same]
  rw [this]
theorem o51_eq (p : List UInt8) (hp : p.length ≤ 1000000000) : o51 p = some (crcU p) := by unfold o51; rw [o57_same, o56_eq 0 p hp]; rfl
theorem o50_eq (x : Int) : o50 x = four x := Eq.trans rfl rfl
theorem o34_eq (p : List UInt8) (hp : p.length ≤ 1000000000) : o34 p = some (sealC p) := by
  unfold o34
  rw [o51_eq p hp, bindO_some rfl, letJ_def, o50_eq]
  exact grd_pos (dt (by rw [four_len]; omega))
theorem o33_eq {x n : Int} (h0 : 0 ≤ n) (h1 : n ≤ 8) : o33 x n = some (putB x n.toNat) := by
  obtain ⟨r, h2, rfl⟩ := loopO_ok (f := o33_L0 x n) (fun s => s.1 = putB x s.2 ∧ (s.2 : Int) ≤ n) (fun s => n.toNat - s.2) (fun r => r = putB x n.toNat) (fun s hI => by
    obtain ⟨l, k⟩ := s
    obtain ⟨hl2, hk⟩ := hI
    simp only at hl2 hk
    subst hl2
    by_cases hlt : (k : Int) < n
    · refine .inl ⟨(putB x k ++ [byteAt x k], k + 1), ?_, ⟨by simp [putB_succ], by simp only; omega⟩, by simp only; omega⟩
      unfold o33_L0
      refine (cond_pos (dt hlt)).trans ((grd_pos (dt (by rw [w8 (by omega)]; omega))).trans ((grd_pos (dt (by simp [putB_len]; omega))).trans ((grd_pos (dt (by simp only; omega))).trans ?_)))
      rw [w8 (by omega), byte_u64 x k (by omega)]
    · refine .inr ⟨putB x k, ?_, by rw [show k = n.toNat by omega]⟩
      unfold o33_L0
      exact cond_neg (df hlt)) fuelN ([], 0) ⟨by simp [putB_zero], by simpa using h0⟩ (by simp only [fuelN]; omega)
  unfold o33
  rw [h2]
  rfl
theorem o15_eq (f : Frame) (hf : okF f) : o15 f = some (encC f) := by
  unfold o15 encC
  by_cases h : ((f.payload.length : Nat) : Int) > 1000
  · rw [dt h]; rfl
  rw [df h]
  simp only [cond_false]
  rw [grd_pos (dt hf.1), grd_pos (dt hf.2.1), o33_eq (by decide) (by decide), bindO_some rfl, grd_pos (dt (by simp [putB_len])), o33_eq (by decide) (by decide), bindO_some rfl, grd_pos (dt (by simp [putB_len])), grd_pos (dt (by simp [putB_len]; omega)), o34_eq _ (by simp [putB_len]; omega)]
  rfl
end Go.Proofs.Ytmcgofgpcnlljaa
